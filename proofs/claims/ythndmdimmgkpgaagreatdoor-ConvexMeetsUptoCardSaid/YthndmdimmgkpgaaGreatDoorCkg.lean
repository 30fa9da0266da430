/-
  Lemmas that the theorem convexMeets_upto_card needs (part 7 of 7).
-/
import Derived.Test.YthndmdimmgkpgaaGreatDoorCkf
import Derived.Test.YthndmdimmgkpgaaGreatDoorRows
import Derived.Test.YthndmdimmgkpgaaGreatDoorCards
import Derived.Test.YthndmdimmgkpgaaGreatDoorTie
import Derived.Deep.Slices
import Derived.ChangeArms
import Derived.ChangeShapes
import Derived.WideShapes
import Derived.Carry
import Derived.ProofKit
import Derived.OpenShut
import Derived.Deep.DeepHandedRow
import Derived.Lib.LaidTab
import Derived.Stop.LaidErr
import Derived.Lay
import Derived.SevenTiedAt
import Derived.Shelf.Vars
import Derived.ChangeMaps5
set_option maxHeartbeats 64000000
namespace Go.Proofs.YthndmdimmgkpgaaGreatDoor
section
open Go Go.RowKit Go.Am Go.Lib
set_option maxRecDepth 10000
-- BOXES 14
-- CODE2
theorem Vd {p q r:Ak} (a:BE q.1 p.1) (b:BE r.2 p.2) (m:BY (q.1-p.1) (r.2-p.2)):tA p q r=some ((q.1-p.1)*(r.2-p.2)):=by
 unfold tA
 rw[show AF (some q.1) (some p.1)=some (q.1-p.1) from BL a,show AF (some r.2) (some p.2)=some (r.2-p.2) from BL b]
 exact BL m
theorem We {p q r:Ak} (a:BE q.2 p.2) (b:BE r.1 p.1) (m:BY (q.2-p.2) (r.1-p.1)):tB p q r=some ((q.2-p.2)*(r.1-p.1)):=by
 unfold tB
 rw[show AF (some q.2) (some p.2)=some (q.2-p.2) from BL a,show AF (some r.1) (some p.1)=some (r.1-p.1) from BL b]
 exact BL m
theorem Wu {p q r:Ak} (h: ¬(BE q.1 p.1∧BE r.2 p.2∧BY (q.1-p.1) (r.2-p.2))):tA p q r=none:=by
 unfold tA
 by_cases a:BE q.1 p.1
 ·rw[show AF (some q.1) (some p.1)=some (q.1-p.1) from BL a]
  by_cases b:BE r.2 p.2
  ·rw[show AF (some r.2) (some p.2)=some (r.2-p.2) from BL b]
   exact D0 fun m=>h ⟨a,b,m⟩
  ·rw[show AF (some r.2) (some p.2)=none from D0 b];rfl
 ·rw[show AF (some q.1) (some p.1)=none from D0 a,Gf]
theorem W6 {p q r:Ak} (h: ¬(BE q.2 p.2∧BE r.1 p.1∧BY (q.2-p.2) (r.1-p.1))):tB p q r=none:=by
 unfold tB
 by_cases a:BE q.2 p.2
 ·rw[show AF (some q.2) (some p.2)=some (q.2-p.2) from BL a]
  by_cases b:BE r.1 p.1
  ·rw[show AF (some r.1) (some p.1)=some (r.1-p.1) from BL b]
   exact D0 fun m=>h ⟨a,b,m⟩
  ·rw[show AF (some r.1) (some p.1)=none from D0 b];rfl
 ·rw[show AF (some q.2) (some p.2)=none from D0 a,Gf]
theorem Wi {p q r:Ak} (h:R5 p q r):tnR p q r=(OU p q r,0):=by
 unfold tnR
 rw[Vd h.a h.b h.m,We h.c h.d h.n]
 show(if Bg _ _ then _ else _)=_
 rw[if_pos h.o];rfl
theorem VT {p q r:Ak} (h: ¬R5 p q r):(tnR p q r).2=4:=by
 unfold tnR
 by_cases a:BE q.1 p.1∧BE r.2 p.2∧BY (q.1-p.1) (r.2-p.2)
 ·by_cases b:BE q.2 p.2∧BE r.1 p.1∧BY (q.2-p.2) (r.1-p.1)
  ·rw[Vd a.1 a.2.1 a.2.2,We b.1 b.2.1 b.2.2]
   show(if Bg _ _ then _ else _:Int×Int).2=_
   rw[if_neg fun o=>h ⟨a.1,a.2.1,b.1,b.2.1,a.2.2,b.2.2,o⟩]
  ·rw[Vd a.1 a.2.1 a.2.2,W6 b]
 ·rw[Wu a]
theorem VU {s:Bool} {x y:Rat} (h:(kOr s x y).2=true):(kOr s x y).1=0:=by
 cases s with
 |true=>rw[Kx]
 |false=>
  by_cases c:Bg x y
  ·rw[JA c] at h;cases h
  ·rw[Pj c]
theorem VO {p q r:Ak} (h: ¬R5 p q r):kLf false p q r=(0,true):=by
 have h2:(kLf false p q r).2=true:=by
  cases c:(kLf false p q r).2 with
  |true=>rfl
  |false=>exact absurd (VV.1 c).2 h
 have h1:(kLf false p q r).1=0:=VU h2
 exact Prod.ext h1 h2
theorem LY (l:List Ak) (hq: ∀x∈l,okP x) (h3:3≤l.length) (hn:l.length≤4096) (p:Option Addr) (cap:Nat) (W:World) (hA:Cf W p l) (hv:BO W) (ht:AI W):
  Ai Tryz.prog 18 #[slv p l.length cap] W (fun e:Int=> .int .i64 e) (fun e=>e=0↔Jt l) (fun _=>[]):=by
 have hn0:0<l.length:=by omega
 have hz:(l.length:Int)≠0:=by omega
 have okl: ∀j,okP (Ae l j):=fun j=>hq _ (B2 hn0 j)
 refine Ac (args:=[slv p l.length cap]) Tryz.func18 I I I ?_
 refine zA (zB ?_)
 (refine At rfl rfl rfl rfl ?_;intro)
 (refine Af Tryz.hZ rfl rfl rfl rfl ?_;intro)
 refine Aa ?_
 rename_i b1 b2
 refine zE (zA (zH (zA (zB (wB 0 I I I (wP I (wP I (wU 13 false I (dF (by omega)) (wP I (Aa (zE (zS I (zA ?_)))))))))))))
 refine zB (wB 0 I I I (wP I (wP I (wU 17 false I (dF (by omega)) (wP I (Aa (zE (zS I (zI (zN (zE (zA (zA ?_)))))))))))))
 refine zB (wB 0 I I I (wC I I (fun W1 hp=>GG W1 p cap l (hA.hp hp) (by omega) (fun q h=>hq q h) (hv.hp hp) (ht.hp hp)) (wP I (Aa (zE (zA (zB (wP I (wP I (Aa (zE (zS I (zI ?_)))))))))))))
 refine zE (zA (zB ?_))
 refine Ay Tryz.hZ tH I I I I I I I I ?_
 (refine At rfl rfl rfl rfl ?_;intro)
 (refine Af Tryz.hZ rfl rfl rfl rfl ?_;intro)
 (refine Af Tryz.hZ rfl rfl rfl rfl ?_;intro)
 refine wS 3 I I I (wS 4 I I I (Aa ?_))
 rename_i bC b4 b5
 refine zE (zA (zA (zB (wB 0 I I I ?_))))
 refine wD (X:=Nat) I I (fun W1 _=>C3 p l.length cap W1) ?_
 intro bp _
 refine Aa (zE (zH ?_))
 refine DM (X:=Bool×Bool) (fun x=>[⟨b1,22,[slv p l.length cap],true,none⟩,⟨b2,27,[.int .i64 (erI x.2)],true,none⟩,caE bC x.2,⟨b4,59,[Ag bC],true,none⟩,⟨b5,4,[.bool (!x.1)],true,none⟩,⟨bp,22,[slv p l.length cap],true,none⟩])
  (fun k x=>x.2=false∧EM l k 0 x.1) (fun c x=>c= .ret∧x.2=true∧ ¬Jt l) (true,false) rfl (by kernel_rfl) (CF l bp p cap (by omega)) (fun _=>rfl)
  ⟨rfl,EM.zero l⟩ [] rfl (fun k x W1 _ hp=>⟨Aj.of_bx hp 5 rfl rfl,hA.hp hp⟩) ?_ ?_ ?_
 ·rintro k ⟨c0,z⟩ d l' rec L hk ⟨ez,hU0⟩ hrec
  obtain rfl:z=false:=ez
  have hk:k<l.length:=hk
  have hU0:EM l k 0 c0:=hU0
  refine zA (zB (wP I (Aa (zE (zB ?_)))))
  (refine Af Tryz.hZ rfl rfl rfl rfl ?_;intro)
  refine wS 9 I I I (Aa ?_)
  rename_i b7
  refine C9 8 hrec I ?_
  refine Bj (zA (zB (wB 1 I I I (wP I (wP I (Aa (zE (zH ?_))))))))
  refine A9 (X:=Nat×Bool) (fun x=>[(1,Ag b1),(2,Ag b2),(4,Ag b4),(5,Ag b5),(6, .int .i64 (k:Nat)),(7,Ag b7),(29,slv p l.length cap),(30, .int .i64 (l.length:Nat)),(31, .int .i64 (x.1:Nat))])
   (fun x=>[AL L,⟨b1,22,[slv p l.length cap],true,none⟩,⟨b2,27,[.int .i64 0],true,none⟩,caE bC false,⟨b4,59,[Ag bC],true,none⟩,⟨b5,4,[.bool (!x.2)],true,none⟩,⟨bp,22,[slv p l.length cap],true,none⟩,Bz d,Ba l' rec .busy none,⟨b7,66,(sdV (Ae l k) (Ae l (k+1))).cells.toList,true,none⟩])
   (fun x=>x.1≤l.length∧EM l k x.1 x.2) (fun x=>l.length-x.1) (0,c0) ⟨Nat.zero_le _,hU0⟩ ⟨rfl,rfl,rfl,rfl,rfl,rfl,rfl,rfl,rfl,trivial⟩ [] rfl ?_
  rintro⟨i,c⟩ ⟨hi,hU⟩
  have hi:i≤l.length:=hi
  have hU:EM l k i c:=hU
  refine zA (zB (wP I ?_))
  by_cases hlt:i<l.length
  rotate_left
  ·exact wU 32 false I (dF (by omega)) (Aa (zE (zA (zS I (zJ (zK (zK (zL (zN (BW 8 (c,false) hrec I ⟨I,hU.next (by omega)⟩ [_] I))))))))))
  refine wU 32 true I (dT (by omega)) (Aa (zE (zA (zR I (zI (zE (zA (zH (zA (zB ?_))))))))))
  obtain⟨g,off,hpe,hrow⟩:=hA.at_ hlt
  have hrow:=hrow i hlt
  rw[←BM hlt] at hrow
  subst hpe
  refine wP I ?_
  refine wJ ?_
  refine wL 0 I I (fun W1 hp=>hrow.hp hp) I ?_
  (refine Af Tryz.hZ rfl rfl rfl rfl ?_;intro)
  refine wP I (wS 10 I I I (Aa ?_))
  rename_i b9
  refine zE (zA (zA (zB (wP I (wP I (wP I ?_))))))
  by_cases h1:i=k
  ·refine wU 38 false I (bne_eq_false_iff_eq.2 (by omega)) (wP I ?_)
   iterate 7 refine Ao I I ?_
   refine wP I (wP I ?_)
   iterate 8 refine Ao I I ?_
   refine wP I (Aa (zE (zS I (zI (zE (zA (zB (wB 4 I I I ?_))))))))
   refine AB I I I I ?_
   exact wP I (wB 3 I I I (wP I (Aa (zE (zS I (zI (zN (zE (zB (wP I (wV 67 ((i+1:Nat):Int) I (Ax (by omega)) (wP I (Aa (A4 (i+1,c) ⟨hlt,hU.skip fun h=>h.1 h1⟩ (by show l.length-(i+1)<l.length-i;omega) ⟨I,I,I,I,I,I,I,I,I,tO⟩ [_] I))))))))))))))
  refine wU 38 true I (bne_iff_ne.2 (by omega)) (wP I (wP I (wP I (wP I (wV 42 ((k+1:Nat):Int) I (Ax (by omega)) (wB 1 I I I (wP I ?_)))))))
  refine Ej I I I I I hz ?_
  refine wV 45 (((k+1)%l.length:Nat):Int) I I (wP I ?_)
  by_cases h2:i=(k+1)%l.length
  ·refine wU 46 false I (bne_eq_false_iff_eq.2 (by omega)) (wP I (wP I ?_))
   iterate 8 refine Ao I I ?_
   refine wP I (Aa (zE (zS I (zI (zE (zA (zB (wB 4 I I I ?_))))))))
   refine AB I I I I ?_
   exact wP I (wB 3 I I I (wP I (Aa (zE (zS I (zI (zN (zE (zB (wP I (wV 67 ((i+1:Nat):Int) I (Ax (by omega)) (wP I (Aa (A4 (i+1,c) ⟨hlt,hU.skip fun h=>h.2 h2⟩ (by show l.length-(i+1)<l.length-i;omega) ⟨I,I,I,I,I,I,I,I,I,tO⟩ [_] I))))))))))))))
  have hap:LP l k i:=⟨h1,h2⟩
  refine wU 46 true I (bne_iff_ne.2 (by omega)) (wP I (wP I (wB 4 I I I ?_)))
  refine CJ Tryz.underlying66 Tryz.sizeOf35 I I I I I ⟨by decide,by decide⟩ ?_
  refine wB 9 I I I ?_
  refine CJ Tryz.underlying66 Tryz.sizeOf35 I I I I I ⟨by decide,by decide⟩ ?_
  refine wB 9 I I I (wB 10 I I I ?_)
  by_cases hok:R5 (Ae l k) (Ae l (k+1)) (Ae l i)
  ·have htn:=Wi hok
   have c1: ∀W1,KcP bC false W1→FP 55 [Ag bC,cvV (Ae l k),cvV (Ae l (k+1)),cvV (Ae l i)] bC (OU (Ae l k) (Ae l (k+1)) (Ae l i),false) W1:=fun W1 h=>by
    have:=I3 bC false _ _ _ (okl k) (okl (k+1)) (okl i) W1 h
    rwa [UO hok] at this
   have hst:EM l k (i+1) (c&&decide (0<OU (Ae l k) (Ae l (k+1)) (Ae l i))):=by
    have:=hU.step (by unfold IZ;rw[htn]) hlt hap
    unfold IZ at this
    rwa [htn] at this
   obtain⟨v,hvv⟩: ∃v,v=OU (Ae l k) (Ae l (k+1)) (Ae l i):=⟨_,rfl⟩
   rw[←hvv] at c1 hst
   refine AM 3 bC I I I I I I (by kernel_rfl) I (fun W1 hp=>c1 W1 (KcP.of hp 3 I hv ht)) ?_
   refine wP I ?_
   by_cases hv0:v≤0
   ·rw[dF (by omega: ¬0<v),Bool.and_false] at hst
    refine wU 56 true I (dT hv0) (wP I (Aa (zE (zR I (zB (wS 5 I I I (Aa (zE (zA (zB (wB 4 I I I ?_)))))))))))
    refine AB I I I I ?_
    exact wP I (wB 3 I I I (wP I (Aa (zE (zS I (zI (zN (zE (zB (wP I (wV 67 ((i+1:Nat):Int) I (Ax (by omega)) (wP I (Aa (A4 (i+1,false) ⟨hlt,hst⟩ (by show l.length-(i+1)<l.length-i;omega) ⟨I,I,I,I,I,I,I,I,I,tO⟩ [_] I))))))))))))))
   ·rw[dT (by omega:0<v),Bool.and_true] at hst
    refine wU 56 false I (dF hv0) (wP I (Aa (zE (zS I (zI (zE (zA (zB (wB 4 I I I ?_)))))))))
    refine AB I I I I ?_
    exact wP I (wB 3 I I I (wP I (Aa (zE (zS I (zI (zN (zE (zB (wP I (wV 67 ((i+1:Nat):Int) I (Ax (by omega)) (wP I (Aa (A4 (i+1,c) ⟨hlt,hst⟩ (by show l.length-(i+1)<l.length-i;omega) ⟨I,I,I,I,I,I,I,I,I,tO⟩ [_] I))))))))))))))
  ·have hnc: ¬Jt l:=fun h=>by
    have h4:=(h k i hk hlt hap).1
    unfold IZ at h4
    rw[VT hok] at h4
    exact absurd h4 (by decide)
   have c1: ∀W1,KcP bC false W1→FP 55 [Ag bC,cvV (Ae l k),cvV (Ae l (k+1)),cvV (Ae l i)] bC (0,true) W1:=fun W1 h=>by
    have:=I3 bC false _ _ _ (okl k) (okl (k+1)) (okl i) W1 h
    rwa [VO hok] at this
   refine AM 3 bC I I I I I I (by kernel_rfl) I (fun W1 hp=>c1 W1 (KcP.of hp 3 I hv ht)) ?_
   refine wP I (wP I (Aa (zE (zR I (zB (wS 5 I I I (Aa (zE (zA (zB (wB 4 I I I ?_)))))))))))
   refine AB I I I I ?_
   refine wP I (wB 3 I I I (wP I (Aa (zE (zR I (zA (zB (wB 4 I I I ?_))))))))
   refine AB I I I I ?_
   exact wP I (wB 3 I I I (wS 2 I I I (Aa (zE (zO (zQ (zP (zP (zQ (zQ (EO 8 (false,true) hrec I ⟨I,I,hnc⟩ [_,_] I)))))))))))
 ·rintro⟨c,z⟩ d l' rec ⟨ez,hU⟩
  obtain rfl:z=false:=ez
  have hU:EM l l.length 0 c:=hU
  have hc:c=true↔Jt l:=by
   rw[hU.c0]
   exact⟨fun h i k hi hk ha=>⟨hU.e0 i k (.inl hi) hk ha,h i k (.inl hi) hk ha⟩,fun h i k hi hk ha=>(h i k (by omega) hk ha).2⟩
  refine zN (zE (zA (zA (zB ?_))))
  cases c with
  |true=>
   refine wB 4 I I I (Aa (zE (zS I (zI (zE (zA (zB (wS 1 I I I (Aa (zE (zO ?_)))))))))))
   refine BU 6 I ?_
   exact Av tH I (.cell 1 I I I I I) (0:Int) I ⟨fun _=>hc.1 I,fun _=>rfl⟩ fun W _=>Ap.nil _ _
  |false=>
   refine wB 4 I I I (Aa (zE (zR I (zA (zB (wS 1 I I I (Aa (zE (zO (zP ?_))))))))))
   refine BU 6 I ?_
   exact Av tH I (.cell 1 I I I I I) (15:Int) I ⟨fun h=>absurd h (by decide),fun h=>absurd (hc.2 h) (by decide)⟩ fun W _=>Ap.nil _ _
 ·rintro⟨c,z⟩ d l' rec cd ⟨rfl,ez,hnc⟩
  obtain rfl:z=true:=ez
  refine zO (zQ (zP ?_))
  refine BU 6 I ?_
  exact Av tH I (.cell 1 I I I I I) (4:Int) I ⟨fun h=>absurd h (by decide),fun h=>absurd h hnc⟩ fun W _=>Ap.nil _ _
def JU (l:List PtS):Prop:= ∃m:List Ak,l=m.map cvS∧3≤m.length∧(∀x∈m,okP x)∧Jt m
theorem II: ∀ {m m':List Ak},m.map cvS=m'.map cvS→m=m'
 |[],[],_=>rfl
 |[],_::_,h=>by cases h
 |_::_,[],h=>by cases h
 |x::m,y::m',h=>by
  rw[List.map_cons,List.map_cons] at h
  injection h with h1 h2
  have e1:=Le.1 (congrArg Prod.fst h1)
  have e2:=Le.1 (congrArg Prod.snd h1)
  rw[Prod.ext e1 e2,II h2]
theorem JU.nErr {l:List PtS} (h:JU l):nErr l=0:=by
 obtain⟨m,rfl,_,hm,_⟩:=h
 exact Gl hm
theorem J8 (W:World) (p:Option Addr) (cap:Nat) (l:List PtS) (hA:Ek W p l) (h4:l.length≤4096) (hs: ∀x∈l,x.1.length≤604∧x.2.length≤604) (ht:AI W):
  Ai Tryz.prog 39 #[slv p l.length cap] W (fun e:Int=> .int .i64 e) (fun e=>e=0↔JU l) (fun _=>[]):=by
 by_cases hv:nErr l=0∧3≤l.length
 ·obtain⟨m,rfl,hm⟩:=Hu hv.1
  have h3:=hv.2
  rw[List.length_map] at h3 h4
  have h:=HE W p cap m hA h3 h4 hm ht
  rw[List.length_map]
  refine⟨h.out.mono ?_⟩
  rintro e W' ⟨x,he,hx,hb⟩
  refine⟨x,he,hx.trans ⟨fun h=>⟨m,I,h3,hm,h⟩, ?_⟩,hb⟩
  rintro⟨m',e',_,_,h'⟩
  rw[II e'];exact h'
 ·have h:=Pc W p cap l hA h4 (fun x hx=>by have:=hs x hx;omega) ht
  refine⟨h.out.mono ?_⟩
  rintro e W' ⟨x,he,hx,hb⟩
  refine⟨x,he,⟨fun h0=> ?_,fun h0=> ?_⟩,hb⟩
  ·obtain⟨m,rfl,h3,hm,_⟩:=hx h0
   exact absurd ⟨Gl hm,by rw[List.length_map];exact h3⟩ hv
  ·obtain⟨m,rfl,h3,hm,_⟩:=h0
   exact absurd ⟨Gl hm,by rw[List.length_map];exact h3⟩ hv
theorem L4 (W:World) (p:Option Addr) (cap:Nat) (l:List PtS) (hA:Ek W p l) (h4:l.length≤4096) (hs: ∀x∈l,x.1.length≤604∧x.2.length≤604) (hv:BO W) (ht:AI W):
  Ai Tryz.prog 18 #[slv p l.length cap] W (fun e:Int=> .int .i64 e) (fun e=>e=0↔JU l) (fun _=>[]):=by
 by_cases h3:3≤l.length
 rotate_left
 ·refine Ac (args:=[slv p l.length cap]) Tryz.func18 I I I ?_
  refine zA (zB ?_)
  (refine At rfl rfl rfl rfl ?_;intro)
  (refine Af Tryz.hZ rfl rfl rfl rfl ?_;intro)
  refine Aa (zE (zA (zH (zA (zB (wB 0 I I I (wP I (wP I (wU 13 true I (dT (by omega)) (wP I (Aa (zE (zR I ?_)))))))))))))
  refine zA (zB (wS 1 I I I (Aa (zE (zO (zQ (zP ?_)))))))
  exact Av tH I (.cell 1 I I I I I) (5:Int) I ⟨fun h=>absurd h (by decide),fun h=>by
   obtain⟨m,rfl,h3',_,_⟩:=h
   rw[List.length_map] at h3
   exact absurd h3' h3⟩ fun W _=>Ap.nil _ _
 by_cases h0:nErr l=0
 ·obtain⟨m,rfl,hm⟩:=Hu h0
  rw[List.length_map] at h3 h4
  have h:=LY m hm h3 h4 p cap W hA.p hv ht
  rw[List.length_map]
  refine⟨h.out.mono ?_⟩
  rintro e W' ⟨x,he,hx,hb⟩
  refine⟨x,he,hx.trans ⟨fun h=>⟨m,I,h3,hm,h⟩, ?_⟩,hb⟩
  rintro⟨m',e',_,_,h'⟩
  rw[II e'];exact h'
 ·refine Ac (args:=[slv p l.length cap]) Tryz.func18 I I I ?_
  refine zA (zB ?_)
  (refine At rfl rfl rfl rfl ?_;intro)
  (refine Af Tryz.hZ rfl rfl rfl rfl ?_;intro)
  refine Aa (zE (zA (zH (zA (zB (wB 0 I I I (wP I (wP I (wU 13 false I (dF (by omega)) (wP I (Aa (zE (zS I ?_)))))))))))))
  refine zA (zB (wB 0 I I I (wP I (wP I (wU 17 false I (dF (by omega)) (wP I (Aa (zE (zS I (zI (zN (zE (zA (zA ?_))))))))))))))
  refine zB (wB 0 I I I (wC I I (fun W1 hp=>Hs W1 p cap l (hA.hp hp) (by omega) (fun x hx=>by have:=hs x hx;omega) (hv.hp hp) (ht.hp hp)) (wP I (Aa (zE (zA (zB (wP I (wP I (wU 21 true I (bne_iff_ne.2 h0) (Aa (zE (zR I ?_)))))))))))))
  exact zA (zB (wP I (wS 1 I I I (Aa (zE (zO (zP (Av tH I (.cell 1 I I I I I) (nErr l) I ⟨fun h=>absurd h h0,fun h=>absurd h.nErr h0⟩ fun W _=>Ap.nil _ _))))))))
end
section
open Go Go.RowKit Go.Am Go.Lib
theorem Ic {q:Rat} {X W:Int} {k:Nat} (hW:W≠0) (h:q*(W:Rat)=X) (h1:X.natAbs<10^k) (h2:W.natAbs<10^k):szQ q k:=by
 have hw:(W:Rat)≠0:=fun e=>hW (by have h:=congrArg Rat.num e;rwa [Rat.num_intCast] at h)
 have e:q=(X:Rat)/(W:Rat):=by rw[←h,Rat.mul_div_cancel hw]
 have h:=Iw X hW h1 h2
 rw[Ir X hW,Rat.divInt_eq_div] at h
 rw[e]
 exact h
def Hm (e:Nat) (p:Ak):Prop:= ∃X Y W:Int,W≠0∧X.natAbs<10^e∧Y.natAbs<10^e∧W.natAbs<10^e∧p.1*(W:Rat)=X∧p.2*(W:Rat)=Y
theorem Hm.sz {e:Nat} {p:Ak} (h:Hm e p):szQ p.1 e∧szQ p.2 e:=by
 obtain⟨X,Y,W,h0,hX,hY,hW,e1,e2⟩:=h
 exact⟨Ic h0 e1 hX hW,Ic h0 e2 hY hW⟩
theorem Hm.mono {e e':Nat} {p:Ak} (h:Hm e p) (he:e≤e'):Hm e' p:=by
 obtain⟨X,Y,W,h0,hX,hY,hW,e1,e2⟩:=h
 have:=Nat.pow_le_pow_right (show 0<10 by decide) he
 exact⟨X,Y,W,h0,by omega,by omega,by omega,e1,e2⟩
def LnH (f:AW):Prop:= ∃A B C D:Int,D≠0∧A.natAbs<10^11∧B.natAbs<10^11∧C.natAbs<10^11∧D.natAbs<10^9∧f.a*(D:Rat)=A∧f.b*(D:Rat)=B∧f.c*(D:Rat)=C
theorem T8 {u v D Wp Wq p1 q1 Xp Xq U V t:Rat} (hp:p1*Wp=Xp) (hq:q1*Wq=Xq) (hU:u*(D*Wp)=U) (hV:v*(D*Wq)=V) (ht:t*(u-v)=u):(p1+t*(q1-p1))*(U*Wq-V*Wp)=U*Xq-V*Xp:=by
 subst hp hq hU hV
 have e:(p1+t*(q1-p1))*(u-v)=u*q1-v*p1:=by
  have:(p1+t*(q1-p1))*(u-v)=p1*(u-v)+t*(u-v)*(q1-p1):=by grind
  rw[this,ht];grind
 have:(p1+t*(q1-p1))*(u*(D*Wp)*Wq-v*(D*Wq)*Wp)=(p1+t*(q1-p1))*(u-v)*(D*Wp*Wq):=by grind
 rw[this,e];grind
theorem RX {a b c x y A B C D W X Y:Rat} (h1:a*D=A) (h2:b*D=B) (h3:c*D=C) (h4:x*W=X) (h5:y*W=Y):(a*x+b*y-c)*(D*W)=A*X+B*Y-C*W:=by
 subst h1 h2 h3 h4 h5;grind
theorem VY {u v D Wp Wq U V t:Rat} (hU:u*(D*Wp)=U) (hV:v*(D*Wq)=V) (ht:t*(u-v)=u):t*(U*Wq-V*Wp)=U*Wq:=by
 subst hU hV
 have:t*(u*(D*Wp)*Wq-v*(D*Wq)*Wp)=t*(u-v)*(D*Wp*Wq):=by grind
 rw[this,ht];grind
theorem UU {u v:Rat} (h:u*v<0):u-v≠0:=fun e=>by
 have e2:u=v:=by grind
 subst e2
 rcases D4.1 h with⟨a,b⟩|⟨a,b⟩<;>first|exact Rat.not_lt.2 (Rat.le_of_lt a) b|exact Rat.not_lt.2 (Rat.le_of_lt b) a
theorem Hm.at_ {e:Nat} {p:Ak} {f:AW} (hp:Hm e p) (hf:LnH f):szQ (f.at p) (e+13):=by
 obtain⟨X,Y,W,h0,hX,hY,hW,e1,e2⟩:=hp
 obtain⟨A,B,C,D,hD0,hA,hB,hC,hD,f1,f2,f3⟩:=hf
 have hU:=RX f1 f2 f3 e1 e2
 have b1:=GY (Bw hA hX) (Bw hB hY)
 have b2:(C*W).natAbs<10^(11+e+1):=Nat.lt_of_lt_of_le (Bw hC hW) (Nat.pow_le_pow_right (by decide) (by omega))
 have b3:=Ea b1 b2
 refine Ic (W:=D*W) (X:=A*X+B*Y-C*W) (Int.mul_ne_zero hD0 h0) ?_ (by rw[show e+13=11+e+1+1 by omega];exact b3) ?_
 ·unfold AW.at
  rw[Rat.intCast_mul,Rat.intCast_sub,Rat.intCast_add,Rat.intCast_mul,Rat.intCast_mul,Rat.intCast_mul]
  exact hU
 ·exact Nat.lt_of_lt_of_le (Bw hD hW) (Nat.pow_le_pow_right (by decide) (by omega))
theorem Hm.cut {e:Nat} {p q:Ak} {f:AW} (hp:Hm e p) (hq:Hm e q) (hf:LnH f) (h:f.at p*f.at q<0):
  Hm (2*e+14) (HZ (f.at p/(f.at p-f.at q)) p q)∧szQ (f.at p/(f.at p-f.at q)) (2*e+14):=by
 have hn:=UU h
 obtain⟨X,Y,W,h0,hX,hY,hW,e1,e2⟩:=hp
 obtain⟨X',Y',W',h0',hX',hY',hW',e1',e2'⟩:=hq
 obtain⟨A,B,C,D,hD0,hA,hB,hC,hD,f1,f2,f3⟩:=hf
 have hU:f.at p*((D:Rat)*W)=((A*X+B*Y-C*W:Int):Rat):=by
  rw[Rat.intCast_sub,Rat.intCast_add,Rat.intCast_mul,Rat.intCast_mul,Rat.intCast_mul]
  exact RX f1 f2 f3 e1 e2
 have hV:f.at q*((D:Rat)*W')=((A*X'+B*Y'-C*W':Int):Rat):=by
  rw[Rat.intCast_sub,Rat.intCast_add,Rat.intCast_mul,Rat.intCast_mul,Rat.intCast_mul]
  exact RX f1 f2 f3 e1' e2'
 have bU:(A*X+B*Y-C*W).natAbs<10^(11+e+1+1):=Ea (GY (Bw hA hX) (Bw hB hY)) (Nat.lt_of_lt_of_le (Bw hC hW) (Nat.pow_le_pow_right (by decide) (by omega)))
 have bV:(A*X'+B*Y'-C*W').natAbs<10^(11+e+1+1):=Ea (GY (Bw hA hX') (Bw hB hY')) (Nat.lt_of_lt_of_le (Bw hC hW') (Nat.pow_le_pow_right (by decide) (by omega)))
 generalize A*X+B*Y-C*W=U at hU bU
 generalize A*X'+B*Y'-C*W'=V at hV bV
 have ht:f.at p/(f.at p-f.at q)*(f.at p-f.at q)=f.at p:=Rat.div_mul_cancel hn
 generalize f.at p/(f.at p-f.at q)=t at ht
 have hwn:U*W'-V*W≠0:=fun e0=>by
  have c0:((U*W'-V*W:Int):Rat)=0:=by rw[e0];rfl
  rw[Rat.intCast_sub,Rat.intCast_mul,Rat.intCast_mul, ←hU, ←hV] at c0
  have c1:f.at p*((D:Rat)*W)*W'-f.at q*((D:Rat)*W')*W=(f.at p-f.at q)*((D:Rat)*W*W'):=by grind
  rw[c1] at c0
  have nz: ∀ {z:Int},z≠0→(z:Rat)≠0:=fun hz e=>hz (by have h:=congrArg Rat.num e;rwa [Rat.num_intCast] at h)
  rcases Rat.mul_eq_zero.1 c0 with c|c
  ·exact hn c
  ·rcases Rat.mul_eq_zero.1 c with c|c
   ·rcases Rat.mul_eq_zero.1 c with c|c
    ·exact nz hD0 c
    ·exact nz h0 c
   ·exact nz h0' c
 have pw: ∀ {a b:Int},a.natAbs<10^(11+e+1+1)→b.natAbs<10^e→(a*b).natAbs<10^(2*e+13):=fun ha hb=>by
  rw[show 2*e+13=11+e+1+1+e by omega];exact Bw ha hb
 refine⟨⟨U*X'-V*X,U*Y'-V*Y,U*W'-V*W,hwn,Ea (pw bU hX') (pw bV hX),Ea (pw bU hY') (pw bV hY),Ea (pw bU hW') (pw bV hW), ?_, ?_⟩, ?_⟩
 ·rw[Rat.intCast_sub,Rat.intCast_sub,Rat.intCast_mul,Rat.intCast_mul,Rat.intCast_mul,Rat.intCast_mul]
  exact T8 e1 e1' hU hV ht
 ·rw[Rat.intCast_sub,Rat.intCast_sub,Rat.intCast_mul,Rat.intCast_mul,Rat.intCast_mul,Rat.intCast_mul]
  exact T8 e2 e2' hU hV ht
 ·refine Ic hwn (X:=U*W') ?_ (Nat.lt_of_lt_of_le (pw bU hW') (Nat.pow_le_pow_right (by decide) (by omega))) (Ea (pw bU hW') (pw bV hW))
  rw[Rat.intCast_sub,Rat.intCast_mul,Rat.intCast_mul]
  exact VY hU hV ht
theorem LnH.sz {f:AW} (hf:LnH f):szQ f.a 11∧szQ f.b 11∧szQ f.c 11:=by
 obtain⟨A,B,C,D,hD0,hA,hB,hC,hD,f1,f2,f3⟩:=hf
 have hD':D.natAbs<10^11:=Nat.lt_of_lt_of_le hD (Nat.pow_le_pow_right (by decide) (by decide))
 exact⟨Ic hD0 f1 hA hD',Ic hD0 f2 hB hD',Ic hD0 f3 hC hD'⟩
theorem Hm.kept {e:Nat} {f:AW} {l:List Ak} (hf:LnH f) (hl: ∀p∈l,Hm e p): ∀k,k≤l.length→ ∀p∈Ct f l k,Hm (2*e+14) p
 |0,_,p,hp=>absurd hp (by simp[Ct,Dl])
 |k+1,hk,p,hp=>by
  have h0:0<l.length:=by omega
  rw[EU,CP,List.mem_append,List.mem_append] at hp
  rcases hp with(hp|hp)|hp
  ·exact Hm.kept hf hl k (by omega) p hp
  ·split at hp
   ·rw[List.mem_singleton.1 hp];exact(hl _ (B2 h0 k)).mono (by omega)
   ·exact absurd hp (by simp)
  ·split at hp
   ·rename_i c
    rw[List.mem_singleton.1 hp];exact((hl _ (B2 h0 k)).cut (hl _ (B2 h0 (k+1))) hf c).1
   ·exact absurd hp (by simp)
theorem ClZ.of {e:Nat} {f:AW} {l:List Ak} (hf:LnH f) (he:e≤50) (hl: ∀p∈l,Hm e p):ClZ f l:=by
 obtain⟨sa,sb,sc⟩:=hf.sz
 refine⟨fun q hq=> ?_,fun i hi hc=> ?_,fun p hp=> ?_⟩
 ·obtain⟨q1,q2⟩:=(hl q hq).sz
  exact⟨sz2 sa q1 (by omega),sz2 sb q2 (by omega),sz2 (sa.mul q1) (sb.mul q2) (by omega),sz2 ((sa.mul q1).add (sb.mul q2)) sc (by omega)⟩
 ·have h0:0<l.length:=by omega
  have hp:=hl _ (B2 h0 i)
  have hq:=hl _ (B2 h0 (i+1))
  have hu:=hp.at_ hf
  have hv:=hq.at_ hf
  have ht:=(hp.cut hq hf hc).2
  obtain⟨p1,p2⟩:=hp.sz
  obtain⟨q1,q2⟩:=hq.sz
  exact⟨sz2 hu hv (by omega),sz2 hu (hu.sub hv) (by omega),Nq (UU hc),sz2 q1 p1 (by omega),sz2 ht (q1.sub p1) (by omega),sz2 p1 (ht.mul (q1.sub p1)) (by omega),sz2 q2 p2 (by omega),sz2 ht (q2.sub p2) (by omega),sz2 p2 (ht.mul (q2.sub p2)) (by omega)⟩
 ·have h:=(Hm.kept hf hl l.length (Nat.le_refl _) p hp).sz
  exact⟨h.1.mono (by omega),h.2.mono (by omega)⟩
end
section
open Go Go.RowKit Go.Am Go.Lib
set_option maxRecDepth 10000
-- BOXES 15
-- CODE2
theorem TQ (q:Rat):(E5 q==0)=decide (q=0):=by
 have h2:q.num=0↔q=0:=Rat.num_eq_zero
 rw[Bool.eq_iff_iff,beq_iff_eq,decide_eq_true_iff, ←h2]
 unfold E5
 split
 ·rename_i e
  exact⟨fun _=>e,fun _=>rfl⟩
 ·rename_i e
  split
  ·exact⟨fun h=>absurd h (by decide),fun h=>absurd h e⟩
  ·exact⟨fun h=>absurd h (by decide),fun h=>absurd h e⟩
theorem CD.keep {W W':World} {c g:Nat} (h:CD W c) (hk:Ie W W' g) (hne:c≠g):CD W' c:=(hk.at_ c hne (Array.getElem?_eq_some_iff.1 h).1).trans h
def Em (f:AW) (l:List Ak) (k:Nat):List Ak:=(Ku (Ae l) k f).map (Me (Ae l))
def G3 (f:AW) (l:List Ak) (k:Nat):List Ak:=Em f l k++(if f.at (Ae l k)=0 then[Ae l k] else[])
theorem Rv (f:AW) (l:List Ak) (k:Nat):Em f l (k+1)=G3 f l k++(if f.at (Ae l k)*f.at (Ae l (k+1))<0 then[HZ (f.at (Ae l k)/(f.at (Ae l k)-f.at (Ae l (k+1)))) (Ae l k) (Ae l (k+1))] else[]):=by
 unfold Em G3 Ku
 rw[List.range_succ,List.flatMap_append,List.map_append,List.flatMap_cons,List.flatMap_nil,List.append_nil,List.map_append, ←List.append_assoc]
 have e1:(if f.at (Ae l k)=0 then[((k,0):Pg)] else[]).map (Me (Ae l))=if f.at (Ae l k)=0 then[Ae l k] else[]:=by
  split
  ·show[HZ 0 (Ae l k) (Ae l (k+1))]=_
   rw[Tq]
  ·rfl
 have e2:(if f.at (Ae l k)*f.at (Ae l (k+1))<0 then[((k,f.at (Ae l k)/(f.at (Ae l k)-f.at (Ae l (k+1)))):Pg)] else[]).map (Me (Ae l))=if f.at (Ae l k)*f.at (Ae l (k+1))<0 then[HZ (f.at (Ae l k)/(f.at (Ae l k)-f.at (Ae l (k+1)))) (Ae l k) (Ae l (k+1))] else[]:=by
  split
  ·rfl
  ·rfl
 rw[e1,e2]
 rfl
theorem Ix (f:AW) (l:List Ak) (k:Nat):(Em f l k).length≤k:=by unfold Em;rw[List.length_map];exact On _ _ _
theorem S9 (f:AW) (l:List Ak) (k:Nat):(G3 f l k).length≤k+1:=by
 unfold G3
 have:=Ix f l k
 rw[List.length_append]
 have a:(if f.at (Ae l k)=0 then[Ae l k] else[]).length≤1:=by split<;>simp
 omega
structure SeZ (f:AW) (l:List Ak):Prop where
 v: ∀q∈l,Vw f q
 c: ∀i,i<l.length→f.at (Ae l i)*f.at (Ae l (i+1))<0→V7 (Ae l i) (Ae l (i+1)) (f.at (Ae l i)) (f.at (Ae l (i+1)))
 n2:(ES f l).length≤2
 s: ∀x y,ES f l=[x,y]→Sz2 y.1 x.1∧Sz2 y.2 x.2
def ptV (x:Ak):Value:= .agg #[str (Ad x.1),str (Ad x.2)]
def QB (l:List Ak):Value:=match l with
 |[x,y]=> .tuple #[ptV (if Cb y x=true then y else x),ptV (if Cb y x=true then x else y), .bool true, .int .i64 0]
 |_=> .tuple #[.agg #[str [],str []], .agg #[str [],str []], .bool false, .int .i64 0]
section
variable {P:Program} {N:Nat} {D:List Deferred} {ops:List Oper} {o:Oper} {rest:List Oper} {env:Env} {A A2:World→Prop} {R:Act→World→Prop}
theorem JJ {d:Nat} {x:Operand} {a:Addr} (hg:A6 ops N env o=some true) (hd:o.dst=some d) (ho:o.op= .nilCheck x) (hx:evO N env x=some (.pointer (some a)))
  (h:WQ P N D ops A2 R rest ((d, .pointer (some a))::env) A):WQ P N D ops A2 R (o::rest) env A:=
 Eg hg hd (fun c e=>by rw[ho] at e;cases e) (fun _ W hρ _=>by simp[execOp,ho,hρ _ _ hx]) h
end
theorem KV (f:AW) (hf:T5 f) (l:List Ak) (hz:SeZ f l) (p:Option Addr) (cap:Nat) (W:World) (h:GZ W p l):
  Ai Tryz.prog 24 #[slv p l.length cap,str (Ad f.a),str (Ad f.b),str (Ad f.c)] W (fun _:Unit=>QB (ES f l)) (fun _=>True) (fun _=>[]):=by
 have h3:=h.n3
 have hn:=h.n
 have hA:=h.m
 have hn0:0<l.length:=by omega
 have hzz:(l.length:Int)≠0:=by omega
 have hvl:(l.map f.at).length=l.length:=List.length_map _
 refine Ac (args:=[slv p l.length cap,str (Ad f.a),str (Ad f.b),str (Ad f.c)]) Tryz.func24 I I I ?_
 refine zA (zB ?_)
 (refine At rfl rfl rfl rfl ?_;intro)
 (refine Af Tryz.hZ rfl rfl rfl rfl ?_;intro)
 (refine Af Tryz.hZ rfl rfl rfl rfl ?_;intro)
 refine wP I (wP I (Aa ?_))
 rename_i b4 b8 b9
 refine zE (zA (zA (zB (wB 0 I I I (wP I (wP I (wP I ?_)))))))
 refine A8 Tryz.hZ tH I I I I I I I I I I I fun bS=> ?_
 refine wC I I (fun W1 hp=>HF l p cap f.a f.b f.c hf.a hf.b hf.c hf.n bS 3 W1 (h.hp hp) (Aj.of_bx hp 3 I I)) (wP I (Aa (zE (zA (zB (wP I (wP I (Aa (zE (zS I (zI (zE (zA ?_)))))))))))))
 refine zB ?_
 refine Ay Tryz.hZ tH I I I I I I I I ?_
 (refine At rfl rfl rfl rfl ?_;intro)
 (refine Af Tryz.hZ rfl rfl rfl rfl ?_;intro)
 refine wS 5 I I I (Aa ?_)
 rename_i bC b13
 refine zE (Ar ?_)
 refine AE (X:= { s:Nat×Vec//s.2.OK 1 l.length (vsC (l.map f.at)) }) [true,true,true,true,true,false,false,false,false] (fun s=>[(4,Ag b4),(8,Ag b8),(9,Ag b9),(10, .bool false),(11, .int .i64 0),(13,Ag b13),(14,Ag s.1.1)]) (fun s=>[lsB b4 (slv p l.length cap),ptB b8 [] [],ptB b9 [] [],caB bC,ckB b13 bC,nmB s.1.1 (s.1.2.val l.length),s.1.2.bx 23 (vsC (l.map f.at))])
  4 [lsB b4 (slv p l.length cap),ptB b8 [] [],ptB b9 [] [],⟨bS,23,[str (Ad f.a),str (Ad f.b),str (Ad f.c)],true,none⟩,caB bC,ckB b13 bC] Tryz.mixed (by kernel_rfl) ?_ ?_
 ·refine qB 0 I I I (qB 5 I I I (qP I (qP I (qP I (Bq (wX ?_))))))
  refine RS.cons ?_ (RS.cons ?_ (RS.nil))
  ·refine wD (X:=Nat×Nat×Nat×Nat) rfl rfl (fun W1 _=>Dp bC f W1) ?_;rintro⟨v4,v5,v6,v7⟩ _
   refine Aa (Ab (wX ?_))
   refine RS.cons ?_ (RS.cons ?_ (RS.nil))
   ·refine wD (X:=Vec) rfl rfl (fun W1 hp=>CT l f.at 132 [Ag v4,Ag v5,Ag v6,Ag v7] (by kernel_rfl) hn p cap W1 (hA.hp hp) (fun q hq W2 hb=>CS v4 v5 v6 v7 bC f q (hz.v q hq) W2 (Jd.below (by first|exact⟨Aj.of_bx hp 6 rfl rfl,Aj.of_bx hp 7 rfl rfl,Aj.of_bx hp 8 rfl rfl,Aj.of_bx hp 9 rfl rfl,BB hp 4 rfl,h.v.hp hp,h.t.hp hp⟩|exact⟨Aj.of_bx hp 7 rfl rfl,Aj.of_bx hp 8 rfl rfl,Aj.of_bx hp 9 rfl rfl,Aj.of_bx hp 10 rfl rfl,BB hp 4 rfl,h.v.hp hp,h.t.hp hp⟩) hb))) ?_;rintro⟨pV1,cV1,jV1⟩ hV1;obtain⟨gV1,rfl⟩: ∃g,pV1=some g:=Option.ne_none_iff_exists'.1 (fun e=>absurd (hV1.nil e) (by omega))
    refine Aa (Ab (wX (wZ ?_)))
    refine Af Tryz.hZ rfl rfl rfl rfl ?_;intro b14
    refine Aa (Ab (wX (wZ (wS 11 I I I (Aa (Ab ?_))))))
    refine Au I (by((repeat (first|refine A3.same ?_|refine A3.off I ?_));exact tO)) ?_
    exact Al (⟨(b14,⟨some gV1,cV1,jV1⟩),hV1⟩: { s:Nat×Vec//s.2.OK 1 l.length (vsC (l.map f.at)) }) ⟨I,I,I,I,I,I,I,tO⟩ [0,1,2,4,5,11,10] (by decide) I
   ·refine Af Tryz.hZ rfl rfl rfl rfl ?_;intro b14
    refine Aa (Ab (wX (wZ ?_)))
    refine wD (X:=Vec) rfl rfl (fun W1 hp=>CT l f.at 132 [Ag v4,Ag v5,Ag v6,Ag v7] (by kernel_rfl) hn p cap W1 (hA.hp hp) (fun q hq W2 hb=>CS v4 v5 v6 v7 bC f q (hz.v q hq) W2 (Jd.below (by first|exact⟨Aj.of_bx hp 6 rfl rfl,Aj.of_bx hp 7 rfl rfl,Aj.of_bx hp 8 rfl rfl,Aj.of_bx hp 9 rfl rfl,BB hp 4 rfl,h.v.hp hp,h.t.hp hp⟩|exact⟨Aj.of_bx hp 7 rfl rfl,Aj.of_bx hp 8 rfl rfl,Aj.of_bx hp 9 rfl rfl,Aj.of_bx hp 10 rfl rfl,BB hp 4 rfl,h.v.hp hp,h.t.hp hp⟩) hb))) ?_;rintro⟨pV1,cV1,jV1⟩ hV1;obtain⟨gV1,rfl⟩: ∃g,pV1=some g:=Option.ne_none_iff_exists'.1 (fun e=>absurd (hV1.nil e) (by omega))
    refine Aa (Ab (wX (wZ (wS 10 I I I (Aa (Ab ?_))))))
    refine Au I (by((repeat (first|refine A3.same ?_|refine A3.off I ?_));exact tO)) ?_
    exact Al (⟨(b14,⟨some gV1,cV1,jV1⟩),hV1⟩: { s:Nat×Vec//s.2.OK 1 l.length (vsC (l.map f.at)) }) ⟨I,I,I,I,I,I,I,tO⟩ [0,1,2,4,5,10,11] (by decide) I
  ·refine Af Tryz.hZ rfl rfl rfl rfl ?_;intro b14
   refine Aa (Ab (wX (wZ ?_)))
   refine wD (X:=Nat×Nat×Nat×Nat) rfl rfl (fun W1 _=>Dp bC f W1) ?_;rintro⟨v4,v5,v6,v7⟩ _
   refine Aa (Ab (wX (wZ ?_)))
   refine wD (X:=Vec) rfl rfl (fun W1 hp=>CT l f.at 132 [Ag v4,Ag v5,Ag v6,Ag v7] (by kernel_rfl) hn p cap W1 (hA.hp hp) (fun q hq W2 hb=>CS v4 v5 v6 v7 bC f q (hz.v q hq) W2 (Jd.below (by first|exact⟨Aj.of_bx hp 6 rfl rfl,Aj.of_bx hp 7 rfl rfl,Aj.of_bx hp 8 rfl rfl,Aj.of_bx hp 9 rfl rfl,BB hp 4 rfl,h.v.hp hp,h.t.hp hp⟩|exact⟨Aj.of_bx hp 7 rfl rfl,Aj.of_bx hp 8 rfl rfl,Aj.of_bx hp 9 rfl rfl,Aj.of_bx hp 10 rfl rfl,BB hp 4 rfl,h.v.hp hp,h.t.hp hp⟩) hb))) ?_;rintro⟨pV1,cV1,jV1⟩ hV1;obtain⟨gV1,rfl⟩: ∃g,pV1=some g:=Option.ne_none_iff_exists'.1 (fun e=>absurd (hV1.nil e) (by omega))
   refine Aa (Ab (wX (wZ (wS 6 I I I (Aa (Ab ?_))))))
   refine Au I (by((repeat (first|refine A3.same ?_|refine A3.off I ?_));exact tO)) ?_
   exact Al (⟨(b14,⟨some gV1,cV1,jV1⟩),hV1⟩: { s:Nat×Vec//s.2.OK 1 l.length (vsC (l.map f.at)) }) ⟨I,I,I,I,I,I,I,tO⟩ [0,1,2,4,5,6,11] (by decide) I
 rintro⟨⟨b14,⟨pV,cV,jV⟩⟩,hV⟩
 obtain⟨gV,rfl⟩: ∃g,pV=some g:=by
  cases pV with
  |none=>have:=hV.nil rfl;omega
  |some g=>exact⟨g,rfl⟩
 have hcapV:=(hV.cap (by simp)).1
 refine zE (zA (zA (zB (wB 4 I I I ?_))))
 refine AB I I I I ?_
 refine wP I (wB 3 I I I (wP I (Aa (zE (zS I (zI (zE (zA (zB ?_)))))))))
 (refine Af Tryz.hZ rfl rfl rfl rfl ?_;intro)
 refine Aa ?_
 rename_i b15
 refine zE (zA (zA (zB (wB 0 I I I ?_))))
 refine wD (X:=Nat) I I (fun W1 _=>C3 p l.length cap W1) ?_
 intro bp _
 refine Aa (zE (zH ?_))
 refine De ?_
 refine DM (X:=Nat×Vec) (fun x=>[lsB b4 (slv p l.length cap),ptB b8 [] [],ptB b9 [] [],caB bC,ckB b13 bC,nmB b14 (.slice (some ⟨gV,0,none⟩) l.length cV),⟨gV,23,vsC (l.map f.at)++jV,true,none⟩,lsB b15 (x.2.val (Em f l x.1).length),lsB bp (slv p l.length cap),x.2.bx 35 (ptC (Em f l x.1))])
  (fun j x=>x.1=j∧x.2.OK 2 (Em f l x.1).length (ptC (Em f l x.1))) (fun _ _=>False) (0,Vec.empty) rfl (by kernel_rfl) (CF l bp p cap (by omega)) (fun _=>rfl)
  ⟨rfl,Vec.OK.empty 2⟩ [] rfl (fun k x W1 _ hp=>⟨Aj.of_bx hp 8 rfl rfl,hA.hp hp⟩) ?_ ?_ (fun _ _ _ _ _ h=>h.elim)
 ·rintro k ⟨k',O⟩ d l' rec L hk ⟨e1,hO⟩ hrec
  obtain rfl:k'=k:=e1
  have hk:k'<l.length:=hk
  have hO:O.OK 2 (Em f l k').length (ptC (Em f l k')):=hO
  have hol:=Ix f l k'
  have hml:=S9 f l k'
  have hsl:=Ix f l (k'+1)
  have hk2:(k'+1)%l.length<l.length:=Nat.mod_lt _ hn0
  have ev: ∀i (hi:i<l.length),(l.map f.at)[i]'(by rw[hvl];exact hi)=f.at (Ae l i):=fun i hi=>by rw[List.getElem_map,BM hi]
  have hr1: ∀ {W0 W1:World} {bxs:List Bx} (hp:Hp W0 bxs W1) (m:Nat) (hm:nth bxs m=some ⟨gV,23,vsC (l.map f.at)++jV,true,none⟩),Aj W1 gV (0+k'*1) [str (Ad (f.at (Ae l k')))]:=fun hp m hm=>by
   have:=Mi hp m hm (i:=k') (by rw[hvl];exact hk)
   rwa [ev k' hk] at this
  have hr2: ∀ {W0 W1:World} {bxs:List Bx} (hp:Hp W0 bxs W1) (m:Nat) (hm:nth bxs m=some ⟨gV,23,vsC (l.map f.at)++jV,true,none⟩),Aj W1 gV (0+((k'+1)%l.length)*1) [str (Ad (f.at (Ae l (k'+1))))]:=fun hp m hm=>by
   have:=Mi hp m hm (i:=(k'+1)%l.length) (by rw[hvl];exact hk2)
   rwa [ev _ hk2,C8] at this
  obtain⟨u,hu⟩: ∃u,u=f.at (Ae l k'):=⟨_,rfl⟩
  obtain⟨v,hvv⟩: ∃v,v=f.at (Ae l (k'+1)):=⟨_,rfl⟩
  have hsu:=Rv f l k'
  have hmu:G3 f l k'=Em f l k'++(if u=0 then[Ae l k'] else[]):=by rw[hu];rfl
  have hcz:=hz.c k' hk
  rw[←hu, ←hvv] at hsu hcz
  rw[←hu] at hr1
  rw[←hvv] at hr2
  refine zA (zB (wP I (Aa (zE (zB ?_)))))
  (refine Af Tryz.hZ rfl rfl rfl rfl ?_;intro)
  refine wS 13 I I I (Aa ?_)
  rename_i b17
  refine C9 12 hrec I ?_
  refine Bj (zA (zU (qB 6 I I I (qP I ?_))))
  refine qJ ?_
  refine qL 0 I I (fun W1 hp=>hr1 hp 7 I) I (qC I I (fun W1 _=>Dd u W1) (qB 6 I I I (qP I (qP I (qV 62 ((k'+1:Nat):Int) I (Ax (by omega)) (qB 1 I I I (qP I ?_)))))))
  refine Dv I I I I I hzz ?_
  refine DY 65 (.int .i64 (((k'+1)%l.length:Nat):Int)) I I ?_
  refine qJ ?_
  refine qL 0 I I (fun W1 hp=>hr2 hp 7 I) I (qC I I (fun W1 _=>Dd v W1) (qP I (qP I (AS (Aa (zE (zA (zA (zB (wP I (wP I (wU 70 (decide (u=0)) I (TQ u) (Aa ?_)))))))))))))
  refine AH ?_
  refine AC (X:=Vec) (fun _=>[(4,Ag b4),(8,Ag b8),(9,Ag b9),(10, .bool false),(11, .int .i64 0),(13,Ag b13),(14,Ag b14),(15,Ag b15),(16, .int .i64 (k':Nat)),(17,Ag b17),(18, .int .i64 (E5 u)),(19, .int .i64 (E5 v))])
   (fun O=>[AL L,lsB b4 (slv p l.length cap),ptB b8 [] [],ptB b9 [] [],caB bC,ckB b13 bC,nmB b14 (.slice (some ⟨gV,0,none⟩) l.length cV),⟨gV,23,vsC (l.map f.at)++jV,true,none⟩,lsB b15 (O.val (G3 f l k').length),lsB bp (slv p l.length cap),O.bx 35 (ptC (G3 f l k')),Bz d,Ba l' rec .busy none,⟨b17,66,(sdV (Ae l k') (Ae l (k'+1))).cells.toList,true,none⟩])
   (fun O=>O.OK 2 (G3 f l k').length (ptC (G3 f l k'))) ?_ ?_
  ·refine Aw I (fun hc1=> ?_) (fun hc1=> ?_)
   ·rw[if_pos (of_decide_eq_true hc1)] at hmu
    have hlm:(Em f l k').length+1=(G3 f l k').length:=by rw[hmu,List.length_append];rfl
    refine zB (wB 8 I I I ?_)
    refine CJ Tryz.underlying66 Tryz.sizeOf35 I I I I I ⟨by decide,by decide⟩ ?_
    refine wB 13 I I I ?_
    refine A8 Tryz.hZ tH I I I I I I I I I I I fun bS=> ?_
    refine Bk (V:=O) (len:=(Em f l k').length) (xs:=ptC (Em f l k')) 10 14 Tryz.vec22 (G3 f l k').length (ptC (G3 f l k')) I I I I I I I I I I I hO I I hlm (by rw[hmu,Cx];rfl) (by simp only[maxLen];omega) (by omega) I ?_
    intro gO cO jO hO1
    exact wS 8 I I I (Aa (An ⟨some gO,cO,jO⟩ hO1 ⟨I,I,I,I,I,I,I,I,I,I,I,I,tO⟩ [_] I))
   ·rw[if_neg (of_decide_eq_false hc1),List.append_nil] at hmu
    exact zI (An O (by rw[hmu];exact hO) ⟨I,I,I,I,I,I,I,I,I,I,I,I,tO⟩ [] (by rw[hmu];rfl))
  intro O1 hO1
  have hO1:O1.OK 2 (G3 f l k').length (ptC (G3 f l k')):=hO1
  refine zA (zB (wP I (wP I (wP I (wP I (wU 79 (decide (u*v<0)) I (ML u v) (Aa (zE ?_))))))))
  refine Aw I (fun hc2=> ?_) (fun hc2=> ?_)
  ·have hc2':u*v<0:=of_decide_eq_true hc2
   rw[if_pos hc2'] at hsu
   have hlm:(G3 f l k').length+1=(Em f l (k'+1)).length:=by rw[hsu,List.length_append];rfl
   refine AE (X:= { O:Vec//O.OK 2 (Em f l (k'+1)).length (ptC (Em f l (k'+1))) }) [true,true,true,true,true,true,true,true,true,true,true,true,true,true,true,true,true,true,true,false,false,false] (fun _=>[(4,Ag b4),(8,Ag b8),(9,Ag b9),(10, .bool false),(11, .int .i64 0),(13,Ag b13),(14,Ag b14),(15,Ag b15)])
    (fun O=>[AL L,lsB b4 (slv p l.length cap),ptB b8 [] [],ptB b9 [] [],caB bC,ckB b13 bC,nmB b14 (.slice (some ⟨gV,0,none⟩) l.length cV),⟨gV,23,vsC (l.map f.at)++jV,true,none⟩,lsB b15 (O.1.val (Em f l (k'+1)).length),lsB bp (slv p l.length cap),O.1.bx 35 (ptC (Em f l (k'+1))),Bz d,Ba l' rec .busy none])
    3 [AL L,lsB b4 (slv p l.length cap),ptB b8 [] [],ptB b9 [] [],caB bC,ckB b13 bC,nmB b14 (.slice (some ⟨gV,0,none⟩) l.length cV),⟨gV,23,vsC (l.map f.at)++jV,true,none⟩,lsB b15 (O1.val (G3 f l k').length),lsB bp (slv p l.length cap),O1.bx 35 (ptC (G3 f l k')),Bz d,Ba l' rec .busy none,⟨b17,66,(sdV (Ae l k') (Ae l (k'+1))).cells.toList,true,none⟩] Tryz.mixed (by kernel_rfl) ?_ ?_
   ·refine qB 8 I I I (qB 5 I I I ?_)
    refine AR Tryz.underlying66 Tryz.sizeOf35 I I I I I ⟨by decide,by decide⟩ ?_
    refine qB 13 I I I ?_
    refine AR Tryz.underlying66 Tryz.sizeOf35 I I I I I ⟨by decide,by decide⟩ ?_
    refine qB 13 I I I (qB 6 I I I (qP I ?_))
    refine qJ ?_
    refine qL 0 I I (fun W1 hp=>hr1 hp 7 I) I (qB 6 I I I (qP I (qP I (qV 92 ((k'+1:Nat):Int) I (Ax (by omega)) (qB 1 I I I (qP I ?_))))))
    refine Dv I I I I I hzz ?_
    refine DY 95 (.int .i64 (((k'+1)%l.length:Nat):Int)) I I ?_
    refine qJ ?_
    refine qL 0 I I (fun W1 hp=>hr2 hp 7 I) I (qC I I (fun W1 hp=>Ln bC (Ae l k') (Ae l (k'+1)) u v (hcz hc2') W1 (BB hp 4 I) (h.v.hp hp) (h.t.hp hp)) (Bq (wX (wZ ?_))))
    refine A8 Tryz.hZ tH I I I I I I I I I I I fun bS=> ?_
    refine Aa (Ab (wX (wZ ?_)))
    refine Bk (V:=O1) (len:=(G3 f l k').length) (xs:=ptC (G3 f l k')) 10 14 Tryz.vec22 (Em f l (k'+1)).length (ptC (Em f l (k'+1))) rfl rfl rfl rfl rfl rfl rfl rfl rfl rfl rfl hO1 rfl rfl hlm (by rw[hsu,Cx];rfl) (by simp only[maxLen];omega) (by omega) rfl ?_;intro gO cO jO hO2
    refine Aa (Ab (wY (wZ (wS 8 I I I (Aa (Ab ?_))))))
    refine AD I (by kernel_rfl) ?_
    exact Al (⟨⟨some gO,cO,jO⟩,hO2⟩: { O:Vec//O.OK 2 (Em f l (k'+1)).length (ptC (Em f l (k'+1))) }) ⟨I,I,I,I,I,I,I,I,tO⟩ [0,1,2,3,4,5,6,7,8,9,10,11,12] (by decide) I
   rintro⟨O2,hO2⟩
   exact zN (BW 12 (k'+1,O2) hrec I ⟨I,hO2⟩ [] I)
  ·rw[if_neg (of_decide_eq_false hc2),List.append_nil] at hsu
   exact zI (zN (BW 12 (k'+1,O1) hrec I ⟨I,by show O1.OK 2 (Em f l (k'+1)).length (ptC (Em f l (k'+1)));rw[hsu];exact hO1⟩ [_] (by rw[hsu];rfl)))
 ·rintro⟨k',O⟩ d l' rec ⟨e1,hO⟩
  obtain rfl:k'=l.length:=e1
  have hoe:Em f l l.length=ES f l:=rfl
  have hO:O.OK 2 (ES f l).length (ptC (ES f l)):=hO
  have hol:=Ix f l l.length
  rw[hoe] at hol
  rw[hoe]
  have hn2:=hz.n2
  have hs:=hz.s
  generalize ES f l=S at hO hol hn2 hs⊢
  obtain⟨q,cc,hval⟩: ∃q cc,O.val S.length= .slice q S.length cc:=by
   obtain⟨pO,cO,jO⟩:=O
   cases pO with
   |none=>
    have e:S.length=0:=hO.nil rfl
    exact⟨none,0,by rw[e];rfl⟩
   |some g=>exact⟨some ⟨g,0,none⟩,cO,rfl⟩
  refine zN (zE (zA (zA (zB (wB 4 I I I ?_)))))
  refine AB I I I I ?_
  refine wP I (wB 3 I I I (wP I ?_))
  refine Ah 105 (.bool false) I I ?_
  refine wP I (wB 7 I I I ?_)
  refine Ah 107 (.slice q S.length cc) I hval ?_
  refine wP I (wP I ?_)
  by_cases h2:S.length<2
  ·have eV:QB S= .tuple #[.agg #[str [],str []], .agg #[str [],str []], .bool false, .int .i64 0]:=by
    match S,h2 with
    |[],_=>rfl
    |[_],_=>rfl
    |_::_::_,h2=>simp at h2;omega
   refine wU 109 true I (dT (by omega)) (wP I (Aa (zE (zR I (Ar ?_)))))
   refine AE (X:=Unit) [true,true,true,true,true,true,false,false,false,false] (fun _=>[(8,Ag b8),(9,Ag b9),(10, .bool false),(11, .int .i64 0)]) (fun _=>[ptB b8 [] [],ptB b9 [] [],Bz d])
    4 [lsB b4 (slv p l.length cap),⟨b8,35,[str [],str []],false,none⟩,⟨b9,35,[str [],str []],false,none⟩,caB bC,ckB b13 bC] Tryz.mixed (by kernel_rfl) ?_ ?_
   ·refine EZ Tryz.hZ tH I I I I I I I I ?_
    refine EZ Tryz.hZ tH I I I I I I I I ?_
    refine qB 4 I I I ?_
    refine JJ I I I I ?_
    refine qP I (qB 3 I I I (Bq (wX (wZ (wS 1 I I I (Aa (Ab (wX (wZ (wS 2 I I I (Aa (Ab (wX ?_)))))))))))))
    refine wZ (wP I (Aa (Ab (wX (wZ (wP I (Aa (Ab ?_))))))))
    refine Au I (by((repeat (first|refine A3.same ?_|refine A3.off I ?_));exact tO)) ?_
    exact Al () ⟨I,I,I,I,tO⟩ [1,2,10] (by decide) I
   intro _
   refine zE (zO (zP ?_))
   refine BU 2 I ?_
   exact Kj tH I (.cell 0 I I I I I) (.cell 1 I I I I I) (.tmp I) (.tmp I) () eV.symm tO fun W _=>Ap.nil _ _
  ·obtain⟨x,y,rfl⟩: ∃x y,S=[x,y]:=by
    match S,h2,hn2 with
    |[x,y],_,_=>exact⟨x,y,rfl⟩
    |[],h2,_=>exact absurd Nat.zero_lt_two h2
    |[_],h2,_=>exact absurd (Nat.lt_succ_self 1) h2
    |_::_::_::_,_,hn2=>simp at hn2
   obtain⟨a,b,eab,eV⟩: ∃a b,DS x y=[a,b]∧QB [x,y]= .tuple #[ptV a,ptV b, .bool true, .int .i64 0]:=by
    show∃a b,(if Cb y x=true then[y,x] else[x,y])=[a,b]∧Value.tuple #[ptV (if Cb y x=true then y else x),ptV (if Cb y x=true then x else y), .bool true, .int .i64 0]=Value.tuple #[ptV a,ptV b, .bool true, .int .i64 0]
    cases Cb y x with
    |true=>exact⟨y,x,rfl,rfl⟩
    |false=>exact⟨x,y,rfl,rfl⟩
   obtain⟨hs1,hs2⟩:=hs x y rfl
   obtain⟨pO,cO,jO⟩:=O
   obtain⟨gO,rfl⟩: ∃g,pO=some g:=Option.ne_none_iff_exists'.1 (fun e=>absurd (hO.nil e) (by show¬2=0;decide))
   refine Ah 109 (.bool false) I I ?_
   refine wP I (Aa (zE (zS I (zI (zE (zA (zB (wB 7 I I I (wB 4 I I I (wP I ?_))))))))))
   refine FZ (X:=Unit) (val:=fun _=> .tuple #[]) (Φ:=fun _=>True) (capt:=[]) 9 (B:=DE gO [x,y] jO) (L1:=[]) (L2:=[]) (b:=gO) (ob:= .cells (ptC [x,y]++jO).toArray 35 (0,0)) (fun _=>DE gO (DS x y) jO) (g':=fun _=>gO) (o':=fun _=> .cells (ptC (DS x y)++jO).toArray 35 (0,0))
    rfl rfl rfl rfl rfl rfl (by kernel_rfl) rfl rfl (fun _ _=>rfl) (fun W1 hp=> ?_) (fun _ _=> ?_)
   ·have hc:=hp.own.cell 9 _ rfl (gO, .cells (ptC [x,y]++jO).toArray 35 (0,0)) (List.mem_cons_self ..)
    have hne:bC≠gO:=hp.own.apart 3 9 _ _ rfl rfl (by decide) (bC,_) (List.mem_cons_self ..) (gO,_) (List.mem_cons_self ..)
    exact NM bC W1 gO cO x y jO hc.1 ⟨fun W2 hk=>⟨(BB hp 3 I).keep hk hne,h.v.below (hk.below hp.below hc.2),h.t.below (hk.below hp.below hc.2)⟩,hs1,hs2⟩
   rw[eab]
   refine Aa (zE (zA (zA (zB (wB 4 I I I ?_)))))
   refine AB I I I I ?_
   refine wP I (wB 3 I I I (wP I (Aa (zE (zS I (zI (zE (Ar ?_))))))))
   refine AE (X:=Unit) [true,true,true,true,true,true,false,false,false,false] (fun _=>[(8,Ag b8),(9,Ag b9),(10, .bool true),(11, .int .i64 0)]) (fun _=>[ptB b8 (Ad a.1) (Ad a.2),ptB b9 (Ad b.1) (Ad b.2),Bz d])
    4 [lsB b4 (slv p l.length cap),⟨b8,35,[str [],str []],false,none⟩,⟨b9,35,[str [],str []],false,none⟩,caB bC,ckB b13 bC,nmB b14 (.slice (some ⟨gV,0,none⟩) l.length cV),⟨gV,23,vsC (l.map f.at)++jV,true,none⟩,lsB b15 (.slice (some ⟨gO,0,none⟩) 2 cO),lsB bp (slv p l.length cap),DE gO [a,b] jO] Tryz.mixed (by kernel_rfl) ?_ ?_
   ·refine qB 7 I I I (qI I I (by decide) (by decide) (qL 0 I I (fun W1 hp=>S7 hp 9 I) I (qB 7 I I I (qI I I (by decide) (by decide) (qL 0 I I (fun W1 hp=>Sd hp 9 I) I (Bq (wX (wZ (wS 1 I I I (Aa (Ab (wX (wZ ?_)))))))))))))
    refine wS 2 I I I (Aa (Ab (wX (wZ (wP I (Aa (Ab (wX (wZ (wP I (Aa (Ab ?_))))))))))))
    refine Au I (by((repeat (first|refine A3.same ?_|refine A3.off I ?_));exact tO)) ?_
    exact Al () ⟨I,I,I,I,tO⟩ [1,2,10] (by decide) I
   intro _
   refine zE (zO ?_)
   refine BU 2 I ?_
   exact Kj tH I (.cell 0 I I I I I) (.cell 1 I I I I I) (.tmp I) (.tmp I) () eV.symm tO fun W _=>Ap.nil _ _
end
section
open Go Go.RowKit Go.Am Go.Lib
def sq4:List Ak:=[(0,0),(2,0),(2,2),(0,2)]
def tr3:List Ak:=[(0,0),(1,0),(0,1)]
def PS:AW:=⟨1,1,1⟩
def N7:AW:=⟨1, -1,0⟩
theorem T0:FB sq4:=by
 refine⟨by decide,by decide+kernel,fun i j k h1 h2 h3=> ?_⟩
 have h3:k<4:=h3
 have:(i=0∧j=1∧k=2)∨(i=0∧j=1∧k=3)∨(i=0∧j=2∧k=3)∨(i=1∧j=2∧k=3):=by omega
 rcases this with⟨rfl,rfl,rfl⟩|⟨rfl,rfl,rfl⟩|⟨rfl,rfl,rfl⟩|⟨rfl,rfl,rfl⟩<;>decide+kernel
theorem Sq:FB tr3:=by
 refine⟨by decide,by decide+kernel,fun i j k h1 h2 h3=> ?_⟩
 have h3:k<3:=h3
 obtain⟨rfl,rfl,rfl⟩:i=0∧j=1∧k=2:=by omega
 decide+kernel
theorem Ua:Bs PS sq4=tr3:=by decide+kernel
theorem No:ES N7 sq4=[(0,0),(2,2)]:=by decide+kernel
theorem TX:Cb ((2,2):Ak) (0,0)=false:=by decide+kernel
theorem TL:CL tr3/2=1/2:=by decide+kernel
theorem TS:HY tr3/(3*CL tr3)=1/3:=by decide+kernel
theorem Uq:HP tr3/(3*CL tr3)=1/3:=by decide+kernel
theorem JL:Ad (0:Rat)=[48]:=DO
theorem Vn:Ad (1:Rat)=[49]:=by decide+kernel
theorem Dm:Ad (2:Rat)=[50]:=by decide+kernel
theorem VQ:Ad (-1:Rat)=[45,49]:=by decide+kernel
theorem Wh:Ad (1/2:Rat)=[49,47,50]:=by decide+kernel
theorem VR:Ad (1/3:Rat)=[49,47,51]:=by decide+kernel
theorem HO {x y:Int} (hx:x.natAbs<10^8) (hy:y.natAbs<10^8):Hm 8 ((x:Rat),(y:Rat)):=⟨x,y,1,by decide,hx,hy,by decide,Rat.mul_one _,Rat.mul_one _⟩
theorem Qk: ∀p∈sq4,Hm 8 p:=fun p hp=>by
 rcases List.mem_cons.1 hp with rfl|hp
 ·exact HO (x:=0) (y:=0) (by decide) (by decide)
 rcases List.mem_cons.1 hp with rfl|hp
 ·exact HO (x:=2) (y:=0) (by decide) (by decide)
 rcases List.mem_cons.1 hp with rfl|hp
 ·exact HO (x:=2) (y:=2) (by decide) (by decide)
 rw[List.mem_singleton.1 hp]
 exact HO (x:=0) (y:=2) (by decide) (by decide)
theorem PB: ∀p∈tr3,Hm 8 p:=fun p hp=>by
 rcases List.mem_cons.1 hp with rfl|hp
 ·exact HO (x:=0) (y:=0) (by decide) (by decide)
 rcases List.mem_cons.1 hp with rfl|hp
 ·exact HO (x:=1) (y:=0) (by decide) (by decide)
 rw[List.mem_singleton.1 hp]
 exact HO (x:=0) (y:=1) (by decide) (by decide)
theorem So:LnH PS:=⟨1,1,1,1,by decide,by decide,by decide,by decide,by decide,Rat.mul_one _,Rat.mul_one _,Rat.mul_one _⟩
theorem SV:LnH N7:=⟨1, -1,0,1,by decide,by decide,by decide,by decide,by decide,Rat.mul_one _,Rat.mul_one _,Rat.mul_one _⟩
theorem Sj {f:AW} (hf:LnH f) (n:f.a≠0∨f.b≠0):T5 f:=⟨hf.sz.1.ok (by decide),hf.sz.2.1.ok (by decide),hf.sz.2.2.ok (by decide),n⟩
theorem Vx:T5 PS:=Sj So (.inl (by decide+kernel))
theorem UZ:T5 N7:=Sj SV (.inl (by decide+kernel))
theorem JO.of_hm {e k:Nat} {l:List Ak} (hl: ∀p∈l,Hm e p) (h:e≤k):JO k l:=fun p hp=>⟨(hl p hp).sz.1.mono h,(hl p hp).sz.2.mono h⟩
theorem s2 {q:Rat} (h:q.num.natAbs<10^2∧q.den<10^2):szQ q 2:=h
theorem ez2 {p q:Rat} (h:p.num.natAbs<10^2∧p.den<10^2) (h':q.num.natAbs<10^2∧q.den<10^2):Sz2 p q:=sz2 (s2 h) (s2 h') (by decide)
theorem Pr.of {p q:Ak} (hp:szQ p.1 8∧szQ p.2 8) (hq:szQ q.1 8∧szQ q.2 8):Pr p q:=⟨sz2 hp.1 hq.2 (by decide),sz2 hq.1 hp.2 (by decide),sz2 (hp.1.mul hq.2) (hq.1.mul hp.2) (by decide)⟩
theorem UL (i:Nat):Pr (Ae tr3 i) (Ae tr3 (i+1)):=Pr.of ((JO.of_hm PB (Nat.le_refl 8)).at_ (by decide) i) ((JO.of_hm PB (Nat.le_refl 8)).at_ (by decide) (i+1))
theorem lt3 {i:Nat} (h:i<tr3.length):i=0∨i=1∨i=2:=by have h:i<3:=h;omega
theorem UN: ∀i,i<tr3.length→Sz2 (crK tr3 i) (Ft (Ae tr3 i) (Ae tr3 (i+1))):=fun i hi=>by
 rcases lt3 hi with rfl|rfl|rfl<;>exact ez2 (by decide+kernel) (by decide+kernel)
theorem Vb:ArZ tr3:=⟨fun i _=>UL i,UN,ez2 (by decide+kernel) (by decide+kernel)⟩
theorem Ve:CeZ tr3:=by
 refine⟨fun i _=>UL i,UN,fun i hi=> ?_,fun i hi=> ?_,fun i hi=> ?_,fun i hi=> ?_,fun i hi=> ?_,fun i hi=> ?_,ez2 (by decide+kernel) (by decide+kernel),by decide+kernel,ez2 (by decide+kernel) (by decide+kernel),ez2 (by decide+kernel) (by decide+kernel)⟩<;>
  rcases lt3 hi with rfl|rfl|rfl<;>exact ez2 (by decide+kernel) (by decide+kernel)
theorem VA:SeZ N7 sq4:=by
 have h:=ClZ.of SV (by decide) Qk
 refine⟨h.v,h.c,by rw[No];decide,fun x y e=> ?_⟩
 rw[No] at e
 cases e
 exact⟨ez2 (by decide+kernel) (by decide+kernel),ez2 (by decide+kernel) (by decide+kernel)⟩
theorem SC:QB (ES N7 sq4)= .tuple #[.agg #[str [48],str [48]], .agg #[str [50],str [50]], .bool true, .int .i64 0]:=by
 rw[No]
 show Value.tuple #[ptV (if Cb ((2,2):Ak) (0,0)=true then _ else _),ptV (if Cb ((2,2):Ak) (0,0)=true then _ else _), .bool true, .int .i64 0]=_
 rw[TX]
 show Value.tuple #[.agg #[str (Ad 0),str (Ad 0)], .agg #[str (Ad 2),str (Ad 2)], .bool true, .int .i64 0]=_
 rw[JL,Dm]
theorem Vy:ptC sq4=[str [48],str [48],str [50],str [48],str [50],str [50],str [48],str [50]]:=by
 show[str (Ad 0),str (Ad 0),str (Ad 2),str (Ad 0),str (Ad 2),str (Ad 2),str (Ad 0),str (Ad 2)]=_
 rw[JL,Dm]
theorem Vz:ptC tr3=[str [48],str [48],str [49],str [48],str [48],str [49]]:=by
 show[str (Ad 0),str (Ad 0),str (Ad 1),str (Ad 0),str (Ad 0),str (Ad 1)]=_
 rw[JL,Vn]
theorem Gn {W:World} {b off:Nat} {l:List Ak} (h:Aj W b off (ptC l)):Cf W (some ⟨b,off,none⟩) l:= .inr ⟨b,off,rfl,fun i hi=>by
 have e:ptC l=ptC (l.take i)++([str (Ad l[i].1),str (Ad l[i].2)]++ptC (l.drop (i+1))):=by
  have e0:l=l.take i++l[i]::l.drop (i+1):=by rw[←List.drop_eq_getElem_cons hi,List.take_append_drop]
  conv=>lhs;rw[e0]
  unfold ptC
  rw[List.flatMap_append,List.flatMap_cons]
 rw[e] at h
 have h1:=Ep h
 rw[AG,List.length_take,Nat.min_eq_left (by omega)] at h1
 have h2:=Cc h1
 exact h2⟩
end
section
open Go Go.RowKit Go.Am Go.Lib
set_option maxRecDepth 10000
-- BOXES 6
-- CODE2
theorem Oh {W:World} {p:Option Addr} (h:Cf W p sq4) (hv:BO W) (ht:AI W):GZ W p sq4:=⟨T0,by decide,by decide,JO.of_hm Qk (by decide),h,hv,ht⟩
theorem ND {W:World} {p:Option Addr} (h:Cf W p tr3) (hv:BO W) (ht:AI W):GZ W p tr3:=⟨Sq,by decide,by decide,JO.of_hm PB (by decide),h,hv,ht⟩
abbrev VX (b:Nat):Bx:=⟨b,35,ptC sq4,true,none⟩
theorem Th (p:Option Addr) (cap:Nat) (W:World) (h:GZ W p sq4):
  Ai Tryz.prog 12 #[slv p 4 cap,str [49],str [49],str [49]] W (fun V:Vec=> .tuple #[V.val 3, .int .i64 0]) (fun V=>V.OK 2 3 (ptC tr3)) (fun V=>[V.bx 35 (ptC tr3)]):=by
 have h1:=Ok PS Vx sq4 (ClZ.of So (by decide) Qk) p cap W h
 rw[Ua] at h1
 have e:[Ad PS.a,Ad PS.b,Ad PS.c]=[[49],[49],[49]]:=by show[Ad 1,Ad 1,Ad 1]=_;rw[Vn]
 simp only[List.cons.injEq,and_true] at e
 obtain⟨e1,e2,e3⟩:=e
 rw[e1,e2,e3] at h1
 exact h1
theorem T6 (p:Option Addr) (cap:Nat) (W:World) (h:GZ W p tr3):
  Ai Tryz.prog 15 #[slv p 3 cap] W (fun _:Unit=> .tuple #[str [49,47,50], .int .i64 0]) (fun _=>True) (fun _=>[]):=by
 have h1:=Oi tr3 Vb p cap W h
 rw[TL,Wh] at h1
 exact h1
theorem P9 (p:Option Addr) (cap:Nat) (W:World) (h:GZ W p tr3):
  Ai Tryz.prog 35 #[slv p 3 cap] W (fun _:Unit=> .tuple #[.agg #[str [49,47,51],str [49,47,51]], .int .i64 0]) (fun _=>True) (fun _=>[]):=by
 have h1:=LM tr3 Ve p cap W h
 rw[TS,Uq,VR] at h1
 exact h1
theorem OT (p:Option Addr) (cap:Nat) (W:World) (h:GZ W p sq4):
  Ai Tryz.prog 24 #[slv p 4 cap,str [49],str [45,49],str [48]] W (fun _:Unit=> .tuple #[.agg #[str [48],str [48]], .agg #[str [50],str [50]], .bool true, .int .i64 0]) (fun _=>True) (fun _=>[]):=by
 have h1:=KV N7 UZ sq4 VA p cap W h
 rw[SC] at h1
 have e:[Ad N7.a,Ad N7.b,Ad N7.c]=[[49],[45,49],[48]]:=by show[Ad 1,Ad (-1),Ad 0]=_;rw[Vn,VQ,JL]
 simp only[List.cons.injEq,and_true] at e
 obtain⟨e1,e2,e3⟩:=e
 rw[e1,e2,e3] at h1
 exact h1
theorem HA (W:World) (hv:BO W) (ht:AI W):
  Ai Tryz.prog 11 #[] W (fun _:Unit=> .bool true) (fun _=>True) (fun _=>[]):=by
 refine Ac (args:=[]) Tryz.func11 I I I ?_
 refine zA (zB (wP I (Aa (zE (zA (zB ?_))))))
 iterate 4 refine Ay Tryz.hZ tH I I I I I I I I ?_
 refine A8 Tryz.hZ tH I I I I I I I I I I I fun bS=> ?_
 refine wP I (Aa ?_)
 refine PH (bxs':=[VX bS]) (by show _=[(⟨bS,35,ptC sq4,true,none⟩:Bx)];rw[Vy];rfl) ?_
 refine zE (zA (zB (wP I ?_)))
 refine wD (X:=Vec) I I (fun W1 hp=>Th (some ⟨bS,0,none⟩) 4 W1 (Oh (Gn (Aj.of_bx hp 0 I I)) (hv.hp hp) (ht.hp hp))) ?_
 rintro⟨pV,cV,jV⟩ hV
 obtain⟨gV,rfl⟩: ∃g,pV=some g:=Option.ne_none_iff_exists'.1 (fun e=>absurd (hV.nil e) (by decide))
 iterate 5 refine wP I ?_
 refine Aa (zE (zA (zB (wP I (wC I I (fun W1 hp=>T6 (some ⟨gV,0,none⟩) cV W1 (ND (Gn (Cc (Aj.of_bx hp 1 I I:Aj W1 gV 0 (ptC tr3++jV)))) (hv.hp hp) (ht.hp hp))) ?_)))))
 iterate 5 refine wP I ?_
 refine Aa (zE (zA (zB (wP I (wC I I (fun W1 hp=>P9 (some ⟨gV,0,none⟩) cV W1 (ND (Gn (Cc (Aj.of_bx hp 1 I I:Aj W1 gV 0 (ptC tr3++jV)))) (hv.hp hp) (ht.hp hp))) (wP I (wP I (wP I ?_))))))))
 (refine Af Tryz.hZ rfl rfl rfl rfl ?_;intro)
 refine wS 2 I I I (wP I (Aa ?_))
 rename_i b6
 refine zE (zA (zB (wP I (wC I I (fun W1 hp=>OT (some ⟨bS,0,none⟩) 4 W1 (Oh (Gn (Aj.of_bx hp 0 I I)) (hv.hp hp) (ht.hp hp))) ?_))))
 iterate 5 refine wP I ?_
 (refine Af Tryz.hZ rfl rfl rfl rfl ?_;intro)
 (refine Af Tryz.hZ rfl rfl rfl rfl ?_;intro)
 refine wS 3 I I I (wS 4 I I I (wP I (wP I (Aa ?_))))
 rename_i b8 b9
 refine zE (Ar ?_)
 refine AE (X:=Unit) [true,true,true,true,true,true,true,true,true,true,true,false,false,false,false,false,false,false,false,false,false,false,false,false,false,false,false,false,false,false,false,false,false,false,false,false,false,false,false,false,false] (fun _=>[(0, .bool true)]) (fun _=>[])
  30 [VX bS,⟨gV,35,ptC tr3++jV,true,none⟩,ptB b6 [49,47,51] [49,47,51],ptB b8 [48] [48],ptB b9 [50] [50]] Tryz.mixed (by kernel_rfl) ?_ ?_
 ·refine qP I (qP I (qP I (qP I (qP I ?_))))
  refine DY 43 (.int .i64 0) I I ?_
  refine qP I ?_
  refine DY 44 (.bool true) I I ?_
  refine qP I (qP I ?_)
  iterate 3 refine EZ Tryz.hZ tH I I I I I I I I ?_
  refine Bq (wX (wZ ?_))
  refine A8 Tryz.hZ tH I I I I I I I I I I I fun bT=> ?_
  refine Aa (Ab (wX (wZ (wC I I (fun W1 hp=>IU tr3 (by decide) (some ⟨gV,0,none⟩) (some ⟨bT,0,none⟩) cV 3 W1 (Gn (Cc (Aj.of_bx hp 1 I I:Aj W1 gV 0 (ptC tr3++jV)))) (Gn (by have h:=Aj.of_bx hp 5 I I;rw[Vz];exact h))) (Aa (Ab (wX (wZ (wP I (Aa (Ab (wX (wZ ?_)))))))))))))
  refine wP I (Aa (Ab (wX (wZ (wP I (Aa (Ab (wX (wZ ?_)))))))))
  refine wP I ?_;refine wU 55 true I ((Be [49,47,50] [49,47,50]).trans (dT I)) ?_
  refine Aa (Ab (wX (wZ (wP I (Aa (Ab (wX (wZ (wP I (Aa (Ab (wX ?_))))))))))))
  refine RS.cons ?_ (RS.cons ?_ (RS.nil))
  ·refine wB 2 I I I (Aa (Ab (wX (wZ ?_))))
   refine Ay Tryz.hZ tH I I I I I I I I ?_
   refine Aa (Ab (wX (wZ ?_)))
   refine AQ [49,47,51] [49,47,51] [49,47,51] [49,47,51] I I I I I ?_;refine Ah 60 (.bool true) I I ?_
   refine Aa (Ab (wX (wZ (wP I (Aa (Ab (wX (wZ (wP I (Aa (Ab (wX (wZ ?_)))))))))))))
   refine wP I (Aa (Ab (wX (wZ (wP I (Aa (Ab (wX (wZ (wP I (Aa (Ab (wX ?_)))))))))))))
   refine RS.cons ?_ (RS.cons ?_ (RS.nil))
   ·refine wB 3 I I I (Aa (Ab (wX (wZ (wP I (Aa (Ab (wX (wZ (wI I I (by decide) (by decide) (Aa (Ab (wX ?_)))))))))))))
    refine wZ ?_
    refine wB 0 I I I ?_;refine Ah 69 (.agg #[str [48],str [48]]) I (by rw[←JL];rfl) ?_
    refine Aa (Ab (wX (wZ ?_)))
    refine AQ [48] [48] [48] [48] I I I I I ?_;refine Ah 70 (.bool true) I I ?_
    refine Aa (Ab (wX (wZ (wP I (Aa (Ab (wX (wZ (wP I (Aa (Ab (wX ?_))))))))))))
    refine RS.cons ?_ (RS.cons ?_ (RS.nil))
    ·refine wB 4 I I I (Aa (Ab (wX (wZ (wP I (Aa (Ab (wX (wZ (wI I I (by decide) (by decide) (Aa (Ab (wX ?_)))))))))))))
     refine wZ ?_
     refine wB 0 I I I ?_;refine Ah 76 (.agg #[str [50],str [50]]) I (by rw[←Dm];rfl) ?_
     refine Aa (Ab (wX (wZ ?_)))
     refine AQ [50] [50] [50] [50] I I I I I ?_;refine Ah 77 (.bool true) I I ?_
     refine Aa (Ab (wX (wZ (wP I (Aa (Ab (wX (wZ (wP I (Aa (Ab ?_)))))))))))
     refine Au I (by((repeat (first|refine A3.same ?_|refine A3.off I ?_));exact tO)) ?_
     exact Al () ⟨I,tO⟩ [] (by decide) I
    ·refine wP I (Aa (Ab (wX ?_)))
     refine RS.cons ?_ (RS.cons ?_ (RS.nil))
     ·refine wB 4 I I I (Aa (Ab (wX (wZ (wI I I (by decide) (by decide) (Aa (Ab (wX (wZ ?_)))))))))
      refine wB 0 I I I ?_;refine Ah 76 (.agg #[str [50],str [50]]) I (by rw[←Dm];rfl) ?_
      refine Aa (Ab (wX (wZ ?_)))
      refine AQ [50] [50] [50] [50] I I I I I ?_;refine Ah 77 (.bool true) I I ?_
      refine Aa (Ab (wX (wZ (wP I (Aa (Ab (wX (wZ (wP I (Aa (Ab ?_)))))))))))
      refine Au I (by((repeat (first|refine A3.same ?_|refine A3.off I ?_));exact tO)) ?_
      exact Al () ⟨I,tO⟩ [] (by decide) I
     ·refine wI I I (by decide) (by decide) (Aa (Ab (wX ?_)))
      refine RS.cons ?_ (RS.cons ?_ (RS.nil))
      ·refine wB 4 I I I (Aa (Ab (wX (wZ ?_))))
       refine wB 0 I I I ?_;refine Ah 76 (.agg #[str [50],str [50]]) I (by rw[←Dm];rfl) ?_
       refine Aa (Ab (wX (wZ ?_)))
       refine AQ [50] [50] [50] [50] I I I I I ?_;refine Ah 77 (.bool true) I I ?_
       refine Aa (Ab (wX (wZ (wP I (Aa (Ab (wX (wZ (wP I (Aa (Ab ?_)))))))))))
       refine Au I (by((repeat (first|refine A3.same ?_|refine A3.off I ?_));exact tO)) ?_
       exact Al () ⟨I,tO⟩ [] (by decide) I
      ·refine wB 0 I I I ?_;refine Ah 76 (.agg #[str [50],str [50]]) I (by rw[←Dm];rfl) ?_
       refine Aa (Ab (wX (wZ (wB 4 I I I (Aa (Ab (wX (wZ ?_))))))))
       refine AQ [50] [50] [50] [50] I I I I I ?_;refine Ah 77 (.bool true) I I ?_
       refine Aa (Ab (wX (wZ (wP I (Aa (Ab (wX (wZ (wP I (Aa (Ab ?_)))))))))))
       refine Au I (by((repeat (first|refine A3.same ?_|refine A3.off I ?_));exact tO)) ?_
       exact Al () ⟨I,tO⟩ [] (by decide) I
   ·refine wP I (Aa (Ab (wX ?_)))
    refine RS.cons ?_ (RS.cons ?_ (RS.nil))
    ·refine wB 3 I I I (Aa (Ab (wX (wZ (wI I I (by decide) (by decide) (Aa (Ab (wX (wZ ?_)))))))))
     refine wB 0 I I I ?_;refine Ah 69 (.agg #[str [48],str [48]]) I (by rw[←JL];rfl) ?_
     refine Aa (Ab (wX (wZ ?_)))
     refine AQ [48] [48] [48] [48] I I I I I ?_;refine Ah 70 (.bool true) I I ?_
     refine Aa (Ab (wX (wZ (wP I (Aa (Ab (wX (wZ (wP I (Aa (Ab (wX ?_))))))))))))
     refine RS.cons ?_ (RS.cons ?_ (RS.nil))
     ·refine wB 4 I I I (Aa (Ab (wX (wZ (wP I (Aa (Ab (wX (wZ (wI I I (by decide) (by decide) (Aa (Ab (wX ?_)))))))))))))
      refine wZ ?_
      refine wB 0 I I I ?_;refine Ah 76 (.agg #[str [50],str [50]]) I (by rw[←Dm];rfl) ?_
      refine Aa (Ab (wX (wZ ?_)))
      refine AQ [50] [50] [50] [50] I I I I I ?_;refine Ah 77 (.bool true) I I ?_
      refine Aa (Ab (wX (wZ (wP I (Aa (Ab (wX (wZ (wP I (Aa (Ab ?_)))))))))))
      refine Au I (by((repeat (first|refine A3.same ?_|refine A3.off I ?_));exact tO)) ?_
      exact Al () ⟨I,tO⟩ [] (by decide) I
     ·refine wP I (Aa (Ab (wX ?_)))
      refine RS.cons ?_ (RS.cons ?_ (RS.nil))
      ·refine wB 4 I I I (Aa (Ab (wX (wZ (wI I I (by decide) (by decide) (Aa (Ab (wX (wZ ?_)))))))))
       refine wB 0 I I I ?_;refine Ah 76 (.agg #[str [50],str [50]]) I (by rw[←Dm];rfl) ?_
       refine Aa (Ab (wX (wZ ?_)))
       refine AQ [50] [50] [50] [50] I I I I I ?_;refine Ah 77 (.bool true) I I ?_
       refine Aa (Ab (wX (wZ (wP I (Aa (Ab (wX (wZ (wP I (Aa (Ab ?_)))))))))))
       refine Au I (by((repeat (first|refine A3.same ?_|refine A3.off I ?_));exact tO)) ?_
       exact Al () ⟨I,tO⟩ [] (by decide) I
      ·refine wI I I (by decide) (by decide) (Aa (Ab (wX ?_)))
       refine RS.cons ?_ (RS.cons ?_ (RS.nil))
       ·refine wB 4 I I I (Aa (Ab (wX (wZ ?_))))
        refine wB 0 I I I ?_;refine Ah 76 (.agg #[str [50],str [50]]) I (by rw[←Dm];rfl) ?_
        refine Aa (Ab (wX (wZ ?_)))
        refine AQ [50] [50] [50] [50] I I I I I ?_;refine Ah 77 (.bool true) I I ?_
        refine Aa (Ab (wX (wZ (wP I (Aa (Ab (wX (wZ (wP I (Aa (Ab ?_)))))))))))
        refine Au I (by((repeat (first|refine A3.same ?_|refine A3.off I ?_));exact tO)) ?_
        exact Al () ⟨I,tO⟩ [] (by decide) I
       ·refine wB 0 I I I ?_;refine Ah 76 (.agg #[str [50],str [50]]) I (by rw[←Dm];rfl) ?_
        refine Aa (Ab (wX (wZ (wB 4 I I I (Aa (Ab (wX (wZ ?_))))))))
        refine AQ [50] [50] [50] [50] I I I I I ?_;refine Ah 77 (.bool true) I I ?_
        refine Aa (Ab (wX (wZ (wP I (Aa (Ab (wX (wZ (wP I (Aa (Ab ?_)))))))))))
        refine Au I (by((repeat (first|refine A3.same ?_|refine A3.off I ?_));exact tO)) ?_
        exact Al () ⟨I,tO⟩ [] (by decide) I
    ·refine wI I I (by decide) (by decide) (Aa (Ab (wX ?_)))
     refine RS.cons ?_ (RS.cons ?_ (RS.nil))
     ·refine wB 3 I I I (Aa (Ab (wX (wZ ?_))))
      refine wB 0 I I I ?_;refine Ah 69 (.agg #[str [48],str [48]]) I (by rw[←JL];rfl) ?_
      refine Aa (Ab (wX (wZ ?_)))
      refine AQ [48] [48] [48] [48] I I I I I ?_;refine Ah 70 (.bool true) I I ?_
      refine Aa (Ab (wX (wZ (wP I (Aa (Ab (wX (wZ (wP I (Aa (Ab (wX ?_))))))))))))
      refine RS.cons ?_ (RS.cons ?_ (RS.nil))
      ·refine wB 4 I I I (Aa (Ab (wX (wZ (wP I (Aa (Ab (wX (wZ (wI I I (by decide) (by decide) (Aa (Ab (wX ?_)))))))))))))
       refine wZ ?_
       refine wB 0 I I I ?_;refine Ah 76 (.agg #[str [50],str [50]]) I (by rw[←Dm];rfl) ?_
       refine Aa (Ab (wX (wZ ?_)))
       refine AQ [50] [50] [50] [50] I I I I I ?_;refine Ah 77 (.bool true) I I ?_
       refine Aa (Ab (wX (wZ (wP I (Aa (Ab (wX (wZ (wP I (Aa (Ab ?_)))))))))))
       refine Au I (by((repeat (first|refine A3.same ?_|refine A3.off I ?_));exact tO)) ?_
       exact Al () ⟨I,tO⟩ [] (by decide) I
      ·refine wP I (Aa (Ab (wX ?_)))
       refine RS.cons ?_ (RS.cons ?_ (RS.nil))
       ·refine wB 4 I I I (Aa (Ab (wX (wZ (wI I I (by decide) (by decide) (Aa (Ab (wX (wZ ?_)))))))))
        refine wB 0 I I I ?_;refine Ah 76 (.agg #[str [50],str [50]]) I (by rw[←Dm];rfl) ?_
        refine Aa (Ab (wX (wZ ?_)))
        refine AQ [50] [50] [50] [50] I I I I I ?_;refine Ah 77 (.bool true) I I ?_
        refine Aa (Ab (wX (wZ (wP I (Aa (Ab (wX (wZ (wP I (Aa (Ab ?_)))))))))))
        refine Au I (by((repeat (first|refine A3.same ?_|refine A3.off I ?_));exact tO)) ?_
        exact Al () ⟨I,tO⟩ [] (by decide) I
       ·refine wI I I (by decide) (by decide) (Aa (Ab (wX ?_)))
        refine RS.cons ?_ (RS.cons ?_ (RS.nil))
        ·refine wB 4 I I I (Aa (Ab (wX (wZ ?_))))
         refine wB 0 I I I ?_;refine Ah 76 (.agg #[str [50],str [50]]) I (by rw[←Dm];rfl) ?_
         refine Aa (Ab (wX (wZ ?_)))
         refine AQ [50] [50] [50] [50] I I I I I ?_;refine Ah 77 (.bool true) I I ?_
         refine Aa (Ab (wX (wZ (wP I (Aa (Ab (wX (wZ (wP I (Aa (Ab ?_)))))))))))
         refine Au I (by((repeat (first|refine A3.same ?_|refine A3.off I ?_));exact tO)) ?_
         exact Al () ⟨I,tO⟩ [] (by decide) I
        ·refine wB 0 I I I ?_;refine Ah 76 (.agg #[str [50],str [50]]) I (by rw[←Dm];rfl) ?_
         refine Aa (Ab (wX (wZ (wB 4 I I I (Aa (Ab (wX (wZ ?_))))))))
         refine AQ [50] [50] [50] [50] I I I I I ?_;refine Ah 77 (.bool true) I I ?_
         refine Aa (Ab (wX (wZ (wP I (Aa (Ab (wX (wZ (wP I (Aa (Ab ?_)))))))))))
         refine Au I (by((repeat (first|refine A3.same ?_|refine A3.off I ?_));exact tO)) ?_
         exact Al () ⟨I,tO⟩ [] (by decide) I
     ·refine wB 0 I I I ?_;refine Ah 69 (.agg #[str [48],str [48]]) I (by rw[←JL];rfl) ?_
      refine Aa (Ab (wX (wZ (wB 3 I I I (Aa (Ab (wX (wZ ?_))))))))
      refine AQ [48] [48] [48] [48] I I I I I ?_;refine Ah 70 (.bool true) I I ?_
      refine Aa (Ab (wX (wZ (wP I (Aa (Ab (wX (wZ (wP I (Aa (Ab (wX ?_))))))))))))
      refine RS.cons ?_ (RS.cons ?_ (RS.nil))
      ·refine wB 4 I I I (Aa (Ab (wX (wZ (wP I (Aa (Ab (wX (wZ (wI I I (by decide) (by decide) (Aa (Ab (wX ?_)))))))))))))
       refine wZ ?_
       refine wB 0 I I I ?_;refine Ah 76 (.agg #[str [50],str [50]]) I (by rw[←Dm];rfl) ?_
       refine Aa (Ab (wX (wZ ?_)))
       refine AQ [50] [50] [50] [50] I I I I I ?_;refine Ah 77 (.bool true) I I ?_
       refine Aa (Ab (wX (wZ (wP I (Aa (Ab (wX (wZ (wP I (Aa (Ab ?_)))))))))))
       refine Au I (by((repeat (first|refine A3.same ?_|refine A3.off I ?_));exact tO)) ?_
       exact Al () ⟨I,tO⟩ [] (by decide) I
      ·refine wP I (Aa (Ab (wX ?_)))
       refine RS.cons ?_ (RS.cons ?_ (RS.nil))
       ·refine wB 4 I I I (Aa (Ab (wX (wZ (wI I I (by decide) (by decide) (Aa (Ab (wX (wZ ?_)))))))))
        refine wB 0 I I I ?_;refine Ah 76 (.agg #[str [50],str [50]]) I (by rw[←Dm];rfl) ?_
        refine Aa (Ab (wX (wZ ?_)))
        refine AQ [50] [50] [50] [50] I I I I I ?_;refine Ah 77 (.bool true) I I ?_
        refine Aa (Ab (wX (wZ (wP I (Aa (Ab (wX (wZ (wP I (Aa (Ab ?_)))))))))))
        refine Au I (by((repeat (first|refine A3.same ?_|refine A3.off I ?_));exact tO)) ?_
        exact Al () ⟨I,tO⟩ [] (by decide) I
       ·refine wI I I (by decide) (by decide) (Aa (Ab (wX ?_)))
        refine RS.cons ?_ (RS.cons ?_ (RS.nil))
        ·refine wB 4 I I I (Aa (Ab (wX (wZ ?_))))
         refine wB 0 I I I ?_;refine Ah 76 (.agg #[str [50],str [50]]) I (by rw[←Dm];rfl) ?_
         refine Aa (Ab (wX (wZ ?_)))
         refine AQ [50] [50] [50] [50] I I I I I ?_;refine Ah 77 (.bool true) I I ?_
         refine Aa (Ab (wX (wZ (wP I (Aa (Ab (wX (wZ (wP I (Aa (Ab ?_)))))))))))
         refine Au I (by((repeat (first|refine A3.same ?_|refine A3.off I ?_));exact tO)) ?_
         exact Al () ⟨I,tO⟩ [] (by decide) I
        ·refine wB 0 I I I ?_;refine Ah 76 (.agg #[str [50],str [50]]) I (by rw[←Dm];rfl) ?_
         refine Aa (Ab (wX (wZ (wB 4 I I I (Aa (Ab (wX (wZ ?_))))))))
         refine AQ [50] [50] [50] [50] I I I I I ?_;refine Ah 77 (.bool true) I I ?_
         refine Aa (Ab (wX (wZ (wP I (Aa (Ab (wX (wZ (wP I (Aa (Ab ?_)))))))))))
         refine Au I (by((repeat (first|refine A3.same ?_|refine A3.off I ?_));exact tO)) ?_
         exact Al () ⟨I,tO⟩ [] (by decide) I
  ·refine Ay Tryz.hZ tH I I I I I I I I ?_
   refine Aa (Ab (wX (wZ (wB 2 I I I (Aa (Ab (wX (wZ ?_))))))))
   refine AQ [49,47,51] [49,47,51] [49,47,51] [49,47,51] I I I I I ?_;refine Ah 60 (.bool true) I I ?_
   refine Aa (Ab (wX (wZ (wP I (Aa (Ab (wX (wZ (wP I (Aa (Ab (wX (wZ ?_)))))))))))))
   refine wP I (Aa (Ab (wX (wZ (wP I (Aa (Ab (wX (wZ (wP I (Aa (Ab (wX ?_)))))))))))))
   refine RS.cons ?_ (RS.cons ?_ (RS.nil))
   ·refine wB 3 I I I (Aa (Ab (wX (wZ (wP I (Aa (Ab (wX (wZ (wI I I (by decide) (by decide) (Aa (Ab (wX ?_)))))))))))))
    refine wZ ?_
    refine wB 0 I I I ?_;refine Ah 69 (.agg #[str [48],str [48]]) I (by rw[←JL];rfl) ?_
    refine Aa (Ab (wX (wZ ?_)))
    refine AQ [48] [48] [48] [48] I I I I I ?_;refine Ah 70 (.bool true) I I ?_
    refine Aa (Ab (wX (wZ (wP I (Aa (Ab (wX (wZ (wP I (Aa (Ab (wX ?_))))))))))))
    refine RS.cons ?_ (RS.cons ?_ (RS.nil))
    ·refine wB 4 I I I (Aa (Ab (wX (wZ (wP I (Aa (Ab (wX (wZ (wI I I (by decide) (by decide) (Aa (Ab (wX ?_)))))))))))))
     refine wZ ?_
     refine wB 0 I I I ?_;refine Ah 76 (.agg #[str [50],str [50]]) I (by rw[←Dm];rfl) ?_
     refine Aa (Ab (wX (wZ ?_)))
     refine AQ [50] [50] [50] [50] I I I I I ?_;refine Ah 77 (.bool true) I I ?_
     refine Aa (Ab (wX (wZ (wP I (Aa (Ab (wX (wZ (wP I (Aa (Ab ?_)))))))))))
     refine Au I (by((repeat (first|refine A3.same ?_|refine A3.off I ?_));exact tO)) ?_
     exact Al () ⟨I,tO⟩ [] (by decide) I
    ·refine wP I (Aa (Ab (wX ?_)))
     refine RS.cons ?_ (RS.cons ?_ (RS.nil))
     ·refine wB 4 I I I (Aa (Ab (wX (wZ (wI I I (by decide) (by decide) (Aa (Ab (wX (wZ ?_)))))))))
      refine wB 0 I I I ?_;refine Ah 76 (.agg #[str [50],str [50]]) I (by rw[←Dm];rfl) ?_
      refine Aa (Ab (wX (wZ ?_)))
      refine AQ [50] [50] [50] [50] I I I I I ?_;refine Ah 77 (.bool true) I I ?_
      refine Aa (Ab (wX (wZ (wP I (Aa (Ab (wX (wZ (wP I (Aa (Ab ?_)))))))))))
      refine Au I (by((repeat (first|refine A3.same ?_|refine A3.off I ?_));exact tO)) ?_
      exact Al () ⟨I,tO⟩ [] (by decide) I
     ·refine wI I I (by decide) (by decide) (Aa (Ab (wX ?_)))
      refine RS.cons ?_ (RS.cons ?_ (RS.nil))
      ·refine wB 4 I I I (Aa (Ab (wX (wZ ?_))))
       refine wB 0 I I I ?_;refine Ah 76 (.agg #[str [50],str [50]]) I (by rw[←Dm];rfl) ?_
       refine Aa (Ab (wX (wZ ?_)))
       refine AQ [50] [50] [50] [50] I I I I I ?_;refine Ah 77 (.bool true) I I ?_
       refine Aa (Ab (wX (wZ (wP I (Aa (Ab (wX (wZ (wP I (Aa (Ab ?_)))))))))))
       refine Au I (by((repeat (first|refine A3.same ?_|refine A3.off I ?_));exact tO)) ?_
       exact Al () ⟨I,tO⟩ [] (by decide) I
      ·refine wB 0 I I I ?_;refine Ah 76 (.agg #[str [50],str [50]]) I (by rw[←Dm];rfl) ?_
       refine Aa (Ab (wX (wZ (wB 4 I I I (Aa (Ab (wX (wZ ?_))))))))
       refine AQ [50] [50] [50] [50] I I I I I ?_;refine Ah 77 (.bool true) I I ?_
       refine Aa (Ab (wX (wZ (wP I (Aa (Ab (wX (wZ (wP I (Aa (Ab ?_)))))))))))
       refine Au I (by((repeat (first|refine A3.same ?_|refine A3.off I ?_));exact tO)) ?_
       exact Al () ⟨I,tO⟩ [] (by decide) I
   ·refine wP I (Aa (Ab (wX ?_)))
    refine RS.cons ?_ (RS.cons ?_ (RS.nil))
    ·refine wB 3 I I I (Aa (Ab (wX (wZ (wI I I (by decide) (by decide) (Aa (Ab (wX (wZ ?_)))))))))
     refine wB 0 I I I ?_;refine Ah 69 (.agg #[str [48],str [48]]) I (by rw[←JL];rfl) ?_
     refine Aa (Ab (wX (wZ ?_)))
     refine AQ [48] [48] [48] [48] I I I I I ?_;refine Ah 70 (.bool true) I I ?_
     refine Aa (Ab (wX (wZ (wP I (Aa (Ab (wX (wZ (wP I (Aa (Ab (wX ?_))))))))))))
     refine RS.cons ?_ (RS.cons ?_ (RS.nil))
     ·refine wB 4 I I I (Aa (Ab (wX (wZ (wP I (Aa (Ab (wX (wZ (wI I I (by decide) (by decide) (Aa (Ab (wX ?_)))))))))))))
      refine wZ ?_
      refine wB 0 I I I ?_;refine Ah 76 (.agg #[str [50],str [50]]) I (by rw[←Dm];rfl) ?_
      refine Aa (Ab (wX (wZ ?_)))
      refine AQ [50] [50] [50] [50] I I I I I ?_;refine Ah 77 (.bool true) I I ?_
      refine Aa (Ab (wX (wZ (wP I (Aa (Ab (wX (wZ (wP I (Aa (Ab ?_)))))))))))
      refine Au I (by((repeat (first|refine A3.same ?_|refine A3.off I ?_));exact tO)) ?_
      exact Al () ⟨I,tO⟩ [] (by decide) I
     ·refine wP I (Aa (Ab (wX ?_)))
      refine RS.cons ?_ (RS.cons ?_ (RS.nil))
      ·refine wB 4 I I I (Aa (Ab (wX (wZ (wI I I (by decide) (by decide) (Aa (Ab (wX (wZ ?_)))))))))
       refine wB 0 I I I ?_;refine Ah 76 (.agg #[str [50],str [50]]) I (by rw[←Dm];rfl) ?_
       refine Aa (Ab (wX (wZ ?_)))
       refine AQ [50] [50] [50] [50] I I I I I ?_;refine Ah 77 (.bool true) I I ?_
       refine Aa (Ab (wX (wZ (wP I (Aa (Ab (wX (wZ (wP I (Aa (Ab ?_)))))))))))
       refine Au I (by((repeat (first|refine A3.same ?_|refine A3.off I ?_));exact tO)) ?_
       exact Al () ⟨I,tO⟩ [] (by decide) I
      ·refine wI I I (by decide) (by decide) (Aa (Ab (wX ?_)))
       refine RS.cons ?_ (RS.cons ?_ (RS.nil))
       ·refine wB 4 I I I (Aa (Ab (wX (wZ ?_))))
        refine wB 0 I I I ?_;refine Ah 76 (.agg #[str [50],str [50]]) I (by rw[←Dm];rfl) ?_
        refine Aa (Ab (wX (wZ ?_)))
        refine AQ [50] [50] [50] [50] I I I I I ?_;refine Ah 77 (.bool true) I I ?_
        refine Aa (Ab (wX (wZ (wP I (Aa (Ab (wX (wZ (wP I (Aa (Ab ?_)))))))))))
        refine Au I (by((repeat (first|refine A3.same ?_|refine A3.off I ?_));exact tO)) ?_
        exact Al () ⟨I,tO⟩ [] (by decide) I
       ·refine wB 0 I I I ?_;refine Ah 76 (.agg #[str [50],str [50]]) I (by rw[←Dm];rfl) ?_
        refine Aa (Ab (wX (wZ (wB 4 I I I (Aa (Ab (wX (wZ ?_))))))))
        refine AQ [50] [50] [50] [50] I I I I I ?_;refine Ah 77 (.bool true) I I ?_
        refine Aa (Ab (wX (wZ (wP I (Aa (Ab (wX (wZ (wP I (Aa (Ab ?_)))))))))))
        refine Au I (by((repeat (first|refine A3.same ?_|refine A3.off I ?_));exact tO)) ?_
        exact Al () ⟨I,tO⟩ [] (by decide) I
    ·refine wI I I (by decide) (by decide) (Aa (Ab (wX ?_)))
     refine RS.cons ?_ (RS.cons ?_ (RS.nil))
     ·refine wB 3 I I I (Aa (Ab (wX (wZ ?_))))
      refine wB 0 I I I ?_;refine Ah 69 (.agg #[str [48],str [48]]) I (by rw[←JL];rfl) ?_
      refine Aa (Ab (wX (wZ ?_)))
      refine AQ [48] [48] [48] [48] I I I I I ?_;refine Ah 70 (.bool true) I I ?_
      refine Aa (Ab (wX (wZ (wP I (Aa (Ab (wX (wZ (wP I (Aa (Ab (wX ?_))))))))))))
      refine RS.cons ?_ (RS.cons ?_ (RS.nil))
      ·refine wB 4 I I I (Aa (Ab (wX (wZ (wP I (Aa (Ab (wX (wZ (wI I I (by decide) (by decide) (Aa (Ab (wX ?_)))))))))))))
       refine wZ ?_
       refine wB 0 I I I ?_;refine Ah 76 (.agg #[str [50],str [50]]) I (by rw[←Dm];rfl) ?_
       refine Aa (Ab (wX (wZ ?_)))
       refine AQ [50] [50] [50] [50] I I I I I ?_;refine Ah 77 (.bool true) I I ?_
       refine Aa (Ab (wX (wZ (wP I (Aa (Ab (wX (wZ (wP I (Aa (Ab ?_)))))))))))
       refine Au I (by((repeat (first|refine A3.same ?_|refine A3.off I ?_));exact tO)) ?_
       exact Al () ⟨I,tO⟩ [] (by decide) I
      ·refine wP I (Aa (Ab (wX ?_)))
       refine RS.cons ?_ (RS.cons ?_ (RS.nil))
       ·refine wB 4 I I I (Aa (Ab (wX (wZ (wI I I (by decide) (by decide) (Aa (Ab (wX (wZ ?_)))))))))
        refine wB 0 I I I ?_;refine Ah 76 (.agg #[str [50],str [50]]) I (by rw[←Dm];rfl) ?_
        refine Aa (Ab (wX (wZ ?_)))
        refine AQ [50] [50] [50] [50] I I I I I ?_;refine Ah 77 (.bool true) I I ?_
        refine Aa (Ab (wX (wZ (wP I (Aa (Ab (wX (wZ (wP I (Aa (Ab ?_)))))))))))
        refine Au I (by((repeat (first|refine A3.same ?_|refine A3.off I ?_));exact tO)) ?_
        exact Al () ⟨I,tO⟩ [] (by decide) I
       ·refine wI I I (by decide) (by decide) (Aa (Ab (wX ?_)))
        refine RS.cons ?_ (RS.cons ?_ (RS.nil))
        ·refine wB 4 I I I (Aa (Ab (wX (wZ ?_))))
         refine wB 0 I I I ?_;refine Ah 76 (.agg #[str [50],str [50]]) I (by rw[←Dm];rfl) ?_
         refine Aa (Ab (wX (wZ ?_)))
         refine AQ [50] [50] [50] [50] I I I I I ?_;refine Ah 77 (.bool true) I I ?_
         refine Aa (Ab (wX (wZ (wP I (Aa (Ab (wX (wZ (wP I (Aa (Ab ?_)))))))))))
         refine Au I (by((repeat (first|refine A3.same ?_|refine A3.off I ?_));exact tO)) ?_
         exact Al () ⟨I,tO⟩ [] (by decide) I
        ·refine wB 0 I I I ?_;refine Ah 76 (.agg #[str [50],str [50]]) I (by rw[←Dm];rfl) ?_
         refine Aa (Ab (wX (wZ (wB 4 I I I (Aa (Ab (wX (wZ ?_))))))))
         refine AQ [50] [50] [50] [50] I I I I I ?_;refine Ah 77 (.bool true) I I ?_
         refine Aa (Ab (wX (wZ (wP I (Aa (Ab (wX (wZ (wP I (Aa (Ab ?_)))))))))))
         refine Au I (by((repeat (first|refine A3.same ?_|refine A3.off I ?_));exact tO)) ?_
         exact Al () ⟨I,tO⟩ [] (by decide) I
     ·refine wB 0 I I I ?_;refine Ah 69 (.agg #[str [48],str [48]]) I (by rw[←JL];rfl) ?_
      refine Aa (Ab (wX (wZ (wB 3 I I I (Aa (Ab (wX (wZ ?_))))))))
      refine AQ [48] [48] [48] [48] I I I I I ?_;refine Ah 70 (.bool true) I I ?_
      refine Aa (Ab (wX (wZ (wP I (Aa (Ab (wX (wZ (wP I (Aa (Ab (wX ?_))))))))))))
      refine RS.cons ?_ (RS.cons ?_ (RS.nil))
      ·refine wB 4 I I I (Aa (Ab (wX (wZ (wP I (Aa (Ab (wX (wZ (wI I I (by decide) (by decide) (Aa (Ab (wX ?_)))))))))))))
       refine wZ ?_
       refine wB 0 I I I ?_;refine Ah 76 (.agg #[str [50],str [50]]) I (by rw[←Dm];rfl) ?_
       refine Aa (Ab (wX (wZ ?_)))
       refine AQ [50] [50] [50] [50] I I I I I ?_;refine Ah 77 (.bool true) I I ?_
       refine Aa (Ab (wX (wZ (wP I (Aa (Ab (wX (wZ (wP I (Aa (Ab ?_)))))))))))
       refine Au I (by((repeat (first|refine A3.same ?_|refine A3.off I ?_));exact tO)) ?_
       exact Al () ⟨I,tO⟩ [] (by decide) I
      ·refine wP I (Aa (Ab (wX ?_)))
       refine RS.cons ?_ (RS.cons ?_ (RS.nil))
       ·refine wB 4 I I I (Aa (Ab (wX (wZ (wI I I (by decide) (by decide) (Aa (Ab (wX (wZ ?_)))))))))
        refine wB 0 I I I ?_;refine Ah 76 (.agg #[str [50],str [50]]) I (by rw[←Dm];rfl) ?_
        refine Aa (Ab (wX (wZ ?_)))
        refine AQ [50] [50] [50] [50] I I I I I ?_;refine Ah 77 (.bool true) I I ?_
        refine Aa (Ab (wX (wZ (wP I (Aa (Ab (wX (wZ (wP I (Aa (Ab ?_)))))))))))
        refine Au I (by((repeat (first|refine A3.same ?_|refine A3.off I ?_));exact tO)) ?_
        exact Al () ⟨I,tO⟩ [] (by decide) I
       ·refine wI I I (by decide) (by decide) (Aa (Ab (wX ?_)))
        refine RS.cons ?_ (RS.cons ?_ (RS.nil))
        ·refine wB 4 I I I (Aa (Ab (wX (wZ ?_))))
         refine wB 0 I I I ?_;refine Ah 76 (.agg #[str [50],str [50]]) I (by rw[←Dm];rfl) ?_
         refine Aa (Ab (wX (wZ ?_)))
         refine AQ [50] [50] [50] [50] I I I I I ?_;refine Ah 77 (.bool true) I I ?_
         refine Aa (Ab (wX (wZ (wP I (Aa (Ab (wX (wZ (wP I (Aa (Ab ?_)))))))))))
         refine Au I (by((repeat (first|refine A3.same ?_|refine A3.off I ?_));exact tO)) ?_
         exact Al () ⟨I,tO⟩ [] (by decide) I
        ·refine wB 0 I I I ?_;refine Ah 76 (.agg #[str [50],str [50]]) I (by rw[←Dm];rfl) ?_
         refine Aa (Ab (wX (wZ (wB 4 I I I (Aa (Ab (wX (wZ ?_))))))))
         refine AQ [50] [50] [50] [50] I I I I I ?_;refine Ah 77 (.bool true) I I ?_
         refine Aa (Ab (wX (wZ (wP I (Aa (Ab (wX (wZ (wP I (Aa (Ab ?_)))))))))))
         refine Au I (by((repeat (first|refine A3.same ?_|refine A3.off I ?_));exact tO)) ?_
         exact Al () ⟨I,tO⟩ [] (by decide) I
 intro _
 exact zE (zO (wR1 I I I))
-- BOXES 8
-- CODE2
def Ei (V:Vec):Option Addr:=V.p.map fun g=>⟨g,0,none⟩
def E3 (V:Vec):Nat:=match V.p with
 |none=>0
 |some _=>V.cap
theorem Fl {V:Vec} {l:List Ak} (h:V.OK 2 l.length (ptC l)):V.val l.length=slv (Ei V) l.length (E3 V):=by
 obtain⟨p,c,j⟩:=V
 cases p with
 |none=>
  have e:l.length=0:=h.nil rfl
  rw[e];rfl
 |some g=>rfl
theorem LK {W0 W:World} {bxs:List Bx} (hp:Hp W0 bxs W) (k:Nat) {V:Vec} {l:List Ak} (h:V.OK 2 l.length (ptC l)) (hk:nth bxs k=some (V.bx 35 (ptC l))):Cf W (Ei V) l:=by
 obtain⟨p,c,j⟩:=V
 cases p with
 |none=>
  have e:l.length=0:=h.nil rfl
  exact .inl (List.length_eq_zero_iff.1 e)
 |some g=>exact Cf.of_row (Aj.of_bx hp k hk rfl)
def lnF (p q:Ak):AW:=⟨q.2-p.2,p.1-q.1,(q.2-p.2)*p.1+(p.1-q.1)*p.2⟩
structure H6 (p q:Ak):Prop where
 a:BE q.2 p.2
 b:BE p.1 q.1
 c:BY (q.2-p.2) p.1
 d:BY (p.1-q.1) p.2
 e:Cj ((q.2-p.2)*p.1) ((p.1-q.1)*p.2)
def lnE (p q:Ak):AW×Bool:=
 (⟨(kSb false q.2 p.2).1,(kSb (kSb false q.2 p.2).2 p.1 q.1).1,(kAd (kMu (kMu (kSb (kSb false q.2 p.2).2 p.1 q.1).2 (kSb false q.2 p.2).1 p.1).2 (kSb (kSb false q.2 p.2).2 p.1 q.1).1 p.2).2 (kMu (kSb (kSb false q.2 p.2).2 p.1 q.1).2 (kSb false q.2 p.2).1 p.1).1 (kMu (kMu (kSb (kSb false q.2 p.2).2 p.1 q.1).2 (kSb false q.2 p.2).1 p.1).2 (kSb (kSb false q.2 p.2).2 p.1 q.1).1 p.2).1).1⟩,
 (kAd (kMu (kMu (kSb (kSb false q.2 p.2).2 p.1 q.1).2 (kSb false q.2 p.2).1 p.1).2 (kSb (kSb false q.2 p.2).2 p.1 q.1).1 p.2).2 (kMu (kSb (kSb false q.2 p.2).2 p.1 q.1).2 (kSb false q.2 p.2).1 p.1).1 (kMu (kMu (kSb (kSb false q.2 p.2).2 p.1 q.1).2 (kSb false q.2 p.2).1 p.1).2 (kSb (kSb false q.2 p.2).2 p.1 q.1).1 p.2).1).2)
theorem SY {p q:Ak} (h:H6 p q):lnE p q=(lnF p q,false):=by
 have a:kSb false q.2 p.2=(q.2-p.2,false):=B5 h.a
 have b:kSb false p.1 q.1=(p.1-q.1,false):=B5 h.b
 have c:kMu false (q.2-p.2) p.1=((q.2-p.2)*p.1,false):=B5 h.c
 have d:kMu false (p.1-q.1) p.2=((p.1-q.1)*p.2,false):=B5 h.d
 have e:kAd false ((q.2-p.2)*p.1) ((p.1-q.1)*p.2)=((q.2-p.2)*p.1+(p.1-q.1)*p.2,false):=B5 h.e
 unfold lnE
 simp only[a,b,c,d,e]
 rfl
theorem VL {p q:Ak}:(lnE p q).2=false↔H6 p q:=by
 refine⟨fun h=> ?_,fun h=>by rw[SY h]⟩
 unfold lnE at h
 have h5:=D3.1 h
 have h4:=D3.1 h5.1
 have h3:=D3.1 h4.1
 have h2:=D3.1 h3.1
 have h1:=D3.1 h2.1
 have a:=h1.2
 have ea:kSb false q.2 p.2=(q.2-p.2,false):=B5 a
 have b:=h2.2
 have eb:kSb false p.1 q.1=(p.1-q.1,false):=B5 b
 have c:=h3.2
 have d:=h4.2
 have e:=h5.2
 simp only[ea,eb] at c d e
 have ec:kMu false (q.2-p.2) p.1=((q.2-p.2)*p.1,false):=B5 c
 have ed:kMu false (p.1-q.1) p.2=((p.1-q.1)*p.2,false):=B5 d
 simp only[ec,ed] at e
 exact⟨a,b,c,d,e⟩
theorem Vc (p q:Ak):okQ (lnE p q).1.a∧okQ (lnE p q).1.b∧okQ (lnE p q).1.c:=⟨E8 _ _ _,E8 _ _ _,KH _ _ _⟩
inductive Mt (l M:List Ak):Nat→List Ak→Prop
 |zero:Mt l M 0 l
 |step {i:Nat} {D:List Ak}:Mt l M i D→D≠[]→H6 (Ae M i) (Ae M (i+1))→CQ (lnF (Ae M i) (Ae M (i+1))) D→Mt l M (i+1) (Bs (lnF (Ae M i) (Ae M (i+1))) D)
theorem Mt.det {l M:List Ak}: ∀ {i:Nat} {D D':List Ak},Mt l M i D→Mt l M i D'→D=D'
 |0,_,_, .zero, .zero=>rfl
 |_+1,_,_, .step h _ _ _, .step h' _ _ _=>by rw[h.det h']
theorem Mt.prev {l M:List Ak}: ∀ {j i:Nat} {D':List Ak},Mt l M j D'→i<j→ ∃D,Mt l M i D∧D≠[]∧H6 (Ae M i) (Ae M (i+1))∧CQ (lnF (Ae M i) (Ae M (i+1))) D
 |0,_,_,_,hi=>absurd hi (Nat.not_lt_zero _)
 |j+1,i,_, .step (D:=D) h hD h1 h2,hi=>by
  by_cases e:i=j
  ·subst e;exact⟨D,h,hD,h1,h2⟩
  ·exact h.prev (by omega)
def EC (l M L:List Ak) (e:Bool):Prop:=(e=false∧ ∃i,i≤M.length∧Mt l M i L∧(i=M.length∨L=[]))∨(e=true∧L=[]∧ ∃i D,i<M.length∧Mt l M i D∧D≠[]∧ ¬(H6 (Ae M i) (Ae M (i+1))∧CQ (lnF (Ae M i) (Ae M (i+1))) D))
theorem EC.mix {l M L D:List Ak} {i j:Nat} (h:Mt l M i L) (hL:i=M.length∨L=[]) (hj:j<M.length) (h':Mt l M j D) (hD:D≠[]) (hn: ¬(H6 (Ae M j) (Ae M (j+1))∧CQ (lnF (Ae M j) (Ae M (j+1))) D)):False:=by
 rcases Nat.lt_trichotomy i j with c|c|c
 ·obtain⟨D1,a,b,_,_⟩:=h'.prev c
  rcases hL with e|e
  ·omega
  ·rw[a.det h] at b;exact b e
 ·subst c
  rcases hL with e|e
  ·omega
  ·rw[h'.det h] at hD;exact hD e
 ·obtain⟨D1,a,_,c1,c2⟩:=h.prev c
  rw[a.det h'] at c2
  exact hn ⟨c1,c2⟩
theorem EC.det {l M L L':List Ak} {e e':Bool} (h:EC l M L e) (h':EC l M L' e'):L=L'∧e=e':=by
 rcases h with⟨rfl,i,hi,h,hL⟩|⟨rfl,rfl,i,D,hi,h,hD,hn⟩<;>rcases h' with⟨rfl,j,hj,h',hL'⟩|⟨rfl,rfl,j,D',hj,h',hD',hn'⟩
 ·refine⟨?_,I⟩
  rcases Nat.lt_trichotomy i j with c|c|c
  ·obtain⟨D1,a,b,_,_⟩:=h'.prev c
   rcases hL with e|e
   ·omega
   ·rw[a.det h] at b;exact absurd e b
  ·subst c;exact h.det h'
  ·obtain⟨D1,a,b,_,_⟩:=h.prev c
   rcases hL' with e|e
   ·omega
   ·rw[a.det h'] at b;exact absurd e b
 ·exact(EC.mix h hL hj h' hD' hn').elim
 ·exact(EC.mix h' hL' hi h hD hn).elim
 ·exact⟨I,I⟩
theorem Il (f:AW) (l:List Ak):(Bs f l).length≤2*l.length:=by
 unfold Bs
 split
 ·have h1:(Bp (AT f l)).length=(AT f l).length:=K8 (Mq _)
  rw[h1]
  exact Fe f l l.length
 ·exact Nat.zero_le _
theorem Qq {f:AW} {l:List Ak} (hq: ∀x∈l,okP x) (h0:0<l.length) (h:CQ f l): ∀y∈Bs f l,okP y:=by
 have h1:=MA (f:=f) hq h0 l.length
 rw[Oz h.c] at h1
 unfold Bs
 split
 ·intro y hy
  rcases List.mem_append.1 (show y∈(AT f l).drop _++(AT f l).take _ from hy) with c|c
  ·exact h1 y (List.mem_of_mem_drop c)
  ·exact h1 y (List.mem_of_mem_take c)
 ·exact fun y hy=>absurd hy List.not_mem_nil
theorem Mt.fit {l M:List Ak} (hl:l.length≤8) (hq: ∀x∈l,okP x): ∀ {i:Nat} {D:List Ak},Mt l M i D→(∀y∈D,okP y)∧D.length≤8*2^i
 |0,_, .zero=>⟨hq,hl⟩
 |i+1,_, .step (D:=D) h hD _ h2=>by
  obtain⟨a,b⟩:=h.fit hl hq
  refine⟨Qq a (List.length_pos_iff.2 hD) h2, ?_⟩
  have:=Il (lnF (Ae M i) (Ae M (i+1))) D
  rw[Nat.pow_succ]
  omega
theorem Mt.fit8 {l M:List Ak} (hl:l.length≤8) (hq: ∀x∈l,okP x) {i:Nat} {D:List Ak} (h:Mt l M i D) (hi:i<8):(∀y∈D,okP y)∧D.length≤4096:=by
 obtain⟨a,b⟩:=h.fit hl hq
 refine⟨a,Nat.le_trans b ?_⟩
 have:2^i≤2^7:=Nat.pow_le_pow_right (by decide) (by omega)
 omega
-- BOXES 14
-- CODE2
def StM (p:Option Addr) (cap:Nat) (l:List Ak) (k:Nat) (pO:Option Addr) (cO:Nat) (o:Bx) (D:List Ak):Prop:=
 (k=0∧pO=p∧cO=cap∧D=l)∨ ∃V:Vec,pO=Ei V∧cO=E3 V∧o=V.bx 35 (ptC D)∧V.OK 2 D.length (ptC D)
theorem StM.pts {p:Option Addr} {cap:Nat} {l:List Ak} {k:Nat} {pO:Option Addr} {cO:Nat} {o:Bx} {D:List Ak} (h:StM p cap l k pO cO o D) {W W1:World} {bxs:List Bx} (hA:Cf W p l) (hp:Hp W bxs W1) (j:Nat) (hj:nth bxs j=some o):Cf W1 pO D:=by
 rcases h with⟨_,rfl,_,rfl⟩|⟨V,rfl,_,rfl,hV⟩
 ·exact hA.hp hp
 ·exact LK hp j hV hj
abbrev erB (b:Nat) (e:Int):Bx:=⟨b,27,[.int .i64 e],true,none⟩
def IW (xs ys:List PtS) (L:List Ak) (e:Int):Prop:=(∃l M z,xs=l.map cvS∧ys=M.map cvS∧JU xs∧JU ys∧EC l M L z∧e=erI z)∨(¬(JU xs∧JU ys)∧L=[]∧e=1)
theorem IW.det {xs ys:List PtS} {L L':List Ak} {e e':Int} (h:IW xs ys L e) (h':IW xs ys L' e'):L=L'∧e=e':=by
 rcases h with⟨l,M,z,h1,h2,h3,h4,h5,rfl⟩|⟨hn,rfl,rfl⟩<;>rcases h' with⟨l',M',z',h1',h2',_,_,h5',rfl⟩|⟨hn',rfl,rfl⟩
 ·obtain rfl:=II (h1.symm.trans h1')
  obtain rfl:=II (h2.symm.trans h2')
  obtain⟨rfl,rfl⟩:=h5.det h5'
  exact⟨I,I⟩
 ·exact absurd ⟨h3,h4⟩ hn'
 ·rename_i h3' h4'
  exact absurd ⟨h3',h4'⟩ hn
 ·exact⟨I,I⟩
theorem PU (xs ys:List PtS) (hx:xs.length≤8) (hy:ys.length≤8) (hxs: ∀x∈xs,x.1.length≤604∧x.2.length≤604) (hys: ∀x∈ys,x.1.length≤604∧x.2.length≤604) (p q:Option Addr) (cap cap2:Nat) (W:World) (hA:Ek W p xs) (hB:Ek W q ys) (hv:BO W) (ht:AI W):
  Ai Tryz.prog 21 #[slv p xs.length cap,slv q ys.length cap2] W (fun x:Vec×List Ak×Int=> .tuple #[x.1.val x.2.1.length, .int .i64 x.2.2]) (fun x=>x.1.OK 2 x.2.1.length (ptC x.2.1)∧IW xs ys x.2.1 x.2.2) (fun x=>[x.1.bx 35 (ptC x.2.1)]):=by
 have nilR: ∀ {W1:World},Ap W W1 [Vec.empty.bx 35 (ptC [])]:=fun {W1}=>Own.one (fun p hp=>by cases hp) List.nodup_nil
 refine Ac (args:=[slv p xs.length cap,slv q ys.length cap2]) Tryz.func21 I I I ?_
 refine zA (zB ?_)
 (refine Af Tryz.hZ rfl rfl rfl rfl ?_;intro)
 (refine Af Tryz.hZ rfl rfl rfl rfl ?_;intro)
 refine Aa ?_
 rename_i b4 b5
 refine zE (zA (zA (zB (wP I ?_))))
 refine wD (X:=Int) I I (fun W1 hp=>L4 W1 p cap xs (hA.hp hp) (by omega) hxs (hv.hp hp) (ht.hp hp)) ?_
 intro e1 he1
 have he1:e1=0↔JU xs:=he1
 refine wP I ?_
 by_cases h1:e1=0
 rotate_left
 ·refine wU 14 true I (bne_iff_ne.2 h1) (wP I ?_)
  iterate 3 refine Ao I I ?_
  exact wP I (Aa (zE (zR I (zA (zB (wS 0 I I I (wS 1 I I I (Aa (zE (zO (zP (A7 tH I (.cell 0 I I I I I) (.cell 1 I I I I I) (Vec.empty,[],1) I ⟨Vec.OK.empty 2, .inr ⟨fun h=>h1 (he1.2 h.1),I,I⟩⟩ fun W1 hp=>nilR))))))))))))
 refine wU 14 false I (bne_eq_false_iff_eq.2 h1) (wP I (wP I ?_))
 refine wD (X:=Int) I I (fun W1 hp=>L4 W1 q cap2 ys (hB.hp hp) (by omega) hys (hv.hp hp) (ht.hp hp)) ?_
 intro e2 he2
 have he2:e2=0↔JU ys:=he2
 refine wP I ?_
 by_cases h2:e2=0
 rotate_left
 ·exact wU 18 true I (bne_iff_ne.2 h2) (wP I (Aa (zE (zR I (zA (zB (wS 0 I I I (wS 1 I I I (Aa (zE (zO (zP (A7 tH I (.cell 0 I I I I I) (.cell 1 I I I I I) (Vec.empty,[],1) I ⟨Vec.OK.empty 2, .inr ⟨fun h=>h2 (he2.2 h.2),I,I⟩⟩ fun W1 hp=>nilR)))))))))))))
 have hV1:=he1.1 h1
 have hV2:=he2.1 h2
 refine wU 18 false I (bne_eq_false_iff_eq.2 h2) (wP I (Aa (zE (zS I (zI (zE (zA (zB ?_))))))))
 obtain⟨l,hl,hl3,hlq,_⟩:=id hV1
 obtain⟨M,hM,hM3,hMq,_⟩:=id hV2
 have hX: ∀L z,EC l M L z→IW xs ys L (erI z):=fun L z h=> .inl ⟨l,M,z,hl,hM,hV1,hV2,h,rfl⟩
 have exl:xs.length=l.length:=by rw[hl,List.length_map]
 have eyl:ys.length=M.length:=by rw[hM,List.length_map]
 have hAl:Cf W p l:=Ek.p (by rw[hl] at hA;exact hA)
 have hBl:Cf W q M:=Ek.p (by rw[hM] at hB;exact hB)
 rw[exl] at hx
 rw[eyl] at hy
 rw[exl,eyl]
 have okM: ∀j,okP (Ae M j):=fun j=>hMq _ (B2 (by omega) j)
 clear hl hM
 refine Ay Tryz.hZ tH I I I I I I I I ?_
 (refine At rfl rfl rfl rfl ?_;intro)
 (refine Af Tryz.hZ rfl rfl rfl rfl ?_;intro)
 refine wS 3 I I I (Aa ?_)
 rename_i bC b6
 refine zE (zA (zB (wP I ?_)))
 (refine Af Tryz.hZ rfl rfl rfl rfl ?_;intro)
 refine wS 4 I I I (Aa ?_)
 rename_i b7
 refine zE (zA (zA (zB (wP I ?_))))
 refine wD (X:=Nat) I I (fun W1 _=>C3 q M.length cap2 W1) ?_
 intro bp _
 refine Aa (zE (zH ?_))
 refine De ?_
 refine DM (X:=Option Addr×Nat×Bx×List Ak×Bool×Bool) (fun x=>[lsB b4 (.slice none 0 0),erB b5 (erI x.2.2.2.2.2),caE bC x.2.2.2.2.1,ckB b6 bC,lsB b7 (slv x.1 x.2.2.2.1.length x.2.1),lsB bp (slv q M.length cap2),x.2.2.1])
  (fun k x=>x.2.2.2.2.1=false∧x.2.2.2.2.2=false∧StM p cap l k x.1 x.2.1 x.2.2.1 x.2.2.2.1∧Mt l M k x.2.2.2.1∧x.2.2.2.1≠[]) (fun c x=>c= .ret∧EC l M [] x.2.2.2.2.2) (p,cap,JZ,l,false,false) rfl (by kernel_rfl) (CF M bp q cap2 (by omega)) (fun _=>rfl)
  ⟨rfl,rfl, .inl ⟨rfl,rfl,rfl,rfl⟩, .zero,(by rintro rfl;simp at hl3)⟩ [] rfl (fun k x W1 _ hp=>⟨Aj.of_bx hp 5 rfl rfl,hBl.hp hp⟩) ?_ ?_ ?_
 ·rintro k ⟨pO,cO,o,D,s,z⟩ d l' rec L hk ⟨e3,e4,hSt,hMt,hD⟩ hrec
  obtain rfl:s=false:=e3
  obtain rfl:z=false:=e4
  have hk:k<M.length:=hk
  have hSt:StM p cap l k pO cO o D:=hSt
  have hMt:Mt l M k D:=hMt
  have hD:D≠[]:=hD
  have hfit:=hMt.fit8 hx hlq (by omega)
  obtain⟨P,hP⟩: ∃P,P=Ae M k:=⟨_,rfl⟩
  obtain⟨Q,hQ⟩: ∃Q,Q=Ae M (k+1):=⟨_,rfl⟩
  have okPP:okP P:=hP▸okM k
  have okQQ:okP Q:=hQ▸okM (k+1)
  have hno: ¬(H6 P Q∧CQ (lnF P Q) D)→EC l M [] true:=fun h=> .inr ⟨rfl,rfl,k,D,hk,hMt,hD,by rw[←hP, ←hQ];exact h⟩
  have hyes:H6 P Q→CQ (lnF P Q) D→Mt l M (k+1) (Bs (lnF P Q) D):=fun a b=>by
   have:=Mt.step hMt hD (by rw[←hP, ←hQ];exact a) (by rw[←hP, ←hQ];exact b)
   rwa [←hP, ←hQ] at this
  obtain⟨x1,y1⟩: ∃x,x=kSb false Q.2 P.2:=⟨_,rfl⟩
  obtain⟨x2,y2⟩: ∃x,x=kSb x1.2 P.1 Q.1:=⟨_,rfl⟩
  obtain⟨x3,y3⟩: ∃x,x=kMu x2.2 x1.1 P.1:=⟨_,rfl⟩
  obtain⟨x4,y4⟩: ∃x,x=kMu x3.2 x2.1 P.2:=⟨_,rfl⟩
  obtain⟨x5,y5⟩: ∃x,x=kAd x4.2 x3.1 x4.1:=⟨_,rfl⟩
  have eF:lnE P Q=(⟨x1.1,x2.1,x5.1⟩,x5.2):=by rw[y5,y4,y3,y2,y1];rfl
  have o1:okQ x1.1:=by rw[y1];exact E8 _ _ _
  have o2:okQ x2.1:=by rw[y2];exact E8 _ _ _
  have o3:okQ x3.1:=by rw[y3];exact Hf _ _ _
  have o4:okQ x4.1:=by rw[y4];exact Hf _ _ _
  have o5:okQ x5.1:=by rw[y5];exact KH _ _ _
  have c1: ∀W1,KcP bC false W1→BD 59 [Ag bC,str (Ad Q.2),str (Ad P.2)] bC x1 W1:=fun W1 h=>by rw[y1];exact Ci bC _ _ _ okQQ.2 okPP.2 W1 h
  have c2: ∀W1,KcP bC x1.2 W1→BD 59 [Ag bC,str (Ad P.1),str (Ad Q.1)] bC x2 W1:=fun W1 h=>by rw[y2];exact Ci bC _ _ _ okPP.1 okQQ.1 W1 h
  have c3: ∀W1,KcP bC x2.2 W1→BD 60 [Ag bC,str (Ad x1.1),str (Ad P.1)] bC x3 W1:=fun W1 h=>by rw[y3];exact CE bC _ _ _ o1 okPP.1 W1 h
  have c4: ∀W1,KcP bC x3.2 W1→BD 60 [Ag bC,str (Ad x2.1),str (Ad P.2)] bC x4 W1:=fun W1 h=>by rw[y4];exact CE bC _ _ _ o2 okPP.2 W1 h
  have c5: ∀W1,KcP bC x4.2 W1→BD 45 [Ag bC,str (Ad x3.1),str (Ad x4.1)] bC x5 W1:=fun W1 h=>by rw[y5];exact F9 bC _ _ _ o3 o4 W1 h
  have eli:x5.2=false↔H6 P Q:=by
   have:=VL (p:=P) (q:=Q)
   rw[eF] at this;exact this
  have elf:H6 P Q→(⟨x1.1,x2.1,x5.1⟩:AW)=lnF P Q:=fun h=>by
   have:=SY h
   rw[eF] at this
   exact congrArg Prod.fst this
  clear eF y1 y2 y3 y4 y5
  refine zB ?_
  (refine Af Tryz.hZ rfl rfl rfl rfl ?_;intro)
  refine wS 10 I I I (Aa ?_)
  rename_i b9
  rw[←hP, ←hQ]
  refine C9 9 hrec I ?_
  refine Bj (Ar ?_)
  refine AE (X:=Unit) [true,true,true,true,true,true,true,false,true,true,true,true,true,true,true,false,false,false] (fun _=>[(4,Ag b4),(5,Ag b5),(6,Ag b6),(7,Ag b7),(9,Ag b9),(10,str (Ad x1.1)),(11,str (Ad x2.1))]) (fun _=>[AL L,lsB b4 (.slice none 0 0),erB b5 0,caE bC x2.2,ckB b6 bC,lsB b7 (slv pO D.length cO),lsB bp (slv q M.length cap2),o,Bz d,Ba l' rec .busy none,⟨b9,66,(sdV P Q).cells.toList,true,none⟩])
   4 [AL L,lsB b4 (.slice none 0 0),erB b5 0,caF bC false,ckB b6 bC,lsB b7 (slv pO D.length cO),lsB bp (slv q M.length cap2),o,Bz d,Ba l' rec .busy none,⟨b9,66,(sdV P Q).cells.toList,true,none⟩] Tryz.mixed (by kernel_rfl) ?_ ?_
  ·refine qB 4 I I I ?_
   refine AR Tryz.underlying66 Tryz.sizeOf35 I I I I I ⟨by decide,by decide⟩ ?_
   refine qP I (qB 10 I I I ?_)
   refine AR Tryz.underlying66 Tryz.sizeOf35 I I I I I ⟨by decide,by decide⟩ ?_
   refine qP I (qB 10 I I I (qB 4 I I I ?_))
   refine AR Tryz.underlying66 Tryz.sizeOf35 I I I I I ⟨by decide,by decide⟩ ?_
   refine qP I (qB 10 I I I ?_)
   refine AR Tryz.underlying66 Tryz.sizeOf35 I I I I I ⟨by decide,by decide⟩ ?_
   refine qP I (qB 10 I I I (Bq (wX (wZ ?_))))
   refine AM 3 bC I I I I I I (by kernel_rfl) I (fun W1 hp1=>c1 W1 (KcP.of hp1 3 I hv ht)) ?_
   refine Aa (Ab (wX (wZ ?_)))
   refine AM 3 bC I I I I I I (by kernel_rfl) I (fun W1 hp1=>c2 W1 (KcP.of hp1 3 I hv ht)) ?_
   refine Aa (Ab (wX (wZ (wP I (Aa (Ab (wX (wZ (wP I (Aa (Ab ?_)))))))))))
   refine Au I (by((repeat (first|refine A3.same ?_|refine A3.off I ?_));exact tO)) ?_
   exact Al () ⟨I,I,I,I,I,I,I,tO⟩ [0,1,2,3,4,5,6,7,8,9,10] (by decide) I
  intro _
  refine zE (Ar ?_)
  refine AE (X:= { x:Vec×List Ak×Bool//ClR ⟨x1.1,x2.1,x5.1⟩ D x5.2 x }) [true,true,true,true,true,true,true,true,true,true,false,true,true,true,true,true,false,false,false,false] (fun _=>[(4,Ag b4),(5,Ag b5),(6,Ag b6),(7,Ag b7)]) (fun x=>[AL L,lsB b4 (.slice none 0 0),erB b5 0,caE bC x.1.2.2,ckB b6 bC,lsB b7 (slv (Ei x.1.1) x.1.2.1.length (E3 x.1.1)),lsB bp (slv q M.length cap2),x.1.1.bx 35 (ptC x.1.2.1),Bz d,Ba l' rec .busy none])
   5 [AL L,lsB b4 (.slice none 0 0),erB b5 0,caF bC x2.2,ckB b6 bC,lsB b7 (slv pO D.length cO),lsB bp (slv q M.length cap2),o,Bz d,Ba l' rec .busy none,⟨b9,66,(sdV P Q).cells.toList,true,none⟩] Tryz.mixed (by kernel_rfl) ?_ ?_
  ·refine qB 4 I I I (qB 5 I I I (qP I (qP I (qB 4 I I I (qB 4 I I I (qP I ?_))))))
   refine AR Tryz.underlying66 Tryz.sizeOf35 I I I I I ⟨by decide,by decide⟩ ?_
   refine qP I (qB 10 I I I (qB 4 I I I (qP I ?_)))
   refine AR Tryz.underlying66 Tryz.sizeOf35 I I I I I ⟨by decide,by decide⟩ ?_
   refine qP I (qB 10 I I I (Bq (wX (wZ ?_))))
   refine AM 3 bC I I I I I I (by kernel_rfl) I (fun W1 hp1=>c3 W1 (KcP.of hp1 3 I hv ht)) ?_
   refine Aa (Ab (wX (wZ ?_)))
   refine AM 3 bC I I I I I I (by kernel_rfl) I (fun W1 hp1=>c4 W1 (KcP.of hp1 3 I hv ht)) ?_
   refine Aa (Ab (wX (wZ ?_)))
   refine AM 3 bC I I I I I I (by kernel_rfl) I (fun W1 hp1=>c5 W1 (KcP.of hp1 3 I hv ht)) ?_
   refine Aa (Ab (wX (wZ ?_)))
   refine Gd (s:=x5.2) (capt:=[]) 3 bC rfl rfl rfl rfl rfl rfl (by kernel_rfl) rfl (fun W1 hp1=>ME bC x5.2 ⟨x1.1,x2.1,x5.1⟩ ⟨o1,o2,o5⟩ D hfit.1 (List.length_pos_iff.2 hD) hfit.2 pO cO W1 (hSt.pts hAl hp1 7 rfl) (KcP.of hp1 3 rfl hv ht)) ?_;rintro xc hxc;refine Ah 61 (slv (Ei xc.1) xc.2.1.length (E3 xc.1)) rfl (Fl hxc.ok) ?_
   refine Aa (Ab (wX (wZ (wS 5 I I I (Aa (Ab ?_))))))
   refine AD I (by kernel_rfl) ?_
   exact Al (⟨xc,hxc⟩: { x:Vec×List Ak×Bool//ClR ⟨x1.1,x2.1,x5.1⟩ D x5.2 x }) ⟨I,I,I,I,tO⟩ [0,1,2,3,4,5,6,11,8,9] (by decide) I
  rintro⟨⟨V,D',s'⟩,hcl⟩
  have hVD:V.OK 2 D'.length (ptC D'):=hcl.ok
  have hst:s'=false↔x5.2=false∧CQ ⟨x1.1,x2.1,x5.1⟩ D:=hcl.st
  have hval:s'=false→D'=Bs ⟨x1.1,x2.1,x5.1⟩ D:=hcl.val
  have hboth:s'=false↔H6 P Q∧CQ (lnF P Q) D:=by
   rw[hst,eli]
   exact⟨fun h=>⟨h.1,by rw[←elf h.1];exact h.2⟩,fun h=>⟨h.1,by rw[elf h.1];exact h.2⟩⟩
  refine zE (zA (zA (zB ?_)))
  cases s' with
  |true=>
   have hR:=hno fun h=>absurd (hboth.2 h) (by decide)
   refine wB 4 I I I ?_
   refine AB I I I I ?_
   refine wP I (wB 3 I I I (wP I (Aa (zE (zR I (Ar ?_))))))
   refine AE (X:=Unit) [true,true,true,true,false,false] (fun _=>[(4,Ag b4),(5,Ag b5)]) (fun _=>[AL L,lsB b4 (.slice none 0 0),erB b5 4,caE bC true,ckB b6 bC,lsB b7 (slv (Ei V) D'.length (E3 V)),lsB bp (slv q M.length cap2),V.bx 35 (ptC D'),Bz d,Ba l' rec .busy none])
    2 [AL L,⟨b4,22,[.slice none 0 0],false,none⟩,erB b5 0,caE bC true,ckB b6 bC,lsB b7 (slv (Ei V) D'.length (E3 V)),lsB bp (slv q M.length cap2),V.bx 35 (ptC D'),Bz d,Ba l' rec .busy none] Tryz.mixed (by kernel_rfl) ?_ ?_
   ·refine qB 4 I I I ?_
    refine JJ I I I I ?_
    refine qP I (qB 3 I I I (Bq (wX (wZ (wS 1 I I I (Aa (Ab (wX (wZ (wS 2 I I I (Aa (Ab ?_))))))))))))
    refine AD I (by kernel_rfl) ?_
    exact Al () ⟨I,I,tO⟩ [0,1,2,3,4,5,6,7,8,9] (by decide) I
   intro _
   exact zE (zO (zP (zQ (EO 9 (Ei V,E3 V,V.bx 35 (ptC D'),D',true,true) hrec I ⟨I,hR⟩ [] I))))
  |false=>
   have hb:=hboth.1 rfl
   have hDe:D'=Bs (lnF P Q) D:=by rw[←elf hb.1];exact hval rfl
   have hMt1:Mt l M (k+1) D':=by rw[hDe];exact hyes hb.1 hb.2
   have hSt1:StM p cap l (k+1) (Ei V) (E3 V) (V.bx 35 (ptC D')) D':= .inr ⟨V,rfl,rfl,rfl,hVD⟩
   refine wB 4 I I I ?_
   refine AB I I I I ?_
   refine wP I (wB 3 I I I (wP I (Aa (zE (zS I (zI (zE (zA (zB (wB 5 I I I (wP I (wP I ?_))))))))))))
   by_cases h0:D'=[]
   ·have hR:EC l M [] false:= .inl ⟨rfl,k+1,hk,h0▸hMt1, .inr rfl⟩
    have hl0:((D'.length:Nat):Int)=0:=by rw[h0];rfl
    exact wU 73 true I (beq_iff_eq.2 hl0) (Aa (zE (zR I (zA (zB (wS 1 I I I (wS 2 I I I (Aa (zE (zO (zQ (EO 9 (Ei V,E3 V,V.bx 35 (ptC D'),D',false,false) hrec I ⟨I,hR⟩ [] I))))))))))))
   ·have hlen:((D'.length:Nat):Int)≠0:=fun e=>h0 (List.length_eq_zero_iff.1 (by omega))
    exact wU 73 false I (beq_eq_false_iff_ne.2 hlen) (Aa (zE (zS I (zI (zN (BW 9 (Ei V,E3 V,V.bx 35 (ptC D'),D',false,false) hrec I ⟨I,I,hSt1,hMt1,h0⟩ [] I))))))
 ·rintro⟨pO,cO,o,D,s,z⟩ d l' rec ⟨e3,e4,hSt,hMt,hD⟩
  obtain rfl:s=false:=e3
  obtain rfl:z=false:=e4
  have hSt:StM p cap l M.length pO cO o D:=hSt
  have hMt:Mt l M M.length D:=hMt
  obtain⟨V,rfl,rfl,rfl,hVD⟩: ∃V:Vec,pO=Ei V∧cO=E3 V∧o=V.bx 35 (ptC D)∧V.OK 2 D.length (ptC D):=by
   rcases hSt with h|h
   ·omega
   ·exact h
  have hR:EC l M D false:= .inl ⟨rfl,M.length,Nat.le_refl _,hMt, .inl rfl⟩
  have hvv:=Fl hVD
  refine zN (zE (zA (zB (wB 4 I I I (wS 0 I I I (wS 1 I I I (Aa (zE (zO ?_)))))))))
  refine BU 7 I ?_
  exact A7 tH I (.cell 0 I I I I I) (.cell 1 I I I I I) (V,D,0) (by rw[hvv]<;>rfl) ⟨hVD,hX D false hR⟩ fun W1 hp=>Ap.of_hp (hp.pick (l:=[V.bx 35 (ptC D)]) [6] (by decide) I)
 ·rintro⟨pO,cO,o,D,s,z⟩ d l' rec cd ⟨rfl,hR⟩
  have hR:EC l M [] z:=hR
  refine zO (zQ (zP ?_))
  refine BU 7 I ?_
  exact A7 tH I (.cell 0 I I I I I) (.cell 1 I I I I I) (Vec.empty,[],erI z) I ⟨Vec.OK.empty 2,hX [] z hR⟩ fun W1 hp=>nilR
-- BOXES 9
-- CODE2
theorem U0 {N:Nat} {D:List Deferred} {Q:Exit→Act→World→Prop} {ex:Exit} {env:Env} {W0:World} {b l:List Bx} (s:List Nat) (hs:s.Nodup) (hp:Am.pick b s=some l) (h:NE N D Q ex env (Hp W0 l)):NE N D Q ex env (Hp W0 b):= .mk fun a W ha hd hq=>h.out a W ha hd (hq.pick s hs hp)
def liO (P Q:Ak):Option Rat:=FQ (Bd (AF (some Q.2) (some P.2)) (some P.1)) (Bd (AF (some P.1) (some Q.1)) (some P.2))
theorem UK {P Q:Ak} (h:H6 P Q):liO P Q=some (lnF P Q).c:=by
 unfold liO
 rw[show AF (some Q.2) (some P.2)=some (Q.2-P.2) from BL h.a,show AF (some P.1) (some Q.1)=some (P.1-Q.1) from BL h.b,show Bd (some (Q.2-P.2)) (some P.1)=some ((Q.2-P.2)*P.1) from BL h.c,show Bd (some (P.1-Q.1)) (some P.2)=some ((P.1-Q.1)*P.2) from BL h.d]
 exact BL h.e
theorem Wk {P Q:Ak} (h: ¬H6 P Q):liO P Q=none:=by
 unfold liO
 by_cases a:BE Q.2 P.2
 ·rw[show AF (some Q.2) (some P.2)=some (Q.2-P.2) from BL a]
  by_cases b:BE P.1 Q.1
  ·rw[show AF (some P.1) (some Q.1)=some (P.1-Q.1) from BL b]
   by_cases c:BY (Q.2-P.2) P.1
   ·rw[show Bd (some (Q.2-P.2)) (some P.1)=some ((Q.2-P.2)*P.1) from BL c]
    by_cases d:BY (P.1-Q.1) P.2
    ·rw[show Bd (some (P.1-Q.1)) (some P.2)=some ((P.1-Q.1)*P.2) from BL d]
     exact D0 fun e=>h ⟨a,b,c,d,e⟩
    ·rw[show Bd (some (P.1-Q.1)) (some P.2)=none from D0 d];rfl
   ·rw[show Bd (some (Q.2-P.2)) (some P.1)=none from D0 c,KN]
  ·rw[show AF (some P.1) (some Q.1)=none from D0 b,Gf,Ss]
 ·rw[show AF (some Q.2) (some P.2)=none from D0 a,Gf,KN]
theorem Nn (xs ys:List PtS) (hx:xs.length≤8) (hy:ys.length≤8) (hxs: ∀x∈xs,x.1.length≤604∧x.2.length≤604) (hys: ∀x∈ys,x.1.length≤604∧x.2.length≤604) (p q:Option Addr) (cap cap2:Nat) (W:World) (hA:Ek W p xs) (hB:Ek W q ys) (ht:AI W):
  Ai Tryz.prog 22 #[slv p xs.length cap,slv q ys.length cap2] W (fun x:Vec×List Ak×Int=> .tuple #[x.1.val x.2.1.length, .int .i64 x.2.2]) (fun x=>x.1.OK 2 x.2.1.length (ptC x.2.1)∧IW xs ys x.2.1 x.2.2) (fun x=>[x.1.bx 35 (ptC x.2.1)]):=by
 have nilR: ∀ {W1:World},Ap W W1 [Vec.empty.bx 35 (ptC [])]:=fun {W1}=>Own.one (fun p hp=>by cases hp) List.nodup_nil
 refine Ac (args:=[slv p xs.length cap,slv q ys.length cap2]) Tryz.func22 I I I ?_
 refine zA (zB (wP I (wP I (Aa (zE (zA (zA (zB (wP I ?_)))))))))
 refine wD (X:=Int) I I (fun W1 hp=>J8 W1 p cap xs (hA.hp hp) (by omega) hxs (ht.hp hp)) ?_
 intro e1 he1
 have he1:e1=0↔JU xs:=he1
 refine wP I ?_
 by_cases h1:e1=0
 rotate_left
 ·refine wU 17 true I (bne_iff_ne.2 h1) (wP I ?_)
  iterate 3 refine Ao I I ?_
  exact wP I (Aa (zE (zR I (zA (zB (wP I (wP I (Aa (zE (zO (zP (A7 tH I (.tmp I) (.tmp I) (Vec.empty,[],1) I ⟨Vec.OK.empty 2, .inr ⟨fun h=>h1 (he1.2 h.1),I,I⟩⟩ fun W1 hp=>nilR))))))))))))
 refine wU 17 false I (bne_eq_false_iff_eq.2 h1) (wP I (wP I ?_))
 refine wD (X:=Int) I I (fun W1 hp=>J8 W1 q cap2 ys (hB.hp hp) (by omega) hys (ht.hp hp)) ?_
 intro e2 he2
 have he2:e2=0↔JU ys:=he2
 refine wP I ?_
 by_cases h2:e2=0
 rotate_left
 ·exact wU 21 true I (bne_iff_ne.2 h2) (wP I (Aa (zE (zR I (zA (zB (wP I (wP I (Aa (zE (zO (zP (A7 tH I (.tmp I) (.tmp I) (Vec.empty,[],1) I ⟨Vec.OK.empty 2, .inr ⟨fun h=>h2 (he2.2 h.2),I,I⟩⟩ fun W1 hp=>nilR)))))))))))))
 have hV1:=he1.1 h1
 have hV2:=he2.1 h2
 refine wU 21 false I (bne_eq_false_iff_eq.2 h2) (wP I (Aa (zE (zS I (zI (zE (zA (zB ?_))))))))
 obtain⟨l,hl,hl3,hlq,_⟩:=id hV1
 obtain⟨M,hM,hM3,hMq,_⟩:=id hV2
 have hX: ∀L z,EC l M L z→IW xs ys L (erI z):=fun L z h=> .inl ⟨l,M,z,hl,hM,hV1,hV2,h,rfl⟩
 have exl:xs.length=l.length:=by rw[hl,List.length_map]
 have eyl:ys.length=M.length:=by rw[hM,List.length_map]
 have hAl:Cf W p l:=Ek.p (by rw[hl] at hA;exact hA)
 have hBl:Cf W q M:=Ek.p (by rw[hM] at hB;exact hB)
 rw[exl] at hx
 rw[eyl] at hy
 rw[exl,eyl]
 have hM0:0<M.length:=by omega
 have hzz:(M.length:Int)≠0:=by omega
 have okM: ∀j,okP (Ae M j):=fun j=>hMq _ (B2 (by omega) j)
 obtain⟨g,off,rfl,hrow0⟩:=hBl.at_ hM0
 have hrow: ∀j,j<M.length→Aj W g (off+j*2) [str (Ad (Ae M j).1),str (Ad (Ae M j).2)]:=fun j hj=>by
  rw[BM hj];exact hrow0 j hj
 clear hl hM
 refine wP I (wP I (Aa (zE (zA (zA (zB (wP I (Aa (zE (zH ?_))))))))))
 refine De ?_
 refine A9 (X:=Option Addr×Nat×Bx×List Ak×Nat) (fun x=>[(0,slv p l.length cap),(1,slv (some ⟨g,off,none⟩) M.length cap2),(6,slv x.1 x.2.2.2.1.length x.2.1),(7, .int .i64 (x.2.2.2.2:Nat))]) (fun x=>[x.2.2.1])
  (fun x=>x.2.2.2.2≤M.length∧StM p cap l x.2.2.2.2 x.1 x.2.1 x.2.2.1 x.2.2.2.1∧Mt l M x.2.2.2.2 x.2.2.2.1) (fun x=>M.length-x.2.2.2.2) (p,cap,JZ,l,0) ⟨Nat.zero_le _, .inl ⟨rfl,rfl,rfl,rfl⟩, .zero⟩ ⟨rfl,rfl,rfl,rfl,trivial⟩ [] rfl ?_
 rintro⟨pO,cO,o,D,k⟩ ⟨hk0,hSt,hMt⟩
 have hk0:k≤M.length:=hk0
 have hSt:StM p cap l k pO cO o D:=hSt
 have hMt:Mt l M k D:=hMt
 have hdone:(k=M.length∨D=[])→EC l M D false∧ ∃V:Vec,pO=Ei V∧cO=E3 V∧o=V.bx 35 (ptC D)∧V.OK 2 D.length (ptC D):=fun h=>by
  refine⟨.inl ⟨I,k,hk0,hMt,h⟩, ?_⟩
  rcases hSt with c|c
  ·exfalso
   rcases h with h|h
   ·omega
   ·rw[c.2.2.2] at h;rw[h] at hl3;simp at hl3
  ·exact c
 refine zA (zA (zB (wP I (wP I (wP I (wP I ?_))))))
 by_cases hk:k<M.length
 rotate_left
 ·obtain⟨hR,V,rfl,rfl,rfl,hVD⟩:=hdone (.inl (by omega))
  have hvv:=Fl hVD
  refine wU 27 false I (dF (by show¬(((k:Nat):Int)<((M.length:Nat):Int));omega)) (wP I ?_)
  iterate 3 refine Ao I I ?_
  refine wP I (Aa (zE (zS I (zJ (zK (zK (zL (zE (zA (zB (wP I (wP I (wP I ?_)))))))))))))
  exact Aa (zE (zO (A7 tH I (.tmp I) (.tmp I) (V,D,0) (by rw[hvv]<;>rfl) ⟨hVD,hX D false hR⟩ fun W1 hp=>Ap.of_hp hp)))
 refine wU 27 true I (dT (by show((k:Nat):Int)<((M.length:Nat):Int);omega)) (wP I (wP I (wP I (wP I ?_))))
 by_cases hD:D=[]
 ·obtain⟨hR,V,rfl,rfl,rfl,hVD⟩:=hdone (.inr hD)
  have hvv:=Fl hVD
  have hl0:((D.length:Nat):Int)=0:=by rw[hD];rfl
  refine wU 31 false I (dF (by show¬((D.length:Nat):Int)>0;omega)) (wP I (Aa (zE (zS I (zJ (zK (zK (zL (zE (zA (zB (wP I (wP I (wP I ?_))))))))))))))
  exact Aa (zE (zO (A7 tH I (.tmp I) (.tmp I) (V,D,0) (by rw[hvv]<;>rfl) ⟨hVD,hX D false hR⟩ fun W1 hp=>Ap.of_hp hp)))
 have hlp:0<D.length:=List.length_pos_iff.2 hD
 refine wU 31 true I (dT (by show((D.length:Nat):Int)>0;omega)) (wP I (Aa ?_))
 have hfit:=hMt.fit8 hx hlq (by omega)
 have hk2:(k+1)%M.length<M.length:=Nat.mod_lt _ hM0
 obtain⟨P,hP⟩: ∃P,P=Ae M k:=⟨_,rfl⟩
 obtain⟨Q,hQ⟩: ∃Q,Q=Ae M (k+1):=⟨_,rfl⟩
 have okPP:okP P:=hP▸okM k
 have okQQ:okP Q:=hQ▸okM (k+1)
 have hr1:=hrow k hk
 have hr2:=hrow _ hk2
 rw[C8, ←hQ] at hr2
 rw[←hP] at hr1
 have hno: ¬(H6 P Q∧CQ (lnF P Q) D)→EC l M [] true:=fun h=> .inr ⟨rfl,rfl,k,D,hk,hMt,hD,by rw[←hP, ←hQ];exact h⟩
 have hyes:H6 P Q→CQ (lnF P Q) D→Mt l M (k+1) (Bs (lnF P Q) D):=fun a b=>by
  have:=Mt.step hMt hD (by rw[←hP, ←hQ];exact a) (by rw[←hP, ←hQ];exact b)
  rwa [←hP, ←hQ] at this
 obtain⟨sa,ea,va,ca⟩:=EG (AF (some Q.2) (some P.2))
 obtain⟨sb,eb,vb,cb⟩:=EG (AF (some P.1) (some Q.1))
 obtain⟨sc,ec,vc,cc⟩:=EG (liO P Q)
 refine zE (zR I (zI (zE (Ar (Bj (Ar ?_))))))
 refine AE (X:=Nat×Nat) [true,true,true,true,true,true,true,true,true,true,true,true,false,false,false,false] (fun b=>[(0,slv p l.length cap),(1,slv (some ⟨g,off,none⟩) M.length cap2),(6,slv pO D.length cO),(7, .int .i64 (k:Nat)),(8,Ag b.1),(9,Ag b.2)]) (fun b=>[o,ptB b.1 (Ad P.1) (Ad P.2),ptB b.2 (Ad Q.1) (Ad Q.2)])
  4 [o] Tryz.mixed (by kernel_rfl) ?_ ?_
 ·refine qP I (qP I ?_)
  refine DY 36 (.int .i64 (k:Nat)) I I ?_
  refine qJ ?_
  refine qL 0 I I (fun W1 hp=>hr1.hp hp) I (qP I (qP I (qP I (qV 41 ((k+1:Nat):Int) I (Ax (by omega)) (qP I (qP I ?_))))))
  refine Dv I I I I I hzz ?_
  refine DY 44 (.int .i64 (((k+1)%M.length:Nat):Int)) I I ?_
  refine qJ ?_
  refine qL 0 I I (fun W1 hp=>hr2.hp hp) I (Bq (wX ?_))
  refine RS.cons ?_ (RS.cons ?_ (RS.nil))
  ·refine Af Tryz.hZ rfl rfl rfl rfl ?_;intro b8
   refine Aa (Ab (wX (wZ ?_)))
   refine Af Tryz.hZ rfl rfl rfl rfl ?_;intro b9
   refine Aa (Ab (wX (wZ (wS 1 I I I (Aa (Ab (wX (wZ (wS 2 I I I (Aa (Ab ?_)))))))))))
   refine Au I (by((repeat (first|refine A3.same ?_|refine A3.off I ?_));exact tO)) ?_
   exact Al (b8,b9) ⟨I,I,I,I,I,I,tO⟩ [0,1,2] (by decide) I
  ·refine Af Tryz.hZ rfl rfl rfl rfl ?_;intro b9
   refine Aa (Ab (wX (wZ ?_)))
   refine Af Tryz.hZ rfl rfl rfl rfl ?_;intro b8
   refine Aa (Ab (wX (wZ (wS 2 I I I (Aa (Ab (wX (wZ (wS 1 I I I (Aa (Ab ?_)))))))))))
   refine Au I (by((repeat (first|refine A3.same ?_|refine A3.off I ?_));exact tO)) ?_
   exact Al (b8,b9) ⟨I,I,I,I,I,I,tO⟩ [0,2,1] (by decide) I
 rintro⟨b8,b9⟩
 refine zE (Ar ?_)
 refine AE (X:=Nat×Nat) [true,true,true,true,true,true,true,true,true,true,true,true,true,true,false,false,false,false] (fun b=>[(0,slv p l.length cap),(1,slv (some ⟨g,off,none⟩) M.length cap2),(6,slv pO D.length cO),(7, .int .i64 (k:Nat)),(8,Ag b8),(9,Ag b9),(10,Ag b.1),(11,Ag b.2)]) (fun b=>[o,ptB b8 (Ad P.1) (Ad P.2),ptB b9 (Ad Q.1) (Ad Q.2),nmR b.1 sa ea,nmR b.2 sb eb])
  4 [o,ptB b8 (Ad P.1) (Ad P.2),ptB b9 (Ad Q.1) (Ad Q.2)] Tryz.mixed (by kernel_rfl) ?_ ?_
 ·refine qP I (qB 2 I I I (qC I I (fun W hp=>AY Q.2 W) (qP I (qB 1 I I I (qC I I (fun W hp=>AY P.2 W) (qC I I (fun W h=>(BQ (some Q.2) (some P.2) okQQ.2 okPP.2 W (ht.hp h)).cast va) (qP I (qB 1 I I I (qC I I (fun W hp=>AY P.1 W) (qP I (qB 2 I I I (qC I I (fun W hp=>AY Q.1 W) (qC I I (fun W h=>(BQ (some P.1) (some Q.1) okPP.1 okQQ.1 W (ht.hp h)).cast vb) ?_)))))))))))))
  refine Bq (wX ?_)
  refine RS.cons ?_ (RS.cons ?_ (RS.nil))
  ·refine Af Tryz.hZ rfl rfl rfl rfl ?_;intro b10
   refine Aa (Ab (wX (wZ ?_)))
   refine Af Tryz.hZ rfl rfl rfl rfl ?_;intro b11
   refine Aa (Ab (wX (wZ (wS 3 I I I (Aa (Ab (wX (wZ (wS 4 I I I (Aa (Ab ?_)))))))))))
   refine Au I (by((repeat (first|refine A3.same ?_|refine A3.off I ?_));exact tO)) ?_
   exact Al (b10,b11) ⟨I,I,I,I,I,I,I,I,tO⟩ [0,1,2,3,4] (by decide) I
  ·refine Af Tryz.hZ rfl rfl rfl rfl ?_;intro b11
   refine Aa (Ab (wX (wZ ?_)))
   refine Af Tryz.hZ rfl rfl rfl rfl ?_;intro b10
   refine Aa (Ab (wX (wZ (wS 4 I I I (Aa (Ab (wX (wZ (wS 3 I I I (Aa (Ab ?_)))))))))))
   refine Au I (by((repeat (first|refine A3.same ?_|refine A3.off I ?_));exact tO)) ?_
   exact Al (b10,b11) ⟨I,I,I,I,I,I,I,I,tO⟩ [0,1,2,4,3] (by decide) I
 rintro⟨b10,b11⟩
 refine zE (Ar ?_)
 refine AE (X:=Nat) [true,true,true,true,true,true,true,true,true,true,true,false,false] (fun b=>[(0,slv p l.length cap),(1,slv (some ⟨g,off,none⟩) M.length cap2),(6,slv pO D.length cO),(7, .int .i64 (k:Nat)),(10,Ag b10),(11,Ag b11),(12,Ag b)]) (fun b=>[o,nmR b10 sa ea,nmR b11 sb eb,nmR b sc ec])
  2 [o,ptB b8 (Ad P.1) (Ad P.2),ptB b9 (Ad Q.1) (Ad Q.2),nmR b10 sa ea,nmR b11 sb eb] Tryz.mixed (by kernel_rfl) ?_ ?_
 ·refine qB 3 I I I (qP I (qB 1 I I I (qC I I (fun W hp=>AY P.1 W) (qC I I (fun W h=>by have h1:=Cy (AF (some Q.2) (some P.2)) (some P.1) (Di _ _) okPP.1 W (ht.hp h);rw[va] at h1;exact h1) (qB 4 I I I (qP I (qB 1 I I I (qC I I (fun W hp=>AY P.2 W) (qC I I (fun W h=>by have h1:=Cy (AF (some P.1) (some Q.1)) (some P.2) (Di _ _) okPP.2 W (ht.hp h);rw[vb] at h1;exact h1) (qC I I (fun W h=>(F6 (Bd (AF (some Q.2) (some P.2)) (some P.1)) (Bd (AF (some P.1) (some Q.1)) (some P.2)) (DJ _ _) (DJ _ _) W (ht.hp h)).cast vc) (Bq (wX (wZ ?_)))))))))))))
  refine Af Tryz.hZ rfl rfl rfl rfl ?_;intro b
  refine Aa (Ab (wX (wZ (wS 5 I I I (Aa (Ab ?_))))))
  refine Au I (by((repeat (first|refine A3.same ?_|refine A3.off I ?_));exact tO)) ?_
  exact Al b ⟨I,I,I,I,I,I,I,tO⟩ [0,3,4,5] (by decide) I
 intro b12
 refine zE (zA (zA (zB ?_)))
 by_cases hli:H6 P Q
 rotate_left
 ·obtain⟨rfl,rfl⟩:sc=[]∧ec=4:=by
   rcases cc with⟨_,h1,h2⟩|⟨x,h,_,_⟩
   ·exact⟨h1,h2⟩
   ·rw[Wk hli] at h;cases h
  have hR:=hno fun h=>hli h.1
  refine wP I (wB 3 I I I (wP I (Aa (zE (zR I (zA (zU (qP I (qB 3 I I I (qP I (qP I (AS (Aa ?_)))))))))))))
  exact zE (zO (zP (zQ (zP (zP (zQ (zP (A7 tH I (.tmp I) (.tmp I) (Vec.empty,[],4) I ⟨Vec.OK.empty 2,hX [] true hR⟩ fun W1 hp=>nilR))))))))
 obtain⟨rfl,rfl⟩:sc=Ad (lnF P Q).c∧ec=0:=by
  rcases cc with⟨h,_,_⟩|⟨x,h,h1,h2⟩
  ·rw[UK hli] at h;cases h
  ·rw[UK hli] at h;cases h;exact⟨h1,h2⟩
 obtain⟨rfl,rfl⟩:sa=Ad (lnF P Q).a∧ea=0:=by
  have hy1:AF (some Q.2) (some P.2)=some (lnF P Q).a:=BL hli.a
  rcases ca with⟨h,_,_⟩|⟨x,h,h1,h2⟩
  ·rw[hy1] at h;cases h
  ·rw[hy1] at h;cases h;exact⟨h1,h2⟩
 obtain⟨rfl,rfl⟩:sb=Ad (lnF P Q).b∧eb=0:=by
  have hy1:AF (some P.1) (some Q.1)=some (lnF P Q).b:=BL hli.b
  rcases cb with⟨h,_,_⟩|⟨x,h,h1,h2⟩
  ·rw[hy1] at h;cases h
  ·rw[hy1] at h;cases h;exact⟨h1,h2⟩
 have hof:okQ (lnF P Q).a∧okQ (lnF P Q).b∧okQ (lnF P Q).c:=by
  have:=Vc P Q
  rwa [SY hli] at this
 obtain⟨f,hf⟩: ∃f,f=lnF P Q:=⟨_,rfl⟩
 rw[←hf] at hof hno hyes
 rw[←hf]
 obtain⟨L2,e2',hcl⟩: ∃L2 e2',VP f D L2 e2':=by
  by_cases h:CQ f D
  ·exact⟨_,_, .inl ⟨I,h,I⟩⟩
  ·exact⟨_,_, .inr ⟨I,h,I⟩⟩
 refine wP I (wB 3 I I I (wP I (Aa (zE (zS I (zI (zE (zA (zB (wP I (wP I (wB 1 I I I (wP I ?_)))))))))))))
 refine wB 2 I I I (wP I (wB 3 I I I ?_))
 refine wD (X:=Vec) I I (fun W1 hp=>N3 f hof D hfit.1 hlp hfit.2 L2 e2' hcl pO cO W1 (hSt.pts hAl hp 0 I) (ht.hp hp)) ?_
 intro V2 hV2
 have hvv:=Fl hV2
 iterate 5 refine wP I ?_
 refine Aa ?_
 cases e2' with
 |true=>
  have hR:=hno fun h=>by
   rcases hcl with c|c
   ·exact absurd c.1 (by decide)
   ·exact c.2.1 h.2
  refine zE (zA (zA (zB (wP I (wP I (Aa (zE (zR I (zA (zB (wP I (wP I (wP I ?_)))))))))))))
  exact Aa (zE (zO (zP (zQ (zP (zP (zQ (zP (A7 tH I (.tmp I) (.tmp I) (Vec.empty,[],4) I ⟨Vec.OK.empty 2,hX [] true hR⟩ fun W1 hp=>nilR)))))))))
 |false=>
  obtain⟨hoc,hL2⟩:CQ f D∧L2=Bs f D:=by
   rcases hcl with c|c
   ·exact c.2
   ·exact absurd c.1 (by decide)
  have hMt1:Mt l M (k+1) L2:=by rw[hL2];exact hyes hli hoc
  refine zE (zA (zA (zB (wP I (wP I (Aa (zE (zS I (zI (zE (zB (wP I (wP I ?_)))))))))))))
  refine Aa (zN (zE (zB (wP I (wP I (wV 34 ((k+1:Nat):Int) I (Ax (by omega)) (wP I (Aa ?_))))))))
  refine U0 [4] (by decide) I ?_
  exact A4 (Ei V2,E3 V2,V2.bx 35 (ptC L2),L2,k+1) ⟨hk, .inr ⟨V2,I,I,I,hV2⟩,hMt1⟩ (by show M.length-(k+1)<M.length-k;omega) ⟨I,I,congrArg some hvv,I,tO⟩ [] I
-- BOXES 6
-- CODE2
theorem Mt.len8 {l M:List Ak} (hl:l.length≤8): ∀ {i:Nat} {D:List Ak},Mt l M i D→D.length≤8*2^i
 |0,_, .zero=>hl
 |i+1,_, .step (D:=D) h _ _ _=>by
  have b:=h.len8 hl
  have:=Il (lnF (Ae M i) (Ae M (i+1))) D
  rw[Nat.pow_succ]
  omega
theorem Pi (xs ys:List PtS) (p q:Option Addr) (cap cap2:Nat) (W:World) (hA:Ek W p xs) (hB:Ek W q ys) (hn:xs.length<4611686018427387904) (hn2:ys.length<4611686018427387904) (hv:BO W) (ht:AI W):
  Ai Tryz.prog 4 #[slv p xs.length cap,slv q ys.length cap2] W (fun _:Unit=> .bool true) (fun _=>True) (fun _=>[]):=by
 refine Ac (args:=[slv p xs.length cap,slv q ys.length cap2]) Tryz.func4 I I I ?_
 refine zA (zB (wP I (Aa (zE (zA (zA (zB (wP I (wP I ?_)))))))))
 refine A8 Tryz.hZ tH I I I I I I I I I I I fun bS=> ?_
 refine B7 (capt:=[]) I I I I I I (by kernel_rfl) (fun W1 hp=>MQ [(p,cap,xs),(q,cap2,ys)] (by show 2≤100000;decide) (fun y hy=>by
  rcases List.mem_cons.1 hy with rfl|hy
  ·exact hn
  ·rw[List.mem_singleton.1 hy];exact hn2) bS 0 2 W1 ⟨Aj.of_bx hp 0 rfl rfl,fun y hy=>by
  rcases List.mem_cons.1 hy with rfl|hy
  ·exact hA.hp hp
  ·rw[List.mem_singleton.1 hy];exact hB.hp hp⟩) ?_
 cases hg:([(p,cap,xs),(q,cap2,ys)]:List Ls).any Jq with
 |true=>
  refine Aa (zE (zR I (zA (zB ?_))))
  refine B7 (capt:=[]) I I I I I I (by kernel_rfl) (fun W1 hp=>HA W1 (hv.hp hp) (ht.hp hp)) ?_
  exact wP I (Aa (zE (zO (zP (wR1 I I I)))))
 |false=>
 have hg2:GV xs=false∧GV ys=false:=by
  have h1:(GV xs||(GV ys||false))=false:=hg
  rw[Bool.or_false,Bool.or_eq_false_iff] at h1
  exact h1
 obtain⟨hx8,hxs⟩:=OE hg2.1
 obtain⟨hy8,hys⟩:=OE hg2.2
 refine Aa (zE (zS I (zI (zE (zA (zB (wP I (wP I ?_))))))))
 refine wD (X:=Vec×List Ak×Int) I I (fun W1 hp=>PU xs ys hx8 hy8 hxs hys p q cap cap2 W1 (hA.hp hp) (hB.hp hp) (hv.hp hp) (ht.hp hp)) ?_
 rintro⟨V1,L,e⟩ ⟨hV1,hX1⟩
 have hV1:V1.OK 2 L.length (ptC L):=hV1
 have hX1:IW xs ys L e:=hX1
 iterate 5 refine wP I ?_
 refine Aa (zE (zA (zB (wP I (wP I ?_)))))
 refine wD (X:=Vec×List Ak×Int) I I (fun W1 hp=>Nn xs ys hx8 hy8 hxs hys p q cap cap2 W1 (hA.hp hp) (hB.hp hp) (ht.hp hp)) ?_
 rintro⟨V2,L2,e2⟩ ⟨hV2,hX2⟩
 have hX2:IW xs ys L2 e2:=hX2
 obtain⟨rfl,rfl⟩:=hX1.det hX2
 have hV2:V2.OK 2 L.length (ptC L):=hV2
 have hL:L.length≤100000:=by
  rcases hX1 with⟨l,M,z,h1,h2,_,_,h3,_⟩|⟨_,h,_⟩
  ·have hl8:l.length≤8:=by rw[h1,List.length_map] at hx8;exact hx8
   have hM8:M.length≤8:=by rw[h2,List.length_map] at hy8;exact hy8
   rcases h3 with⟨_,i,hi,h,_⟩|⟨_,h,_⟩
   ·have h4:=h.len8 hl8
    have:2^i≤2^8:=Nat.pow_le_pow_right (by decide) (by omega)
    omega
   ·rw[h];exact Nat.zero_le _
  ·rw[h];exact Nat.zero_le _
 iterate 5 refine wP I ?_
 refine Aa (zE (zA (zB (wP I (wP I ?_)))))
 refine Ah 26 (slv (Ei V1) L.length (E3 V1)) I (Fl hV1) ?_
 refine Ah 27 (slv (Ei V2) L.length (E3 V2)) I (Fl hV2) ?_
 refine B7 (capt:=[]) I I I I I I (by kernel_rfl) (fun W1 hp=>IU L hL (Ei V1) (Ei V2) (E3 V1) (E3 V2) W1 (LK hp 1 hV1 I) (LK hp 2 hV2 I)) ?_
 refine wP I (wP I (wP I (wP I (wU 32 true I (beq_iff_eq.2 I) (wP I (wP I ?_))))))
 refine B7 (capt:=[]) I I I I I I (by kernel_rfl) (fun W1 hp=>HA W1 (hv.hp hp) (ht.hp hp)) ?_
 exact wP I (wP I (Aa (zE (zO (wR1 I I I)))))
end
section
open Go
noncomputable abbrev laidL:List (String×DataW Unit):=Rows.convexDividedRow.laid
end
section
open Go Go.RowKit Go.Am Go.ChangeShapes Go.WideShapes Go.Deep Go.ChangeAt
set_option maxRecDepth 100000
section
variable {H:Type} {enc:TypeId×Value→H} {w:World} {base:Nat} {spare:Nat→Bool} {held:Bool} {v:Value} {d:DataW H} {ps:List MemPlace}
end
theorem own:ownKnob Tryz.prog.godebug=none:=by kernel_rfl
theorem N5:laidOutB Tryz.prog=true:=by kernel_rfl
theorem K3:(laidL.all fun x=>x.2.handleName?.isNone)=true:=by kernel_rfl
theorem NH {W:World} (h:laidMetH Tryz.prog laidL W):AI W:=by
 rw[MakeChecks.laidMetH_plain _ _ _ K3] at h
 exact Lib.tabIs_of_head (g:=2) (t:=263) (e:=198) (n:=20) (by kernel_rfl) (by kernel_rfl) (by kernel_rfl) (by kernel_rfl) (by kernel_rfl) (by kernel_rfl) h.tail.tail
theorem V4 {W:World} (hS:W.ShapedOpen Tryz.prog):BO W:=
 cell_of_shapedOpen_int (g:=3) (t:=3) (zero:= #[.int .i64 0]) hS (of_decide_eq_true (by kernel_rfl)) (by kernel_rfl) rfl (by kernel_rfl) (by kernel_rfl) Tryz.underlying3
noncomputable def witW (os:Os):World:=World.laidAll Tryz.prog os laidL
theorem S2 (os:Os) (args:Array Value):laidMetH Tryz.prog laidL ((witW os).forCall (fun _ _=>0) ⟨#[],args,[]⟩).memory:=by
 rw[MakeChecks.laidMetH_plain _ _ _ K3]
 exact laidMet_laidAll _ (by kernel_rfl) (by kernel_rfl)
theorem PI (os:Os) (args:Array Value):((witW os).forCall (fun _ _=>0) ⟨#[],args,[]⟩).Shaped Tryz.prog:=
 World.shaped_of_ZipB (by kernel_rfl) (by kernel_rfl)
theorem TF {H:Type} {enc:TypeId×Value→H} (os:Os) {f:FuncId} {fn:Func} {s:OpenSpec} {conds:List PathCond} (args:Array Value)
  (hok:Input.okWideB Tryz.prog ((witW os).forCall (fun _ _=>0) ⟨#[],args,[]⟩) f ⟨#[],args,[]⟩=true)
  (hrow:s.preRow enc Tryz.prog fn conds false laidL ((witW os).forCall (fun _ _=>0) ⟨#[],args,[]⟩).memory args):
  ∃(w:World) (tape:Tape) (i:Input),w.os=os∧(w.forCall tape i).Shaped Tryz.prog∧i.vars=[]∧Input.okWide Tryz.prog (w.forCall tape i) .any w.heap.size f i∧
   s.preRow enc Tryz.prog fn conds false laidL (w.forCall tape i).memory i.args∧({}:Assume).holds Tryz.prog (lone (Frame.enter Tryz.prog f i.args .normal) [] (w.forCall tape i)):=
 ⟨witW os,fun _ _=>0,⟨#[],args,[]⟩,World.laidAll_os _ _ _,PI os args,(Input.okWide_of_okWideB (base:=0) hok).1,(Input.okWide_of_okWideB hok).2,hrow,by
  simp only[Assume.holds]
  exact⟨by simp,by simp,by simp,by simp,by simp,by simp⟩⟩
end
section
open Go Go.RowKit Go.Am Go.ChangeShapes Go.WideShapes Go.Deep
set_option maxRecDepth 10000
theorem Wj:Tryz.prog.cellsOf 23=1:=by kernel_rfl
theorem Pb {H:Type} (d:DataW H):1≤Rows.uptoBulk d:=by
 cases d with
 |lit l=>cases l<;>simp[Rows.uptoBulk]
 |nil=>simp[Rows.uptoBulk]
 |ptr d=>simp[Rows.uptoBulk]
 |slice elems spare=>simp[Rows.uptoBulk]
 |agg parts=>simp[Rows.uptoBulk]
 |iface t d=>simp[Rows.uptoBulk]
 |map entries=>simp[Rows.uptoBulk]
 |held h=>simp[Rows.uptoBulk]
theorem Tc {H:Type} (l:List (DataW H)):l.length≤Rows.uptoBulkAll l:=by
 induction l with
 |nil=>simp[Rows.uptoBulkAll]
 |cons x r ih=>have:=Pb x;simp only[Rows.uptoBulkAll,List.length_cons];omega
theorem PT {H:Type} (e s:List (DataW H)):Rows.uptoBulkAll e+1≤Rows.uptoBulk (.slice e s):=by
 simp only[Rows.uptoBulk];omega
theorem PD {w:World} {a:Addr} {v:Value} (h:w.cell? a=some v):a.spot=none∧a.block<w.heap.size:=by
 unfold World.cell? at h
 split at h
 ·rename_i hb
  refine⟨?_, ?_⟩
  ·cases hs:a.spot with
   |none=>rfl
   |some k=>simp[hs] at h
  ·exact(Array.getElem?_eq_some_iff.1 hb).1
 ·cases h
theorem O3 {w:World} {base n:Nat} {a:Addr} {cs:List Value} (h:w.cells? base a n=some cs) (hn:0<n):a.spot=none∧Aj w a.block a.off cs:=by
 obtain⟨_,hl,hg⟩:=World.cells?_some h
 have h0:=hg 0 hn
 have hv:cs[0]? =some cs[0]:=List.getElem?_eq_getElem (by omega)
 rw[hv] at h0
 have hp:=PD h0
 have hs:a.spot=none:=by simpa[Addr.add] using hp.1
 refine⟨hs,⟨by simpa[Addr.add] using hp.2,fun j x hx=> ?_⟩⟩
 have hj:j<n:=by rw[←hl];exact(List.getElem?_eq_some_iff.1 hx).1
 rw[←hx, ←hg j hj]
 congr 1
 unfold Addr.add
 split
 ·subst_vars;cases a;simp_all
 ·rfl
theorem UA {a:Addr} (hs:a.spot=none) (n:Nat):a.add n=⟨a.block,a.off+n,none⟩:=by
 unfold Addr.add
 split
 ·subst_vars;cases a;simp_all
 ·rfl
section
variable {H:Type} {enc:TypeId×Value→H} {w:World} {base:Nat} {spare:Nat→Bool} {held:Bool} {fuel:Nat}
theorem QQ {u:Value} {x:DataW H×List MemPlace} (h:DataW.trod enc Tryz.prog w base spare held fuel 23 [u]=some x): ∃b:List UInt8,u=str b∧Rows.uptoBulk x.1=b.length+1:=by
 obtain⟨s,e,hx,_⟩:=DataW.trod_string Tryz.underlying23 h
 refine⟨s.data.toList, ?_, ?_⟩
 ·have:u= .string s:=by simpa using e
  rw[this]
 ·rw[hx];simp[Rows.uptoBulk]
end
theorem cPt:Tryz.prog.cellsOf 35=2:=by kernel_rfl
section
variable {H:Type} {enc:TypeId×Value→H} {w:World} {base:Nat} {spare:Nat→Bool} {held:Bool} {fuel:Nat} {cs:List Value} {x:DataW H×List MemPlace}
theorem RY (h:DataW.trod enc Tryz.prog w base spare held fuel 35 cs=some x): ∃f:List UInt8×List UInt8,cs=[str f.1,str f.2]:=by
 obtain⟨xs,m,rfl,hx,hl,hn,hg⟩:=DataW.trod_struct Tryz.underlying35 h
 rw[cPt] at hl
 obtain⟨x0,x1,rfl⟩: ∃x0 x1,xs=[x0,x1]:=by
  match xs,hn with
  |[a,b],_=>exact⟨a,b,rfl⟩
 match cs,hl with
 |[v0,v1],_=>
  have h0:DataW.trod enc Tryz.prog w base spare held m 23 (List.take (Tryz.prog.cellsOf 23) [v0,v1])=some x0:=hg 0 _ rfl
  have h1:DataW.trod enc Tryz.prog w base spare held m 23 (List.take (Tryz.prog.cellsOf 23) [v1])=some x1:=hg 1 _ rfl
  rw[Wj] at h0 h1
  obtain⟨s,rfl,_⟩:=QQ h0
  obtain⟨t,rfl,_⟩:=QQ h1
  exact⟨(s,t),I⟩
theorem Rq (h:DataW.trod enc Tryz.prog w base spare held fuel 22 cs=some x):
  ∃(p:Option Addr) (cap:Nat) (l:List (List UInt8×List UInt8)),cs=[.slice p l.length cap]∧Ek w p l∧l.length+1≤Rows.uptoBulk x.1:=by
 rcases open_slice Tryz.underlying22 h with⟨rfl,rfl⟩|⟨a,len,cap,m,n,D,Pl,rfl,_,hl,_,hm,rfl,hx⟩
 ·exact⟨none,0,[],I, .inl I,Pb _⟩
 have hlm:len≤m:=by rw[hm];split<;>omega
 obtain⟨S,hS⟩:=choose_lt (α:=List UInt8×List UInt8) (n:=len) (p:=fun i s=>w.cells? base (a.add (i*2)) 2=some [str s.1,str s.2]) fun i hi=>by
  obtain⟨cs',h1,h2⟩:=hx i (by omega)
  rw[cPt] at h1
  obtain⟨f,rfl⟩:=RY h2
  exact⟨f,h1⟩
 refine⟨some a,cap,(List.range len).map S,by simp, ?_, ?_⟩
 ·by_cases h0:len=0
  ·subst h0;exact .inl rfl
  ·have hs:a.spot=none:=by simpa[Addr.add] using(O3 (hS 0 (by omega)) (by decide)).1
   refine .inr ⟨a.block,a.off,by cases a;simp_all,fun i hi=> ?_⟩
   have h1:i<len:=by simpa using hi
   have:=(O3 (hS i h1) (by decide)).2
   rw[UA hs] at this
   simpa using this
 ·have h1:=Tc ((List.range len).map D)
  have h2:=PT ((List.range len).map D) ((List.range (m-len)).map fun j=>D (len+j))
  simp only[List.length_map,List.length_range] at h1⊢
  omega
end
section
variable {H:Type} {enc:TypeId×Value→H} {w:World} {base:Nat} {spare:Nat→Bool} {held:Bool} {v:Value} {d:DataW H} {ps:List MemPlace}
theorem Jv {r:Reach} {b0:Nat} (hv:Value.okWide Tryz.prog w r b0 22 v) (h:DataW.Trod enc Tryz.prog w base spare held 22 v d ps):
  ∃(p:Option Addr) (m:Nat) (l:List PtS),v=slv p l.length m∧Ek w p l∧l.length+1≤Rows.uptoBulk d:=by
 obtain⟨p0,n0,c0,rfl⟩:=okWide_slice Tryz.underlying22 hv
 obtain⟨fuel,hf⟩:=h
 obtain⟨p,cap,l,e,hl,hb⟩:=Rq hf
 refine⟨p,cap,l, ?_,hl,hb⟩
 simpa[Value.cells] using e
end
end
end Go.Proofs.YthndmdimmgkpgaaGreatDoor
