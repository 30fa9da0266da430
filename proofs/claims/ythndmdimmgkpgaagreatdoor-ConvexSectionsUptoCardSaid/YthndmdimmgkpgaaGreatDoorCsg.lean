/-
  Lemmas that the theorem convexSections_upto_card needs (part 7 of 7).
-/
import Derived.Test.YthndmdimmgkpgaaGreatDoorCsf
import Derived.Test.YthndmdimmgkpgaaGreatDoorRows
import Derived.Test.YthndmdimmgkpgaaGreatDoorCards
import Derived.Test.YthndmdimmgkpgaaGreatDoorTie
import Derived.Deep.Slices
import Derived.ChangeArms
import Derived.ChangeShapes
import Derived.WideShapes
import Derived.Carry
import Derived.ProofKit
import Derived.OpenShut
import Derived.Deep.DeepHandedRow
import Derived.Lib.LaidTab
import Derived.Stop.LaidErr
import Derived.Lay
import Derived.SevenTiedAt
import Derived.Shelf.Vars
import Derived.ChangeMaps5
set_option maxHeartbeats 64000000
namespace Go.Proofs.YthndmdimmgkpgaaGreatDoor
section
open Go Go.RowKit Go.Am Go.Lib
set_option maxRecDepth 10000
-- BOXES 8
-- CODE2
theorem Ci.keep {W W1:World} {p:Option Addr} {l:List Ag} {c:Nat} {s:Bool} (h:Ci W p l) (ho:W.heap[c]? =some (caO s)) (hK:Ga W W1 c):Ci W1 p l:=by
 rcases h with h|⟨b,off,e,h⟩
 ·exact .inl h
 refine .inr ⟨b,off,e,fun i hi=> ?_⟩
 have hr:=h i hi
 have hne:b≠c:=fun e=>by
  subst e
  have h0:=hr.get 0 (str (Ad l[i].1)) rfl
  simp only[World.cell?,ho] at h0
  generalize off+i*2+0=k at h0
  cases k with
  |zero=>simp at h0
  |succ k=>simp at h0
 refine⟨Nat.lt_of_lt_of_le hr.lt hK.size,fun j u hu=> ?_⟩
 have h1:=hr.get j u hu
 have h2:=hK.at_ b hne hr.lt
 simp only[World.cell?] at h1⊢
 rw[h2]
 exact h1
theorem Ci.kc {W W1:World} {p:Option Addr} {l:List Ag} {c:Nat} {s s1:Bool} {bs:List Bx} (h:Ci W p l) (ho:W.heap[c]? =some (caO s)) (hp:Hp (AZ W) (AP (At W c)::caE c s1::bs) W1):Ci W1 p l:=
 h.keep ho (FN ho ⟨_,List.mem_cons_self ..⟩ (Hp.take (bxs:=[AP (At W c),caE c s1]) (nb:=bs) hp))
structure UY (l:List Ag) (a b:Nat):Prop where
 x:BE (Ae l a).1 (Ae l b).1
 y:BE (Ae l a).2 (Ae l b).2
 t: ∀d,d<l.length→KF (Ae l a) (Ae l b) (Ae l d)
def Eo (l:List Ag):Prop:= ∀a,a<l.length→ ∀b,b<l.length→UY l a b
theorem MK (c:Nat) (l:List Ag) (h0:0<l.length) (hn:l.length≤4096) (hq: ∀p∈l,okP p) (p:Option Addr) (cap:Nat) (W:World) (hA:Ci W p l) (h:KcP c false W):
  Cp 74 [Aj c,slv p l.length cap] c (fun s:Bool=>s) (fun s=> .int .i64 (erI s)) (fun s=>s=false↔Eo l) W:=by
 obtain⟨g,off,hpe,_⟩:=hA.at_ h0
 have hrow: ∀ {W1:World} {s1:Bool} {bs:List Bx},Hp (AZ W) (AP (At W c)::caE c s1::bs) W1→ ∀j,j<l.length→Ak W1 g (off+j*2) [str (Ad (Ae l j).1),str (Ad (Ae l j).2)]:=fun hp j hj=>by
  obtain⟨g',off',e',h2⟩:=(hA.kc h.o hp).at_ hj
  rw[hpe] at e'
  cases e'
  rw[AE hj]
  exact h2 j hj
 have ok: ∀j,okP (Ae l j):=fun j=>hq _ (AU h0 j)
 subst hpe
 refine Cp.enter h Tryz.func74 I I I ?_
 refine zA (zB (wP I (Aa (zE (zA (zA (zB (wP I (wP I (wP I (Aa (zE (zH ?_)))))))))))))
 refine AA (X:=Nat) (fun i=>[(0,Aj c),(1,slv (some ⟨g,off,none⟩) l.length cap),(11,slv (some ⟨g,off,none⟩) l.length cap),(12, .int .i64 (l.length:Nat)),(13, .int .i64 (i:Nat))]) (fun _=>[AP (At W c),caE c false]) (fun i=>i≤l.length∧ ∀a,a<i→ ∀b,b<l.length→UY l a b) (fun i=>l.length-i) 0 ⟨Nat.zero_le _,fun _ h=>absurd h (Nat.not_lt_zero _)⟩ ⟨I,I,I,I,I,tO⟩ [] I ?_
 rintro i ⟨hi1,hi2⟩
 have hi1:i≤l.length:=hi1
 have hi2: ∀a,a<i→ ∀b,b<l.length→UY l a b:=hi2
 refine zA (zB (wP I ?_))
 by_cases hi:i<l.length
 rotate_left
 ·obtain rfl:i=l.length:=by omega
  refine wU 14 false I (dF (by omega)) (Aa (zE (zA (zS I (zJ (zK (zK (zL (zE (zA (zB (wP I (Aa ?_)))))))))))))
  exact zE (zO (Au tH I (.tmp I) false I ⟨fun _=>hi2,fun _=>rfl⟩ fun W1 hp=>Gb hp))
 refine wU 14 true I (dT (by omega)) (Aa (zE (zA (zR I (zI (zE (zA (zH (zA (zB ?_))))))))))
 obtain⟨P,hP⟩: ∃P,P=Ae l i:=⟨_,rfl⟩
 have okPP:okP P:=hP▸ok i
 have rP: ∀ {W1:World} {s1:Bool} {bs:List Bx},Hp (AZ W) (AP (At W c)::caE c s1::bs) W1→Ak W1 g (off+i*2) [str (Ad P.1),str (Ad P.2)]:=fun hp=>by rw[hP];exact hrow hp i hi
 refine wJ ?_
 refine wL 0 I I (fun W1 hp=>rP (s1:=false) (bs:=[]) hp) I ?_
 (refine Ah Tryz.hZ rfl rfl rfl rfl ?_;intro)
 refine wS 2 I I I (Aa ?_)
 rename_i b6
 refine zE (zA (zB (wP I (wP I (wP I (Aa (zE (zH ?_))))))))
 refine AA (X:=Nat) (fun k=>[(0,Aj c),(1,slv (some ⟨g,off,none⟩) l.length cap),(6,Aj b6),(11,slv (some ⟨g,off,none⟩) l.length cap),(12, .int .i64 (l.length:Nat)),(13, .int .i64 (i:Nat)),(17,slv (some ⟨g,off,none⟩) l.length cap),(18, .int .i64 (l.length:Nat)),(19, .int .i64 (k:Nat))]) (fun _=>[AP (At W c),caE c false,ptB b6 (Ad P.1) (Ad P.2)]) (fun k=>k≤l.length∧ ∀b,b<k→UY l i b) (fun k=>l.length-k) 0 ⟨Nat.zero_le _,fun _ h=>absurd h (Nat.not_lt_zero _)⟩ ⟨I,I,I,I,I,I,I,I,I,tO⟩ [] I ?_
 rintro k ⟨hk1,hk2⟩
 have hk1:k≤l.length:=hk1
 have hk2: ∀b,b<k→UY l i b:=hk2
 refine zA (zB (wP I ?_))
 by_cases hk:k<l.length
 rotate_left
 ·obtain rfl:k=l.length:=by omega
  refine wU 20 false I (dF (by omega)) (Aa (zE (zA (zS I (zJ (zK (zK (zL (zN (zE (zB (wP I (wV 57 ((i+1:Nat):Int) I (Ay (by omega)) ?_)))))))))))))
  refine wP I (Aa ?_)
  exact A6 (i+1) ⟨hi,fun a ha=>by
   by_cases e:a=i
   ·subst e;exact hk2
   ·exact hi2 a (by omega)⟩ (by show l.length-(i+1)<l.length-i;omega) ⟨I,I,I,I,I,tO⟩ [_] I
 refine wU 20 true I (dT (by omega)) (Aa (zE (zA (zR I (zI (zE (zA (zH (zA (zB ?_))))))))))
 obtain⟨Q,hQ⟩: ∃Q,Q=Ae l k:=⟨_,rfl⟩
 have okQQ:okP Q:=hQ▸ok k
 have rQ: ∀ {W1:World} {s1:Bool} {bs:List Bx},Hp (AZ W) (AP (At W c)::caE c s1::bs) W1→Ak W1 g (off+k*2) [str (Ad Q.1),str (Ad Q.2)]:=fun hp=>by rw[hQ];exact hrow hp k hk
 refine wJ ?_
 refine wL 0 I I (fun W1 hp=>rQ (s1:=false) (bs:=[ptB b6 (Ad P.1) (Ad P.2)]) hp) I ?_
 (refine Ah Tryz.hZ rfl rfl rfl rfl ?_;intro)
 refine wS 3 I I I (Aa ?_)
 rename_i b8
 obtain⟨x1,e1⟩: ∃x,x=kOr false P.1 Q.1:=⟨_,rfl⟩
 obtain⟨x2,e2⟩: ∃x,x=kOr x1.2 P.2 Q.2:=⟨_,rfl⟩
 have c1: ∀W1,KcP c false W1→I8 53 [Aj c,str (Ad P.1),str (Ad Q.1)] c x1 W1:=fun W1 h=>by rw[e1];exact E9 c _ _ _ okPP.1 okQQ.1 W1 h
 have c2: ∀W1,KcP c x1.2 W1→I8 53 [Aj c,str (Ad P.2),str (Ad Q.2)] c x2 W1:=fun W1 h=>by rw[e2];exact E9 c _ _ _ okPP.2 okQQ.2 W1 h
 have hx:x2.2=false↔BE P.1 Q.1∧BE P.2 Q.2:=by
  rw[e2,Uv,e1,Uv]
  exact⟨fun h=>⟨h.1.2,h.2⟩,fun h=>⟨⟨I,h.1⟩,h.2⟩⟩
 refine zE (zA (zB (wP I (wP I (wB 2 I I I (wP I (wB 3 I I I ?_)))))))
 refine Cr 1 c I I I I I I (by kernel_rfl) I (fun W1 hp1=>c1 W1 (h.at_ (bs:=[ptB b6 (Ad P.1) (Ad P.2),ptB b8 (Ad Q.1) (Ad Q.2)]) hp1)) ?_
 refine Aa (zE (zA (zB (wP I (wP I (wB 2 I I I (wP I (wB 3 I I I ?_))))))))
 refine Cr 1 c I I I I I I (by kernel_rfl) I (fun W1 hp1=>c2 W1 (h.at_ (bs:=[ptB b6 (Ad P.1) (Ad P.2),ptB b8 (Ad Q.1) (Ad Q.2)]) hp1)) ?_
 refine Aa (zE (zA (zB (wP I (wP I (wP I (Aa (zE (zH ?_)))))))))
 refine AA (X:=Nat×Bool) (fun s=>[(0,Aj c),(1,slv (some ⟨g,off,none⟩) l.length cap),(6,Aj b6),(8,Aj b8),(11,slv (some ⟨g,off,none⟩) l.length cap),(12, .int .i64 (l.length:Nat)),(13, .int .i64 (i:Nat)),(17,slv (some ⟨g,off,none⟩) l.length cap),(18, .int .i64 (l.length:Nat)),(19, .int .i64 (k:Nat)),(35,slv (some ⟨g,off,none⟩) l.length cap),(36, .int .i64 (l.length:Nat)),(37, .int .i64 (s.1:Nat))]) (fun s=>[AP (At W c),caE c s.2,ptB b6 (Ad P.1) (Ad P.2),ptB b8 (Ad Q.1) (Ad Q.2)])
  (fun s=>s.1≤l.length∧(0<s.1→s.2=false)∧(s.2=false↔BE P.1 Q.1∧BE P.2 Q.2∧ ∀d,d<s.1→KF P Q (Ae l d))) (fun s=>l.length-s.1) (0,x2.2) ⟨Nat.zero_le _,fun h=>absurd h (Nat.not_lt_zero _),hx.trans ⟨fun h=>⟨h.1,h.2,fun _ hd=>absurd hd (Nat.not_lt_zero _)⟩,fun h=>⟨h.1,h.2.1⟩⟩⟩ ⟨rfl,rfl,rfl,rfl,rfl,rfl,rfl,rfl,rfl,rfl,rfl,rfl,rfl,trivial⟩ [] rfl ?_
 rintro⟨j,s⟩ ⟨hj1,hj2,hj3⟩
 have hj1:j≤l.length:=hj1
 have hj2:0<j→s=false:=hj2
 have hj3:s=false↔BE P.1 Q.1∧BE P.2 Q.2∧ ∀d,d<j→KF P Q (Ae l d):=hj3
 refine zA (zB (wP I ?_))
 by_cases hj:j<l.length
 rotate_left
 ·obtain rfl:j=l.length:=by omega
  obtain rfl:s=false:=hj2 h0
  have hall:=hj3.1 rfl
  refine wU 38 false I (dF (by omega)) (Aa (zE (zA (zS I (zJ (zK (zK (zL (zN (zE (zB (wP I (wV 56 ((k+1:Nat):Int) I (Ay (by omega)) ?_)))))))))))))
  refine wP I (Aa ?_)
  exact A6 (k+1) ⟨hk,fun b hb=>by
   by_cases e:b=k
   ·subst e;exact⟨by rw[←hP, ←hQ];exact hall.1,by rw[←hP, ←hQ];exact hall.2.1,by rw[←hP, ←hQ];exact hall.2.2⟩
   ·exact hk2 b (by omega)⟩ (by show l.length-(k+1)<l.length-k;omega) ⟨I,I,I,I,I,I,I,I,I,tO⟩ [_] I
 refine wU 38 true I (dT (by omega)) (Aa (zE (zA (zR I (zI (zE (zA (zH (zA (zB ?_))))))))))
 obtain⟨Z,hZ⟩: ∃Z,Z=Ae l j:=⟨_,rfl⟩
 have okZZ:okP Z:=hZ▸ok j
 have rZ: ∀ {W1:World} {s1:Bool} {bs:List Bx},Hp (AZ W) (AP (At W c)::caE c s1::bs) W1→Ak W1 g (off+j*2) [str (Ad Z.1),str (Ad Z.2)]:=fun hp=>by rw[hZ];exact hrow hp j hj
 refine wJ ?_
 refine wL 0 I I (fun W1 hp=>rZ (s1:=s) (bs:=[ptB b6 (Ad P.1) (Ad P.2),ptB b8 (Ad Q.1) (Ad Q.2)]) hp) I ?_
 (refine Ah Tryz.hZ rfl rfl rfl rfl ?_;intro)
 refine wS 4 I I I (Aa ?_)
 rename_i b10
 obtain⟨⟨v,s2⟩,e3⟩: ∃x,x=kLf s P Q Z:=⟨_,rfl⟩
 have hs2:s2=false↔s=false∧KF P Q Z:=by
  have:=XJ (s:=s) (p:=P) (q:=Q) (r:=Z)
  rw[←e3] at this
  exact this
 have c3: ∀W1,KcP c s W1→I8 55 [Aj c,cvV P,cvV Q,cvV Z] c (v,s2) W1:=fun W1 h=>by rw[e3];exact Jh c _ _ _ _ okPP okQQ okZZ W1 h
 refine zE (zA (zB (wP I (wB 2 I I I (wB 3 I I I (wB 4 I I I ?_))))))
 refine Cr 1 c I I I I I I (by kernel_rfl) I (fun W1 hp1=>c3 W1 (h.at_ (bs:=[ptB b6 (Ad P.1) (Ad P.2),ptB b8 (Ad Q.1) (Ad Q.2),ptB b10 (Ad Z.1) (Ad Z.2)]) hp1)) ?_
 refine Aa ?_
 cases s2 with
 |true=>
  have hno: ¬Eo l:=fun ha=>by
   have hb:=ha i hi k hk
   have h1:KF P Q Z:=by rw[hP,hQ,hZ];exact hb.t j hj
   have h2:s=false:=hj3.2 ⟨by rw[hP,hQ];exact hb.x,by rw[hP,hQ];exact hb.y,fun d hd=>by rw[hP,hQ];exact hb.t d (by omega)⟩
   exact absurd (hs2.2 ⟨h2,h1⟩) (by decide)
  refine zE (zA (zB (wP I ?_)))
  refine AO I I I I ?_
  refine wP I (wB 1 I I I (wP I (Aa (zE (zR I (zA (zB (wP I ?_))))))))
  refine AO I I I I ?_
  refine wP I (wB 1 I I I (wP I (Aa (zE (zO (zQ (zP (zP (zQ (zQ (zP (zP (zQ (zQ ?_))))))))))))))
  exact zP (zP (zQ (zP (Au tH I (.tmp I) true I ⟨fun h=>absurd h (by decide),fun h=>absurd h hno⟩ fun W1 hp=>Gb hp))))
 |false=>
  obtain⟨rfl,htn⟩:=hs2.1 rfl
  have hall:=hj3.1 rfl
  refine zE (zA (zB (wP I ?_)))
  refine AO I I I I ?_
  refine wP I (wB 1 I I I (wP I (Aa (zE (zS I (zI (zN (zE (zB (wP I (wV 55 ((j+1:Nat):Int) I (Ay (by omega)) (wP I (Aa ?_)))))))))))))
  exact A6 (j+1,false) ⟨hj,fun _=>rfl,⟨fun _=>⟨hall.1,hall.2.1,fun d hd=>by
   by_cases e:d=j
   ·subst e;rw[←hZ];exact htn
   ·exact hall.2.2 d (by have hd:d<j+1:=hd;omega)⟩,fun _=>rfl⟩⟩ (by show l.length-(j+1)<l.length-j;omega) ⟨I,I,I,I,I,I,I,I,I,I,I,I,I,tO⟩ [_] I
def M8 (x:PtS):Bool:=decide (30<x.1.length)||decide (30<x.2.length)
theorem OM (x:PtS) (W:World):Ai Tryz.prog 137 #[.agg #[str x.1,str x.2]] W (fun _:Unit=> .bool (M8 x)) (fun _=>True) (fun _=>[]):=by
 have e1: ∀a:List UInt8,decide (((⟨a.toArray⟩:ByteArray).size:Int)>30)=decide (30<a.length):=fun a=>decide_eq_decide.2 (by show((a.toArray.size:Nat):Int)>30↔_;rw[List.size_toArray];omega)
 refine Ab (args:=[.agg #[str x.1,str x.2]]) Tryz.func137 I I I ?_
 refine zA (zB ?_)
 (refine A5 rfl rfl rfl rfl ?_;intro)
 refine wP I (Aa (zE (zA (zB (wP I (wB 0 I I I (wP I (wP I (wU 6 (decide (30<x.1.length)) I (e1 x.1) ?_)))))))))
 cases hx:decide (30<x.1.length) with
 |true=>
  refine wP I ?_
  iterate 4 refine Al I I ?_
  exact wP I (wP I (Aa (zE (zO (wR1 I I (by rw[M8,hx];rfl))))))
 |false=>
  exact wP I (wP I (wB 0 I I I (wP I (wP I (wU 11 (decide (30<x.2.length)) I (e1 x.2) (wP I (wP I (Aa (zE (zO (wR1 I I (by rw[M8,hx];rfl))))))))))))
theorem QA (xs:List PtS) (hn:xs.length≤100000) (p:Option Addr) (cap:Nat) (W:World) (hS:GS W p xs):
  Ai Tryz.prog 73 #[slv p xs.length cap] W (fun _:Unit=> .bool (xs.any M8)) (fun _=>True) (fun _=>[]):=by
 refine Ab (args:=[slv p xs.length cap]) Tryz.func73 I I I ?_
 exact zA (zB (wP I (Aa (zE (zA (zB (wP I (wC I I (fun W1 hp=>Gg 137 (by kernel_rfl) M8 OM xs hn p cap W1 (hS.hp hp)) (wP I (Aa (zE (zO (wR1 I I I)))))))))))))
-- BOXES 9
-- CODE2
theorem KcP.beside {c g:Nat} {s:Bool} {W0 W1 W2:World} {bxs:List Bx} {B:Bx} {o:Obj} (hp:Hp W0 bxs W1) (k j:Nat) (hk:nth bxs k=some (caE c s)) (hj:nth bxs j=some B) (hB:(g,o)∈B.blk) (hne:k≠j) (hv:BL W0) (ht:AM W0) (h2:Ga W1 W2 g):KcP c s W2:=by
 rw[B0] at hk hj
 have hc:=hp.own.cell k _ hk (c,caO s) (List.mem_cons_self ..)
 have hg:=hp.own.cell j _ hj (g,o) hB
 have ne:c≠g:=hp.own.apart k j _ _ hk hj hne (c,_) (List.mem_cons_self ..) (g,o) hB
 exact⟨(h2.at_ c ne (Array.getElem?_eq_some_iff.1 hc.1).1).trans hc.1,fun W3 h3=>⟨hv.below (h3.below (h2.below hp.below hg.2) hc.2),ht.below (h3.below (h2.below hp.below hg.2) hc.2)⟩⟩
def Kf (l:List Ag):List Ag:=BK (Hb (C8 l))
def TE (l L:List Ag) (e:Int):Prop:=Eo l∧3≤(Kf l).length∧L=Kf l∧e=0∨Eo l∧(Kf l).length<3∧L=[]∧e=12∨ ¬Eo l∧L=[]∧e=4
theorem Eo.tn {l:List Ag} (h:Eo l) {x y z:Ag} (hx:x∈l) (hy:y∈l) (hz:z∈l):KF x y z:=by
 obtain⟨i,hi,rfl⟩:=Cs hx
 obtain⟨j,hj,rfl⟩:=Cs hy
 obtain⟨k,hk,rfl⟩:=Cs hz
 exact(h i hi j hj).t k hk
theorem Eo.dv {l:List Ag} (h:Eo l) {x y:Ag} (hx:x∈l) (hy:y∈l):BE x.1 y.1∧BE x.2 y.2:=by
 obtain⟨i,hi,rfl⟩:=Cs hx
 obtain⟨j,hj,rfl⟩:=Cs hy
 exact⟨(h i hi j hj).x,(h i hi j hj).y⟩
theorem Lx (l:List Ag) (x:Ag):x∈Hb (C8 l)↔x∈l:=((ND (LR l)).2 x).trans Pe
theorem U0 (l:List Ag):(Hb (C8 l)).length≤l.length:=by
 exact Nat.le_trans (Pf (C8 l) (C8 l).length) (Nat.le_of_eq (LT l))
theorem Qw (l L:List Ag) (e:Int) (hr:TE l L e) (hlong:Eo l∨(l.map ptS).any M8=true) (h0:0<l.length) (h12:l.length≤12) (hq: ∀p∈l,okP p) (p:Option Addr) (cap:Nat) (W:World) (hA:Ci W p l) (hv:BL W) (ht:AM W):
  Ai Tryz.prog 26 #[slv p l.length cap] W (fun V:Vec=> .tuple #[V.val L.length, .int .i64 e]) (fun V=>V.OK 2 L.length (ptC L)) (fun V=>[V.bx 35 (ptC L)]):=by
 have hne:l≠[]:=fun h=>by rw[h] at h0;exact absurd h0 (by decide)
 have nilR: ∀ {W1:World} {bs:List Bx},Hp W bs W1→As W W1 [Vec.empty.bx 35 (ptC [])]:=fun _=>Own.one (fun p hp=>by cases hp) List.nodup_nil
 refine Ab (args:=[slv p l.length cap]) Tryz.func26 I I I ?_
 refine zA (zB (wP I (wP I (Aa (zE (zA (zH (zA (zB (wP I (wP I (wP I (wU 13 false I (beq_eq_false_iff_ne.2 (by omega)) ?_)))))))))))))
 refine wP I (Aa (zE (zS I (zA (zB (wP I (wP I (wP I (wU 17 false I (dF (by omega)) (wP I (Aa (zE (zS I ?_)))))))))))))
 refine zI (zN (zE (zA (zA (zB (wP I (wC I I (fun W1 hp=>GX W1 p cap l (hA.hp hp) (by omega) hq (hv.hp hp) (ht.hp hp)) (wP I (Aa (zE (zA (zB (wP I (wP I ?_))))))))))))))
 refine Aa (zE (zS I (zI (zE (zA (zB ?_))))))
 refine Az Tryz.hZ tH I I I I I I I I ?_
 (refine A5 rfl rfl rfl rfl ?_;intro)
 (refine Ah Tryz.hZ rfl rfl rfl rfl ?_;intro)
 refine wS 1 I I I (Aa ?_)
 rename_i bC b5
 refine zE (zA (zA (zB (wP I (wC I I (fun W1 hp=>(by have:=QA (l.map ptS) (by rw[List.length_map];omega) p cap W1 (hA.hp hp).b;rwa [List.length_map] at this)) (Aa (AI ?_)))))))
 try refine A0 ?_
 refine AG (X:=Unit) (fun _=>[(0,slv p l.length cap),(5,Aj b5)]) (fun _=>[caE bC false,ckB b5 bC]) (fun _=>Eo l) ?_ ?_
 ·cases hln:(l.map ptS).any M8 with
  |false=>
   have hok:Eo l:=by
    rcases hlong with h|h
    ·exact h
    ·rw[hln] at h;cases h
   exact zS I (zI (An () hok ⟨I,I,tO⟩ [] I))
  |true=>
   refine zR I (zA (zB (wB 1 I I I (wP I ?_))))
   refine Po 0 bC (s:=false) (X:=Bool) I I I I I I (by kernel_rfl) I (fun W1 hp=>MK bC l h0 (by omega) hq p cap W1 (hA.hp hp) (KcP.of hp 0 I hv ht)) ?_
   intro s hs
   have hs:s=false↔Eo l:=hs
   cases s with
   |true=>
    have hno: ¬Eo l:=fun h=>absurd (hs.2 h) (by decide)
    obtain⟨rfl,rfl⟩:L=[]∧e=4:=by
     rcases hr with h|h|h
     ·exact absurd h.1 hno
     ·exact absurd h.1 hno
     ·exact h.2
    refine wP I (Aa (zE (zA (zB (wP I (wP I (Aa (zE (zR I (zA (zB (wP I (wP I (wP I ?_))))))))))))))
    exact Aa (zE (zO (zP (AJ tH I (.tmp I) (.tmp I) Vec.empty I (Vec.OK.empty 2) fun W1 hp=>nilR hp))))
   |false=>
    exact wP I (Aa (zE (zA (zB (wP I (wP I (Aa (zE (zS I (zI (An () (hs.1 I) ⟨I,I,tO⟩ [] I)))))))))))
 intro _ hok
 have hok:Eo l:=hok
 refine zA (zB (wP I ?_))
 refine wD (X:=Vec) I I (fun W1 hp=>FT W1 p cap l (by omega) (hA.hp hp) hne) ?_
 rintro⟨pS,cS,jS⟩ ⟨hVS,hpS⟩
 obtain⟨gS,rfl⟩: ∃g,pS=some g:=Option.ne_none_iff_exists'.1 hpS
 have hcS:l.length≤cS:=(hVS.cap (by simp)).1
 refine wP I (Aa (zE (zA (zB (wP I (wB 1 I I I (wP I ?_)))))))
 refine D0 (X:=Unit) (val:=fun _=> .tuple #[]) (Φ:=fun _=>True) (capt:=[]) 2 (B:=Br gS l jS) (L1:=[]) (L2:=[]) (b:=gS) (ob:= .cells (ptC l++jS).toArray 35 (0,0)) (fun _=>Br gS (C8 l) jS) (g':=fun _=>gS) (o':=fun _=> .cells (ptC (C8 l)++jS).toArray 35 (0,0))
  rfl rfl rfl rfl rfl rfl (by kernel_rfl) rfl rfl (fun _ _=>rfl) (fun W1 hp=> ?_) (fun _ _=> ?_)
 ·exact Qg bC W1 gS cS l jS h12 (hp.own.cell 2 _ I (gS, .cells (ptC l++jS).toArray 35 (0,0)) (List.mem_cons_self ..)).1 fun W2 h2 x hx y hy=>Kc.of (hq x hx) (hq y hy) (hok.dv hx hy).1 (hok.dv hx hy).2 (KcP.beside hp 0 2 I I (List.mem_cons_self ..) (by decide) hv ht h2)
 refine Aa ?_
 have hsl:=LT l
 obtain⟨S,hS⟩: ∃S,S=Hb (C8 l):=⟨_,rfl⟩
 have hSm: ∀x,x∈S↔x∈l:=fun x=>by rw[hS];exact Lx l x
 have hSl:S.length≤l.length:=by rw[hS];exact U0 l
 have hS0:0<S.length:=by
  have:Ae l 0∈S:=(hSm _).2 (AU h0 0)
  exact List.length_pos_of_mem this
 have hSP: ∀i,Ae S i∈l:=fun i=>(hSm _).1 (AU hS0 i)
 have hH:Kf l=BK S:=by rw[hS];rfl
 refine zE (zA (zB (wP I ?_)))
 refine D0 (X:=List Value) (val:=fun _=> .slice (some ⟨gS,0,none⟩) S.length cS) (Φ:=fun _=>True) (capt:=[]) 2 (B:=Br gS (C8 l) jS) (L1:=[]) (L2:=[]) (b:=gS) (ob:= .cells (ptC (C8 l)++jS).toArray 35 (0,0)) (fun x=>Br gS S x) (g':=fun _=>gS) (o':=fun x=> .cells (ptC S++x).toArray 35 (0,0))
  rfl rfl rfl rfl rfl rfl (by kernel_rfl) rfl rfl (fun _ _=>rfl) (fun W1 hp=> ?_) ?_
 ·have:=PY W1 gS cS (C8 l) jS (by omega) (by omega) (hp.own.cell 2 _ rfl (gS, .cells (ptC (C8 l)++jS).toArray 35 (0,0)) (List.mem_cons_self ..)).1
  rw[←hS,hsl] at this
  exact this
 intro jT _
 refine wP I (Aa (zE (zA (zB (wP I (wP I (Aa ?_)))))))
 have hleft: ∀ {c:Nat} (P:Nat→Ag),(∀i,P i∈l)→ ∀(i j k:Nat) {W1 W2:World},KcP c false W1→Below W1.heap.size W1 W2→JS c (P i) (P j) (P k) W2:=fun {c} P hP i j k {W1 W2} hk hb=>JS.of (hq _ (hP i)) (hq _ (hP j)) (hq _ (hP k)) (hok.tn (hP i) (hP j) (hP k)) (hk.below hb)
 refine zE (zA (zB (wP I (wP I ?_))))
 refine wD (X:=Nat) I I (fun W1 _=>Ru (some ⟨gS,0,none⟩) S.length cS W1) ?_
 intro b1 _
 refine wD (X:=Vec) (capt:=[Aj b5]) I I (fun W1 hp=>Ky b5 bC 139 [Aj b1] (by kernel_rfl) S.length (fun k=>k) (Ae S) (fun _=>Ug b1 (some ⟨gS,0,none⟩) cS S) (Tm S b1 (some ⟨gS,0,none⟩) cS (by omega)) hS0 (by omega) W1 (Ak.of_bx hp 1 I I)
  (fun _ W2 hb=>⟨(Ak.of_bx hp 3 rfl rfl).below (Nat.le_refl _) hb,(Ci.of_row (Ak.of_bx hp 2 rfl rfl)).below (Nat.le_refl _) hb⟩) (fun i j k _ _ _ W2 hb=>hleft (Ae S) hSP i j k (KcP.of hp 0 rfl hv ht) hb)) ?_
 rintro⟨p1,c1,j1⟩ ⟨hV1,hp1⟩
 obtain⟨g1,rfl⟩: ∃g,p1=some g:=Option.ne_none_iff_exists'.1 hp1
 rw[Qu] at hV1
 refine wP I (wP I ?_)
 refine wD (X:=Nat) I I (fun W1 _=>PG (some ⟨gS,0,none⟩) S.length cS W1) ?_
 intro b2 _
 refine wD (X:=Vec) (capt:=[Aj b5]) I I (fun W1 hp=>Ky b5 bC 140 [Aj b2] (by kernel_rfl) S.length (fun k=>S.length-1-k) (fun k=>Ae S (S.length-1-k)) (fun _=>Ug b2 (some ⟨gS,0,none⟩) cS S) (QP S b2 (some ⟨gS,0,none⟩) cS (by omega)) hS0 (by omega) W1 (Ak.of_bx hp 1 I I)
  (fun _ W2 hb=>⟨(Ak.of_bx hp 5 rfl rfl).below (Nat.le_refl _) hb,(Ci.of_row (Ak.of_bx hp 2 rfl rfl)).below (Nat.le_refl _) hb⟩) (fun i j k _ _ _ W2 hb=>hleft (fun k=>Ae S (S.length-1-k)) (fun i=>hSP _) i j k (KcP.of hp 0 rfl hv ht) hb)) ?_
 rintro⟨p2,c2,j2⟩ ⟨hV2,hp2⟩
 obtain⟨g2,rfl⟩: ∃g,p2=some g:=Option.ne_none_iff_exists'.1 hp2
 rw[Pc] at hV2
 have sl1:=H1 (Ae S) S.length
 have sl2:=H1 (fun k=>Ae S (S.length-1-k)) S.length
 have q1:=Qu S
 have q2:=Pc S
 refine AF Tryz.hZ tH I I I I I I I I I I I fun bR=> ?_
 rw[q1] at sl1
 rw[q2] at sl2
 rw[q1,q2]
 obtain⟨A,eA⟩: ∃A,A=(Ao S).tail.reverse:=⟨_,rfl⟩
 obtain⟨B,eB⟩: ∃B,B=(Ao S.reverse).tail.reverse:=⟨_,rfl⟩
 have lA:(Ao S).length-1=A.length:=by rw[eA,List.length_reverse,List.length_tail]
 have lB:(Ao S.reverse).length-1=B.length:=by rw[eB,List.length_reverse,List.length_tail]
 have hHC:Kf l=A++B:=by rw[hH,eA,eB];rfl
 rw[lA] at hV1
 rw[lB] at hV2
 rw[←eA] at hV1
 rw[←eB] at hV2
 rw[←eA, ←eB,lA,lB]
 refine wD (X:=Vec) I I (fun W1 hp=>FE W1 bR 2 (some ⟨g1,0,none⟩) (some ⟨g2,0,none⟩) A.length B.length c1 c2 (ptC A) (ptC B) (Ak.of_bx hp 7 I I) (.inr ⟨g1,0,I,Cv (Ak.of_bx hp 4 I I:Ak W1 g1 0 (ptC A++j1))⟩) (.inr ⟨g2,0,I,Cv (Ak.of_bx hp 6 I I:Ak W1 g2 0 (ptC B++j2))⟩) (AR A) (AR B) (GU _) (GU _) (by omega) (by omega)) ?_
 intro V hV
 have lAB:A.length+B.length=(Kf l).length:=by rw[hHC,List.length_append]
 have hV:V.OK 2 (Kf l).length (ptC (Kf l)):=by
  have h1:V.OK 2 (A.length+B.length) (ptC A++ptC B):=hV
  rw[←BX, ←hHC,lAB] at h1
  exact h1
 have hAB:ptC A++ptC B=ptC (Kf l):=by rw[hHC,BX]
 rw[hAB,lAB]
 refine wP I (Aa (zE (zA (zA (zB (wB 1 I I I ?_))))))
 refine AO I I I I ?_
 refine wP I (wB 0 I I I (wP I (Aa (zE (zS I (zI (zE (zA (zA (zB (wP I ?_)))))))))))
 obtain⟨pV,cV,jV⟩:=V
 by_cases hl3:(Kf l).length<3
 ·obtain⟨rfl,rfl⟩:L=[]∧e=12:=by
   rcases hr with h|h|h
   ·exact absurd hl3 (by omega)
   ·exact h.2.2
   ·exact absurd hok h.1
  cases pV with
  |none=>
   have hz:=hV.nil rfl
   rw[hz]
   exact wP I (wP I (Aa (zE (zR I (zA (zB (wP I (wP I (Aa (zE (zO (zP (AJ tH I (.tmp I) (.tmp I) Vec.empty I (Vec.OK.empty 2) fun W1 hp=>nilR hp)))))))))))))
  |some gV=>
   exact wP I (wP I (wU 63 true I (dT (by omega)) (Aa (zE (zR I (zA (zB (wP I (wP I (Aa (zE (zO (zP (AJ tH I (.tmp I) (.tmp I) Vec.empty I (Vec.OK.empty 2) fun W1 hp=>nilR hp))))))))))))))
 ·obtain⟨rfl,rfl⟩:L=Kf l∧e=0:=by
   rcases hr with h|h|h
   ·exact h.2.2
   ·exact absurd h.2.1 hl3
   ·exact absurd hok h.1
  cases pV with
  |none=>exact absurd (hV.nil rfl) (by omega)
  |some gV=>
   refine wP I (wP I (wU 63 false I (dF (by omega)) (Aa (zE (zS I (zI (zE (zA (zB (wP I (wP I (wP I (Aa ?_)))))))))))))
   exact zE (zO (AJ tH I (.tmp I) (.tmp I) (⟨some gV,cV,jV⟩:Vec) I hV fun W1 hp=>As.of_hp (hp.pick (l:=[(⟨some gV,cV,jV⟩:Vec).bx 35 (ptC (Kf l))]) [8] (by decide) I)))
end
section
open Go Go.RowKit Go.Am Go.Lib
theorem I7 {q:Rat} {X W:Int} {k:Nat} (hW:W≠0) (h:q*(W:Rat)=X) (h1:X.natAbs<10^k) (h2:W.natAbs<10^k):szQ q k:=by
 have hw:(W:Rat)≠0:=fun e=>hW (by have h:=congrArg Rat.num e;rwa [Rat.num_intCast] at h)
 have e:q=(X:Rat)/(W:Rat):=by rw[←h,Rat.mul_div_cancel hw]
 have h:=Je X hW h1 h2
 rw[J9 X hW,Rat.divInt_eq_div] at h
 rw[e]
 exact h
def Hm (e:Nat) (p:Ag):Prop:= ∃X Y W:Int,W≠0∧X.natAbs<10^e∧Y.natAbs<10^e∧W.natAbs<10^e∧p.1*(W:Rat)=X∧p.2*(W:Rat)=Y
theorem Hm.sz {e:Nat} {p:Ag} (h:Hm e p):szQ p.1 e∧szQ p.2 e:=by
 obtain⟨X,Y,W,h0,hX,hY,hW,e1,e2⟩:=h
 exact⟨I7 h0 e1 hX hW,I7 h0 e2 hY hW⟩
theorem Hm.mono {e e':Nat} {p:Ag} (h:Hm e p) (he:e≤e'):Hm e' p:=by
 obtain⟨X,Y,W,h0,hX,hY,hW,e1,e2⟩:=h
 have:=Nat.pow_le_pow_right (show 0<10 by decide) he
 exact⟨X,Y,W,h0,by omega,by omega,by omega,e1,e2⟩
def LnH (f:AL):Prop:= ∃A B C D:Int,D≠0∧A.natAbs<10^11∧B.natAbs<10^11∧C.natAbs<10^11∧D.natAbs<10^9∧f.a*(D:Rat)=A∧f.b*(D:Rat)=B∧f.c*(D:Rat)=C
theorem Uo {u v D Wp Wq p1 q1 Xp Xq U V t:Rat} (hp:p1*Wp=Xp) (hq:q1*Wq=Xq) (hU:u*(D*Wp)=U) (hV:v*(D*Wq)=V) (ht:t*(u-v)=u):(p1+t*(q1-p1))*(U*Wq-V*Wp)=U*Xq-V*Xp:=by
 subst hp hq hU hV
 have e:(p1+t*(q1-p1))*(u-v)=u*q1-v*p1:=by
  have:(p1+t*(q1-p1))*(u-v)=p1*(u-v)+t*(u-v)*(q1-p1):=by grind
  rw[this,ht];grind
 have:(p1+t*(q1-p1))*(u*(D*Wp)*Wq-v*(D*Wq)*Wp)=(p1+t*(q1-p1))*(u-v)*(D*Wp*Wq):=by grind
 rw[this,e];grind
theorem UQ {a b c x y A B C D W X Y:Rat} (h1:a*D=A) (h2:b*D=B) (h3:c*D=C) (h4:x*W=X) (h5:y*W=Y):(a*x+b*y-c)*(D*W)=A*X+B*Y-C*W:=by
 subst h1 h2 h3 h4 h5;grind
theorem XK {u v D Wp Wq U V t:Rat} (hU:u*(D*Wp)=U) (hV:v*(D*Wq)=V) (ht:t*(u-v)=u):t*(U*Wq-V*Wp)=U*Wq:=by
 subst hU hV
 have:t*(u*(D*Wp)*Wq-v*(D*Wq)*Wp)=t*(u-v)*(D*Wp*Wq):=by grind
 rw[this,ht];grind
theorem WF {u v:Rat} (h:u*v<0):u-v≠0:=fun e=>by
 have e2:u=v:=by grind
 subst e2
 rcases EB.1 h with⟨a,b⟩|⟨a,b⟩<;>first|exact Rat.not_lt.2 (Rat.le_of_lt a) b|exact Rat.not_lt.2 (Rat.le_of_lt b) a
theorem Hm.at_ {e:Nat} {p:Ag} {f:AL} (hp:Hm e p) (hf:LnH f):szQ (f.at p) (e+13):=by
 obtain⟨X,Y,W,h0,hX,hY,hW,e1,e2⟩:=hp
 obtain⟨A,B,C,D,hD0,hA,hB,hC,hD,f1,f2,f3⟩:=hf
 have hU:=UQ f1 f2 f3 e1 e2
 have b1:=HH (AX hA hX) (AX hB hY)
 have b2:(C*W).natAbs<10^(11+e+1):=Nat.lt_of_lt_of_le (AX hC hW) (Nat.pow_le_pow_right (by decide) (by omega))
 have b3:=DZ b1 b2
 refine I7 (W:=D*W) (X:=A*X+B*Y-C*W) (Int.mul_ne_zero hD0 h0) ?_ (by rw[show e+13=11+e+1+1 by omega];exact b3) ?_
 ·unfold AL.at
  rw[Rat.intCast_mul,Rat.intCast_sub,Rat.intCast_add,Rat.intCast_mul,Rat.intCast_mul,Rat.intCast_mul]
  exact hU
 ·exact Nat.lt_of_lt_of_le (AX hD hW) (Nat.pow_le_pow_right (by decide) (by omega))
theorem Hm.cut {e:Nat} {p q:Ag} {f:AL} (hp:Hm e p) (hq:Hm e q) (hf:LnH f) (h:f.at p*f.at q<0):
  Hm (2*e+14) (DR (f.at p/(f.at p-f.at q)) p q)∧szQ (f.at p/(f.at p-f.at q)) (2*e+14):=by
 have hn:=WF h
 obtain⟨X,Y,W,h0,hX,hY,hW,e1,e2⟩:=hp
 obtain⟨X',Y',W',h0',hX',hY',hW',e1',e2'⟩:=hq
 obtain⟨A,B,C,D,hD0,hA,hB,hC,hD,f1,f2,f3⟩:=hf
 have hU:f.at p*((D:Rat)*W)=((A*X+B*Y-C*W:Int):Rat):=by
  rw[Rat.intCast_sub,Rat.intCast_add,Rat.intCast_mul,Rat.intCast_mul,Rat.intCast_mul]
  exact UQ f1 f2 f3 e1 e2
 have hV:f.at q*((D:Rat)*W')=((A*X'+B*Y'-C*W':Int):Rat):=by
  rw[Rat.intCast_sub,Rat.intCast_add,Rat.intCast_mul,Rat.intCast_mul,Rat.intCast_mul]
  exact UQ f1 f2 f3 e1' e2'
 have bU:(A*X+B*Y-C*W).natAbs<10^(11+e+1+1):=DZ (HH (AX hA hX) (AX hB hY)) (Nat.lt_of_lt_of_le (AX hC hW) (Nat.pow_le_pow_right (by decide) (by omega)))
 have bV:(A*X'+B*Y'-C*W').natAbs<10^(11+e+1+1):=DZ (HH (AX hA hX') (AX hB hY')) (Nat.lt_of_lt_of_le (AX hC hW') (Nat.pow_le_pow_right (by decide) (by omega)))
 generalize A*X+B*Y-C*W=U at hU bU
 generalize A*X'+B*Y'-C*W'=V at hV bV
 have ht:f.at p/(f.at p-f.at q)*(f.at p-f.at q)=f.at p:=Rat.div_mul_cancel hn
 generalize f.at p/(f.at p-f.at q)=t at ht
 have hwn:U*W'-V*W≠0:=fun e0=>by
  have c0:((U*W'-V*W:Int):Rat)=0:=by rw[e0];rfl
  rw[Rat.intCast_sub,Rat.intCast_mul,Rat.intCast_mul, ←hU, ←hV] at c0
  have c1:f.at p*((D:Rat)*W)*W'-f.at q*((D:Rat)*W')*W=(f.at p-f.at q)*((D:Rat)*W*W'):=by grind
  rw[c1] at c0
  have nz: ∀ {z:Int},z≠0→(z:Rat)≠0:=fun hz e=>hz (by have h:=congrArg Rat.num e;rwa [Rat.num_intCast] at h)
  rcases Rat.mul_eq_zero.1 c0 with c|c
  ·exact hn c
  ·rcases Rat.mul_eq_zero.1 c with c|c
   ·rcases Rat.mul_eq_zero.1 c with c|c
    ·exact nz hD0 c
    ·exact nz h0 c
   ·exact nz h0' c
 have pw: ∀ {a b:Int},a.natAbs<10^(11+e+1+1)→b.natAbs<10^e→(a*b).natAbs<10^(2*e+13):=fun ha hb=>by
  rw[show 2*e+13=11+e+1+1+e by omega];exact AX ha hb
 refine⟨⟨U*X'-V*X,U*Y'-V*Y,U*W'-V*W,hwn,DZ (pw bU hX') (pw bV hX),DZ (pw bU hY') (pw bV hY),DZ (pw bU hW') (pw bV hW), ?_, ?_⟩, ?_⟩
 ·rw[Rat.intCast_sub,Rat.intCast_sub,Rat.intCast_mul,Rat.intCast_mul,Rat.intCast_mul,Rat.intCast_mul]
  exact Uo e1 e1' hU hV ht
 ·rw[Rat.intCast_sub,Rat.intCast_sub,Rat.intCast_mul,Rat.intCast_mul,Rat.intCast_mul,Rat.intCast_mul]
  exact Uo e2 e2' hU hV ht
 ·refine I7 hwn (X:=U*W') ?_ (Nat.lt_of_lt_of_le (pw bU hW') (Nat.pow_le_pow_right (by decide) (by omega))) (DZ (pw bU hW') (pw bV hW))
  rw[Rat.intCast_sub,Rat.intCast_mul,Rat.intCast_mul]
  exact XK hU hV ht
theorem LnH.sz {f:AL} (hf:LnH f):szQ f.a 11∧szQ f.b 11∧szQ f.c 11:=by
 obtain⟨A,B,C,D,hD0,hA,hB,hC,hD,f1,f2,f3⟩:=hf
 have hD':D.natAbs<10^11:=Nat.lt_of_lt_of_le hD (Nat.pow_le_pow_right (by decide) (by decide))
 exact⟨I7 hD0 f1 hA hD',I7 hD0 f2 hB hD',I7 hD0 f3 hC hD'⟩
theorem Hm.kept {e:Nat} {f:AL} {l:List Ag} (hf:LnH f) (hl: ∀p∈l,Hm e p): ∀k,k≤l.length→ ∀p∈En f l k,Hm (2*e+14) p
 |0,_,p,hp=>absurd hp (by simp[En,C0])
 |k+1,hk,p,hp=>by
  have h0:0<l.length:=by omega
  rw[JQ,FZ,List.mem_append,List.mem_append] at hp
  rcases hp with(hp|hp)|hp
  ·exact Hm.kept hf hl k (by omega) p hp
  ·split at hp
   ·rw[List.mem_singleton.1 hp];exact(hl _ (AU h0 k)).mono (by omega)
   ·exact absurd hp (by simp)
  ·split at hp
   ·rename_i c
    rw[List.mem_singleton.1 hp];exact((hl _ (AU h0 k)).cut (hl _ (AU h0 (k+1))) hf c).1
   ·exact absurd hp (by simp)
theorem ClZ.of {e:Nat} {f:AL} {l:List Ag} (hf:LnH f) (he:e≤50) (hl: ∀p∈l,Hm e p):ClZ f l:=by
 obtain⟨sa,sb,sc⟩:=hf.sz
 refine⟨fun q hq=> ?_,fun i hi hc=> ?_,fun p hp=> ?_⟩
 ·obtain⟨q1,q2⟩:=(hl q hq).sz
  exact⟨sz2 sa q1 (by omega),sz2 sb q2 (by omega),sz2 (sa.mul q1) (sb.mul q2) (by omega),sz2 ((sa.mul q1).add (sb.mul q2)) sc (by omega)⟩
 ·have h0:0<l.length:=by omega
  have hp:=hl _ (AU h0 i)
  have hq:=hl _ (AU h0 (i+1))
  have hu:=hp.at_ hf
  have hv:=hq.at_ hf
  have ht:=(hp.cut hq hf hc).2
  obtain⟨p1,p2⟩:=hp.sz
  obtain⟨q1,q2⟩:=hq.sz
  exact⟨sz2 hu hv (by omega),sz2 hu (hu.sub hv) (by omega),XA (WF hc),sz2 q1 p1 (by omega),sz2 ht (q1.sub p1) (by omega),sz2 p1 (ht.mul (q1.sub p1)) (by omega),sz2 q2 p2 (by omega),sz2 ht (q2.sub p2) (by omega),sz2 p2 (ht.mul (q2.sub p2)) (by omega)⟩
 ·have h:=(Hm.kept hf hl l.length (Nat.le_refl _) p hp).sz
  exact⟨h.1.mono (by omega),h.2.mono (by omega)⟩
theorem UE {q:Rat} (h:(Ad q).length≤5):q.num.natAbs<10^5∧q.den<10^3:=by
 have hi:(itoa q.num).length≤5∧(decDigits q.den).length≤3:=by
  unfold Ad EY at h
  split at h
  ·rename_i e
   exact⟨h,by rw[e];exact Nat.le_trans (Dv 1 1 (by decide) (by decide)) (by decide)⟩
  ·rw[List.length_append,List.length_cons] at h
   have h1:0<(itoa q.num).length:=by
    rw[BU,List.length_append]
    have:0<(decDigits q.num.natAbs).length:=by rw[Uz];exact nDigits_pos _
    omega
   omega
 have h2:(decDigits q.num.natAbs).length≤5:=by
  have h1:=hi.1
  rw[BU,List.length_append] at h1
  omega
 exact⟨Nat.lt_of_lt_of_le (Dt _) (Nat.pow_le_pow_right (by decide) h2),Nat.lt_of_lt_of_le (Dt _) (Nat.pow_le_pow_right (by decide) hi.2)⟩
theorem Jr (q:Rat):q*((q.den:Int):Rat)=(q.num:Rat):=by
 have hd:((q.den:Int):Rat)≠0:=fun e=>by
  have h:=congrArg Rat.num e
  rw[Rat.num_intCast] at h
  have:=q.den_pos
  have h:(q.den:Int)=0:=h
  omega
 have e:q=(q.num:Rat)/((q.den:Int):Rat):=by
  rw[←Rat.divInt_eq_div]
  exact(Rat.num_divInt_den q).symm
 conv=>lhs;lhs;rw[e]
 exact Rat.div_mul_cancel hd
theorem hm5 {p:Ag} (h1:(Ad p.1).length≤5) (h2:(Ad p.2).length≤5):Hm 8 p:=by
 obtain⟨a,b⟩:=UE h1
 obtain⟨c,d⟩:=UE h2
 have b':((p.1.den:Nat):Int).natAbs<10^3:=by rw[Int.natAbs_natCast];exact b
 have d':((p.2.den:Nat):Int).natAbs<10^3:=by rw[Int.natAbs_natCast];exact d
 refine⟨p.1.num*(p.2.den:Nat),p.2.num*(p.1.den:Nat),(p.1.den:Nat)*(p.2.den:Nat), ?_,AX a d',AX c b',Nat.lt_of_lt_of_le (AX b' d') (by decide), ?_, ?_⟩
 ·have:=p.1.den_pos;have:=p.2.den_pos
  exact Int.mul_ne_zero (by omega) (by omega)
 ·have:=Jr p.1
  rw[Rat.intCast_mul,Rat.intCast_mul, ←this];grind
 ·have:=Jr p.2
  rw[Rat.intCast_mul,Rat.intCast_mul, ←this];grind
theorem Yc {f:AL} (h1:(Ad f.a).length≤5) (h2:(Ad f.b).length≤5) (h3:(Ad f.c).length≤5):LnH f:=by
 obtain⟨a,b⟩:=UE h1
 obtain⟨c,d⟩:=UE h2
 obtain⟨g,h⟩:=UE h3
 have b':((f.a.den:Nat):Int).natAbs<10^3:=by rw[Int.natAbs_natCast];exact b
 have d':((f.b.den:Nat):Int).natAbs<10^3:=by rw[Int.natAbs_natCast];exact d
 have h':((f.c.den:Nat):Int).natAbs<10^3:=by rw[Int.natAbs_natCast];exact h
 refine⟨f.a.num*((f.b.den:Nat)*(f.c.den:Nat)),f.b.num*((f.a.den:Nat)*(f.c.den:Nat)),f.c.num*((f.a.den:Nat)*(f.b.den:Nat)),(f.a.den:Nat)*((f.b.den:Nat)*(f.c.den:Nat)), ?_,AX a (AX d' h'),AX c (AX b' h'),AX g (AX b' d'),AX b' (AX d' h'), ?_, ?_, ?_⟩
 ·have:=f.a.den_pos;have:=f.b.den_pos;have:=f.c.den_pos
  exact Int.mul_ne_zero (by omega) (Int.mul_ne_zero (by omega) (by omega))
 ·have:=Jr f.a
  simp only[Rat.intCast_mul];rw[←this];grind
 ·have:=Jr f.b
  simp only[Rat.intCast_mul];rw[←this];grind
 ·have:=Jr f.c
  simp only[Rat.intCast_mul];rw[←this];grind
end
section
open Go Go.RowKit Go.Am Go.Lib
set_option maxRecDepth 10000
-- BOXES 15
-- CODE2
theorem Wn (q:Rat):(Fh q==0)=decide (q=0):=by
 have h2:q.num=0↔q=0:=Rat.num_eq_zero
 rw[Bool.eq_iff_iff,beq_iff_eq,decide_eq_true_iff, ←h2]
 unfold Fh
 split
 ·rename_i e
  exact⟨fun _=>e,fun _=>rfl⟩
 ·rename_i e
  split
  ·exact⟨fun h=>absurd h (by decide),fun h=>absurd h e⟩
  ·exact⟨fun h=>absurd h (by decide),fun h=>absurd h e⟩
theorem CH.keep {W W':World} {c g:Nat} (h:CH W c) (hk:Ga W W' g) (hne:c≠g):CH W' c:=(hk.at_ c hne (Array.getElem?_eq_some_iff.1 h).1).trans h
def DQ (f:AL) (l:List Ag) (k:Nat):List Ag:=(CA (Ae l) k f).map (Cj (Ae l))
def Gq (f:AL) (l:List Ag) (k:Nat):List Ag:=DQ f l k++(if f.at (Ae l k)=0 then[Ae l k] else[])
theorem No (f:AL) (l:List Ag) (k:Nat):DQ f l (k+1)=Gq f l k++(if f.at (Ae l k)*f.at (Ae l (k+1))<0 then[DR (f.at (Ae l k)/(f.at (Ae l k)-f.at (Ae l (k+1)))) (Ae l k) (Ae l (k+1))] else[]):=by
 unfold DQ Gq CA
 rw[List.range_succ,List.flatMap_append,List.map_append,List.flatMap_cons,List.flatMap_nil,List.append_nil,List.map_append, ←List.append_assoc]
 have e1:(if f.at (Ae l k)=0 then[((k,0):H4)] else[]).map (Cj (Ae l))=if f.at (Ae l k)=0 then[Ae l k] else[]:=by
  split
  ·show[DR 0 (Ae l k) (Ae l (k+1))]=_
   rw[QR]
  ·rfl
 have e2:(if f.at (Ae l k)*f.at (Ae l (k+1))<0 then[((k,f.at (Ae l k)/(f.at (Ae l k)-f.at (Ae l (k+1)))):H4)] else[]).map (Cj (Ae l))=if f.at (Ae l k)*f.at (Ae l (k+1))<0 then[DR (f.at (Ae l k)/(f.at (Ae l k)-f.at (Ae l (k+1)))) (Ae l k) (Ae l (k+1))] else[]:=by
  split
  ·rfl
  ·rfl
 rw[e1,e2]
 rfl
theorem Jw (f:AL) (l:List Ag) (k:Nat):(DQ f l k).length≤k:=by unfold DQ;rw[List.length_map];exact Pu _ _ _
theorem TW (f:AL) (l:List Ag) (k:Nat):(Gq f l k).length≤k+1:=by
 unfold Gq
 have:=Jw f l k
 rw[List.length_append]
 have a:(if f.at (Ae l k)=0 then[Ae l k] else[]).length≤1:=by split<;>simp
 omega
structure SeZ (f:AL) (l:List Ag):Prop where
 v: ∀q∈l,UC f q
 c: ∀i,i<l.length→f.at (Ae l i)*f.at (Ae l (i+1))<0→Xb (Ae l i) (Ae l (i+1)) (f.at (Ae l i)) (f.at (Ae l (i+1)))
 n2:(BA f l).length≤2
 s: ∀x y,BA f l=[x,y]→Sz2 y.1 x.1∧Sz2 y.2 x.2
def ptV (x:Ag):Value:= .agg #[str (Ad x.1),str (Ad x.2)]
def Qh (l:List Ag):Value:=match l with
 |[x,y]=> .tuple #[ptV (if BD y x=true then y else x),ptV (if BD y x=true then x else y), .bool true, .int .i64 0]
 |_=> .tuple #[.agg #[str [],str []], .agg #[str [],str []], .bool false, .int .i64 0]
section
variable {P:Program} {N:Nat} {D:List Deferred} {ops:List Oper} {o:Oper} {rest:List Oper} {env:Env} {A A2:World→Prop} {R:Act→World→Prop}
theorem Q3 {d:Nat} {x:Operand} {a:Addr} (hg:A8 ops N env o=some true) (hd:o.dst=some d) (ho:o.op= .nilCheck x) (hx:evO N env x=some (.pointer (some a)))
  (h:WQ P N D ops A2 R rest ((d, .pointer (some a))::env) A):WQ P N D ops A2 R (o::rest) env A:=
 D7 hg hd (fun c e=>by rw[ho] at e;cases e) (fun _ W hρ _=>by simp[execOp,ho,hρ _ _ hx]) h
end
theorem Hk (f:AL) (hf:Pg f) (l:List Ag) (hz:SeZ f l) (p:Option Addr) (cap:Nat) (W:World) (h:He W p l):
  Ai Tryz.prog 24 #[slv p l.length cap,str (Ad f.a),str (Ad f.b),str (Ad f.c)] W (fun _:Unit=>Qh (BA f l)) (fun _=>True) (fun _=>[]):=by
 have h3:=h.n3
 have hn:=h.n
 have hA:=h.m
 have hn0:0<l.length:=by omega
 have hzz:(l.length:Int)≠0:=by omega
 have hvl:(l.map f.at).length=l.length:=List.length_map _
 refine Ab (args:=[slv p l.length cap,str (Ad f.a),str (Ad f.b),str (Ad f.c)]) Tryz.func24 I I I ?_
 refine zA (zB ?_)
 (refine A5 rfl rfl rfl rfl ?_;intro)
 (refine Ah Tryz.hZ rfl rfl rfl rfl ?_;intro)
 (refine Ah Tryz.hZ rfl rfl rfl rfl ?_;intro)
 refine wP I (wP I (Aa ?_))
 rename_i b4 b8 b9
 refine zE (zA (zA (zB (wB 0 I I I (wP I (wP I (wP I ?_)))))))
 refine AF Tryz.hZ tH I I I I I I I I I I I fun bS=> ?_
 refine wC I I (fun W1 hp=>Il l p cap f.a f.b f.c hf.a hf.b hf.c hf.n bS 3 W1 (h.hp hp) (Ak.of_bx hp 3 I I)) (wP I (Aa (zE (zA (zB (wP I (wP I (Aa (zE (zS I (zI (zE (zA ?_)))))))))))))
 refine zB ?_
 refine Az Tryz.hZ tH I I I I I I I I ?_
 (refine A5 rfl rfl rfl rfl ?_;intro)
 (refine Ah Tryz.hZ rfl rfl rfl rfl ?_;intro)
 refine wS 5 I I I (Aa ?_)
 rename_i bC b13
 refine zE (A0 ?_)
 refine Bg (X:= { s:Nat×Vec//s.2.OK 1 l.length (vsC (l.map f.at)) }) [true,true,true,true,true,false,false,false,false] (fun s=>[(4,Aj b4),(8,Aj b8),(9,Aj b9),(10, .bool false),(11, .int .i64 0),(13,Aj b13),(14,Aj s.1.1)]) (fun s=>[lsB b4 (slv p l.length cap),ptB b8 [] [],ptB b9 [] [],caB bC,ckB b13 bC,nmB s.1.1 (s.1.2.val l.length),s.1.2.bx 23 (vsC (l.map f.at))])
  4 [lsB b4 (slv p l.length cap),ptB b8 [] [],ptB b9 [] [],⟨bS,23,[str (Ad f.a),str (Ad f.b),str (Ad f.c)],true,none⟩,caB bC,ckB b13 bC] Tryz.mixed (by kernel_rfl) ?_ ?_
 ·refine qB 0 I I I (qB 5 I I I (qP I (qP I (qP I (C1 (wX ?_))))))
  refine RS.cons ?_ (RS.cons ?_ (RS.nil))
  ·refine wD (X:=Nat×Nat×Nat×Nat) rfl rfl (fun W1 _=>Fb bC f W1) ?_;rintro⟨v4,v5,v6,v7⟩ _
   refine Aa (Ac (wX ?_))
   refine RS.cons ?_ (RS.cons ?_ (RS.nil))
   ·refine wD (X:=Vec) rfl rfl (fun W1 hp=>CR l f.at 132 [Aj v4,Aj v5,Aj v6,Aj v7] (by kernel_rfl) hn p cap W1 (hA.hp hp) (fun q hq W2 hb=>CS v4 v5 v6 v7 bC f q (hz.v q hq) W2 (JO.below (by first|exact⟨Ak.of_bx hp 6 rfl rfl,Ak.of_bx hp 7 rfl rfl,Ak.of_bx hp 8 rfl rfl,Ak.of_bx hp 9 rfl rfl,B9 hp 4 rfl,h.v.hp hp,h.t.hp hp⟩|exact⟨Ak.of_bx hp 7 rfl rfl,Ak.of_bx hp 8 rfl rfl,Ak.of_bx hp 9 rfl rfl,Ak.of_bx hp 10 rfl rfl,B9 hp 4 rfl,h.v.hp hp,h.t.hp hp⟩) hb))) ?_;rintro⟨pV1,cV1,jV1⟩ hV1;obtain⟨gV1,rfl⟩: ∃g,pV1=some g:=Option.ne_none_iff_exists'.1 (fun e=>absurd (hV1.nil e) (by omega))
    refine Aa (Ac (wX (wZ ?_)))
    refine Ah Tryz.hZ rfl rfl rfl rfl ?_;intro b14
    refine Aa (Ac (wX (wZ (wS 11 I I I (Aa (Ac ?_))))))
    refine A9 I (by((repeat (first|refine AC.same ?_|refine AC.off I ?_));exact tO)) ?_
    exact Ar (⟨(b14,⟨some gV1,cV1,jV1⟩),hV1⟩: { s:Nat×Vec//s.2.OK 1 l.length (vsC (l.map f.at)) }) ⟨I,I,I,I,I,I,I,tO⟩ [0,1,2,4,5,11,10] (by decide) I
   ·refine Ah Tryz.hZ rfl rfl rfl rfl ?_;intro b14
    refine Aa (Ac (wX (wZ ?_)))
    refine wD (X:=Vec) rfl rfl (fun W1 hp=>CR l f.at 132 [Aj v4,Aj v5,Aj v6,Aj v7] (by kernel_rfl) hn p cap W1 (hA.hp hp) (fun q hq W2 hb=>CS v4 v5 v6 v7 bC f q (hz.v q hq) W2 (JO.below (by first|exact⟨Ak.of_bx hp 6 rfl rfl,Ak.of_bx hp 7 rfl rfl,Ak.of_bx hp 8 rfl rfl,Ak.of_bx hp 9 rfl rfl,B9 hp 4 rfl,h.v.hp hp,h.t.hp hp⟩|exact⟨Ak.of_bx hp 7 rfl rfl,Ak.of_bx hp 8 rfl rfl,Ak.of_bx hp 9 rfl rfl,Ak.of_bx hp 10 rfl rfl,B9 hp 4 rfl,h.v.hp hp,h.t.hp hp⟩) hb))) ?_;rintro⟨pV1,cV1,jV1⟩ hV1;obtain⟨gV1,rfl⟩: ∃g,pV1=some g:=Option.ne_none_iff_exists'.1 (fun e=>absurd (hV1.nil e) (by omega))
    refine Aa (Ac (wX (wZ (wS 10 I I I (Aa (Ac ?_))))))
    refine A9 I (by((repeat (first|refine AC.same ?_|refine AC.off I ?_));exact tO)) ?_
    exact Ar (⟨(b14,⟨some gV1,cV1,jV1⟩),hV1⟩: { s:Nat×Vec//s.2.OK 1 l.length (vsC (l.map f.at)) }) ⟨I,I,I,I,I,I,I,tO⟩ [0,1,2,4,5,10,11] (by decide) I
  ·refine Ah Tryz.hZ rfl rfl rfl rfl ?_;intro b14
   refine Aa (Ac (wX (wZ ?_)))
   refine wD (X:=Nat×Nat×Nat×Nat) rfl rfl (fun W1 _=>Fb bC f W1) ?_;rintro⟨v4,v5,v6,v7⟩ _
   refine Aa (Ac (wX (wZ ?_)))
   refine wD (X:=Vec) rfl rfl (fun W1 hp=>CR l f.at 132 [Aj v4,Aj v5,Aj v6,Aj v7] (by kernel_rfl) hn p cap W1 (hA.hp hp) (fun q hq W2 hb=>CS v4 v5 v6 v7 bC f q (hz.v q hq) W2 (JO.below (by first|exact⟨Ak.of_bx hp 6 rfl rfl,Ak.of_bx hp 7 rfl rfl,Ak.of_bx hp 8 rfl rfl,Ak.of_bx hp 9 rfl rfl,B9 hp 4 rfl,h.v.hp hp,h.t.hp hp⟩|exact⟨Ak.of_bx hp 7 rfl rfl,Ak.of_bx hp 8 rfl rfl,Ak.of_bx hp 9 rfl rfl,Ak.of_bx hp 10 rfl rfl,B9 hp 4 rfl,h.v.hp hp,h.t.hp hp⟩) hb))) ?_;rintro⟨pV1,cV1,jV1⟩ hV1;obtain⟨gV1,rfl⟩: ∃g,pV1=some g:=Option.ne_none_iff_exists'.1 (fun e=>absurd (hV1.nil e) (by omega))
   refine Aa (Ac (wX (wZ (wS 6 I I I (Aa (Ac ?_))))))
   refine A9 I (by((repeat (first|refine AC.same ?_|refine AC.off I ?_));exact tO)) ?_
   exact Ar (⟨(b14,⟨some gV1,cV1,jV1⟩),hV1⟩: { s:Nat×Vec//s.2.OK 1 l.length (vsC (l.map f.at)) }) ⟨I,I,I,I,I,I,I,tO⟩ [0,1,2,4,5,6,11] (by decide) I
 rintro⟨⟨b14,⟨pV,cV,jV⟩⟩,hV⟩
 obtain⟨gV,rfl⟩: ∃g,pV=some g:=by
  cases pV with
  |none=>have:=hV.nil rfl;omega
  |some g=>exact⟨g,rfl⟩
 have hcapV:=(hV.cap (by simp)).1
 refine zE (zA (zA (zB (wB 4 I I I ?_))))
 refine AO I I I I ?_
 refine wP I (wB 3 I I I (wP I (Aa (zE (zS I (zI (zE (zA (zB ?_)))))))))
 (refine Ah Tryz.hZ rfl rfl rfl rfl ?_;intro)
 refine Aa ?_
 rename_i b15
 refine zE (zA (zA (zB (wB 0 I I I ?_))))
 refine wD (X:=Nat) I I (fun W1 _=>Ee p l.length cap W1) ?_
 intro bp _
 refine Aa (zE (zH ?_))
 refine F6 ?_
 refine Fp (X:=Nat×Vec) (fun x=>[lsB b4 (slv p l.length cap),ptB b8 [] [],ptB b9 [] [],caB bC,ckB b13 bC,nmB b14 (.slice (some ⟨gV,0,none⟩) l.length cV),⟨gV,23,vsC (l.map f.at)++jV,true,none⟩,lsB b15 (x.2.val (DQ f l x.1).length),lsB bp (slv p l.length cap),x.2.bx 35 (ptC (DQ f l x.1))])
  (fun j x=>x.1=j∧x.2.OK 2 (DQ f l x.1).length (ptC (DQ f l x.1))) (fun _ _=>False) (0,Vec.empty) rfl (by kernel_rfl) (EE l bp p cap (by omega)) (fun _=>rfl)
  ⟨rfl,Vec.OK.empty 2⟩ [] rfl (fun k x W1 _ hp=>⟨Ak.of_bx hp 8 rfl rfl,hA.hp hp⟩) ?_ ?_ (fun _ _ _ _ _ h=>h.elim)
 ·rintro k ⟨k',O⟩ d l' rec L hk ⟨e1,hO⟩ hrec
  obtain rfl:k'=k:=e1
  have hk:k'<l.length:=hk
  have hO:O.OK 2 (DQ f l k').length (ptC (DQ f l k')):=hO
  have hol:=Jw f l k'
  have hml:=TW f l k'
  have hsl:=Jw f l (k'+1)
  have hk2:(k'+1)%l.length<l.length:=Nat.mod_lt _ hn0
  have ev: ∀i (hi:i<l.length),(l.map f.at)[i]'(by rw[hvl];exact hi)=f.at (Ae l i):=fun i hi=>by rw[List.getElem_map,AE hi]
  have hr1: ∀ {W0 W1:World} {bxs:List Bx} (hp:Hp W0 bxs W1) (m:Nat) (hm:nth bxs m=some ⟨gV,23,vsC (l.map f.at)++jV,true,none⟩),Ak W1 gV (0+k'*1) [str (Ad (f.at (Ae l k')))]:=fun hp m hm=>by
   have:=Sz hp m hm (i:=k') (by rw[hvl];exact hk)
   rwa [ev k' hk] at this
  have hr2: ∀ {W0 W1:World} {bxs:List Bx} (hp:Hp W0 bxs W1) (m:Nat) (hm:nth bxs m=some ⟨gV,23,vsC (l.map f.at)++jV,true,none⟩),Ak W1 gV (0+((k'+1)%l.length)*1) [str (Ad (f.at (Ae l (k'+1))))]:=fun hp m hm=>by
   have:=Sz hp m hm (i:=(k'+1)%l.length) (by rw[hvl];exact hk2)
   rwa [ev _ hk2,B6] at this
  obtain⟨u,hu⟩: ∃u,u=f.at (Ae l k'):=⟨_,rfl⟩
  obtain⟨v,hvv⟩: ∃v,v=f.at (Ae l (k'+1)):=⟨_,rfl⟩
  have hsu:=No f l k'
  have hmu:Gq f l k'=DQ f l k'++(if u=0 then[Ae l k'] else[]):=by rw[hu];rfl
  have hcz:=hz.c k' hk
  rw[←hu, ←hvv] at hsu hcz
  rw[←hu] at hr1
  rw[←hvv] at hr2
  refine zA (zB (wP I (Aa (zE (zB ?_)))))
  (refine Ah Tryz.hZ rfl rfl rfl rfl ?_;intro)
  refine wS 13 I I I (Aa ?_)
  rename_i b17
  refine Dc 12 hrec I ?_
  refine CP (zA (zU (qB 6 I I I (qP I ?_))))
  refine qJ ?_
  refine qL 0 I I (fun W1 hp=>hr1 hp 7 I) I (qC I I (fun W1 _=>EM u W1) (qB 6 I I I (qP I (qP I (qV 62 ((k'+1:Nat):Int) I (Ay (by omega)) (qB 1 I I I (qP I ?_)))))))
  refine Ex I I I I I hzz ?_
  refine D9 65 (.int .i64 (((k'+1)%l.length:Nat):Int)) I I ?_
  refine qJ ?_
  refine qL 0 I I (fun W1 hp=>hr2 hp 7 I) I (qC I I (fun W1 _=>EM v W1) (qP I (qP I (AT (Aa (zE (zA (zA (zB (wP I (wP I (wU 70 (decide (u=0)) I (Wn u) (Aa ?_)))))))))))))
  refine AI ?_
  refine AG (X:=Vec) (fun _=>[(4,Aj b4),(8,Aj b8),(9,Aj b9),(10, .bool false),(11, .int .i64 0),(13,Aj b13),(14,Aj b14),(15,Aj b15),(16, .int .i64 (k':Nat)),(17,Aj b17),(18, .int .i64 (Fh u)),(19, .int .i64 (Fh v))])
   (fun O=>[AP L,lsB b4 (slv p l.length cap),ptB b8 [] [],ptB b9 [] [],caB bC,ckB b13 bC,nmB b14 (.slice (some ⟨gV,0,none⟩) l.length cV),⟨gV,23,vsC (l.map f.at)++jV,true,none⟩,lsB b15 (O.val (Gq f l k').length),lsB bp (slv p l.length cap),O.bx 35 (ptC (Gq f l k')),BF d,Bl l' rec .busy none,⟨b17,66,(sdV (Ae l k') (Ae l (k'+1))).cells.toList,true,none⟩])
   (fun O=>O.OK 2 (Gq f l k').length (ptC (Gq f l k'))) ?_ ?_
  ·refine Av I (fun hc1=> ?_) (fun hc1=> ?_)
   ·rw[if_pos (of_decide_eq_true hc1)] at hmu
    have hlm:(DQ f l k').length+1=(Gq f l k').length:=by rw[hmu,List.length_append];rfl
    refine zB (wB 8 I I I ?_)
    refine EX Tryz.underlying66 Tryz.sizeOf35 I I I I I ⟨by decide,by decide⟩ ?_
    refine wB 13 I I I ?_
    refine AF Tryz.hZ tH I I I I I I I I I I I fun bS=> ?_
    refine Bs (V:=O) (len:=(DQ f l k').length) (xs:=ptC (DQ f l k')) 10 14 Tryz.vec22 (Gq f l k').length (ptC (Gq f l k')) I I I I I I I I I I I hO I I hlm (by rw[hmu,BX];rfl) (by simp only[maxLen];omega) (by omega) I ?_
    intro gO cO jO hO1
    exact wS 8 I I I (Aa (An ⟨some gO,cO,jO⟩ hO1 ⟨I,I,I,I,I,I,I,I,I,I,I,I,tO⟩ [_] I))
   ·rw[if_neg (of_decide_eq_false hc1),List.append_nil] at hmu
    exact zI (An O (by rw[hmu];exact hO) ⟨I,I,I,I,I,I,I,I,I,I,I,I,tO⟩ [] (by rw[hmu];rfl))
  intro O1 hO1
  have hO1:O1.OK 2 (Gq f l k').length (ptC (Gq f l k')):=hO1
  refine zA (zB (wP I (wP I (wP I (wP I (wU 79 (decide (u*v<0)) I (Ss u v) (Aa (zE ?_))))))))
  refine Av I (fun hc2=> ?_) (fun hc2=> ?_)
  ·have hc2':u*v<0:=of_decide_eq_true hc2
   rw[if_pos hc2'] at hsu
   have hlm:(Gq f l k').length+1=(DQ f l (k'+1)).length:=by rw[hsu,List.length_append];rfl
   refine Bg (X:= { O:Vec//O.OK 2 (DQ f l (k'+1)).length (ptC (DQ f l (k'+1))) }) [true,true,true,true,true,true,true,true,true,true,true,true,true,true,true,true,true,true,true,false,false,false] (fun _=>[(4,Aj b4),(8,Aj b8),(9,Aj b9),(10, .bool false),(11, .int .i64 0),(13,Aj b13),(14,Aj b14),(15,Aj b15)])
    (fun O=>[AP L,lsB b4 (slv p l.length cap),ptB b8 [] [],ptB b9 [] [],caB bC,ckB b13 bC,nmB b14 (.slice (some ⟨gV,0,none⟩) l.length cV),⟨gV,23,vsC (l.map f.at)++jV,true,none⟩,lsB b15 (O.1.val (DQ f l (k'+1)).length),lsB bp (slv p l.length cap),O.1.bx 35 (ptC (DQ f l (k'+1))),BF d,Bl l' rec .busy none])
    3 [AP L,lsB b4 (slv p l.length cap),ptB b8 [] [],ptB b9 [] [],caB bC,ckB b13 bC,nmB b14 (.slice (some ⟨gV,0,none⟩) l.length cV),⟨gV,23,vsC (l.map f.at)++jV,true,none⟩,lsB b15 (O1.val (Gq f l k').length),lsB bp (slv p l.length cap),O1.bx 35 (ptC (Gq f l k')),BF d,Bl l' rec .busy none,⟨b17,66,(sdV (Ae l k') (Ae l (k'+1))).cells.toList,true,none⟩] Tryz.mixed (by kernel_rfl) ?_ ?_
   ·refine qB 8 I I I (qB 5 I I I ?_)
    refine B3 Tryz.underlying66 Tryz.sizeOf35 I I I I I ⟨by decide,by decide⟩ ?_
    refine qB 13 I I I ?_
    refine B3 Tryz.underlying66 Tryz.sizeOf35 I I I I I ⟨by decide,by decide⟩ ?_
    refine qB 13 I I I (qB 6 I I I (qP I ?_))
    refine qJ ?_
    refine qL 0 I I (fun W1 hp=>hr1 hp 7 I) I (qB 6 I I I (qP I (qP I (qV 92 ((k'+1:Nat):Int) I (Ay (by omega)) (qB 1 I I I (qP I ?_))))))
    refine Ex I I I I I hzz ?_
    refine D9 95 (.int .i64 (((k'+1)%l.length:Nat):Int)) I I ?_
    refine qJ ?_
    refine qL 0 I I (fun W1 hp=>hr2 hp 7 I) I (qC I I (fun W1 hp=>Mj bC (Ae l k') (Ae l (k'+1)) u v (hcz hc2') W1 (B9 hp 4 I) (h.v.hp hp) (h.t.hp hp)) (C1 (wX (wZ ?_))))
    refine AF Tryz.hZ tH I I I I I I I I I I I fun bS=> ?_
    refine Aa (Ac (wX (wZ ?_)))
    refine Bs (V:=O1) (len:=(Gq f l k').length) (xs:=ptC (Gq f l k')) 10 14 Tryz.vec22 (DQ f l (k'+1)).length (ptC (DQ f l (k'+1))) rfl rfl rfl rfl rfl rfl rfl rfl rfl rfl rfl hO1 rfl rfl hlm (by rw[hsu,BX];rfl) (by simp only[maxLen];omega) (by omega) rfl ?_;intro gO cO jO hO2
    refine Aa (Ac (wY (wZ (wS 8 I I I (Aa (Ac ?_))))))
    refine AN I (by kernel_rfl) ?_
    exact Ar (⟨⟨some gO,cO,jO⟩,hO2⟩: { O:Vec//O.OK 2 (DQ f l (k'+1)).length (ptC (DQ f l (k'+1))) }) ⟨I,I,I,I,I,I,I,I,tO⟩ [0,1,2,3,4,5,6,7,8,9,10,11,12] (by decide) I
   rintro⟨O2,hO2⟩
   exact zN (Cu 12 (k'+1,O2) hrec I ⟨I,hO2⟩ [] I)
  ·rw[if_neg (of_decide_eq_false hc2),List.append_nil] at hsu
   exact zI (zN (Cu 12 (k'+1,O1) hrec I ⟨I,by show O1.OK 2 (DQ f l (k'+1)).length (ptC (DQ f l (k'+1)));rw[hsu];exact hO1⟩ [_] (by rw[hsu];rfl)))
 ·rintro⟨k',O⟩ d l' rec ⟨e1,hO⟩
  obtain rfl:k'=l.length:=e1
  have hoe:DQ f l l.length=BA f l:=rfl
  have hO:O.OK 2 (BA f l).length (ptC (BA f l)):=hO
  have hol:=Jw f l l.length
  rw[hoe] at hol
  rw[hoe]
  have hn2:=hz.n2
  have hs:=hz.s
  generalize BA f l=S at hO hol hn2 hs⊢
  obtain⟨q,cc,hval⟩: ∃q cc,O.val S.length= .slice q S.length cc:=by
   obtain⟨pO,cO,jO⟩:=O
   cases pO with
   |none=>
    have e:S.length=0:=hO.nil rfl
    exact⟨none,0,by rw[e];rfl⟩
   |some g=>exact⟨some ⟨g,0,none⟩,cO,rfl⟩
  refine zN (zE (zA (zA (zB (wB 4 I I I ?_)))))
  refine AO I I I I ?_
  refine wP I (wB 3 I I I (wP I ?_))
  refine Af 105 (.bool false) I I ?_
  refine wP I (wB 7 I I I ?_)
  refine Af 107 (.slice q S.length cc) I hval ?_
  refine wP I (wP I ?_)
  by_cases h2:S.length<2
  ·have eV:Qh S= .tuple #[.agg #[str [],str []], .agg #[str [],str []], .bool false, .int .i64 0]:=by
    match S,h2 with
    |[],_=>rfl
    |[_],_=>rfl
    |_::_::_,h2=>simp at h2;omega
   refine wU 109 true I (dT (by omega)) (wP I (Aa (zE (zR I (A0 ?_)))))
   refine Bg (X:=Unit) [true,true,true,true,true,true,false,false,false,false] (fun _=>[(8,Aj b8),(9,Aj b9),(10, .bool false),(11, .int .i64 0)]) (fun _=>[ptB b8 [] [],ptB b9 [] [],BF d])
    4 [lsB b4 (slv p l.length cap),⟨b8,35,[str [],str []],false,none⟩,⟨b9,35,[str [],str []],false,none⟩,caB bC,ckB b13 bC] Tryz.mixed (by kernel_rfl) ?_ ?_
   ·refine HU Tryz.hZ tH I I I I I I I I ?_
    refine HU Tryz.hZ tH I I I I I I I I ?_
    refine qB 4 I I I ?_
    refine Q3 I I I I ?_
    refine qP I (qB 3 I I I (C1 (wX (wZ (wS 1 I I I (Aa (Ac (wX (wZ (wS 2 I I I (Aa (Ac (wX ?_)))))))))))))
    refine wZ (wP I (Aa (Ac (wX (wZ (wP I (Aa (Ac ?_))))))))
    refine A9 I (by((repeat (first|refine AC.same ?_|refine AC.off I ?_));exact tO)) ?_
    exact Ar () ⟨I,I,I,I,tO⟩ [1,2,10] (by decide) I
   intro _
   refine zE (zO (zP ?_))
   refine CW 2 I ?_
   exact Ld tH I (.cell 0 I I I I I) (.cell 1 I I I I I) (.tmp I) (.tmp I) () eV.symm tO fun W _=>As.nil _ _
  ·obtain⟨x,y,rfl⟩: ∃x y,S=[x,y]:=by
    match S,h2,hn2 with
    |[x,y],_,_=>exact⟨x,y,rfl⟩
    |[],h2,_=>exact absurd Nat.zero_lt_two h2
    |[_],h2,_=>exact absurd (Nat.lt_succ_self 1) h2
    |_::_::_::_,_,hn2=>simp at hn2
   obtain⟨a,b,eab,eV⟩: ∃a b,DW x y=[a,b]∧Qh [x,y]= .tuple #[ptV a,ptV b, .bool true, .int .i64 0]:=by
    show∃a b,(if BD y x=true then[y,x] else[x,y])=[a,b]∧Value.tuple #[ptV (if BD y x=true then y else x),ptV (if BD y x=true then x else y), .bool true, .int .i64 0]=Value.tuple #[ptV a,ptV b, .bool true, .int .i64 0]
    cases BD y x with
    |true=>exact⟨y,x,rfl,rfl⟩
    |false=>exact⟨x,y,rfl,rfl⟩
   obtain⟨hs1,hs2⟩:=hs x y rfl
   obtain⟨pO,cO,jO⟩:=O
   obtain⟨gO,rfl⟩: ∃g,pO=some g:=Option.ne_none_iff_exists'.1 (fun e=>absurd (hO.nil e) (by show¬2=0;decide))
   refine Af 109 (.bool false) I I ?_
   refine wP I (Aa (zE (zS I (zI (zE (zA (zB (wB 7 I I I (wB 4 I I I (wP I ?_))))))))))
   refine D0 (X:=Unit) (val:=fun _=> .tuple #[]) (Φ:=fun _=>True) (capt:=[]) 9 (B:=Br gO [x,y] jO) (L1:=[]) (L2:=[]) (b:=gO) (ob:= .cells (ptC [x,y]++jO).toArray 35 (0,0)) (fun _=>Br gO (DW x y) jO) (g':=fun _=>gO) (o':=fun _=> .cells (ptC (DW x y)++jO).toArray 35 (0,0))
    rfl rfl rfl rfl rfl rfl (by kernel_rfl) rfl rfl (fun _ _=>rfl) (fun W1 hp=> ?_) (fun _ _=> ?_)
   ·have hc:=hp.own.cell 9 _ rfl (gO, .cells (ptC [x,y]++jO).toArray 35 (0,0)) (List.mem_cons_self ..)
    have hne:bC≠gO:=hp.own.apart 3 9 _ _ rfl rfl (by decide) (bC,_) (List.mem_cons_self ..) (gO,_) (List.mem_cons_self ..)
    exact QF bC W1 gO cO x y jO hc.1 ⟨fun W2 hk=>⟨(B9 hp 3 I).keep hk hne,h.v.below (hk.below hp.below hc.2),h.t.below (hk.below hp.below hc.2)⟩,hs1,hs2⟩
   rw[eab]
   refine Aa (zE (zA (zA (zB (wB 4 I I I ?_)))))
   refine AO I I I I ?_
   refine wP I (wB 3 I I I (wP I (Aa (zE (zS I (zI (zE (A0 ?_))))))))
   refine Bg (X:=Unit) [true,true,true,true,true,true,false,false,false,false] (fun _=>[(8,Aj b8),(9,Aj b9),(10, .bool true),(11, .int .i64 0)]) (fun _=>[ptB b8 (Ad a.1) (Ad a.2),ptB b9 (Ad b.1) (Ad b.2),BF d])
    4 [lsB b4 (slv p l.length cap),⟨b8,35,[str [],str []],false,none⟩,⟨b9,35,[str [],str []],false,none⟩,caB bC,ckB b13 bC,nmB b14 (.slice (some ⟨gV,0,none⟩) l.length cV),⟨gV,23,vsC (l.map f.at)++jV,true,none⟩,lsB b15 (.slice (some ⟨gO,0,none⟩) 2 cO),lsB bp (slv p l.length cap),Br gO [a,b] jO] Tryz.mixed (by kernel_rfl) ?_ ?_
   ·refine qB 7 I I I (qI I I (by decide) (by decide) (qL 0 I I (fun W1 hp=>U9 hp 9 I) I (qB 7 I I I (qI I I (by decide) (by decide) (qL 0 I I (fun W1 hp=>Vi hp 9 I) I (C1 (wX (wZ (wS 1 I I I (Aa (Ac (wX (wZ ?_)))))))))))))
    refine wS 2 I I I (Aa (Ac (wX (wZ (wP I (Aa (Ac (wX (wZ (wP I (Aa (Ac ?_))))))))))))
    refine A9 I (by((repeat (first|refine AC.same ?_|refine AC.off I ?_));exact tO)) ?_
    exact Ar () ⟨I,I,I,I,tO⟩ [1,2,10] (by decide) I
   intro _
   refine zE (zO ?_)
   refine CW 2 I ?_
   exact Ld tH I (.cell 0 I I I I I) (.cell 1 I I I I I) (.tmp I) (.tmp I) () eV.symm tO fun W _=>As.nil _ _
end
section
open Go Go.RowKit Go.Am Go.Lib
def sq4:List Ag:=[(0,0),(2,0),(2,2),(0,2)]
def tr3:List Ag:=[(0,0),(1,0),(0,1)]
def RF:AL:=⟨1,1,1⟩
def OQ:AL:=⟨1, -1,0⟩
theorem UJ:AY sq4:=by
 refine⟨by decide,by decide+kernel,fun i j k h1 h2 h3=> ?_⟩
 have h3:k<4:=h3
 have:(i=0∧j=1∧k=2)∨(i=0∧j=1∧k=3)∨(i=0∧j=2∧k=3)∨(i=1∧j=2∧k=3):=by omega
 rcases this with⟨rfl,rfl,rfl⟩|⟨rfl,rfl,rfl⟩|⟨rfl,rfl,rfl⟩|⟨rfl,rfl,rfl⟩<;>decide+kernel
theorem Ux:AY tr3:=by
 refine⟨by decide,by decide+kernel,fun i j k h1 h2 h3=> ?_⟩
 have h3:k<3:=h3
 obtain⟨rfl,rfl,rfl⟩:i=0∧j=1∧k=2:=by omega
 decide+kernel
theorem W4:BT RF sq4=tr3:=by decide+kernel
theorem Oi:BA OQ sq4=[(0,0),(2,2)]:=by decide+kernel
theorem VN:BD ((2,2):Ag) (0,0)=false:=by decide+kernel
theorem VV:CI tr3/2=1/2:=by decide+kernel
theorem Wt:IJ tr3/(3*CI tr3)=1/3:=by decide+kernel
theorem Wu:I2 tr3/(3*CI tr3)=1/3:=by decide+kernel
theorem KL:Ad (0:Rat)=[48]:=CE
theorem WU:Ad (1:Rat)=[49]:=by decide+kernel
theorem Dk:Ad (2:Rat)=[50]:=by decide+kernel
theorem XS:Ad (-1:Rat)=[45,49]:=by decide+kernel
theorem XX:Ad (1/2:Rat)=[49,47,50]:=by decide+kernel
theorem XL:Ad (1/3:Rat)=[49,47,51]:=by decide+kernel
theorem Iz {x y:Int} (hx:x.natAbs<10^8) (hy:y.natAbs<10^8):Hm 8 ((x:Rat),(y:Rat)):=⟨x,y,1,by decide,hx,hy,by decide,Rat.mul_one _,Rat.mul_one _⟩
theorem R5: ∀p∈sq4,Hm 8 p:=fun p hp=>by
 rcases List.mem_cons.1 hp with rfl|hp
 ·exact Iz (x:=0) (y:=0) (by decide) (by decide)
 rcases List.mem_cons.1 hp with rfl|hp
 ·exact Iz (x:=2) (y:=0) (by decide) (by decide)
 rcases List.mem_cons.1 hp with rfl|hp
 ·exact Iz (x:=2) (y:=2) (by decide) (by decide)
 rw[List.mem_singleton.1 hp]
 exact Iz (x:=0) (y:=2) (by decide) (by decide)
theorem RO: ∀p∈tr3,Hm 8 p:=fun p hp=>by
 rcases List.mem_cons.1 hp with rfl|hp
 ·exact Iz (x:=0) (y:=0) (by decide) (by decide)
 rcases List.mem_cons.1 hp with rfl|hp
 ·exact Iz (x:=1) (y:=0) (by decide) (by decide)
 rw[List.mem_singleton.1 hp]
 exact Iz (x:=0) (y:=1) (by decide) (by decide)
theorem Uf:LnH RF:=⟨1,1,1,1,by decide,by decide,by decide,by decide,by decide,Rat.mul_one _,Rat.mul_one _,Rat.mul_one _⟩
theorem Vu:LnH OQ:=⟨1, -1,0,1,by decide,by decide,by decide,by decide,by decide,Rat.mul_one _,Rat.mul_one _,Rat.mul_one _⟩
theorem RD {f:AL} (hf:LnH f) (n:f.a≠0∨f.b≠0):Pg f:=⟨hf.sz.1.ok (by decide),hf.sz.2.1.ok (by decide),hf.sz.2.2.ok (by decide),n⟩
theorem Xg:Pg RF:=RD Uf (.inl (by decide+kernel))
theorem Xk:Pg OQ:=RD Vu (.inl (by decide+kernel))
theorem Ie.of_hm {e k:Nat} {l:List Ag} (hl: ∀p∈l,Hm e p) (h:e≤k):Ie k l:=fun p hp=>⟨(hl p hp).sz.1.mono h,(hl p hp).sz.2.mono h⟩
theorem s2 {q:Rat} (h:q.num.natAbs<10^2∧q.den<10^2):szQ q 2:=h
theorem ez2 {p q:Rat} (h:p.num.natAbs<10^2∧p.den<10^2) (h':q.num.natAbs<10^2∧q.den<10^2):Sz2 p q:=sz2 (s2 h) (s2 h') (by decide)
theorem QT.of {p q:Ag} (hp:szQ p.1 8∧szQ p.2 8) (hq:szQ q.1 8∧szQ q.2 8):QT p q:=⟨sz2 hp.1 hq.2 (by decide),sz2 hq.1 hp.2 (by decide),sz2 (hp.1.mul hq.2) (hq.1.mul hp.2) (by decide)⟩
theorem WI (i:Nat):QT (Ae tr3 i) (Ae tr3 (i+1)):=QT.of ((Ie.of_hm RO (Nat.le_refl 8)).at_ (by decide) i) ((Ie.of_hm RO (Nat.le_refl 8)).at_ (by decide) (i+1))
theorem lt3 {i:Nat} (h:i<tr3.length):i=0∨i=1∨i=2:=by have h:i<3:=h;omega
theorem WR: ∀i,i<tr3.length→Sz2 (crK tr3 i) (F0 (Ae tr3 i) (Ae tr3 (i+1))):=fun i hi=>by
 rcases lt3 hi with rfl|rfl|rfl<;>exact ez2 (by decide+kernel) (by decide+kernel)
theorem X7:ArZ tr3:=⟨fun i _=>WI i,WR,ez2 (by decide+kernel) (by decide+kernel)⟩
theorem WW:CeZ tr3:=by
 refine⟨fun i _=>WI i,WR,fun i hi=> ?_,fun i hi=> ?_,fun i hi=> ?_,fun i hi=> ?_,fun i hi=> ?_,fun i hi=> ?_,ez2 (by decide+kernel) (by decide+kernel),by decide+kernel,ez2 (by decide+kernel) (by decide+kernel),ez2 (by decide+kernel) (by decide+kernel)⟩<;>
  rcases lt3 hi with rfl|rfl|rfl<;>exact ez2 (by decide+kernel) (by decide+kernel)
theorem X5:SeZ OQ sq4:=by
 have h:=ClZ.of Vu (by decide) R5
 refine⟨h.v,h.c,by rw[Oi];decide,fun x y e=> ?_⟩
 rw[Oi] at e
 cases e
 exact⟨ez2 (by decide+kernel) (by decide+kernel),ez2 (by decide+kernel) (by decide+kernel)⟩
theorem TR:Qh (BA OQ sq4)= .tuple #[.agg #[str [48],str [48]], .agg #[str [50],str [50]], .bool true, .int .i64 0]:=by
 rw[Oi]
 show Value.tuple #[ptV (if BD ((2,2):Ag) (0,0)=true then _ else _),ptV (if BD ((2,2):Ag) (0,0)=true then _ else _), .bool true, .int .i64 0]=_
 rw[VN]
 show Value.tuple #[.agg #[str (Ad 0),str (Ad 0)], .agg #[str (Ad 2),str (Ad 2)], .bool true, .int .i64 0]=_
 rw[KL,Dk]
theorem Xn:ptC sq4=[str [48],str [48],str [50],str [48],str [50],str [50],str [48],str [50]]:=by
 show[str (Ad 0),str (Ad 0),str (Ad 2),str (Ad 0),str (Ad 2),str (Ad 2),str (Ad 0),str (Ad 2)]=_
 rw[KL,Dk]
theorem Xe:ptC tr3=[str [48],str [48],str [49],str [48],str [48],str [49]]:=by
 show[str (Ad 0),str (Ad 0),str (Ad 1),str (Ad 0),str (Ad 0),str (Ad 1)]=_
 rw[KL,WU]
theorem Gy {W:World} {b off:Nat} {l:List Ag} (h:Ak W b off (ptC l)):Ci W (some ⟨b,off,none⟩) l:= .inr ⟨b,off,rfl,fun i hi=>by
 have e:ptC l=ptC (l.take i)++([str (Ad l[i].1),str (Ad l[i].2)]++ptC (l.drop (i+1))):=by
  have e0:l=l.take i++l[i]::l.drop (i+1):=by rw[←List.drop_eq_getElem_cons hi,List.take_append_drop]
  conv=>lhs;rw[e0]
  unfold ptC
  rw[List.flatMap_append,List.flatMap_cons]
 rw[e] at h
 have h1:=HV h
 rw[AR,List.length_take,Nat.min_eq_left (by omega)] at h1
 have h2:=Cv h1
 exact h2⟩
end
section
open Go Go.RowKit Go.Am Go.Lib
set_option maxRecDepth 10000
-- BOXES 6
-- CODE2
theorem PT {W:World} {p:Option Addr} (h:Ci W p sq4) (hv:BL W) (ht:AM W):He W p sq4:=⟨UJ,by decide,by decide,Ie.of_hm R5 (by decide),h,hv,ht⟩
theorem PS {W:World} {p:Option Addr} (h:Ci W p tr3) (hv:BL W) (ht:AM W):He W p tr3:=⟨Ux,by decide,by decide,Ie.of_hm RO (by decide),h,hv,ht⟩
abbrev XN (b:Nat):Bx:=⟨b,35,ptC sq4,true,none⟩
theorem Ve (p:Option Addr) (cap:Nat) (W:World) (h:He W p sq4):
  Ai Tryz.prog 12 #[slv p 4 cap,str [49],str [49],str [49]] W (fun V:Vec=> .tuple #[V.val 3, .int .i64 0]) (fun V=>V.OK 2 3 (ptC tr3)) (fun V=>[V.bx 35 (ptC tr3)]):=by
 have h1:=K8 RF Xg sq4 (ClZ.of Uf (by decide) R5) p cap W h
 rw[W4] at h1
 have e:[Ad RF.a,Ad RF.b,Ad RF.c]=[[49],[49],[49]]:=by show[Ad 1,Ad 1,Ad 1]=_;rw[WU]
 simp only[List.cons.injEq,and_true] at e
 obtain⟨e1,e2,e3⟩:=e
 rw[e1,e2,e3] at h1
 exact h1
theorem U6 (p:Option Addr) (cap:Nat) (W:World) (h:He W p tr3):
  Ai Tryz.prog 15 #[slv p 3 cap] W (fun _:Unit=> .tuple #[str [49,47,50], .int .i64 0]) (fun _=>True) (fun _=>[]):=by
 have h1:=QH tr3 X7 p cap W h
 rw[VV,XX] at h1
 exact h1
theorem R3 (p:Option Addr) (cap:Nat) (W:World) (h:He W p tr3):
  Ai Tryz.prog 35 #[slv p 3 cap] W (fun _:Unit=> .tuple #[.agg #[str [49,47,51],str [49,47,51]], .int .i64 0]) (fun _=>True) (fun _=>[]):=by
 have h1:=MS tr3 WW p cap W h
 rw[Wt,Wu,XL] at h1
 exact h1
theorem Qy (p:Option Addr) (cap:Nat) (W:World) (h:He W p sq4):
  Ai Tryz.prog 24 #[slv p 4 cap,str [49],str [45,49],str [48]] W (fun _:Unit=> .tuple #[.agg #[str [48],str [48]], .agg #[str [50],str [50]], .bool true, .int .i64 0]) (fun _=>True) (fun _=>[]):=by
 have h1:=Hk OQ Xk sq4 X5 p cap W h
 rw[TR] at h1
 have e:[Ad OQ.a,Ad OQ.b,Ad OQ.c]=[[49],[45,49],[48]]:=by show[Ad 1,Ad (-1),Ad 0]=_;rw[WU,XS,KL]
 simp only[List.cons.injEq,and_true] at e
 obtain⟨e1,e2,e3⟩:=e
 rw[e1,e2,e3] at h1
 exact h1
theorem E4 (W:World) (hv:BL W) (ht:AM W):
  Ai Tryz.prog 11 #[] W (fun _:Unit=> .bool true) (fun _=>True) (fun _=>[]):=by
 refine Ab (args:=[]) Tryz.func11 I I I ?_
 refine zA (zB (wP I (Aa (zE (zA (zB ?_))))))
 iterate 4 refine Az Tryz.hZ tH I I I I I I I I ?_
 refine AF Tryz.hZ tH I I I I I I I I I I I fun bS=> ?_
 refine wP I (Aa ?_)
 refine R4 (bxs':=[XN bS]) (by show _=[(⟨bS,35,ptC sq4,true,none⟩:Bx)];rw[Xn];rfl) ?_
 refine zE (zA (zB (wP I ?_)))
 refine wD (X:=Vec) I I (fun W1 hp=>Ve (some ⟨bS,0,none⟩) 4 W1 (PT (Gy (Ak.of_bx hp 0 I I)) (hv.hp hp) (ht.hp hp))) ?_
 rintro⟨pV,cV,jV⟩ hV
 obtain⟨gV,rfl⟩: ∃g,pV=some g:=Option.ne_none_iff_exists'.1 (fun e=>absurd (hV.nil e) (by decide))
 iterate 5 refine wP I ?_
 refine Aa (zE (zA (zB (wP I (wC I I (fun W1 hp=>U6 (some ⟨gV,0,none⟩) cV W1 (PS (Gy (Cv (Ak.of_bx hp 1 I I:Ak W1 gV 0 (ptC tr3++jV)))) (hv.hp hp) (ht.hp hp))) ?_)))))
 iterate 5 refine wP I ?_
 refine Aa (zE (zA (zB (wP I (wC I I (fun W1 hp=>R3 (some ⟨gV,0,none⟩) cV W1 (PS (Gy (Cv (Ak.of_bx hp 1 I I:Ak W1 gV 0 (ptC tr3++jV)))) (hv.hp hp) (ht.hp hp))) (wP I (wP I (wP I ?_))))))))
 (refine Ah Tryz.hZ rfl rfl rfl rfl ?_;intro)
 refine wS 2 I I I (wP I (Aa ?_))
 rename_i b6
 refine zE (zA (zB (wP I (wC I I (fun W1 hp=>Qy (some ⟨bS,0,none⟩) 4 W1 (PT (Gy (Ak.of_bx hp 0 I I)) (hv.hp hp) (ht.hp hp))) ?_))))
 iterate 5 refine wP I ?_
 (refine Ah Tryz.hZ rfl rfl rfl rfl ?_;intro)
 (refine Ah Tryz.hZ rfl rfl rfl rfl ?_;intro)
 refine wS 3 I I I (wS 4 I I I (wP I (wP I (Aa ?_))))
 rename_i b8 b9
 refine zE (A0 ?_)
 refine Bg (X:=Unit) [true,true,true,true,true,true,true,true,true,true,true,false,false,false,false,false,false,false,false,false,false,false,false,false,false,false,false,false,false,false,false,false,false,false,false,false,false,false,false,false,false] (fun _=>[(0, .bool true)]) (fun _=>[])
  30 [XN bS,⟨gV,35,ptC tr3++jV,true,none⟩,ptB b6 [49,47,51] [49,47,51],ptB b8 [48] [48],ptB b9 [50] [50]] Tryz.mixed (by kernel_rfl) ?_ ?_
 ·refine qP I (qP I (qP I (qP I (qP I ?_))))
  refine D9 43 (.int .i64 0) I I ?_
  refine qP I ?_
  refine D9 44 (.bool true) I I ?_
  refine qP I (qP I ?_)
  iterate 3 refine HU Tryz.hZ tH I I I I I I I I ?_
  refine C1 (wX (wZ ?_))
  refine AF Tryz.hZ tH I I I I I I I I I I I fun bT=> ?_
  refine Aa (Ac (wX (wZ (wC I I (fun W1 hp=>J4 tr3 (by decide) (some ⟨gV,0,none⟩) (some ⟨bT,0,none⟩) cV 3 W1 (Gy (Cv (Ak.of_bx hp 1 I I:Ak W1 gV 0 (ptC tr3++jV)))) (Gy (by have h:=Ak.of_bx hp 5 I I;rw[Xe];exact h))) (Aa (Ac (wX (wZ (wP I (Aa (Ac (wX (wZ ?_)))))))))))))
  refine wP I (Aa (Ac (wX (wZ (wP I (Aa (Ac (wX (wZ ?_)))))))))
  refine wP I ?_;refine wU 55 true I ((Bd [49,47,50] [49,47,50]).trans (dT I)) ?_
  refine Aa (Ac (wX (wZ (wP I (Aa (Ac (wX (wZ (wP I (Aa (Ac (wX ?_))))))))))))
  refine RS.cons ?_ (RS.cons ?_ (RS.nil))
  ·refine wB 2 I I I (Aa (Ac (wX (wZ ?_))))
   refine Az Tryz.hZ tH I I I I I I I I ?_
   refine Aa (Ac (wX (wZ ?_)))
   refine AS [49,47,51] [49,47,51] [49,47,51] [49,47,51] I I I I I ?_;refine Af 60 (.bool true) I I ?_
   refine Aa (Ac (wX (wZ (wP I (Aa (Ac (wX (wZ (wP I (Aa (Ac (wX (wZ ?_)))))))))))))
   refine wP I (Aa (Ac (wX (wZ (wP I (Aa (Ac (wX (wZ (wP I (Aa (Ac (wX ?_)))))))))))))
   refine RS.cons ?_ (RS.cons ?_ (RS.nil))
   ·refine wB 3 I I I (Aa (Ac (wX (wZ (wP I (Aa (Ac (wX (wZ (wI I I (by decide) (by decide) (Aa (Ac (wX ?_)))))))))))))
    refine wZ ?_
    refine wB 0 I I I ?_;refine Af 69 (.agg #[str [48],str [48]]) I (by rw[←KL];rfl) ?_
    refine Aa (Ac (wX (wZ ?_)))
    refine AS [48] [48] [48] [48] I I I I I ?_;refine Af 70 (.bool true) I I ?_
    refine Aa (Ac (wX (wZ (wP I (Aa (Ac (wX (wZ (wP I (Aa (Ac (wX ?_))))))))))))
    refine RS.cons ?_ (RS.cons ?_ (RS.nil))
    ·refine wB 4 I I I (Aa (Ac (wX (wZ (wP I (Aa (Ac (wX (wZ (wI I I (by decide) (by decide) (Aa (Ac (wX ?_)))))))))))))
     refine wZ ?_
     refine wB 0 I I I ?_;refine Af 76 (.agg #[str [50],str [50]]) I (by rw[←Dk];rfl) ?_
     refine Aa (Ac (wX (wZ ?_)))
     refine AS [50] [50] [50] [50] I I I I I ?_;refine Af 77 (.bool true) I I ?_
     refine Aa (Ac (wX (wZ (wP I (Aa (Ac (wX (wZ (wP I (Aa (Ac ?_)))))))))))
     refine A9 I (by((repeat (first|refine AC.same ?_|refine AC.off I ?_));exact tO)) ?_
     exact Ar () ⟨I,tO⟩ [] (by decide) I
    ·refine wP I (Aa (Ac (wX ?_)))
     refine RS.cons ?_ (RS.cons ?_ (RS.nil))
     ·refine wB 4 I I I (Aa (Ac (wX (wZ (wI I I (by decide) (by decide) (Aa (Ac (wX (wZ ?_)))))))))
      refine wB 0 I I I ?_;refine Af 76 (.agg #[str [50],str [50]]) I (by rw[←Dk];rfl) ?_
      refine Aa (Ac (wX (wZ ?_)))
      refine AS [50] [50] [50] [50] I I I I I ?_;refine Af 77 (.bool true) I I ?_
      refine Aa (Ac (wX (wZ (wP I (Aa (Ac (wX (wZ (wP I (Aa (Ac ?_)))))))))))
      refine A9 I (by((repeat (first|refine AC.same ?_|refine AC.off I ?_));exact tO)) ?_
      exact Ar () ⟨I,tO⟩ [] (by decide) I
     ·refine wI I I (by decide) (by decide) (Aa (Ac (wX ?_)))
      refine RS.cons ?_ (RS.cons ?_ (RS.nil))
      ·refine wB 4 I I I (Aa (Ac (wX (wZ ?_))))
       refine wB 0 I I I ?_;refine Af 76 (.agg #[str [50],str [50]]) I (by rw[←Dk];rfl) ?_
       refine Aa (Ac (wX (wZ ?_)))
       refine AS [50] [50] [50] [50] I I I I I ?_;refine Af 77 (.bool true) I I ?_
       refine Aa (Ac (wX (wZ (wP I (Aa (Ac (wX (wZ (wP I (Aa (Ac ?_)))))))))))
       refine A9 I (by((repeat (first|refine AC.same ?_|refine AC.off I ?_));exact tO)) ?_
       exact Ar () ⟨I,tO⟩ [] (by decide) I
      ·refine wB 0 I I I ?_;refine Af 76 (.agg #[str [50],str [50]]) I (by rw[←Dk];rfl) ?_
       refine Aa (Ac (wX (wZ (wB 4 I I I (Aa (Ac (wX (wZ ?_))))))))
       refine AS [50] [50] [50] [50] I I I I I ?_;refine Af 77 (.bool true) I I ?_
       refine Aa (Ac (wX (wZ (wP I (Aa (Ac (wX (wZ (wP I (Aa (Ac ?_)))))))))))
       refine A9 I (by((repeat (first|refine AC.same ?_|refine AC.off I ?_));exact tO)) ?_
       exact Ar () ⟨I,tO⟩ [] (by decide) I
   ·refine wP I (Aa (Ac (wX ?_)))
    refine RS.cons ?_ (RS.cons ?_ (RS.nil))
    ·refine wB 3 I I I (Aa (Ac (wX (wZ (wI I I (by decide) (by decide) (Aa (Ac (wX (wZ ?_)))))))))
     refine wB 0 I I I ?_;refine Af 69 (.agg #[str [48],str [48]]) I (by rw[←KL];rfl) ?_
     refine Aa (Ac (wX (wZ ?_)))
     refine AS [48] [48] [48] [48] I I I I I ?_;refine Af 70 (.bool true) I I ?_
     refine Aa (Ac (wX (wZ (wP I (Aa (Ac (wX (wZ (wP I (Aa (Ac (wX ?_))))))))))))
     refine RS.cons ?_ (RS.cons ?_ (RS.nil))
     ·refine wB 4 I I I (Aa (Ac (wX (wZ (wP I (Aa (Ac (wX (wZ (wI I I (by decide) (by decide) (Aa (Ac (wX ?_)))))))))))))
      refine wZ ?_
      refine wB 0 I I I ?_;refine Af 76 (.agg #[str [50],str [50]]) I (by rw[←Dk];rfl) ?_
      refine Aa (Ac (wX (wZ ?_)))
      refine AS [50] [50] [50] [50] I I I I I ?_;refine Af 77 (.bool true) I I ?_
      refine Aa (Ac (wX (wZ (wP I (Aa (Ac (wX (wZ (wP I (Aa (Ac ?_)))))))))))
      refine A9 I (by((repeat (first|refine AC.same ?_|refine AC.off I ?_));exact tO)) ?_
      exact Ar () ⟨I,tO⟩ [] (by decide) I
     ·refine wP I (Aa (Ac (wX ?_)))
      refine RS.cons ?_ (RS.cons ?_ (RS.nil))
      ·refine wB 4 I I I (Aa (Ac (wX (wZ (wI I I (by decide) (by decide) (Aa (Ac (wX (wZ ?_)))))))))
       refine wB 0 I I I ?_;refine Af 76 (.agg #[str [50],str [50]]) I (by rw[←Dk];rfl) ?_
       refine Aa (Ac (wX (wZ ?_)))
       refine AS [50] [50] [50] [50] I I I I I ?_;refine Af 77 (.bool true) I I ?_
       refine Aa (Ac (wX (wZ (wP I (Aa (Ac (wX (wZ (wP I (Aa (Ac ?_)))))))))))
       refine A9 I (by((repeat (first|refine AC.same ?_|refine AC.off I ?_));exact tO)) ?_
       exact Ar () ⟨I,tO⟩ [] (by decide) I
      ·refine wI I I (by decide) (by decide) (Aa (Ac (wX ?_)))
       refine RS.cons ?_ (RS.cons ?_ (RS.nil))
       ·refine wB 4 I I I (Aa (Ac (wX (wZ ?_))))
        refine wB 0 I I I ?_;refine Af 76 (.agg #[str [50],str [50]]) I (by rw[←Dk];rfl) ?_
        refine Aa (Ac (wX (wZ ?_)))
        refine AS [50] [50] [50] [50] I I I I I ?_;refine Af 77 (.bool true) I I ?_
        refine Aa (Ac (wX (wZ (wP I (Aa (Ac (wX (wZ (wP I (Aa (Ac ?_)))))))))))
        refine A9 I (by((repeat (first|refine AC.same ?_|refine AC.off I ?_));exact tO)) ?_
        exact Ar () ⟨I,tO⟩ [] (by decide) I
       ·refine wB 0 I I I ?_;refine Af 76 (.agg #[str [50],str [50]]) I (by rw[←Dk];rfl) ?_
        refine Aa (Ac (wX (wZ (wB 4 I I I (Aa (Ac (wX (wZ ?_))))))))
        refine AS [50] [50] [50] [50] I I I I I ?_;refine Af 77 (.bool true) I I ?_
        refine Aa (Ac (wX (wZ (wP I (Aa (Ac (wX (wZ (wP I (Aa (Ac ?_)))))))))))
        refine A9 I (by((repeat (first|refine AC.same ?_|refine AC.off I ?_));exact tO)) ?_
        exact Ar () ⟨I,tO⟩ [] (by decide) I
    ·refine wI I I (by decide) (by decide) (Aa (Ac (wX ?_)))
     refine RS.cons ?_ (RS.cons ?_ (RS.nil))
     ·refine wB 3 I I I (Aa (Ac (wX (wZ ?_))))
      refine wB 0 I I I ?_;refine Af 69 (.agg #[str [48],str [48]]) I (by rw[←KL];rfl) ?_
      refine Aa (Ac (wX (wZ ?_)))
      refine AS [48] [48] [48] [48] I I I I I ?_;refine Af 70 (.bool true) I I ?_
      refine Aa (Ac (wX (wZ (wP I (Aa (Ac (wX (wZ (wP I (Aa (Ac (wX ?_))))))))))))
      refine RS.cons ?_ (RS.cons ?_ (RS.nil))
      ·refine wB 4 I I I (Aa (Ac (wX (wZ (wP I (Aa (Ac (wX (wZ (wI I I (by decide) (by decide) (Aa (Ac (wX ?_)))))))))))))
       refine wZ ?_
       refine wB 0 I I I ?_;refine Af 76 (.agg #[str [50],str [50]]) I (by rw[←Dk];rfl) ?_
       refine Aa (Ac (wX (wZ ?_)))
       refine AS [50] [50] [50] [50] I I I I I ?_;refine Af 77 (.bool true) I I ?_
       refine Aa (Ac (wX (wZ (wP I (Aa (Ac (wX (wZ (wP I (Aa (Ac ?_)))))))))))
       refine A9 I (by((repeat (first|refine AC.same ?_|refine AC.off I ?_));exact tO)) ?_
       exact Ar () ⟨I,tO⟩ [] (by decide) I
      ·refine wP I (Aa (Ac (wX ?_)))
       refine RS.cons ?_ (RS.cons ?_ (RS.nil))
       ·refine wB 4 I I I (Aa (Ac (wX (wZ (wI I I (by decide) (by decide) (Aa (Ac (wX (wZ ?_)))))))))
        refine wB 0 I I I ?_;refine Af 76 (.agg #[str [50],str [50]]) I (by rw[←Dk];rfl) ?_
        refine Aa (Ac (wX (wZ ?_)))
        refine AS [50] [50] [50] [50] I I I I I ?_;refine Af 77 (.bool true) I I ?_
        refine Aa (Ac (wX (wZ (wP I (Aa (Ac (wX (wZ (wP I (Aa (Ac ?_)))))))))))
        refine A9 I (by((repeat (first|refine AC.same ?_|refine AC.off I ?_));exact tO)) ?_
        exact Ar () ⟨I,tO⟩ [] (by decide) I
       ·refine wI I I (by decide) (by decide) (Aa (Ac (wX ?_)))
        refine RS.cons ?_ (RS.cons ?_ (RS.nil))
        ·refine wB 4 I I I (Aa (Ac (wX (wZ ?_))))
         refine wB 0 I I I ?_;refine Af 76 (.agg #[str [50],str [50]]) I (by rw[←Dk];rfl) ?_
         refine Aa (Ac (wX (wZ ?_)))
         refine AS [50] [50] [50] [50] I I I I I ?_;refine Af 77 (.bool true) I I ?_
         refine Aa (Ac (wX (wZ (wP I (Aa (Ac (wX (wZ (wP I (Aa (Ac ?_)))))))))))
         refine A9 I (by((repeat (first|refine AC.same ?_|refine AC.off I ?_));exact tO)) ?_
         exact Ar () ⟨I,tO⟩ [] (by decide) I
        ·refine wB 0 I I I ?_;refine Af 76 (.agg #[str [50],str [50]]) I (by rw[←Dk];rfl) ?_
         refine Aa (Ac (wX (wZ (wB 4 I I I (Aa (Ac (wX (wZ ?_))))))))
         refine AS [50] [50] [50] [50] I I I I I ?_;refine Af 77 (.bool true) I I ?_
         refine Aa (Ac (wX (wZ (wP I (Aa (Ac (wX (wZ (wP I (Aa (Ac ?_)))))))))))
         refine A9 I (by((repeat (first|refine AC.same ?_|refine AC.off I ?_));exact tO)) ?_
         exact Ar () ⟨I,tO⟩ [] (by decide) I
     ·refine wB 0 I I I ?_;refine Af 69 (.agg #[str [48],str [48]]) I (by rw[←KL];rfl) ?_
      refine Aa (Ac (wX (wZ (wB 3 I I I (Aa (Ac (wX (wZ ?_))))))))
      refine AS [48] [48] [48] [48] I I I I I ?_;refine Af 70 (.bool true) I I ?_
      refine Aa (Ac (wX (wZ (wP I (Aa (Ac (wX (wZ (wP I (Aa (Ac (wX ?_))))))))))))
      refine RS.cons ?_ (RS.cons ?_ (RS.nil))
      ·refine wB 4 I I I (Aa (Ac (wX (wZ (wP I (Aa (Ac (wX (wZ (wI I I (by decide) (by decide) (Aa (Ac (wX ?_)))))))))))))
       refine wZ ?_
       refine wB 0 I I I ?_;refine Af 76 (.agg #[str [50],str [50]]) I (by rw[←Dk];rfl) ?_
       refine Aa (Ac (wX (wZ ?_)))
       refine AS [50] [50] [50] [50] I I I I I ?_;refine Af 77 (.bool true) I I ?_
       refine Aa (Ac (wX (wZ (wP I (Aa (Ac (wX (wZ (wP I (Aa (Ac ?_)))))))))))
       refine A9 I (by((repeat (first|refine AC.same ?_|refine AC.off I ?_));exact tO)) ?_
       exact Ar () ⟨I,tO⟩ [] (by decide) I
      ·refine wP I (Aa (Ac (wX ?_)))
       refine RS.cons ?_ (RS.cons ?_ (RS.nil))
       ·refine wB 4 I I I (Aa (Ac (wX (wZ (wI I I (by decide) (by decide) (Aa (Ac (wX (wZ ?_)))))))))
        refine wB 0 I I I ?_;refine Af 76 (.agg #[str [50],str [50]]) I (by rw[←Dk];rfl) ?_
        refine Aa (Ac (wX (wZ ?_)))
        refine AS [50] [50] [50] [50] I I I I I ?_;refine Af 77 (.bool true) I I ?_
        refine Aa (Ac (wX (wZ (wP I (Aa (Ac (wX (wZ (wP I (Aa (Ac ?_)))))))))))
        refine A9 I (by((repeat (first|refine AC.same ?_|refine AC.off I ?_));exact tO)) ?_
        exact Ar () ⟨I,tO⟩ [] (by decide) I
       ·refine wI I I (by decide) (by decide) (Aa (Ac (wX ?_)))
        refine RS.cons ?_ (RS.cons ?_ (RS.nil))
        ·refine wB 4 I I I (Aa (Ac (wX (wZ ?_))))
         refine wB 0 I I I ?_;refine Af 76 (.agg #[str [50],str [50]]) I (by rw[←Dk];rfl) ?_
         refine Aa (Ac (wX (wZ ?_)))
         refine AS [50] [50] [50] [50] I I I I I ?_;refine Af 77 (.bool true) I I ?_
         refine Aa (Ac (wX (wZ (wP I (Aa (Ac (wX (wZ (wP I (Aa (Ac ?_)))))))))))
         refine A9 I (by((repeat (first|refine AC.same ?_|refine AC.off I ?_));exact tO)) ?_
         exact Ar () ⟨I,tO⟩ [] (by decide) I
        ·refine wB 0 I I I ?_;refine Af 76 (.agg #[str [50],str [50]]) I (by rw[←Dk];rfl) ?_
         refine Aa (Ac (wX (wZ (wB 4 I I I (Aa (Ac (wX (wZ ?_))))))))
         refine AS [50] [50] [50] [50] I I I I I ?_;refine Af 77 (.bool true) I I ?_
         refine Aa (Ac (wX (wZ (wP I (Aa (Ac (wX (wZ (wP I (Aa (Ac ?_)))))))))))
         refine A9 I (by((repeat (first|refine AC.same ?_|refine AC.off I ?_));exact tO)) ?_
         exact Ar () ⟨I,tO⟩ [] (by decide) I
  ·refine Az Tryz.hZ tH I I I I I I I I ?_
   refine Aa (Ac (wX (wZ (wB 2 I I I (Aa (Ac (wX (wZ ?_))))))))
   refine AS [49,47,51] [49,47,51] [49,47,51] [49,47,51] I I I I I ?_;refine Af 60 (.bool true) I I ?_
   refine Aa (Ac (wX (wZ (wP I (Aa (Ac (wX (wZ (wP I (Aa (Ac (wX (wZ ?_)))))))))))))
   refine wP I (Aa (Ac (wX (wZ (wP I (Aa (Ac (wX (wZ (wP I (Aa (Ac (wX ?_)))))))))))))
   refine RS.cons ?_ (RS.cons ?_ (RS.nil))
   ·refine wB 3 I I I (Aa (Ac (wX (wZ (wP I (Aa (Ac (wX (wZ (wI I I (by decide) (by decide) (Aa (Ac (wX ?_)))))))))))))
    refine wZ ?_
    refine wB 0 I I I ?_;refine Af 69 (.agg #[str [48],str [48]]) I (by rw[←KL];rfl) ?_
    refine Aa (Ac (wX (wZ ?_)))
    refine AS [48] [48] [48] [48] I I I I I ?_;refine Af 70 (.bool true) I I ?_
    refine Aa (Ac (wX (wZ (wP I (Aa (Ac (wX (wZ (wP I (Aa (Ac (wX ?_))))))))))))
    refine RS.cons ?_ (RS.cons ?_ (RS.nil))
    ·refine wB 4 I I I (Aa (Ac (wX (wZ (wP I (Aa (Ac (wX (wZ (wI I I (by decide) (by decide) (Aa (Ac (wX ?_)))))))))))))
     refine wZ ?_
     refine wB 0 I I I ?_;refine Af 76 (.agg #[str [50],str [50]]) I (by rw[←Dk];rfl) ?_
     refine Aa (Ac (wX (wZ ?_)))
     refine AS [50] [50] [50] [50] I I I I I ?_;refine Af 77 (.bool true) I I ?_
     refine Aa (Ac (wX (wZ (wP I (Aa (Ac (wX (wZ (wP I (Aa (Ac ?_)))))))))))
     refine A9 I (by((repeat (first|refine AC.same ?_|refine AC.off I ?_));exact tO)) ?_
     exact Ar () ⟨I,tO⟩ [] (by decide) I
    ·refine wP I (Aa (Ac (wX ?_)))
     refine RS.cons ?_ (RS.cons ?_ (RS.nil))
     ·refine wB 4 I I I (Aa (Ac (wX (wZ (wI I I (by decide) (by decide) (Aa (Ac (wX (wZ ?_)))))))))
      refine wB 0 I I I ?_;refine Af 76 (.agg #[str [50],str [50]]) I (by rw[←Dk];rfl) ?_
      refine Aa (Ac (wX (wZ ?_)))
      refine AS [50] [50] [50] [50] I I I I I ?_;refine Af 77 (.bool true) I I ?_
      refine Aa (Ac (wX (wZ (wP I (Aa (Ac (wX (wZ (wP I (Aa (Ac ?_)))))))))))
      refine A9 I (by((repeat (first|refine AC.same ?_|refine AC.off I ?_));exact tO)) ?_
      exact Ar () ⟨I,tO⟩ [] (by decide) I
     ·refine wI I I (by decide) (by decide) (Aa (Ac (wX ?_)))
      refine RS.cons ?_ (RS.cons ?_ (RS.nil))
      ·refine wB 4 I I I (Aa (Ac (wX (wZ ?_))))
       refine wB 0 I I I ?_;refine Af 76 (.agg #[str [50],str [50]]) I (by rw[←Dk];rfl) ?_
       refine Aa (Ac (wX (wZ ?_)))
       refine AS [50] [50] [50] [50] I I I I I ?_;refine Af 77 (.bool true) I I ?_
       refine Aa (Ac (wX (wZ (wP I (Aa (Ac (wX (wZ (wP I (Aa (Ac ?_)))))))))))
       refine A9 I (by((repeat (first|refine AC.same ?_|refine AC.off I ?_));exact tO)) ?_
       exact Ar () ⟨I,tO⟩ [] (by decide) I
      ·refine wB 0 I I I ?_;refine Af 76 (.agg #[str [50],str [50]]) I (by rw[←Dk];rfl) ?_
       refine Aa (Ac (wX (wZ (wB 4 I I I (Aa (Ac (wX (wZ ?_))))))))
       refine AS [50] [50] [50] [50] I I I I I ?_;refine Af 77 (.bool true) I I ?_
       refine Aa (Ac (wX (wZ (wP I (Aa (Ac (wX (wZ (wP I (Aa (Ac ?_)))))))))))
       refine A9 I (by((repeat (first|refine AC.same ?_|refine AC.off I ?_));exact tO)) ?_
       exact Ar () ⟨I,tO⟩ [] (by decide) I
   ·refine wP I (Aa (Ac (wX ?_)))
    refine RS.cons ?_ (RS.cons ?_ (RS.nil))
    ·refine wB 3 I I I (Aa (Ac (wX (wZ (wI I I (by decide) (by decide) (Aa (Ac (wX (wZ ?_)))))))))
     refine wB 0 I I I ?_;refine Af 69 (.agg #[str [48],str [48]]) I (by rw[←KL];rfl) ?_
     refine Aa (Ac (wX (wZ ?_)))
     refine AS [48] [48] [48] [48] I I I I I ?_;refine Af 70 (.bool true) I I ?_
     refine Aa (Ac (wX (wZ (wP I (Aa (Ac (wX (wZ (wP I (Aa (Ac (wX ?_))))))))))))
     refine RS.cons ?_ (RS.cons ?_ (RS.nil))
     ·refine wB 4 I I I (Aa (Ac (wX (wZ (wP I (Aa (Ac (wX (wZ (wI I I (by decide) (by decide) (Aa (Ac (wX ?_)))))))))))))
      refine wZ ?_
      refine wB 0 I I I ?_;refine Af 76 (.agg #[str [50],str [50]]) I (by rw[←Dk];rfl) ?_
      refine Aa (Ac (wX (wZ ?_)))
      refine AS [50] [50] [50] [50] I I I I I ?_;refine Af 77 (.bool true) I I ?_
      refine Aa (Ac (wX (wZ (wP I (Aa (Ac (wX (wZ (wP I (Aa (Ac ?_)))))))))))
      refine A9 I (by((repeat (first|refine AC.same ?_|refine AC.off I ?_));exact tO)) ?_
      exact Ar () ⟨I,tO⟩ [] (by decide) I
     ·refine wP I (Aa (Ac (wX ?_)))
      refine RS.cons ?_ (RS.cons ?_ (RS.nil))
      ·refine wB 4 I I I (Aa (Ac (wX (wZ (wI I I (by decide) (by decide) (Aa (Ac (wX (wZ ?_)))))))))
       refine wB 0 I I I ?_;refine Af 76 (.agg #[str [50],str [50]]) I (by rw[←Dk];rfl) ?_
       refine Aa (Ac (wX (wZ ?_)))
       refine AS [50] [50] [50] [50] I I I I I ?_;refine Af 77 (.bool true) I I ?_
       refine Aa (Ac (wX (wZ (wP I (Aa (Ac (wX (wZ (wP I (Aa (Ac ?_)))))))))))
       refine A9 I (by((repeat (first|refine AC.same ?_|refine AC.off I ?_));exact tO)) ?_
       exact Ar () ⟨I,tO⟩ [] (by decide) I
      ·refine wI I I (by decide) (by decide) (Aa (Ac (wX ?_)))
       refine RS.cons ?_ (RS.cons ?_ (RS.nil))
       ·refine wB 4 I I I (Aa (Ac (wX (wZ ?_))))
        refine wB 0 I I I ?_;refine Af 76 (.agg #[str [50],str [50]]) I (by rw[←Dk];rfl) ?_
        refine Aa (Ac (wX (wZ ?_)))
        refine AS [50] [50] [50] [50] I I I I I ?_;refine Af 77 (.bool true) I I ?_
        refine Aa (Ac (wX (wZ (wP I (Aa (Ac (wX (wZ (wP I (Aa (Ac ?_)))))))))))
        refine A9 I (by((repeat (first|refine AC.same ?_|refine AC.off I ?_));exact tO)) ?_
        exact Ar () ⟨I,tO⟩ [] (by decide) I
       ·refine wB 0 I I I ?_;refine Af 76 (.agg #[str [50],str [50]]) I (by rw[←Dk];rfl) ?_
        refine Aa (Ac (wX (wZ (wB 4 I I I (Aa (Ac (wX (wZ ?_))))))))
        refine AS [50] [50] [50] [50] I I I I I ?_;refine Af 77 (.bool true) I I ?_
        refine Aa (Ac (wX (wZ (wP I (Aa (Ac (wX (wZ (wP I (Aa (Ac ?_)))))))))))
        refine A9 I (by((repeat (first|refine AC.same ?_|refine AC.off I ?_));exact tO)) ?_
        exact Ar () ⟨I,tO⟩ [] (by decide) I
    ·refine wI I I (by decide) (by decide) (Aa (Ac (wX ?_)))
     refine RS.cons ?_ (RS.cons ?_ (RS.nil))
     ·refine wB 3 I I I (Aa (Ac (wX (wZ ?_))))
      refine wB 0 I I I ?_;refine Af 69 (.agg #[str [48],str [48]]) I (by rw[←KL];rfl) ?_
      refine Aa (Ac (wX (wZ ?_)))
      refine AS [48] [48] [48] [48] I I I I I ?_;refine Af 70 (.bool true) I I ?_
      refine Aa (Ac (wX (wZ (wP I (Aa (Ac (wX (wZ (wP I (Aa (Ac (wX ?_))))))))))))
      refine RS.cons ?_ (RS.cons ?_ (RS.nil))
      ·refine wB 4 I I I (Aa (Ac (wX (wZ (wP I (Aa (Ac (wX (wZ (wI I I (by decide) (by decide) (Aa (Ac (wX ?_)))))))))))))
       refine wZ ?_
       refine wB 0 I I I ?_;refine Af 76 (.agg #[str [50],str [50]]) I (by rw[←Dk];rfl) ?_
       refine Aa (Ac (wX (wZ ?_)))
       refine AS [50] [50] [50] [50] I I I I I ?_;refine Af 77 (.bool true) I I ?_
       refine Aa (Ac (wX (wZ (wP I (Aa (Ac (wX (wZ (wP I (Aa (Ac ?_)))))))))))
       refine A9 I (by((repeat (first|refine AC.same ?_|refine AC.off I ?_));exact tO)) ?_
       exact Ar () ⟨I,tO⟩ [] (by decide) I
      ·refine wP I (Aa (Ac (wX ?_)))
       refine RS.cons ?_ (RS.cons ?_ (RS.nil))
       ·refine wB 4 I I I (Aa (Ac (wX (wZ (wI I I (by decide) (by decide) (Aa (Ac (wX (wZ ?_)))))))))
        refine wB 0 I I I ?_;refine Af 76 (.agg #[str [50],str [50]]) I (by rw[←Dk];rfl) ?_
        refine Aa (Ac (wX (wZ ?_)))
        refine AS [50] [50] [50] [50] I I I I I ?_;refine Af 77 (.bool true) I I ?_
        refine Aa (Ac (wX (wZ (wP I (Aa (Ac (wX (wZ (wP I (Aa (Ac ?_)))))))))))
        refine A9 I (by((repeat (first|refine AC.same ?_|refine AC.off I ?_));exact tO)) ?_
        exact Ar () ⟨I,tO⟩ [] (by decide) I
       ·refine wI I I (by decide) (by decide) (Aa (Ac (wX ?_)))
        refine RS.cons ?_ (RS.cons ?_ (RS.nil))
        ·refine wB 4 I I I (Aa (Ac (wX (wZ ?_))))
         refine wB 0 I I I ?_;refine Af 76 (.agg #[str [50],str [50]]) I (by rw[←Dk];rfl) ?_
         refine Aa (Ac (wX (wZ ?_)))
         refine AS [50] [50] [50] [50] I I I I I ?_;refine Af 77 (.bool true) I I ?_
         refine Aa (Ac (wX (wZ (wP I (Aa (Ac (wX (wZ (wP I (Aa (Ac ?_)))))))))))
         refine A9 I (by((repeat (first|refine AC.same ?_|refine AC.off I ?_));exact tO)) ?_
         exact Ar () ⟨I,tO⟩ [] (by decide) I
        ·refine wB 0 I I I ?_;refine Af 76 (.agg #[str [50],str [50]]) I (by rw[←Dk];rfl) ?_
         refine Aa (Ac (wX (wZ (wB 4 I I I (Aa (Ac (wX (wZ ?_))))))))
         refine AS [50] [50] [50] [50] I I I I I ?_;refine Af 77 (.bool true) I I ?_
         refine Aa (Ac (wX (wZ (wP I (Aa (Ac (wX (wZ (wP I (Aa (Ac ?_)))))))))))
         refine A9 I (by((repeat (first|refine AC.same ?_|refine AC.off I ?_));exact tO)) ?_
         exact Ar () ⟨I,tO⟩ [] (by decide) I
     ·refine wB 0 I I I ?_;refine Af 69 (.agg #[str [48],str [48]]) I (by rw[←KL];rfl) ?_
      refine Aa (Ac (wX (wZ (wB 3 I I I (Aa (Ac (wX (wZ ?_))))))))
      refine AS [48] [48] [48] [48] I I I I I ?_;refine Af 70 (.bool true) I I ?_
      refine Aa (Ac (wX (wZ (wP I (Aa (Ac (wX (wZ (wP I (Aa (Ac (wX ?_))))))))))))
      refine RS.cons ?_ (RS.cons ?_ (RS.nil))
      ·refine wB 4 I I I (Aa (Ac (wX (wZ (wP I (Aa (Ac (wX (wZ (wI I I (by decide) (by decide) (Aa (Ac (wX ?_)))))))))))))
       refine wZ ?_
       refine wB 0 I I I ?_;refine Af 76 (.agg #[str [50],str [50]]) I (by rw[←Dk];rfl) ?_
       refine Aa (Ac (wX (wZ ?_)))
       refine AS [50] [50] [50] [50] I I I I I ?_;refine Af 77 (.bool true) I I ?_
       refine Aa (Ac (wX (wZ (wP I (Aa (Ac (wX (wZ (wP I (Aa (Ac ?_)))))))))))
       refine A9 I (by((repeat (first|refine AC.same ?_|refine AC.off I ?_));exact tO)) ?_
       exact Ar () ⟨I,tO⟩ [] (by decide) I
      ·refine wP I (Aa (Ac (wX ?_)))
       refine RS.cons ?_ (RS.cons ?_ (RS.nil))
       ·refine wB 4 I I I (Aa (Ac (wX (wZ (wI I I (by decide) (by decide) (Aa (Ac (wX (wZ ?_)))))))))
        refine wB 0 I I I ?_;refine Af 76 (.agg #[str [50],str [50]]) I (by rw[←Dk];rfl) ?_
        refine Aa (Ac (wX (wZ ?_)))
        refine AS [50] [50] [50] [50] I I I I I ?_;refine Af 77 (.bool true) I I ?_
        refine Aa (Ac (wX (wZ (wP I (Aa (Ac (wX (wZ (wP I (Aa (Ac ?_)))))))))))
        refine A9 I (by((repeat (first|refine AC.same ?_|refine AC.off I ?_));exact tO)) ?_
        exact Ar () ⟨I,tO⟩ [] (by decide) I
       ·refine wI I I (by decide) (by decide) (Aa (Ac (wX ?_)))
        refine RS.cons ?_ (RS.cons ?_ (RS.nil))
        ·refine wB 4 I I I (Aa (Ac (wX (wZ ?_))))
         refine wB 0 I I I ?_;refine Af 76 (.agg #[str [50],str [50]]) I (by rw[←Dk];rfl) ?_
         refine Aa (Ac (wX (wZ ?_)))
         refine AS [50] [50] [50] [50] I I I I I ?_;refine Af 77 (.bool true) I I ?_
         refine Aa (Ac (wX (wZ (wP I (Aa (Ac (wX (wZ (wP I (Aa (Ac ?_)))))))))))
         refine A9 I (by((repeat (first|refine AC.same ?_|refine AC.off I ?_));exact tO)) ?_
         exact Ar () ⟨I,tO⟩ [] (by decide) I
        ·refine wB 0 I I I ?_;refine Af 76 (.agg #[str [50],str [50]]) I (by rw[←Dk];rfl) ?_
         refine Aa (Ac (wX (wZ (wB 4 I I I (Aa (Ac (wX (wZ ?_))))))))
         refine AS [50] [50] [50] [50] I I I I I ?_;refine Af 77 (.bool true) I I ?_
         refine Aa (Ac (wX (wZ (wP I (Aa (Ac (wX (wZ (wP I (Aa (Ac ?_)))))))))))
         refine A9 I (by((repeat (first|refine AC.same ?_|refine AC.off I ?_));exact tO)) ?_
         exact Ar () ⟨I,tO⟩ [] (by decide) I
 intro _
 exact zE (zO (wR1 I I I))
-- BOXES 8
-- CODE2
def Im (V:Vec):Option Addr:=V.p.map fun g=>⟨g,0,none⟩
def Jv (V:Vec):Nat:=match V.p with
 |none=>0
 |some _=>V.cap
theorem J2 {V:Vec} {l:List Ag} (h:V.OK 2 l.length (ptC l)):V.val l.length=slv (Im V) l.length (Jv V):=by
 obtain⟨p,c,j⟩:=V
 cases p with
 |none=>
  have e:l.length=0:=h.nil rfl
  rw[e];rfl
 |some g=>rfl
theorem Py {W0 W:World} {bxs:List Bx} (hp:Hp W0 bxs W) (k:Nat) {V:Vec} {l:List Ag} (h:V.OK 2 l.length (ptC l)) (hk:nth bxs k=some (V.bx 35 (ptC l))):Ci W (Im V) l:=by
 obtain⟨p,c,j⟩:=V
 cases p with
 |none=>
  have e:l.length=0:=h.nil rfl
  exact .inl (List.length_eq_zero_iff.1 e)
 |some g=>exact Ci.of_row (Ak.of_bx hp k hk rfl)
theorem GS.pts {W:World} {p:Option Addr} {l:List Ag} (h:GS W p (l.map cvS)):Ci W p l:=by
 rcases h with h|⟨b,off,e,h⟩
 ·exact .inl (by simpa using h)
 ·refine .inr ⟨b,off,e,fun i hi=> ?_⟩
  have:=h i (by rw[List.length_map];exact hi)
  rwa [List.getElem_map] at this
structure VX (e:Nat) (l:List Ag):Prop where
 poly:AY l
 n:l.length≤4096
 hm: ∀p∈l,Hm e p
theorem VX.m {e:Nat} {l:List Ag} (h:VX e l) (he:e≤36) {W:World} {p:Option Addr} (hp:Ci W p l) (hv:BL W) (ht:AM W):He W p l:=⟨h.poly,h.poly.n3,h.n,Ie.of_hm h.hm he,hp,hv,ht⟩
theorem Ny {f:AL} (hq:Pg f) (hf:LnH f) {e:Nat} {l r:List Ag} (h:VX e l) (he:e≤36) (er:BT f l=r) (p:Option Addr) (cap:Nat) (W:World) (hp:Ci W p l) (hv:BL W) (ht:AM W):
  Ai Tryz.prog 12 #[slv p l.length cap,str (Ad f.a),str (Ad f.b),str (Ad f.c)] W (fun V:Vec=> .tuple #[V.val r.length, .int .i64 0]) (fun V=>V.OK 2 r.length (ptC r)) (fun V=>[V.bx 35 (ptC r)]):=by
 subst er
 exact K8 f hq l (ClZ.of hf (by omega) h.hm) p cap W (h.m he hp hv ht)
-- BOXES 5
-- CODE2
theorem Er (q:Rat) (h:Sz2 0 q) (W:World) (ht:AM W):
  Ai Tryz.prog 13 #[str (Ad q)] W (fun _:Unit=>str (Ad (-q))) (fun _=>True) (fun _=>[]):=by
 refine Ab (args:=[str (Ad q)]) Tryz.func13 I I I ?_
 refine zA (zB (wP I (Aa (zE (zA (zB (wP I ?_)))))))
 refine wC I I (fun W1 hp=>by
  have:=QU 0 q h W1 (ht.hp hp)
  rwa [CE] at this) ?_
 iterate 5 refine wP I ?_
 exact Aa (zE (zA (zB (wP I (wP I (Aa (zE (zO (wR1 I I (by rw[show -q=0-q by grind]))))))))))
-- BOXES 5
-- CODE2
theorem KF.of {p q r:Ag} (h:WZ p q r):KF p q r:=
 ⟨Ez.2 ⟨⟨h.s1.c1,h.s1.c2⟩,h.s1.sub,h.s1.d⟩,Ez.2 ⟨⟨h.s2.c1,h.s2.c2⟩,h.s2.sub,h.s2.d⟩,Ez.2 ⟨⟨h.s3.c1,h.s3.c2⟩,h.s3.sub,h.s3.d⟩,Ez.2 ⟨⟨h.s4.c1,h.s4.c2⟩,h.s4.sub,h.s4.d⟩,⟨h.m1.n,h.m1.d⟩,⟨h.m2.n,h.m2.d⟩,⟨h.o.c1,h.o.c2⟩⟩
theorem Ho {l:List Ag} (h:Ie 36 l):Eo l:=fun a ha b hb=>by
 have h0:0<l.length:=by omega
 have pa:=h.at_ h0 a
 have pb:=h.at_ h0 b
 have s1:=sz2 pa.1 pb.1 (by decide)
 have s2:=sz2 pa.2 pb.2 (by decide)
 exact⟨⟨s1.c1,s1.c2⟩,⟨s2.c1,s2.c2⟩,fun d _=>KF.of (Sk pa pb (h.at_ h0 d) (by decide))⟩
theorem NL {l m:List Ag} (hl:AY l) (h1: ∀p∈l,p∈m) (h2: ∀x∈m,DT l x):Kf m=B1 l:=
 PR hl (ND (LR m)).1 (fun p hp=>(Lx m p).2 (h1 p hp)) fun x hx=>h2 x ((Lx m x).1 hx)
theorem M5 (l:List Ag):(B1 l).length=l.length:=DD (Gj l)
theorem TE.poly {l m:List Ag} (hl:AY l) (h1: ∀p∈l,p∈m) (h2: ∀x∈m,DT l x) (hok:Eo m):TE m (B1 l) 0:=
 .inl ⟨hok,by rw[NL hl h1 h2,M5];exact hl.n3,(NL hl h1 h2).symm,rfl⟩
theorem LZ {f:AL} (hf:f.a≠0∨f.b≠0) {l:List Ag} (h:AY l):(BA f l).length≤2:=by
 refine Nat.le_of_not_lt fun h3=> ?_
 unfold BA at h3
 rw[List.length_map] at h3
 have z: ∀k∈CA (Ae l) l.length f,f.at (Cj (Ae l) k)=0:=fun k hk=>(GH (List.mem_map_of_mem hk)).2
 have hp:=List.pairwise_iff_getElem.1 (HE (Ae l) l.length f)
 obtain⟨K,hK⟩: ∃K,K=CA (Ae l) l.length f:=⟨_,rfl⟩
 have hm: ∀k∈K,Vr (Ae l) l.length f k:=fun k hk=>(DH k).1 (hK▸hk)
 rw[←hK] at h3 z
 have hp: ∀i j (hi:i<K.length) (hj:j<K.length),i<j→K[i].1<K[j].1:=by rw[hK];exact hp
 have m0:=List.getElem_mem (show 0<K.length by omega)
 have m1:=List.getElem_mem (show 1<K.length by omega)
 have m2:=List.getElem_mem (show 2<K.length by omega)
 have r0:=(hm _ m0).kp.rng
 have r1:=(hm _ m1).kp.rng
 have r2:=(hm _ m2).kp.rng
 have hd:=XO h r0.1 r0.2 r1.1 r1.2 r2.1 r2.2 (hp 0 1 (by omega) (by omega) (by decide)) (hp 1 2 (by omega) (by omega) (by decide)) (hm _ m2).1
 have e:=Ke hf (z _ m0) (z _ m1) (z _ m2)
 rw[e] at hd
 exact Rat.lt_irrefl hd
theorem Hm.keptS {e:Nat} {f:AL} {l:List Ag} (hf:LnH f) (hl: ∀p∈l,Hm e p): ∀k,k≤l.length→ ∀p∈DQ f l k,Hm (2*e+14) p
 |0,_,p,hp=>absurd hp (by simp[DQ,CA])
 |k+1,hk,p,hp=>by
  have h0:0<l.length:=by omega
  rw[No,Gq,List.mem_append,List.mem_append] at hp
  rcases hp with(hp|hp)|hp
  ·exact Hm.keptS hf hl k (by omega) p hp
  ·split at hp
   ·rw[List.mem_singleton.1 hp];exact(hl _ (AU h0 k)).mono (by omega)
   ·exact absurd hp (by simp)
  ·split at hp
   ·rename_i c
    rw[List.mem_singleton.1 hp];exact((hl _ (AU h0 k)).cut (hl _ (AU h0 (k+1))) hf c).1
   ·exact absurd hp (by simp)
theorem Hm.ends {e:Nat} {f:AL} {l:List Ag} (hf:LnH f) (hl: ∀p∈l,Hm e p): ∀p∈BA f l,Hm (2*e+14) p:=Hm.keptS hf hl l.length (Nat.le_refl _)
theorem SeZ.of {e:Nat} {f:AL} {l:List Ag} (hf:LnH f) (hn:f.a≠0∨f.b≠0) (he:e≤50) (hl: ∀p∈l,Hm e p) (hP:AY l):SeZ f l:=by
 have h:=ClZ.of hf he hl
 refine⟨h.v,h.c,LZ hn hP,fun x y exy=> ?_⟩
 have hx:=(Hm.ends hf hl x (by rw[exy];simp)).sz
 have hy:=(Hm.ends hf hl y (by rw[exy];simp)).sz
 exact⟨sz2 hy.1 hx.1 (by omega),sz2 hy.2 hx.2 (by omega)⟩
theorem TD {f:AL} (hn:f.a≠0∨f.b≠0) {l:List Ag} (hP:AY l): ∃(s1 s2 s3 s4:List UInt8) (is:Bool),Qh (BA f l)= .tuple #[.agg #[str s1,str s2], .agg #[str s3,str s4], .bool is, .int .i64 0]∧(is=true↔2≤(BA f l).length)∧
  (is=false∧s1=[]∧s2=[]∧s3=[]∧s4=[]∨is=true∧ ∃p q:Ag,s1=Ad p.1∧s2=Ad p.2∧s3=Ad q.1∧s4=Ad q.2∧AH p q∧p∈BA f l∧q∈BA f l):=by
 have h2:=LZ hn hP
 have hd:=Nd (f:=f) hP
 obtain⟨E,hE⟩: ∃E,E=BA f l:=⟨_,rfl⟩
 rw[←hE] at h2 hd⊢
 rcases E with _|⟨x,_|⟨y,_|⟨z,t⟩⟩⟩
 ·exact⟨[],[],[],[],false,I,by simp, .inl ⟨I,I,I,I,I⟩⟩
 ·exact⟨[],[],[],[],false,I,by simp, .inl ⟨I,I,I,I,I⟩⟩
 ·have hxy:x≠y:=by have:=(List.pairwise_cons.1 hd).1 y (by simp);exact this
  cases hc:BD y x with
  |true=>
   refine⟨_,_,_,_,true, ?_,by simp, .inr ⟨I,y,x,I,I,I,I,Cl.1 hc,by simp,by simp⟩⟩
   show Value.tuple #[ptV (if BD y x=true then y else x),ptV (if BD y x=true then x else y), .bool true, .int .i64 0]=_
   rw[hc];rfl
  |false=>
   have hlt:AH x y:=by
    rcases Do x y with d|d|d
    ·exact d
    ·exact absurd d hxy
    ·rw[Cl.2 d] at hc;cases hc
   refine⟨_,_,_,_,true, ?_,by simp, .inr ⟨I,x,y,I,I,I,I,hlt,by simp,by simp⟩⟩
   show Value.tuple #[ptV (if BD y x=true then y else x),ptV (if BD y x=true then x else y), .bool true, .int .i64 0]=_
   rw[hc];rfl
 ·simp at h2
def Nf (f:AL) (l:List Ag) (i:Nat):Nat:=((l.take i).filter fun p=>decide (f.at p=0)).length
theorem Sx (f:AL) (l:List Ag) (i:Nat):Nf f l i≤i:=Nat.le_trans (List.length_filter_le _ _) (by rw[List.length_take];exact Nat.min_le_left _ _)
theorem T4 (f:AL) (l:List Ag) {i:Nat} (hi:i<l.length):Nf f l (i+1)=Nf f l i+if f.at (Ae l i)=0 then 1 else 0:=by
 unfold Nf
 rw[List.take_add_one,List.getElem?_eq_getElem hi,AE hi,List.filter_append,List.length_append]
 congr 1
 show(List.filter _ [l[i]]).length=_
 split
 ·rename_i h;rw[List.filter_cons_of_pos (by exact dT h)];rfl
 ·rename_i h;rw[List.filter_cons_of_neg (by rw[dF h];decide)];rfl
theorem Vp (f:AL) (l:List Ag):Nf f l l.length=Fx f l:=by unfold Nf Fx;rw[List.take_length]
theorem Q5 {f:AL} {l:List Ag} (hP:AY l):0<(BT f l).length↔ ∃p∈l,f.at p<0:=by
 constructor
 ·intro h
  refine Classical.byContradiction fun hn=> ?_
  rw[Pd fun x hx=>Rat.not_lt.1 fun h=>hn ⟨x,hx,h⟩] at h
  exact absurd h (by decide)
 ·rintro⟨p,hp,h⟩
  have:=(QL hP hp h).n3
  have e:3≤(BT f l).length:=this
  omega
theorem T6 {f:AL} {l:List Ag} (hP:AY l):0<(BT f.neg l).length↔ ∃p∈l,0<f.at p:=by
 rw[Q5 hP]
 constructor
 ·rintro⟨p,hp,h⟩;exact⟨p,hp,by rw[AL.neg_at] at h;grind⟩
 ·rintro⟨p,hp,h⟩;exact⟨p,hp,by rw[AL.neg_at];grind⟩
theorem Xc {f:AL} {x:Ag}:decide (Ad (f.a*x.1+f.b*x.2)=Ad f.c)=decide (f.at x=0):=decide_eq_decide.2 (Gs.trans (by unfold AL.at;constructor<;>intro h<;>grind))
theorem I4 (f:AL) (x:Ag) (h:UC f x) (W:World) (hv:BL W) (ht:AM W):
  Ai Tryz.prog 25 #[cvV x,str (Ad f.a),str (Ad f.b),str (Ad f.c)] W (fun _:Unit=> .bool (decide (f.at x=0))) (fun _=>True) (fun _=>[]):=by
 refine Ab (args:=[cvV x,str (Ad f.a),str (Ad f.b),str (Ad f.c)]) Tryz.func25 I I I ?_
 refine zA (zB ?_)
 (refine A5 rfl rfl rfl rfl ?_;intro)
 refine wP I (Aa (zE (zA (zB (wP I (wP I (wB 0 I I I (wC I I (fun W1 hp=>IE f.a x.1 h.m1 W1 (hv.hp hp) (ht.hp hp)) ?_))))))))
 iterate 5 refine wP I ?_
 refine Aa (zE (zA (zB (wP I (wP I (wB 0 I I I (wC I I (fun W1 hp=>IE f.b x.2 h.m2 W1 (hv.hp hp) (ht.hp hp)) ?_)))))))
 iterate 5 refine wP I ?_
 refine Aa (zE (zA (zB (wP I (wP I (wC I I (fun W1 hp=>LD (f.a*x.1) (f.b*x.2) h.s W1 (hv.hp hp) (ht.hp hp)) ?_))))))
 iterate 5 refine wP I ?_
 refine Aa (zE (zA (zB (wP I (wP I (wP I (wP I ?_)))))))
 refine Af 38 (.int .i64 0) I I ?_
 refine wP I ?_
 refine Af 39 (.bool true) I I ?_
 exact wP I (wP I (wP I (wP I (wU 43 (decide (f.at x=0)) I ((Bd _ _).trans Xc) (wP I (wP I (Aa (zE (zO (wR1 I I I))))))))))
theorem Ng (p q:Ag) (z1:Sz2 p.1 q.1) (z2:Sz2 p.2 q.2) (W:World) (ht:AM W):
  Ai Tryz.prog 80 #[cvV p,cvV q] W (fun _:Unit=> .tuple #[.int .i64 (Ic p q), .int .i64 0]) (fun _=>True) (fun _=>[]):=by
 refine Ab (args:=[cvV p,cvV q]) Tryz.func80 I I I ?_
 refine zA (zB ?_)
 (refine A5 rfl rfl rfl rfl ?_;intro)
 (refine A5 rfl rfl rfl rfl ?_;intro)
 refine wP I (wP I (Aa (zE (zA (zB (wP I (wB 0 I I I (wP I (wB 1 I I I ?_)))))))))
 rcases F3 p.1 q.1 with e|e|e
 ·refine wC I I (fun W1 hp=>(GO p.1 q.1 z1 W1 (ht.hp hp)).cast (v':= .tuple #[.int .i64 (-1), .int .i64 0]) (by rw[e])) ?_
  iterate 5 refine wP I ?_
  refine Aa (zE (zA (zA (zB (wP I (wP I (wP I ?_)))))))
  iterate 2 refine Al I I ?_
  exact wP I (Aa (zE (zR I (zA (zB (wP I (wP I (wP I (wP I (Aa (zE (zO (zP (wR2 I I (by rw[Ic,e,if_neg (by decide)])))))))))))))))
 ·refine wC I I (fun W1 hp=>(GO p.1 q.1 z1 W1 (ht.hp hp)).cast (v':= .tuple #[.int .i64 0, .int .i64 0]) (by rw[e])) ?_
  iterate 5 refine wP I ?_
  refine Aa (zE (zA (zA (zB ?_))))
  iterate 6 refine wP I ?_
  refine Aa (zE (zS I (zI (zE (zA (zB (wP I (wB 0 I I I (wP I (wB 1 I I I (wC I I (fun W1 hp=>GO p.2 q.2 z2 W1 (ht.hp hp)) (wP I (wP I (wP I (wP I ?_)))))))))))))))
  exact Aa (zE (zO (wR2 I I (by rw[Ic,if_pos e]))))
 ·refine wC I I (fun W1 hp=>(GO p.1 q.1 z1 W1 (ht.hp hp)).cast (v':= .tuple #[.int .i64 1, .int .i64 0]) (by rw[e])) ?_
  iterate 5 refine wP I ?_
  refine Aa (zE (zA (zA (zB (wP I (wP I (wP I ?_)))))))
  iterate 2 refine Al I I ?_
  exact wP I (Aa (zE (zR I (zA (zB (wP I (wP I (wP I (wP I (Aa (zE (zO (zP (wR2 I I (by rw[Ic,e,if_neg (by decide)])))))))))))))))
theorem KI (p q:Ag) (z1:Sz2 p.1 q.1) (z2:Sz2 p.2 q.2) (W:World) (ht:AM W):
  Ai Tryz.prog 28 #[cvV p,cvV q] W (fun _:Unit=> .int .i64 (Ic p q)) (fun _=>True) (fun _=>[]):=by
 refine Ab (args:=[cvV p,cvV q]) Tryz.func28 I I I ?_
 refine zA (zB ?_)
 (refine A5 rfl rfl rfl rfl ?_;intro)
 (refine A5 rfl rfl rfl rfl ?_;intro)
 refine wP I (Aa (zE (zA (zB (wB 0 I I I (wB 1 I I I (wC I I (fun W1 hp=>Ng p q z1 z2 W1 (ht.hp hp)) ?_)))))))
 iterate 5 refine wP I ?_
 exact Aa (zE (zA (zB (wP I (wP I (Aa (zE (zO (wR1 I I I)))))))))
section
variable {r:Option Nat} {n:Nat} {P:Program} {W0:World} {N:Nat} {D:List Deferred} {Q:Exit→Act→World→Prop} {env:Env} {bxs:List Bx}
end
-- BOXES 8
-- CODE2
theorem LnH.neg {f:AL} (h:LnH f):LnH f.neg:=by
 obtain⟨A,B,C,D,h0,a,b,c,d,e1,e2,e3⟩:=h
 refine⟨-A, -B, -C,D,h0,by rw[Int.natAbs_neg];exact a,by rw[Int.natAbs_neg];exact b,by rw[Int.natAbs_neg];exact c,d, ?_, ?_, ?_⟩<;>unfold AL.neg<;>simp only[Rat.intCast_neg]
 ·rw[←e1];grind
 ·rw[←e2];grind
 ·rw[←e3];grind
theorem AL.neg_ne {f:AL} (h:f.a≠0∨f.b≠0):f.neg.a≠0∨f.neg.b≠0:=by
 rcases h with h|h
 ·exact .inl fun c=>h (by have c: -f.a=0:=c;grind)
 ·exact .inr fun c=>h (by have c: -f.b=0:=c;grind)
theorem V3 {q:Rat} (h:szQ q 11):Sz2 0 q:=sz2 (a:=1) (by unfold szQ;decide+kernel) h (by decide)
-- BOXES 8
-- CODE2
abbrev QI (b:Nat) (s1 s2:List UInt8):Bx:=⟨b,35,[str s1,str s2],true,none⟩
theorem Kb {l L:List Ag} (hr:TE l L 0) (hok:Eo l) (h0:0<l.length) (h12:l.length≤12) (hq: ∀p∈l,okP p) (p:Option Addr) (cap:Nat) (W:World) (hA:Ci W p l) (hv:BL W) (ht:AM W):
  Ai Tryz.prog 26 #[slv p l.length cap] W (fun V:Vec=> .tuple #[V.val L.length, .int .i64 0]) (fun V=>V.OK 2 L.length (ptC L)) (fun V=>[V.bx 35 (ptC L)]):=
 Qw l L 0 hr (.inl hok) h0 h12 hq p cap W hA hv ht
theorem Vz {p q:Ag} (h:AH p q):decide (Ic p q<0)=true:=(Lb p q).trans (Cl.2 h)
theorem szQ.okP {p:Ag} {k:Nat} (h:szQ p.1 k∧szQ p.2 k) (hk:k≤300):okP p:=⟨h.1.ok hk,h.2.ok hk⟩
theorem V8 {z:Nat}:((z:Int)==2)=decide (z=2):=by
 rw[Bool.eq_iff_iff,beq_iff_eq,decide_eq_true_iff];omega
theorem Lu (l:List PtS) (a1 a2 a3:List UInt8) (p:Option Addr) (cap:Nat) (W:World) (hA:GS W p l) (hn:l.length<4611686018427387904) (hv:BL W) (ht:AM W):
  Ai Tryz.prog 5 #[slv p l.length cap,str a1,str a2,str a3] W (fun _:Unit=> .bool true) (fun _=>True) (fun _=>[]):=by
 obtain⟨n,hnl⟩: ∃n,n=l.length:=⟨_,rfl⟩
 rw[←hnl]
 refine Ab (args:=[slv p n cap,str a1,str a2,str a3]) Tryz.func5 I I I ?_
 refine zA (zB (wP I (Aa (zE (zA (zA (zB (wP I ?_))))))))
 refine AF Tryz.hZ tH I I I I I I I I I I I fun bS=> ?_
 refine wD (X:=Bool) I I (fun W1 hp=>R0 [(p,cap,l)] (by show 1≤100000;decide) (fun y hy=>by rw[List.mem_singleton.1 hy];exact hn) bS 0 1 W1 ⟨by have h:=Ak.of_bx hp 0 I I;rw[hnl] at h;exact h,fun y hy=>by rw[List.mem_singleton.1 hy];exact hA.hp hp⟩ (ht.hp hp)) ?_
 intro b1 hb1
 have hb1:b1=true→ ∀x∈[((p,cap,l):Ls)],Nu x.2.2:=hb1
 cases b1 with
 |false=>
  refine wP I (wP I ?_)
  iterate 5 refine Al I I ?_
  refine wP I (Aa (zE (zR I (zA (zB ?_)))))
  refine Bo (capt:=[]) I I I I I I (by kernel_rfl) (fun W1 hp=>E4 W1 (hv.hp hp) (ht.hp hp)) ?_
  exact wP I (Aa (zE (zO (zP (wR1 I I I)))))
 |true=>
 have hF:=hb1 rfl (p,cap,l) (List.mem_singleton.2 rfl)
 iterate 5 refine wP I ?_
 refine wD (X:=Bool) I I (fun W1 hp=>RH a1 a2 a3 W1 (ht.hp hp)) ?_
 intro b2 hb2
 have hb2:b2=true→WS a1 a2 a3:=hb2
 cases b2 with
 |false=>
  refine wP I (wP I (Aa (zE (zR I (zA (zB ?_))))))
  refine Bo (capt:=[]) I I I I I I (by kernel_rfl) (fun W1 hp=>E4 W1 (hv.hp hp) (ht.hp hp)) ?_
  exact wP I (Aa (zE (zO (zP (wR1 I I I)))))
 |true=>
 refine wP I (wP I (Aa ?_))
 obtain⟨m,rfl,h3,h8,h5,hP⟩:Nu l:=hF
 have hpts:=hA.pts
 obtain rfl:n=m.length:=by rw[hnl,List.length_map]
 obtain⟨A1,A2,A3,rfl,rfl,rfl,o1,o2,o3,n1,n2,n3,hne⟩:=hb2 rfl
 have qf:Pg ⟨A1,A2,A3⟩:=⟨o1,o2,o3,hne⟩
 have lf:LnH ⟨A1,A2,A3⟩:=Yc n1 n2 n3
 obtain⟨f,hf⟩: ∃f:AL,f=⟨A1,A2,A3⟩:=⟨_,rfl⟩
 rw[←hf] at qf lf
 obtain⟨rfl,rfl,rfl⟩:A1=f.a∧A2=f.b∧A3=f.c:=by rw[hf];exact⟨rfl,rfl,rfl⟩
 have lg:LnH f.neg:=lf.neg
 have qg:Pg f.neg:=RD lg (AL.neg_ne hne)
 obtain⟨sa,sb,sc⟩:=lf.sz
 have hm:VX 8 m:=⟨hP,by omega,fun x hx=>hm5 (h5 x hx).2.1 (h5 x hx).2.2⟩
 have h0:0<m.length:=by omega
 have hse:=SeZ.of lf hne (by decide) hm.hm hP
 obtain⟨s1,s2,s3,s4,is,eE,hisE,hcase⟩:=TD hne hP
 have hsec:=MR hne hP
 have hcp:=Q5 (f:=f) hP
 have hcn:=T6 (f:=f) hP
 obtain⟨A,eA⟩: ∃A,BT f m=A:=⟨_,rfl⟩
 obtain⟨B,eB⟩: ∃B,BT f.neg m=B:=⟨_,rfl⟩
 rw[eA] at hcp
 rw[eB] at hcn
 have hz8:Nf f m m.length≤8:=Nat.le_trans (Sx f m m.length) h8
 obtain⟨z,hz⟩: ∃z,z=Nf f m m.length:=⟨_,rfl⟩
 rw[←hz] at hz8
 have hIS:is=true↔(0<A.length∧0<B.length)∨z=2:=by rw[hisE,hsec,hcp,hcn,hz,Vp]
 refine zE (zS I (zI (zE (zA (zB (wP I (wP I (wP I (wP I (wC I I (fun W1 hp=>(Hk f qf m hse p cap W1 (hm.m (by decide) (hpts.hp hp) (hv.hp hp) (ht.hp hp))).cast eE) ?_))))))))))
 iterate 5 refine wP I ?_
 (refine Ah Tryz.hZ rfl rfl rfl rfl ?_;intro)
 (refine Ah Tryz.hZ rfl rfl rfl rfl ?_;intro)
 refine wS 1 I I I (wS 2 I I I (wP I (wP I (Aa ?_))))
 rename_i b9 b10
 refine zE (zA (zB (wP I (wP I (wP I (wP I ?_))))))
 refine wD (X:=Vec) I I (fun W1 hp=>Ny qf lf hm (by decide) eA p cap W1 (hpts.hp hp) (hv.hp hp) (ht.hp hp)) ?_
 intro VA hVA
 refine wP I (wP I ?_)
 refine Af 52 (slv (Im VA) A.length (Jv VA)) I (J2 hVA) ?_
 refine wP I (wP I (wP I (Aa (zE (zA (zB (wP I (wP I (wC I I (fun W1 hp=>Er f.a (V3 sa) W1 (ht.hp hp)) (wP I (wC I I (fun W1 hp=>Er f.b (V3 sb) W1 (ht.hp hp)) (wP I (wC I I (fun W1 hp=>Er f.c (V3 sc) W1 (ht.hp hp)) ?_)))))))))))))
 refine wD (X:=Vec) I I (fun W1 hp=>Ny qg lg hm (by decide) eB p cap W1 (hpts.hp hp) (hv.hp hp) (ht.hp hp)) ?_
 intro VB hVB
 refine wP I (wP I ?_)
 refine Af 63 (slv (Im VB) B.length (Jv VB)) I (J2 hVB) ?_
 refine wP I (wP I (wP I (Aa (zE (zA (zA (zB (wP I (wP I (wP I (wP I ?_)))))))))))
 refine Af 68 (.int .i64 0) I I ?_
 refine wP I (Aa (zE (zS I (zI (zE (zA (zB (wP I (Aa (zE (zA (zA (zB ?_)))))))))))))
 refine wP I (wP I (wP I (Aa (zE (zH ?_)))))
 obtain⟨bS0,hbS0⟩: ∃x:Bx,x=⟨bS,22,[slv p m.length cap],true,none⟩:=⟨_,rfl⟩
 refine AA (X:=Nat) (fun i=>[(0,slv p m.length cap),(1,str (Ad f.a)),(2,str (Ad f.b)),(3,str (Ad f.c)),(9,Aj b9),(10,Aj b10),(11, .bool is),(13,slv (Im VA) A.length (Jv VA)),(15,slv (Im VB) B.length (Jv VB)),(17, .int .i64 (Nf f m i:Nat)),(70,slv p m.length cap),(71, .int .i64 (m.length:Nat)),(72, .int .i64 (i:Nat))])
  (fun _=>[bS0,QI b9 s1 s2,QI b10 s3 s4,VA.bx 35 (ptC A),VB.bx 35 (ptC B)]) (fun i=>i≤m.length) (fun i=>m.length-i) 0 (Nat.zero_le _) ⟨rfl,rfl,rfl,rfl,rfl,rfl,rfl,rfl,rfl,rfl,rfl,rfl,rfl,trivial⟩ [] (by rw[hbS0];rfl) ?_
 intro i hi1
 have hi1:i≤m.length:=hi1
 refine zA (zB (wP I ?_))
 by_cases hi:i<m.length
 ·refine wU 73 true I (dT (by omega)) (Aa (zE (zA (zR I (zI (zE (zA (zH (zA (zB ?_))))))))))
  obtain⟨g,off,hpe,hrow⟩:=hpts.at_ hi
  have hrow:=hrow i hi
  have hvz:=hse.v _ (List.getElem_mem hi)
  have hsu:=T4 f m hi
  have hzl:=Sx f m i
  rw[AE hi] at hsu
  obtain⟨x,hx⟩: ∃x,x=m[i]:=⟨_,rfl⟩
  rw[←hx] at hrow hvz hsu
  subst hpe
  refine wJ ?_
  refine wL 0 I I (fun W1 hp=>hrow.hp hp) I ?_
  (refine Ah Tryz.hZ rfl rfl rfl rfl ?_;intro)
  refine wS 5 I I I (Aa ?_)
  rename_i b19
  refine zE (zA (zB (wB 5 I I I (wP I (wP I (wP I (wC I I (fun W1 hp=>I4 f x hvz W1 (hv.hp hp) (ht.hp hp)) (Aa (zE ?_)))))))))
  refine Av I (fun hc=> ?_) (fun hc=> ?_)
  ·rw[if_pos (of_decide_eq_true hc)] at hsu
   exact zB (wP I (wP I (wV 82 ((Nf f m (i+1):Nat):Int) I (by rw[hsu];exact Ay (by omega)) (wP I (Aa (zN (zE (zB (wP I (wV 83 ((i+1:Nat):Int) I (Ay (by omega)) (wP I (Aa (A6 (i+1) hi (by show m.length-(i+1)<m.length-i;omega) ⟨I,I,I,I,I,I,I,I,I,I,I,I,I,tO⟩ [_] I)))))))))))))
  ·rw[if_neg (of_decide_eq_false hc),Nat.add_zero] at hsu
   exact zI (zN (zE (zB (wP I (wV 83 ((i+1:Nat):Int) I (Ay (by omega)) (wP I (Aa (A6 (i+1) hi (by show m.length-(i+1)<m.length-i;omega) ⟨I,I,I,I,I,I,I,I,I,congrArg (fun n:Nat=>some (Value.int .i64 (n:Int))) hsu.symm,I,I,I,tO⟩ [_] I))))))))
 obtain rfl:i=m.length:=by omega
 rw[←hz]
 refine wU 73 false I (dF (by omega)) (Aa (zE (A0 (zS I (zJ (zK (zK (zL (zE ?_)))))))))
 refine Mv (X:=Unit) (fun _=>[(0,slv p m.length cap),(1,str (Ad f.a)),(2,str (Ad f.b)),(3,str (Ad f.c)),(9,Aj b9),(10,Aj b10),(11, .bool is)]) (fun _=>[bS0,QI b9 s1 s2,QI b10 s3 s4]) (fun _=>True) ?_ ?_
 ·refine zA (zB (wP I (wP I (wP I (wP I ?_)))))
  by_cases ha:0<A.length
  ·refine wU 87 true I (dT (by omega)) (wP I (wP I (wP I (wP I ?_))))
   by_cases hb:0<B.length
   ·obtain rfl:is=true:=hIS.2 (.inl ⟨ha,hb⟩)
    refine wU 91 true I (dT (by omega)) (wP I (wP I ?_))
    iterate 2 refine Al I I ?_
    refine wP I ?_
    refine Et Tryz.underlying4 I I I I I I ?_
    exact Aa (zE (zS I (zI (An () tO ⟨I,I,I,I,I,I,I,tO⟩ [_,_] I))))
   ·refine wU 91 false I (dF (by omega)) (wP I (wP I (wP I (wP I ?_))))
    by_cases h2:z=2
    ·obtain rfl:is=true:=hIS.2 (.inr h2)
     refine wU 95 true I (by rw[V8];exact dT h2) (wP I ?_)
     refine Et Tryz.underlying4 I I I I I I ?_
     exact Aa (zE (zS I (zI (An () tO ⟨I,I,I,I,I,I,I,tO⟩ [_,_] I))))
    ·obtain rfl:is=false:=by
      cases is with
      |false=>rfl
      |true=>rcases hIS.1 rfl with h|h;exact absurd h.2 hb;exact absurd h h2
     refine wU 95 false I (by rw[V8];exact dF h2) (wP I ?_)
     refine Et Tryz.underlying4 I I I I I I ?_
     exact Aa (zE (zS I (zI (An () tO ⟨I,I,I,I,I,I,I,tO⟩ [_,_] I))))
  ·refine wU 87 false I (dF (by omega)) (wP I ?_)
   iterate 3 refine Al I I ?_
   refine wP I (wP I (wP I (wP I ?_)))
   by_cases h2:z=2
   ·obtain rfl:is=true:=hIS.2 (.inr h2)
    refine wU 95 true I (by rw[V8];exact dT h2) (wP I ?_)
    refine Et Tryz.underlying4 I I I I I I ?_
    exact Aa (zE (zS I (zI (An () tO ⟨I,I,I,I,I,I,I,tO⟩ [_,_] I))))
   ·obtain rfl:is=false:=by
     cases is with
     |false=>rfl
     |true=>rcases hIS.1 rfl with h|h;exact absurd h.1 ha;exact absurd h h2
    refine wU 95 false I (by rw[V8];exact dF h2) (wP I ?_)
    refine Et Tryz.underlying4 I I I I I I ?_
    exact Aa (zE (zS I (zI (An () tO ⟨I,I,I,I,I,I,I,tO⟩ [_,_] I))))
 intro _ _
 rcases hcase with⟨rfl,rfl,rfl,rfl,rfl⟩|⟨rfl,P,Q,rfl,rfl,rfl,rfl,hPQ,hPe,hQe⟩
 ·refine zA (zA (zB (wP I (wP I (Aa (zE (zR I (zA (zB (wB 1 I I I ?_))))))))))
  refine Az Tryz.hZ tH I I I I I I I I ?_
  refine AS [] [] [] [] I I I I I ?_
  refine Af 102 (.bool true) I I ?_
  refine wP I (wB 2 I I I ?_)
  refine Az Tryz.hZ tH I I I I I I I I ?_
  refine AS [] [] [] [] I I I I I ?_
  refine Af 106 (.bool true) I I ?_
  refine wP I (wP I ?_)
  refine Bo (capt:=[]) I I I I I I (by kernel_rfl) (fun W1 hp=>E4 W1 (hv.hp hp) (ht.hp hp)) ?_
  exact wP I (wP I (Aa (zE (zO (zP (wR1 I I I))))))
 have hPh:=GH hPe
 have hQh:=GH hQe
 have hPs:=(Hm.ends lf hm.hm P hPe).sz
 have hQs:=(Hm.ends lf hm.hm Q hQe).sz
 have hmem: ∀x∈m++[P,Q],DT m x:=fun x hx=>by
  rcases List.mem_append.1 hx with h|h
  ·exact DT.mem h
  ·rcases List.mem_cons.1 h with rfl|h
   ·exact hPh.1
   ·obtain rfl:=List.mem_singleton.1 h;exact hQh.1
 have hsz:Ie 36 (m++[P,Q]):=fun x hx=>by
  rcases List.mem_append.1 hx with h|h
  ·have:=(hm.hm x h).sz;exact⟨this.1.mono (by decide),this.2.mono (by decide)⟩
  ·rcases List.mem_cons.1 h with rfl|h
   ·exact⟨hPs.1.mono (by decide),hPs.2.mono (by decide)⟩
   ·obtain rfl:=List.mem_singleton.1 h;exact⟨hQs.1.mono (by decide),hQs.2.mono (by decide)⟩
 have hszm:Ie 36 m:=fun x hx=>hsz x (List.mem_append_left _ hx)
 have hokq: ∀x∈m++[P,Q],okP x:=fun x hx=>szQ.okP (hsz x hx) (by decide)
 have hR1:=TE.poly hP (fun p hp=>List.mem_append_left [P,Q] hp) hmem (Ho hsz)
 have hR2:=TE.poly hP (fun p hp=>hp) (fun x hx=>DT.mem hx) (Ho hszm)
 have vz: ∀x:Ag,szQ x.1 30∧szQ x.2 30→UC f x:=fun x hx=>⟨sz2 sa hx.1 (by decide),sz2 sb hx.2 (by decide),sz2 (sa.mul hx.1) (sb.mul hx.2) (by decide),sz2 ((sa.mul hx.1).add (sb.mul hx.2)) sc (by decide)⟩
 have lpq:(m++[P,Q]).length=m.length+2:=by rw[List.length_append];rfl
 obtain⟨H,hH⟩: ∃H,H=B1 m:=⟨_,rfl⟩
 have hHl:H.length≤8:=by rw[hH,M5];exact h8
 rw[←hH] at hR1 hR2
 have hmne:m≠[]:=fun h=>by rw[h] at h0;exact absurd h0 (by decide)
 refine zA (zA (zB (wP I (wP I (Aa (zE (zS I (zI (zE (A0 ?_))))))))))
 refine Bg (X:= { V:Vec//V.OK 2 H.length (ptC H) }) [true,false,true,true,false,false,false,false,false,false,false,false] (fun V=>[(0,slv p m.length cap),(1,str (Ad f.a)),(2,str (Ad f.b)),(3,str (Ad f.c)),(9,Aj b9),(10,Aj b10),(20,V.1.val H.length),(21, .int .i64 0)]) (fun V=>[bS0,QI b9 (Ad P.1) (Ad P.2),QI b10 (Ad Q.1) (Ad Q.2),V.1.bx 35 (ptC H)])
  9 [bS0,QI b9 (Ad P.1) (Ad P.2),QI b10 (Ad Q.1) (Ad Q.2)] Tryz.mixed (by kernel_rfl) ?_ ?_
 ·refine qP I (qB 1 I I I (qB 2 I I I (C1 (wX ?_))))
  refine RS.cons ?_ (RS.cons ?_ (RS.nil))
  ·refine wD (X:=Vec) rfl rfl (fun W1 hp=>FT W1 p cap m (by omega) (hpts.hp hp) hmne) ?_;rintro⟨pK,cK,jK⟩ ⟨hVK,hpK⟩;obtain⟨gK,rfl⟩: ∃g,pK=some g:=Option.ne_none_iff_exists'.1 hpK
   refine Aa (Ac (wX (wZ ?_)))
   refine AF Tryz.hZ tH I I I I I I I I I I I fun bR=> ?_
   refine Aa (Ac (wX (wZ ?_)))
   (first|refine Bs (V:=⟨some gK,cK,jK⟩) (len:=m.length) (xs:=ptC m) 3 4 Tryz.vec22 (m++[P,Q]).length (ptC (m++[P,Q])) rfl rfl rfl rfl rfl rfl rfl rfl rfl rfl rfl hVK rfl rfl lpq.symm (by rw[BX];rfl) (by simp only[maxLen];omega) (by omega) rfl ?_|refine Bs (V:=⟨some gK,cK,jK⟩) (len:=m.length) (xs:=ptC m) 4 3 Tryz.vec22 (m++[P,Q]).length (ptC (m++[P,Q])) rfl rfl rfl rfl rfl rfl rfl rfl rfl rfl rfl hVK rfl rfl lpq.symm (by rw[BX];rfl) (by simp only[maxLen];omega) (by omega) rfl ?_);intro gM cM jM hVM
   refine Aa (Ac (wX (wZ ?_)))
   refine wD (X:=Vec) rfl rfl (fun W1 hp=>Kb hR1 (Ho hsz) (by rw[lpq];omega) (by rw[lpq];omega) hokq (some ⟨gM,0,none⟩) cM W1 (by first|exact Ci.of_row (Ak.of_bx hp 3 rfl rfl:Ak W1 gM 0 (ptC (m++[P,Q])++jM))|exact Ci.of_row (Ak.of_bx hp 4 rfl rfl:Ak W1 gM 0 (ptC (m++[P,Q])++jM))) (hv.hp hp) (ht.hp hp)) ?_;intro V1 hV1
   refine Aa (Ac (wX (wZ (wP I (Aa (Ac (wX ?_)))))))
   refine RS.cons ?_ (RS.cons ?_ (RS.nil))
   ·refine wP I (Aa (Ac (wX ?_)))
    refine RS.cons ?_ (RS.cons ?_ (RS.nil))
    ·refine wP I (Aa (Ac (wX (wZ (wP I (Aa (Ac (wX (wZ (wP I (Aa (Ac ?_))))))))))))
     refine A9 I (by((repeat (first|refine AC.same ?_|refine AC.off I ?_));exact tO)) ?_
     exact Ar (⟨V1,hV1⟩: { V:Vec//V.OK 2 H.length (ptC H) }) ⟨I,I,I,I,I,I,I,I,tO⟩ [0,1,2,5] (by decide) I
    ·refine wP I (Aa (Ac (wX (wZ (wP I (Aa (Ac (wX (wZ (wP I (Aa (Ac ?_))))))))))))
     refine A9 I (by((repeat (first|refine AC.same ?_|refine AC.off I ?_));exact tO)) ?_
     exact Ar (⟨V1,hV1⟩: { V:Vec//V.OK 2 H.length (ptC H) }) ⟨I,I,I,I,I,I,I,I,tO⟩ [0,1,2,5] (by decide) I
   ·refine wP I (Aa (Ac (wX (wZ (wP I (Aa (Ac (wX (wZ (wP I (Aa (Ac (wX ?_)))))))))))))
    refine wZ (wP I (Aa (Ac ?_)))
    refine A9 I (by((repeat (first|refine AC.same ?_|refine AC.off I ?_));exact tO)) ?_
    exact Ar (⟨V1,hV1⟩: { V:Vec//V.OK 2 H.length (ptC H) }) ⟨I,I,I,I,I,I,I,I,tO⟩ [0,1,2,5] (by decide) I
  ·refine AF Tryz.hZ tH I I I I I I I I I I I fun bR=> ?_
   refine Aa (Ac (wX (wZ ?_)))
   refine wD (X:=Vec) rfl rfl (fun W1 hp=>FT W1 p cap m (by omega) (hpts.hp hp) hmne) ?_;rintro⟨pK,cK,jK⟩ ⟨hVK,hpK⟩;obtain⟨gK,rfl⟩: ∃g,pK=some g:=Option.ne_none_iff_exists'.1 hpK
   refine Aa (Ac (wX (wZ ?_)))
   (first|refine Bs (V:=⟨some gK,cK,jK⟩) (len:=m.length) (xs:=ptC m) 3 4 Tryz.vec22 (m++[P,Q]).length (ptC (m++[P,Q])) rfl rfl rfl rfl rfl rfl rfl rfl rfl rfl rfl hVK rfl rfl lpq.symm (by rw[BX];rfl) (by simp only[maxLen];omega) (by omega) rfl ?_|refine Bs (V:=⟨some gK,cK,jK⟩) (len:=m.length) (xs:=ptC m) 4 3 Tryz.vec22 (m++[P,Q]).length (ptC (m++[P,Q])) rfl rfl rfl rfl rfl rfl rfl rfl rfl rfl rfl hVK rfl rfl lpq.symm (by rw[BX];rfl) (by simp only[maxLen];omega) (by omega) rfl ?_);intro gM cM jM hVM
   refine Aa (Ac (wX (wZ ?_)))
   refine wD (X:=Vec) rfl rfl (fun W1 hp=>Kb hR1 (Ho hsz) (by rw[lpq];omega) (by rw[lpq];omega) hokq (some ⟨gM,0,none⟩) cM W1 (by first|exact Ci.of_row (Ak.of_bx hp 3 rfl rfl:Ak W1 gM 0 (ptC (m++[P,Q])++jM))|exact Ci.of_row (Ak.of_bx hp 4 rfl rfl:Ak W1 gM 0 (ptC (m++[P,Q])++jM))) (hv.hp hp) (ht.hp hp)) ?_;intro V1 hV1
   refine Aa (Ac (wX (wZ (wP I (Aa (Ac (wX ?_)))))))
   refine RS.cons ?_ (RS.cons ?_ (RS.nil))
   ·refine wP I (Aa (Ac (wX ?_)))
    refine RS.cons ?_ (RS.cons ?_ (RS.nil))
    ·refine wP I (Aa (Ac (wX (wZ (wP I (Aa (Ac (wX (wZ (wP I (Aa (Ac ?_))))))))))))
     refine A9 I (by((repeat (first|refine AC.same ?_|refine AC.off I ?_));exact tO)) ?_
     exact Ar (⟨V1,hV1⟩: { V:Vec//V.OK 2 H.length (ptC H) }) ⟨I,I,I,I,I,I,I,I,tO⟩ [0,1,2,5] (by decide) I
    ·refine wP I (Aa (Ac (wX (wZ (wP I (Aa (Ac (wX (wZ (wP I (Aa (Ac ?_))))))))))))
     refine A9 I (by((repeat (first|refine AC.same ?_|refine AC.off I ?_));exact tO)) ?_
     exact Ar (⟨V1,hV1⟩: { V:Vec//V.OK 2 H.length (ptC H) }) ⟨I,I,I,I,I,I,I,I,tO⟩ [0,1,2,5] (by decide) I
   ·refine wP I (Aa (Ac (wX (wZ (wP I (Aa (Ac (wX (wZ (wP I (Aa (Ac (wX ?_)))))))))))))
    refine wZ (wP I (Aa (Ac ?_)))
    refine A9 I (by((repeat (first|refine AC.same ?_|refine AC.off I ?_));exact tO)) ?_
    exact Ar (⟨V1,hV1⟩: { V:Vec//V.OK 2 H.length (ptC H) }) ⟨I,I,I,I,I,I,I,I,tO⟩ [0,1,2,5] (by decide) I
 rintro⟨V1,hV1⟩
 have hV1:V1.OK 2 H.length (ptC H):=hV1
 refine zE (zA (zB (wP I ?_)))
 refine wD (X:=Vec) I I (fun W1 hp=>Kb hR2 (Ho hszm) h0 (by omega) (fun x hx=>hokq x (List.mem_append_left _ hx)) p cap W1 (hpts.hp hp) (hv.hp hp) (ht.hp hp)) ?_
 intro V2 hV2
 have hV2:V2.OK 2 H.length (ptC H):=hV2
 iterate 5 refine wP I ?_
 refine Aa (zE (zA (zA (zB (wP I (wP I (Aa (zE (zS I (zI (zE (zA (zB ?_)))))))))))))
 iterate 7 refine wP I ?_
 refine wB 1 I I I (wP I (wP I (wP I (wC I I (fun W1 hp=>(I4 f P (vz P hPs) W1 (hv.hp hp) (ht.hp hp)).cast (v':= .bool true) (by rw[dT hPh.2])) (wP I (wP I (wB 2 I I I (wP I (wP I (wP I (wC I I (fun W1 hp=>(I4 f Q (vz Q hQs) W1 (hv.hp hp) (ht.hp hp)).cast (v':= .bool true) (by rw[dT hQh.2])) (wP I (wP I ?_)))))))))))))
 refine wB 1 I I I (wB 2 I I I (wC I I (fun W1 hp=>KI P Q (sz2 hPs.1 hQs.1 (by decide)) (sz2 hPs.2 hQs.2 (by decide)) W1 (ht.hp hp)) (wP I (wU 153 true I (Vz hPQ) (wP I (wP I (wP I ?_)))))))
 refine Af 156 (slv (Im V1) H.length (Jv V1)) I (J2 hV1) ?_
 refine wP I ?_
 refine Af 157 (slv (Im V2) H.length (Jv V2)) I (J2 hV2) ?_
 refine wC I I (fun W1 hp=>J4 H (by omega) (Im V1) (Im V2) (Jv V1) (Jv V2) W1 (Py hp 3 hV1 I) (Py hp 4 hV2 I)) (wP I (wP I ?_))
 refine Bo (capt:=[]) I I I I I I (by kernel_rfl) (fun W1 hp=>E4 W1 (hv.hp hp) (ht.hp hp)) ?_
 exact wP I (wP I (Aa (zE (zO (wR1 I I I)))))
end
section
open Go
noncomputable abbrev laidL:List (String×DataW Unit):=Rows.convexDividedRow.laid
end
section
open Go Go.RowKit Go.Am Go.ChangeShapes Go.WideShapes Go.Deep Go.ChangeAt
set_option maxRecDepth 100000
section
variable {H:Type} {enc:TypeId×Value→H} {w:World} {base:Nat} {spare:Nat→Bool} {held:Bool} {v:Value} {d:DataW H} {ps:List MemPlace}
end
theorem own:ownKnob Tryz.prog.godebug=none:=by kernel_rfl
theorem Sb:laidOutB Tryz.prog=true:=by kernel_rfl
theorem Mq:(laidL.all fun x=>x.2.handleName?.isNone)=true:=by kernel_rfl
theorem Pk {W:World} (h:laidMetH Tryz.prog laidL W):AM W:=by
 rw[MakeChecks.laidMetH_plain _ _ _ Mq] at h
 exact Lib.tabIs_of_head (g:=2) (t:=263) (e:=198) (n:=20) (by kernel_rfl) (by kernel_rfl) (by kernel_rfl) (by kernel_rfl) (by kernel_rfl) (by kernel_rfl) h.tail.tail
theorem Xa {W:World} (hS:W.ShapedOpen Tryz.prog):BL W:=
 cell_of_shapedOpen_int (g:=3) (t:=3) (zero:= #[.int .i64 0]) hS (of_decide_eq_true (by kernel_rfl)) (by kernel_rfl) rfl (by kernel_rfl) (by kernel_rfl) Tryz.underlying3
noncomputable def witW (os:Os):World:=World.laidAll Tryz.prog os laidL
theorem TV (os:Os) (args:Array Value):laidMetH Tryz.prog laidL ((witW os).forCall (fun _ _=>0) ⟨#[],args,[]⟩).memory:=by
 rw[MakeChecks.laidMetH_plain _ _ _ Mq]
 exact laidMet_laidAll _ (by kernel_rfl) (by kernel_rfl)
theorem QZ (os:Os) (args:Array Value):((witW os).forCall (fun _ _=>0) ⟨#[],args,[]⟩).Shaped Tryz.prog:=
 World.shaped_of_ZipB (by kernel_rfl) (by kernel_rfl)
theorem Wi {H:Type} {enc:TypeId×Value→H} (os:Os) {f:FuncId} {fn:Func} {s:OpenSpec} {conds:List PathCond} (args:Array Value)
  (hok:Input.okWideB Tryz.prog ((witW os).forCall (fun _ _=>0) ⟨#[],args,[]⟩) f ⟨#[],args,[]⟩=true)
  (hrow:s.preRow enc Tryz.prog fn conds false laidL ((witW os).forCall (fun _ _=>0) ⟨#[],args,[]⟩).memory args):
  ∃(w:World) (tape:Tape) (i:Input),w.os=os∧(w.forCall tape i).Shaped Tryz.prog∧i.vars=[]∧Input.okWide Tryz.prog (w.forCall tape i) .any w.heap.size f i∧
   s.preRow enc Tryz.prog fn conds false laidL (w.forCall tape i).memory i.args∧({}:Assume).holds Tryz.prog (lone (Frame.enter Tryz.prog f i.args .normal) [] (w.forCall tape i)):=
 ⟨witW os,fun _ _=>0,⟨#[],args,[]⟩,World.laidAll_os _ _ _,QZ os args,(Input.okWide_of_okWideB (base:=0) hok).1,(Input.okWide_of_okWideB hok).2,hrow,by
  simp only[Assume.holds]
  exact⟨by simp,by simp,by simp,by simp,by simp,by simp⟩⟩
end
section
open Go Go.RowKit Go.Am Go.ChangeShapes Go.WideShapes Go.Deep
set_option maxRecDepth 10000
theorem XH:Tryz.prog.cellsOf 23=1:=by kernel_rfl
theorem QC {H:Type} (d:DataW H):1≤Rows.uptoBulk d:=by
 cases d with
 |lit l=>cases l<;>simp[Rows.uptoBulk]
 |nil=>simp[Rows.uptoBulk]
 |ptr d=>simp[Rows.uptoBulk]
 |slice elems spare=>simp[Rows.uptoBulk]
 |agg parts=>simp[Rows.uptoBulk]
 |iface t d=>simp[Rows.uptoBulk]
 |map entries=>simp[Rows.uptoBulk]
 |held h=>simp[Rows.uptoBulk]
theorem Uh {H:Type} (l:List (DataW H)):l.length≤Rows.uptoBulkAll l:=by
 induction l with
 |nil=>simp[Rows.uptoBulkAll]
 |cons x r ih=>have:=QC x;simp only[Rows.uptoBulkAll,List.length_cons];omega
theorem R8 {H:Type} (e s:List (DataW H)):Rows.uptoBulkAll e+1≤Rows.uptoBulk (.slice e s):=by
 simp only[Rows.uptoBulk];omega
theorem Rb {w:World} {a:Addr} {v:Value} (h:w.cell? a=some v):a.spot=none∧a.block<w.heap.size:=by
 unfold World.cell? at h
 split at h
 ·rename_i hb
  refine⟨?_, ?_⟩
  ·cases hs:a.spot with
   |none=>rfl
   |some k=>simp[hs] at h
  ·exact(Array.getElem?_eq_some_iff.1 hb).1
 ·cases h
theorem Qx {w:World} {base n:Nat} {a:Addr} {cs:List Value} (h:w.cells? base a n=some cs) (hn:0<n):a.spot=none∧Ak w a.block a.off cs:=by
 obtain⟨_,hl,hg⟩:=World.cells?_some h
 have h0:=hg 0 hn
 have hv:cs[0]? =some cs[0]:=List.getElem?_eq_getElem (by omega)
 rw[hv] at h0
 have hp:=Rb h0
 have hs:a.spot=none:=by simpa[Addr.add] using hp.1
 refine⟨hs,⟨by simpa[Addr.add] using hp.2,fun j x hx=> ?_⟩⟩
 have hj:j<n:=by rw[←hl];exact(List.getElem?_eq_some_iff.1 hx).1
 rw[←hx, ←hg j hj]
 congr 1
 unfold Addr.add
 split
 ·subst_vars;cases a;simp_all
 ·rfl
theorem VK {a:Addr} (hs:a.spot=none) (n:Nat):a.add n=⟨a.block,a.off+n,none⟩:=by
 unfold Addr.add
 split
 ·subst_vars;cases a;simp_all
 ·rfl
section
variable {H:Type} {enc:TypeId×Value→H} {w:World} {base:Nat} {spare:Nat→Bool} {held:Bool} {fuel:Nat}
theorem Sp {u:Value} {x:DataW H×List MemPlace} (h:DataW.trod enc Tryz.prog w base spare held fuel 23 [u]=some x): ∃b:List UInt8,u=str b∧Rows.uptoBulk x.1=b.length+1:=by
 obtain⟨s,e,hx,_⟩:=DataW.trod_string Tryz.underlying23 h
 refine⟨s.data.toList, ?_, ?_⟩
 ·have:u= .string s:=by simpa using e
  rw[this]
 ·rw[hx];simp[Rows.uptoBulk]
end
theorem cPt:Tryz.prog.cellsOf 35=2:=by kernel_rfl
section
variable {H:Type} {enc:TypeId×Value→H} {w:World} {base:Nat} {spare:Nat→Bool} {held:Bool} {fuel:Nat} {cs:List Value} {x:DataW H×List MemPlace}
theorem UI (h:DataW.trod enc Tryz.prog w base spare held fuel 35 cs=some x): ∃f:List UInt8×List UInt8,cs=[str f.1,str f.2]:=by
 obtain⟨xs,m,rfl,hx,hl,hn,hg⟩:=DataW.trod_struct Tryz.underlying35 h
 rw[cPt] at hl
 obtain⟨x0,x1,rfl⟩: ∃x0 x1,xs=[x0,x1]:=by
  match xs,hn with
  |[a,b],_=>exact⟨a,b,rfl⟩
 match cs,hl with
 |[v0,v1],_=>
  have h0:DataW.trod enc Tryz.prog w base spare held m 23 (List.take (Tryz.prog.cellsOf 23) [v0,v1])=some x0:=hg 0 _ rfl
  have h1:DataW.trod enc Tryz.prog w base spare held m 23 (List.take (Tryz.prog.cellsOf 23) [v1])=some x1:=hg 1 _ rfl
  rw[XH] at h0 h1
  obtain⟨s,rfl,_⟩:=Sp h0
  obtain⟨t,rfl,_⟩:=Sp h1
  exact⟨(s,t),I⟩
theorem Ts (h:DataW.trod enc Tryz.prog w base spare held fuel 22 cs=some x):
  ∃(p:Option Addr) (cap:Nat) (l:List (List UInt8×List UInt8)),cs=[.slice p l.length cap]∧GS w p l∧l.length+1≤Rows.uptoBulk x.1:=by
 rcases open_slice Tryz.underlying22 h with⟨rfl,rfl⟩|⟨a,len,cap,m,n,D,Pl,rfl,_,hl,_,hm,rfl,hx⟩
 ·exact⟨none,0,[],I, .inl I,QC _⟩
 have hlm:len≤m:=by rw[hm];split<;>omega
 obtain⟨S,hS⟩:=choose_lt (α:=List UInt8×List UInt8) (n:=len) (p:=fun i s=>w.cells? base (a.add (i*2)) 2=some [str s.1,str s.2]) fun i hi=>by
  obtain⟨cs',h1,h2⟩:=hx i (by omega)
  rw[cPt] at h1
  obtain⟨f,rfl⟩:=UI h2
  exact⟨f,h1⟩
 refine⟨some a,cap,(List.range len).map S,by simp, ?_, ?_⟩
 ·by_cases h0:len=0
  ·subst h0;exact .inl rfl
  ·have hs:a.spot=none:=by simpa[Addr.add] using(Qx (hS 0 (by omega)) (by decide)).1
   refine .inr ⟨a.block,a.off,by cases a;simp_all,fun i hi=> ?_⟩
   have h1:i<len:=by simpa using hi
   have:=(Qx (hS i h1) (by decide)).2
   rw[VK hs] at this
   simpa using this
 ·have h1:=Uh ((List.range len).map D)
  have h2:=R8 ((List.range len).map D) ((List.range (m-len)).map fun j=>D (len+j))
  simp only[List.length_map,List.length_range] at h1⊢
  omega
end
section
variable {H:Type} {enc:TypeId×Value→H} {w:World} {base:Nat} {spare:Nat→Bool} {held:Bool} {v:Value} {d:DataW H} {ps:List MemPlace}
theorem PA {r:Reach} {b0:Nat} (hv:Value.okWide Tryz.prog w r b0 22 v) (h:DataW.Trod enc Tryz.prog w base spare held 22 v d ps):
  ∃(p:Option Addr) (m:Nat) (l:List PtS),v=slv p l.length m∧GS w p l∧l.length+1≤Rows.uptoBulk d:=by
 obtain⟨p0,n0,c0,rfl⟩:=okWide_slice Tryz.underlying22 hv
 obtain⟨fuel,hf⟩:=h
 obtain⟨p,cap,l,e,hl,hb⟩:=Ts hf
 refine⟨p,cap,l, ?_,hl,hb⟩
 simpa[Value.cells] using e
end
end
end Go.Proofs.YthndmdimmgkpgaaGreatDoor
