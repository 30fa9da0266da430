/-
  Lemmas that the theorem convexTwice_upto_card needs (part 6 of 6).
-/
import Derived.Test.YtemghkmmcomalaaGreatDoorCte
import Derived.Test.YtemghkmmcomalaaGreatDoorRows
import Derived.Test.YtemghkmmcomalaaGreatDoorCards
import Derived.Test.YtemghkmmcomalaaGreatDoorTie
import Derived.Deep.Slices
import Derived.ChangeArms
import Derived.ChangeShapes
import Derived.WideShapes
import Derived.Carry
import Derived.ProofKit
import Derived.OpenShut
import Derived.Deep.DeepHandedRow
import Derived.Lib.LaidTab
import Derived.Stop.LaidErr
import Derived.Lay
import Derived.SevenTiedAt
import Derived.Shelf.Vars
import Derived.ChangeMaps5
set_option maxHeartbeats 64000000
namespace Go.Proofs.YtemghkmmcomalaaGreatDoor
section
open Go Go.RowKit Go.Am Go.Lib
set_option maxRecDepth 10000
-- BOXES 4
-- CODE2
theorem LF: ∀ {l:List PtS},Fo l=0→ ∃m:List Ai,l=m.map cvS∧ ∀x∈m,okP x
 |[],_=>⟨[],rfl,fun _ h=>absurd h (by simp)⟩
 |x::l,h=>by
  have h:(if (rdR x.1).2≠0 then(rdR x.1).2 else if (rdR x.2).2≠0 then(rdR x.2).2 else Fo l)=0:=h
  by_cases h1:(rdR x.1).2=0
  ·rw[if_neg (by simp[h1])] at h
   by_cases h2:(rdR x.2).2=0
   ·rw[if_neg (by simp[h2])] at h
    obtain⟨m,rfl,hm⟩:=LF h
    obtain⟨q1,o1,e1⟩:=Iv h1
    obtain⟨q2,o2,e2⟩:=Iv h2
    refine⟨(q1,q2)::m, ?_,fun y hy=> ?_⟩
    ·rw[List.map_cons,cvS, ←e1, ←e2]
    ·rcases List.mem_cons.1 hy with rfl|hy
     ·exact⟨o1,o2⟩
     ·exact hm y hy
   ·rw[if_pos h2] at h
    exact absurd h h2
  ·rw[if_pos h1] at h
   exact absurd h h1
def Rt (l:List PtS):Prop:= ∃m:List Ai,l=m.map cvS∧3≤m.length∧(∀x∈m,okP x)∧Bb m
theorem NS (W:World) (p:Option Addr) (cap:Nat) (l:List PtS) (hA:Gs W p l) (h4:l.length≤4096) (hs: ∀x∈l,x.1.length<4611686018427387904∧x.2.length<4611686018427387904) (ht:AS W):
  Ah Tryz.prog 55 #[slv p l.length cap] W (fun e:Int=> .int .i64 e) (fun e=>e=0→Rt l) (fun _=>[]):=by
 by_cases h3:3≤l.length
 rotate_left
 ·refine Ab (args:=[slv p l.length cap]) Tryz.func55 I I I ?_
  refine zA (zB (wP I (Aa (zE (zA (zA (zB (wP I (wP I (wP I (wU 12 true I (dT (by omega)) (Aa (zE ?_)))))))))))))
  exact zR I (zA (zB (wP I (Aa (zE (zO (zP (Aw tH I (.tmp I) (5:Int) I (fun h=>absurd h (by decide)) fun W _=>Ao.nil _ _))))))))
 by_cases h0:Fo l=0
 ·obtain⟨m,rfl,hm⟩:=LF h0
  rw[List.length_map] at h3 h4
  have h:=Lf W p cap m hA h3 h4 hm ht
  rw[List.length_map]
  refine⟨h.out.mono ?_⟩
  rintro e W' ⟨x,he,hx,hb⟩
  exact⟨x,he,fun h0=>⟨m,I,h3,hm,(hx.1 h0).poly h3⟩,hb⟩
 ·refine Ab (args:=[slv p l.length cap]) Tryz.func55 I I I ?_
  refine zA (zB (wP I (Aa (zE (zA (zA (zB (wP I (wP I (wP I (wU 12 false I (dF (by omega)) (Aa (zE ?_)))))))))))))
  refine zS I (zI (zE (zA (zA (zB (wP I (wP I (wP I (wU 15 false I (dF (by omega)) (Aa (zE (zS I (zI ?_)))))))))))))
  refine zE (zA (zA (zB (wP I (wC I I (fun W1 hp=>Gp W1 p cap l (hA.hp hp) (by omega) hs (ht.hp hp)) (wP I (Aa (zE (zA (zB (wP I (wP I (wU 19 true I (bne_iff_ne.2 h0) ?_)))))))))))))
  exact Aa (zE (zR I (zA (zB (wP I (wP I (Aa (zE (zO (zP (Aw tH I (.tmp I) (Fo l) I (fun h=>absurd h h0) fun W _=>Ao.nil _ _)))))))))))
abbrev Ls:=Option Addr×Nat×List PtS
abbrev lsV (x:Ls):Value:=slv x.1 x.2.2.length x.2.1
structure LsP (W:World) (g off:Nat) (xs:List Ls):Prop where
 r:Al W g off (xs.map lsV)
 p: ∀x∈xs,Gs W x.1 x.2.2
theorem LsP.hp {W0 W:World} {bxs:List Bx} {g off:Nat} {xs:List Ls} (h:LsP W0 g off xs) (hp:Hp W0 bxs W):LsP W g off xs:=⟨h.r.hp hp,fun x hx=>(h.p x hx).hp hp⟩
theorem LsP.row {W:World} {g off:Nat} {xs:List Ls} (h:LsP W g off xs) {i:Nat} (hi:i<xs.length):Al W g (off+i*1) [lsV xs[i]]:=by
 refine⟨h.r.lt,fun j u hu=> ?_⟩
 have hj:j=0:=by have:=(List.getElem?_eq_some_iff.1 hu).1;simpa using this
 subst hj
 have:=h.r.get i (lsV xs[i]) (by rw[List.getElem?_map,List.getElem?_eq_getElem hi];rfl)
 rw[Nat.mul_one,Nat.add_zero,this]
 simpa using hu
theorem LD {α:Type} {F:α→Bool} {l:List α} {i:Nat} (h:i<l.length):(l.drop i).any F=(F l[i]||(l.drop (i+1)).any F):=by
 rw[List.drop_eq_getElem_cons h,List.any_cons]
def HI (x:Ls):Bool:=IV x.2.2
theorem KV (xs:List Ls) (hn:xs.length≤100000) (hl: ∀x∈xs,x.2.2.length<4611686018427387904) (g off cap:Nat) (W:World) (hS:LsP W g off xs):
  Ah Tryz.prog 132 #[slv (some ⟨g,off,none⟩) xs.length cap, .func (.func 64) #[] #[]] W (fun z:Int=> .int .i64 z) (fun z=>0≤z↔xs.any HI=true) (fun _=>[]):=by
 refine Ab (args:=[slv (some ⟨g,off,none⟩) xs.length cap, .func (.func 64) #[] #[]]) Tryz.func132 I I I ?_
 refine zA (zB (wP I (Aa (zE (zA (zA (zB (wP I (wP I (wP I (Aa (zE (zH ?_)))))))))))))
 refine A8 (X:=Nat) (fun i=>[(0,slv (some ⟨g,off,none⟩) xs.length cap),(1, .func (.func 64) #[] #[]),(6,slv (some ⟨g,off,none⟩) xs.length cap),(7, .int .i64 (xs.length:Nat)),(8, .int .i64 (i:Nat))]) (fun _=>[]) (fun i=>i≤xs.length∧xs.any HI=(xs.drop i).any HI) (fun i=>xs.length-i) 0 ⟨Nat.zero_le _,by rw[List.drop_zero]⟩ ⟨I,I,I,I,I,tO⟩ [] I ?_
 intro i hi
 obtain⟨hi,hA⟩:i≤xs.length∧xs.any HI=(xs.drop i).any HI:=hi
 refine zA (zB (wP I ?_))
 by_cases hlt:i<xs.length
 rotate_left
 ·refine wU 9 false I (dF (by omega)) (Aa (zE (zA (zS I (zJ (zK (zK (zL (zE (zA (zB (wP I (Aa ?_)))))))))))))
  refine zE (zO ?_)
  rw[List.drop_of_length_le (by omega)] at hA
  exact Aw tH I (.tmp I) (-1:Int) I (by rw[hA];exact⟨fun h=>absurd h (by decide),fun h=>absurd (show false=true from h) (by decide)⟩) fun W _=>Ao.nil _ _
 refine wU 9 true I (dT (by omega)) (Aa (zE (zA (zR I (zI (zE (zA (zH (zA (zB ?_))))))))))
 have hr:=hS.row hlt
 rw[LD hlt] at hA
 have hx:xs[i]∈xs:=List.getElem_mem _
 obtain⟨x,hq⟩: ∃x,x=xs[i]:=⟨_,rfl⟩
 rw[←hq] at hr hA hx
 refine wP I (wP I (Aa (zE (zA (zB (wP I (wP I (wP I ?_))))))))
 refine wJ ?_
 refine wL 0 I I (fun W1 hp=>hr.hp hp) I ?_
 refine Bm (capt:=[]) I I I I I I (by kernel_rfl) (fun W1 hp=>Lj W1 x.1 x.2.1 x.2.2 ((hS.p x hx).hp hp) (hl x hx)) ?_
 refine Aa (zE ?_)
 refine As I (fun hc=> ?_) (fun hc=> ?_)
 ·have hc:HI x=true:=hc
  exact zA (zB (wP I (wP I (Aa (zE (zO (zQ (zP (zP (zQ (zP (Aw tH I (.tmp I) ((i:Nat):Int) I ⟨fun _=>by rw[hA,hc];rfl,fun _=>by omega⟩ fun W _=>Ao.nil _ _))))))))))))
 ·have hc:HI x=false:=hc
  rw[hc,Bool.false_or] at hA
  exact zI (zN (zE (zB (wP I (wV 18 ((i+1:Nat):Int) I (Az (by omega)) (wP I (Aa (A0 (i+1) ⟨hlt,hA⟩ (by show xs.length-(i+1)<xs.length-i;omega) ⟨I,I,I,I,I,tO⟩ [] I))))))))
theorem IU (xs:List Ls) (hn:xs.length≤100000) (hl: ∀x∈xs,x.2.2.length<4611686018427387904) (g off cap:Nat) (W:World) (hS:LsP W g off xs):
  Ah Tryz.prog 63 #[slv (some ⟨g,off,none⟩) xs.length cap, .func (.func 64) #[] #[]] W (fun _:Unit=> .bool (xs.any HI)) (fun _=>True) (fun _=>[]):=by
 refine Ab (args:=[slv (some ⟨g,off,none⟩) xs.length cap, .func (.func 64) #[] #[]]) Tryz.func63 I I I ?_
 refine zA (zB (wP I (Aa (zE (zA (zB (wP I (wP I ?_))))))))
 refine wD (X:=Int) I I (fun W1 hp=>KV xs hn hl g off cap W1 (hS.hp hp)) ?_
 intro z hz
 have hz:0≤z↔xs.any HI=true:=hz
 refine wP I ?_
 refine Ad 8 (.bool (xs.any HI)) I (congrArg Value.bool (by
  cases h:xs.any HI with
  |true=>exact dT (hz.2 h)
  |false=>exact dF fun h2=>by rw[hz.1 h2] at h;cases h)) ?_
 exact wP I (Aa (zE (zO (wR1 I I I))))
theorem LT (xs:List Ls) (hn:xs.length≤100000) (hl: ∀x∈xs,x.2.2.length<4611686018427387904) (g off cap:Nat) (W:World) (hS:LsP W g off xs):
  Ah Tryz.prog 24 #[slv (some ⟨g,off,none⟩) xs.length cap] W (fun _:Unit=> .bool (xs.any HI)) (fun _=>True) (fun _=>[]):=by
 refine Ab (args:=[slv (some ⟨g,off,none⟩) xs.length cap]) Tryz.func24 I I I ?_
 refine zA (zB (wP I (Aa (zE (zA (zB (wP I ?_)))))))
 refine Bm (capt:=[]) I I I I I I (by kernel_rfl) (fun W1 hp=>IU xs hn hl g off cap W1 (hS.hp hp)) ?_
 exact wP I (Aa (zE (zO (wR1 I I I))))
def Sj (x:PtS):Bool:=decide (5<max x.1.length x.2.length)
theorem NN (x:PtS) (W:World):Ah Tryz.prog 57 #[.agg #[str x.1,str x.2]] W (fun _:Unit=> .bool (Sj x)) (fun _=>True) (fun _=>[]):=by
 refine Ab (args:=[.agg #[str x.1,str x.2]]) Tryz.func57 I I I ?_
 refine zA (zB ?_)
 (refine A6 rfl rfl rfl rfl ?_;intro)
 refine wP I (Aa (zE (zA (zB (wP I (wB 0 I I I (wP I ?_)))))))
 refine Ad 5 (.int .i64 (x.1.length:Nat)) I (congrArg (fun n:Nat=>Value.int .i64 (n:Int)) (At _)) ?_
 refine wP I (wB 0 I I I (wP I ?_))
 refine Ad 8 (.int .i64 (x.2.length:Nat)) I (congrArg (fun n:Nat=>Value.int .i64 (n:Int)) (At _)) ?_
 exact wP I (wV 9 (max x.1.length x.2.length:Nat) I (by split<;>omega) (wP I (wU 10 (Sj x) I (decide_eq_decide.2 (by omega)) (wP I (Aa (zE (zO (wR1 I I I))))))))
theorem Li (g:Nat) (hE:Bl Tryz.prog g=true) (F:PtS→Bool) (hg: ∀x W,Ah Tryz.prog g #[.agg #[str x.1,str x.2]] W (fun _:Unit=> .bool (F x)) (fun _=>True) (fun _=>[])) (xs:List PtS) (hn:xs.length≤100000) (p:Option Addr) (cap:Nat) (W:World) (hS:Gs W p xs):
  Ah Tryz.prog 117 #[slv p xs.length cap, .func (.func g) #[] #[]] W (fun z:Int=> .int .i64 z) (fun z=>0≤z↔xs.any F=true) (fun _=>[]):=by
 refine Ab (args:=[slv p xs.length cap, .func (.func g) #[] #[]]) Tryz.func117 I I I ?_
 refine zA (zB (wP I (Aa (zE (zA (zA (zB (wP I (wP I (wP I (Aa (zE (zH ?_)))))))))))))
 refine A8 (X:=Nat) (fun i=>[(0,slv p xs.length cap),(1, .func (.func g) #[] #[]),(6,slv p xs.length cap),(7, .int .i64 (xs.length:Nat)),(8, .int .i64 (i:Nat))]) (fun _=>[]) (fun i=>i≤xs.length∧xs.any F=(xs.drop i).any F) (fun i=>xs.length-i) 0 ⟨Nat.zero_le _,by rw[List.drop_zero]⟩ ⟨I,I,I,I,I,tO⟩ [] I ?_
 intro i hi
 obtain⟨hi,hA⟩:i≤xs.length∧xs.any F=(xs.drop i).any F:=hi
 refine zA (zB (wP I ?_))
 by_cases hlt:i<xs.length
 rotate_left
 ·refine wU 9 false I (dF (by omega)) (Aa (zE (zA (zS I (zJ (zK (zK (zL (zE (zA (zB (wP I (Aa ?_)))))))))))))
  refine zE (zO ?_)
  rw[List.drop_of_length_le (by omega)] at hA
  exact Aw tH I (.tmp I) (-1:Int) I (by rw[hA];exact⟨fun h=>absurd h (by decide),fun h=>absurd (show false=true from h) (by decide)⟩) fun W _=>Ao.nil _ _
 refine wU 9 true I (dT (by omega)) (Aa (zE (zA (zR I (zI (zE (zA (zH (zA (zB ?_))))))))))
 obtain⟨b,off,rfl,hrow⟩: ∃b off,p=some ⟨b,off,none⟩∧ ∀i (hi:i<xs.length),Al W b (off+i*2) [str xs[i].1,str xs[i].2]:=by
  rcases hS with h|h
  ·rw[h] at hlt;exact absurd hlt (by simp)
  ·exact h
 have hr:=hrow i hlt
 rw[LD hlt] at hA
 obtain⟨x,hq⟩: ∃x,x=xs[i]:=⟨_,rfl⟩
 rw[←hq] at hr hA
 refine wP I (wP I (Aa (zE (zA (zB (wP I (wP I (wP I ?_))))))))
 refine wJ ?_
 refine wL 0 I I (fun W1 hp=>hr.hp hp) I ?_
 refine Bm (capt:=[]) I I I I I I hE (fun W1 _=>hg x W1) ?_
 refine Aa (zE ?_)
 refine As I (fun hc=> ?_) (fun hc=> ?_)
 ·have hc:F x=true:=hc
  exact zA (zB (wP I (wP I (Aa (zE (zO (zQ (zP (zP (zQ (zP (Aw tH I (.tmp I) ((i:Nat):Int) I ⟨fun _=>by rw[hA,hc];rfl,fun _=>by omega⟩ fun W _=>Ao.nil _ _))))))))))))
 ·have hc:F x=false:=hc
  rw[hc,Bool.false_or] at hA
  exact zI (zN (zE (zB (wP I (wV 18 ((i+1:Nat):Int) I (Az (by omega)) (wP I (Aa (A0 (i+1) ⟨hlt,hA⟩ (by show xs.length-(i+1)<xs.length-i;omega) ⟨I,I,I,I,I,tO⟩ [] I))))))))
theorem IL (g:Nat) (hE:Bl Tryz.prog g=true) (F:PtS→Bool) (hg: ∀x W,Ah Tryz.prog g #[.agg #[str x.1,str x.2]] W (fun _:Unit=> .bool (F x)) (fun _=>True) (fun _=>[])) (xs:List PtS) (hn:xs.length≤100000) (p:Option Addr) (cap:Nat) (W:World) (hS:Gs W p xs):
  Ah Tryz.prog 56 #[slv p xs.length cap, .func (.func g) #[] #[]] W (fun _:Unit=> .bool (xs.any F)) (fun _=>True) (fun _=>[]):=by
 refine Ab (args:=[slv p xs.length cap, .func (.func g) #[] #[]]) Tryz.func56 I I I ?_
 refine zA (zB (wP I (Aa (zE (zA (zB (wP I (wP I ?_))))))))
 refine wD (X:=Int) I I (fun W1 hp=>Li g hE F hg xs hn p cap W1 (hS.hp hp)) ?_
 intro z hz
 have hz:0≤z↔xs.any F=true:=hz
 refine wP I ?_
 refine Ad 8 (.bool (xs.any F)) I (congrArg Value.bool (by
  cases h:xs.any F with
  |true=>exact dT (hz.2 h)
  |false=>exact dF fun h2=>by rw[hz.1 h2] at h;cases h)) ?_
 exact wP I (Aa (zE (zO (wR1 I I I))))
def LH (l:List PtS):Prop:= ∃m:List Ai,l=m.map cvS∧3≤m.length∧m.length≤8∧(∀x∈m,okP x∧(Af x.1).length≤5∧(Af x.2).length≤5)∧Bb m
theorem MW {l:List PtS} (h:IV l=false):l.length≤8∧ ∀x∈l,x.1.length≤604∧x.2.length≤604:=by
 unfold IV at h
 rw[Bool.or_eq_false_iff] at h
 refine⟨by have:=of_decide_eq_false h.2;omega,fun x hx=> ?_⟩
 have h1:=List.any_eq_false.1 h.1 x hx
 have h2:Jy x=false:=by cases e:Jy x with
  |true=>exact absurd e h1
  |false=>rfl
 unfold Jy at h2
 rw[Bool.or_eq_false_iff] at h2
 have one: ∀a:List UInt8,Gq a=false→a.length≤604:=fun a ha=>by
  unfold Gq at ha
  rw[Bool.or_eq_false_iff] at ha
  have:=of_decide_eq_false ha.2
  omega
 exact⟨one _ h2.1,one _ h2.2⟩
theorem Rr {l:List PtS} (h1:IV l=false) (h2:Rt l) (h3:l.any Sj=false):LH l:=by
 obtain⟨m,rfl,a,b,c⟩:=h2
 have h8:=(MW h1).1
 rw[List.length_map] at h8
 refine⟨m,I,a,h8,fun x hx=>⟨b x hx, ?_⟩,c⟩
 have:=List.any_eq_false.1 h3 (cvS x) (List.mem_map_of_mem hx)
 have h5: ¬5<max (Af x.1).length (Af x.2).length:=fun h=>this (dT h)
 omega
theorem OR (xs:List Ls) (hn:xs.length≤100000) (hl: ∀x∈xs,x.2.2.length<4611686018427387904) (g off cap:Nat) (W:World) (hS:LsP W g off xs) (ht:AS W):
  Ah Tryz.prog 19 #[slv (some ⟨g,off,none⟩) xs.length cap] W (fun b:Bool=> .bool b) (fun b=>b=true→ ∀x∈xs,LH x.2.2) (fun _=>[]):=by
 refine Ab (args:=[slv (some ⟨g,off,none⟩) xs.length cap]) Tryz.func19 I I I ?_
 refine zA (zB (wP I (Aa (zE (zA (zA (zB (wP I (wP I (wP I (Aa (zE (zH ?_)))))))))))))
 refine A8 (X:=Nat) (fun i=>[(0,slv (some ⟨g,off,none⟩) xs.length cap),(5,slv (some ⟨g,off,none⟩) xs.length cap),(6, .int .i64 (xs.length:Nat)),(7, .int .i64 (i:Nat))]) (fun _=>[]) (fun i=>i≤xs.length∧ ∀x∈xs.take i,LH x.2.2) (fun i=>xs.length-i) 0 ⟨Nat.zero_le _,fun x hx=>absurd hx (by simp)⟩ ⟨I,I,I,I,tO⟩ [] I ?_
 intro i hi
 obtain⟨hi,hA⟩:i≤xs.length∧ ∀x∈xs.take i,LH x.2.2:=hi
 refine zA (zB (wP I ?_))
 by_cases hlt:i<xs.length
 rotate_left
 ·refine wU 8 false I (dF (by omega)) (Aa (zE (zA (zS I (zJ (zK (zK (zL (zE (zA (zB (wP I (Aa ?_)))))))))))))
  refine zE (zO ?_)
  rw[List.take_of_length_le (by omega)] at hA
  exact Aw tH I (.tmp I) true I (fun _=>hA) fun W _=>Ao.nil _ _
 refine wU 8 true I (dT (by omega)) (Aa (zE (zA (zR I (zI (zE (zA (zH (zA (zB ?_))))))))))
 have hr:=hS.row hlt
 have hx:xs[i]∈xs:=List.getElem_mem _
 have htk:xs.take (i+1)=xs.take i++[xs[i]]:=by rw[List.take_add_one,List.getElem?_eq_getElem hlt];rfl
 obtain⟨x,hq⟩: ∃x,x=xs[i]:=⟨_,rfl⟩
 rw[←hq] at hr htk hx
 have hX:=hS.p x hx
 have hlx:=hl x hx
 refine wJ ?_
 refine wL 0 I I (fun W1 hp=>hr.hp hp) I (wP I (Aa (zE (zA (zB (wP I ?_))))))
 refine AD Tryz.hZ tH I I I I I I I I I I I fun bS=> ?_
 refine Bm (capt:=[]) I I I I I I (by kernel_rfl) (fun W1 hp=>LT [x] (by show 1≤100000;decide) (fun y hy=>by rw[List.mem_singleton.1 hy];exact hlx) bS 0 1 W1 ⟨Al.of_bx hp 0 I I,fun y hy=>by rw[List.mem_singleton.1 hy];exact hX.hp hp⟩) ?_
 have e1:[x].any HI=HI x:=by simp
 rw[e1]
 cases h1:HI x with
 |true=>
  refine wP I ?_
  iterate 3 refine Ak I I ?_
  refine wP I (wP I ?_)
  iterate 2 refine Ak I I ?_
  refine wP I (Aa (zE (zR I (zA (zB (wP I (Aa (zE (zO (zQ (zP (zP (zQ ?_)))))))))))))
  exact zP (Aw tH rfl (.tmp rfl) false rfl (fun h=>by cases h) fun W _=>Ao.nil _ _)
 |false=>
  have hno:=MW h1
  refine wP I (wP I ?_)
  refine wD (X:=Int) (capt:=[]) I I (fun W1 hp=>NS W1 x.1 x.2.1 x.2.2 (hX.hp hp) (by have:=hno.1;omega) (fun y hy=>by have:=hno.2 y hy;omega) (ht.hp hp)) ?_
  intro e he
  have he:e=0→Rt x.2.2:=he
  refine wP I ?_
  by_cases h2:e=0
  ·refine wU 17 false I (bne_eq_false_iff_eq.2 h2) (wP I (wP I (wP I ?_)))
   refine Bm (capt:=[]) I I I I I I (by kernel_rfl) (fun W1 hp=>IL 57 (by kernel_rfl) Sj NN x.2.2 (by have:=hno.1;omega) x.1 x.2.1 W1 (hX.hp hp)) ?_
   cases h3:x.2.2.any Sj with
   |true=>
    refine wP I (Aa (zE (zR I (zA (zB (wP I (Aa (zE (zO (zQ (zP (zP (zQ ?_)))))))))))))
    exact zP (Aw tH rfl (.tmp rfl) false rfl (fun h=>by cases h) fun W _=>Ao.nil _ _)
   |false=>
    refine wP I (Aa (zE (zS I (zI (zN (zE (zB (wP I (wV 23 ((i+1:Nat):Int) I (Az (by omega)) (wP I (Aa ?_)))))))))))
    exact A0 (i+1) ⟨hlt,fun y hy=>by
     rw[htk,List.mem_append] at hy
     rcases hy with hy|hy
     ·exact hA y hy
     ·rw[List.mem_singleton.1 hy];exact Rr h1 (he h2) h3⟩ (by show xs.length-(i+1)<xs.length-i;omega) ⟨rfl,rfl,rfl,rfl,trivial⟩ [_] rfl
  ·refine wU 17 true I (bne_iff_ne.2 h2) (wP I (wP I ?_))
   iterate 2 refine Ak I I ?_
   refine wP I (Aa (zE (zR I (zA (zB (wP I (Aa (zE (zO (zQ (zP (zP (zQ ?_)))))))))))))
   exact zP (Aw tH rfl (.tmp rfl) false rfl (fun h=>by cases h) fun W _=>Ao.nil _ _)
def RD (a b c:List UInt8):Prop:= ∃A B C:Rat,a=Af A∧b=Af B∧c=Af C∧okQ A∧okQ B∧okQ C∧a.length≤5∧b.length≤5∧c.length≤5∧(A≠0∨B≠0)
theorem JU (a b c:List UInt8) (W:World) (ht:AS W):
  Ah Tryz.prog 20 #[str a,str b,str c] W (fun x:Bool=> .bool x) (fun x=>x=true→RD a b c) (fun _=>[]):=by
 refine Ab (args:=[str a,str b,str c]) Tryz.func20 I I I ?_
 have no: ∀ {P:Prop},false=true→P:=fun h=>by cases h
 refine zA (zB (wP I (Aa (zE (zA (zB (wP I (wP I ?_))))))))
 refine Ad 8 (.int .i64 (a.length:Nat)) I (congrArg (fun n:Nat=>Value.int .i64 (n:Int)) (At _)) ?_
 refine wP I (wP I ?_)
 refine Ad 10 (.int .i64 (b.length:Nat)) I (congrArg (fun n:Nat=>Value.int .i64 (n:Int)) (At _)) ?_
 refine wP I (wP I ?_)
 refine Ad 12 (.int .i64 (c.length:Nat)) I (congrArg (fun n:Nat=>Value.int .i64 (n:Int)) (At _)) ?_
 refine wP I (wV 13 (max (max a.length b.length) c.length:Nat) I (by split<;>split<;>omega) (wP I ?_))
 by_cases h5:max (max a.length b.length) c.length≤5
 rotate_left
 ·refine wU 14 false I (dF (by omega)) (wP I ?_)
  iterate 3 refine Ak I I ?_
  refine wP I (wP I ?_)
  iterate 3 refine Ak I I ?_
  refine wP I (wP I ?_)
  iterate 3 refine Ak I I ?_
  refine wP I (wP I ?_)
  iterate 6 refine Ak I I ?_
  exact wP I (wP I (Aa (zE (zO (Aw tH I (.tmp I) false I no fun W _=>Ao.nil _ _)))))
 refine wU 14 true I (dT (by omega)) (wP I (wP I (wC I I (fun W1 hp=>CH a (by omega) W1 (ht.hp hp)) (wP I ?_))))
 by_cases ha:(rdR a).2=0
 rotate_left
 ·refine wU 18 false I (beq_eq_false_iff_ne.2 ha) (wP I (wP I ?_))
  iterate 3 refine Ak I I ?_
  refine wP I (wP I ?_)
  iterate 3 refine Ak I I ?_
  refine wP I (wP I ?_)
  iterate 6 refine Ak I I ?_
  exact wP I (wP I (Aa (zE (zO (Aw tH I (.tmp I) false I no fun W _=>Ao.nil _ _)))))
 refine wU 18 true I (beq_iff_eq.2 ha) (wP I (wP I (wP I (wC I I (fun W1 hp=>CH b (by omega) W1 (ht.hp hp)) (wP I ?_)))))
 by_cases hb:(rdR b).2=0
 rotate_left
 ·refine wU 23 false I (beq_eq_false_iff_ne.2 hb) (wP I (wP I ?_))
  iterate 3 refine Ak I I ?_
  refine wP I (wP I ?_)
  iterate 6 refine Ak I I ?_
  exact wP I (wP I (Aa (zE (zO (Aw tH I (.tmp I) false I no fun W _=>Ao.nil _ _)))))
 refine wU 23 true I (beq_iff_eq.2 hb) (wP I (wP I (wP I (wC I I (fun W1 hp=>CH c (by omega) W1 (ht.hp hp)) (wP I ?_)))))
 by_cases hc:(rdR c).2=0
 rotate_left
 ·refine wU 28 false I (beq_eq_false_iff_ne.2 hc) (wP I (wP I ?_))
  iterate 6 refine Ak I I ?_
  exact wP I (wP I (Aa (zE (zO (Aw tH I (.tmp I) false I no fun W _=>Ao.nil _ _)))))
 refine wU 28 true I (beq_iff_eq.2 hc) ?_
 obtain⟨A,oA,rfl⟩:=Iv ha
 obtain⟨B,oB,rfl⟩:=Iv hb
 obtain⟨C,oC,rfl⟩:=Iv hc
 refine wP I (wP I (wP I (wP I ?_)))
 by_cases hA:A=0
 ·refine wU 32 false I (by show(!_)=false;rw[AX,dT (by rw[hA,Dr])];rfl) (wP I (wP I (wP I ?_)))
  by_cases hB:B=0
  ·exact wU 35 false I (by show(!_)=false;rw[AX,dT (by rw[hB,Dr])];rfl) (wP I (wP I (wP I (Aa (zE (zO (Aw tH I (.tmp I) false I no fun W _=>Ao.nil _ _)))))))
  ·exact wU 35 true I (by show(!_)=true;rw[AX,dF (fun e=>hB (KE.1 (e.trans Dr.symm)))];rfl) (wP I (wP I (wP I (Aa (zE (zO (Aw tH I (.tmp I) true I (fun _=>⟨A,B,C,I,I,I,oA,oB,oC,by omega,by omega,by omega, .inr hB⟩) fun W _=>Ao.nil _ _)))))))
 ·refine wU 32 true I (by show(!_)=true;rw[AX,dF (fun e=>hA (KE.1 (e.trans Dr.symm)))];rfl) (wP I ?_)
  iterate 2 refine Ak I I ?_
  exact wP I (wP I (wP I (Aa (zE (zO (Aw tH I (.tmp I) true I (fun _=>⟨A,B,C,I,I,I,oA,oB,oC,by omega,by omega,by omega, .inl hA⟩) fun W _=>Ao.nil _ _))))))
end
section
open Go Go.RowKit Go.Am Go.Lib
theorem H0 {q:Rat} {X W:Int} {k:Nat} (hW:W≠0) (h:q*(W:Rat)=X) (h1:X.natAbs<10^k) (h2:W.natAbs<10^k):szQ q k:=by
 have hw:(W:Rat)≠0:=fun e=>hW (by have h:=congrArg Rat.num e;rwa [Rat.num_intCast] at h)
 have e:q=(X:Rat)/(W:Rat):=by rw[←h,Rat.mul_div_cancel hw]
 have h:=If X hW h1 h2
 rw[Ia X hW,Rat.divInt_eq_div] at h
 rw[e]
 exact h
def Hm (e:Nat) (p:Ai):Prop:= ∃X Y W:Int,W≠0∧X.natAbs<10^e∧Y.natAbs<10^e∧W.natAbs<10^e∧p.1*(W:Rat)=X∧p.2*(W:Rat)=Y
theorem Hm.sz {e:Nat} {p:Ai} (h:Hm e p):szQ p.1 e∧szQ p.2 e:=by
 obtain⟨X,Y,W,h0,hX,hY,hW,e1,e2⟩:=h
 exact⟨H0 h0 e1 hX hW,H0 h0 e2 hY hW⟩
theorem Hm.mono {e e':Nat} {p:Ai} (h:Hm e p) (he:e≤e'):Hm e' p:=by
 obtain⟨X,Y,W,h0,hX,hY,hW,e1,e2⟩:=h
 have:=Nat.pow_le_pow_right (show 0<10 by decide) he
 exact⟨X,Y,W,h0,by omega,by omega,by omega,e1,e2⟩
def LnH (f:AF):Prop:= ∃A B C D:Int,D≠0∧A.natAbs<10^11∧B.natAbs<10^11∧C.natAbs<10^11∧D.natAbs<10^9∧f.a*(D:Rat)=A∧f.b*(D:Rat)=B∧f.c*(D:Rat)=C
theorem Sx {u v D Wp Wq p1 q1 Xp Xq U V t:Rat} (hp:p1*Wp=Xp) (hq:q1*Wq=Xq) (hU:u*(D*Wp)=U) (hV:v*(D*Wq)=V) (ht:t*(u-v)=u):(p1+t*(q1-p1))*(U*Wq-V*Wp)=U*Xq-V*Xp:=by
 subst hp hq hU hV
 have e:(p1+t*(q1-p1))*(u-v)=u*q1-v*p1:=by
  have:(p1+t*(q1-p1))*(u-v)=p1*(u-v)+t*(u-v)*(q1-p1):=by grind
  rw[this,ht];grind
 have:(p1+t*(q1-p1))*(u*(D*Wp)*Wq-v*(D*Wq)*Wp)=(p1+t*(q1-p1))*(u-v)*(D*Wp*Wq):=by grind
 rw[this,e];grind
theorem R4 {a b c x y A B C D W X Y:Rat} (h1:a*D=A) (h2:b*D=B) (h3:c*D=C) (h4:x*W=X) (h5:y*W=Y):(a*x+b*y-c)*(D*W)=A*X+B*Y-C*W:=by
 subst h1 h2 h3 h4 h5;grind
theorem UL {u v D Wp Wq U V t:Rat} (hU:u*(D*Wp)=U) (hV:v*(D*Wq)=V) (ht:t*(u-v)=u):t*(U*Wq-V*Wp)=U*Wq:=by
 subst hU hV
 have:t*(u*(D*Wp)*Wq-v*(D*Wq)*Wp)=t*(u-v)*(D*Wp*Wq):=by grind
 rw[this,ht];grind
theorem TJ {u v:Rat} (h:u*v<0):u-v≠0:=fun e=>by
 have e2:u=v:=by grind
 subst e2
 rcases Ht.1 h with⟨a,b⟩|⟨a,b⟩<;>first|exact Rat.not_lt.2 (Rat.le_of_lt a) b|exact Rat.not_lt.2 (Rat.le_of_lt b) a
theorem Hm.at_ {e:Nat} {p:Ai} {f:AF} (hp:Hm e p) (hf:LnH f):szQ (f.at p) (e+13):=by
 obtain⟨X,Y,W,h0,hX,hY,hW,e1,e2⟩:=hp
 obtain⟨A,B,C,D,hD0,hA,hB,hC,hD,f1,f2,f3⟩:=hf
 have hU:=R4 f1 f2 f3 e1 e2
 have b1:=GM (AN hA hX) (AN hB hY)
 have b2:(C*W).natAbs<10^(11+e+1):=Nat.lt_of_lt_of_le (AN hC hW) (Nat.pow_le_pow_right (by decide) (by omega))
 have b3:=D2 b1 b2
 refine H0 (W:=D*W) (X:=A*X+B*Y-C*W) (Int.mul_ne_zero hD0 h0) ?_ (by rw[show e+13=11+e+1+1 by omega];exact b3) ?_
 ·unfold AF.at
  rw[Rat.intCast_mul,Rat.intCast_sub,Rat.intCast_add,Rat.intCast_mul,Rat.intCast_mul,Rat.intCast_mul]
  exact hU
 ·exact Nat.lt_of_lt_of_le (AN hD hW) (Nat.pow_le_pow_right (by decide) (by omega))
theorem Hm.cut {e:Nat} {p q:Ai} {f:AF} (hp:Hm e p) (hq:Hm e q) (hf:LnH f) (h:f.at p*f.at q<0):
  Hm (2*e+14) (CO (f.at p/(f.at p-f.at q)) p q)∧szQ (f.at p/(f.at p-f.at q)) (2*e+14):=by
 have hn:=TJ h
 obtain⟨X,Y,W,h0,hX,hY,hW,e1,e2⟩:=hp
 obtain⟨X',Y',W',h0',hX',hY',hW',e1',e2'⟩:=hq
 obtain⟨A,B,C,D,hD0,hA,hB,hC,hD,f1,f2,f3⟩:=hf
 have hU:f.at p*((D:Rat)*W)=((A*X+B*Y-C*W:Int):Rat):=by
  rw[Rat.intCast_sub,Rat.intCast_add,Rat.intCast_mul,Rat.intCast_mul,Rat.intCast_mul]
  exact R4 f1 f2 f3 e1 e2
 have hV:f.at q*((D:Rat)*W')=((A*X'+B*Y'-C*W':Int):Rat):=by
  rw[Rat.intCast_sub,Rat.intCast_add,Rat.intCast_mul,Rat.intCast_mul,Rat.intCast_mul]
  exact R4 f1 f2 f3 e1' e2'
 have bU:(A*X+B*Y-C*W).natAbs<10^(11+e+1+1):=D2 (GM (AN hA hX) (AN hB hY)) (Nat.lt_of_lt_of_le (AN hC hW) (Nat.pow_le_pow_right (by decide) (by omega)))
 have bV:(A*X'+B*Y'-C*W').natAbs<10^(11+e+1+1):=D2 (GM (AN hA hX') (AN hB hY')) (Nat.lt_of_lt_of_le (AN hC hW') (Nat.pow_le_pow_right (by decide) (by omega)))
 generalize A*X+B*Y-C*W=U at hU bU
 generalize A*X'+B*Y'-C*W'=V at hV bV
 have ht:f.at p/(f.at p-f.at q)*(f.at p-f.at q)=f.at p:=Rat.div_mul_cancel hn
 generalize f.at p/(f.at p-f.at q)=t at ht
 have hwn:U*W'-V*W≠0:=fun e0=>by
  have c0:((U*W'-V*W:Int):Rat)=0:=by rw[e0];rfl
  rw[Rat.intCast_sub,Rat.intCast_mul,Rat.intCast_mul, ←hU, ←hV] at c0
  have c1:f.at p*((D:Rat)*W)*W'-f.at q*((D:Rat)*W')*W=(f.at p-f.at q)*((D:Rat)*W*W'):=by grind
  rw[c1] at c0
  have nz: ∀ {z:Int},z≠0→(z:Rat)≠0:=fun hz e=>hz (by have h:=congrArg Rat.num e;rwa [Rat.num_intCast] at h)
  rcases Rat.mul_eq_zero.1 c0 with c|c
  ·exact hn c
  ·rcases Rat.mul_eq_zero.1 c with c|c
   ·rcases Rat.mul_eq_zero.1 c with c|c
    ·exact nz hD0 c
    ·exact nz h0 c
   ·exact nz h0' c
 have pw: ∀ {a b:Int},a.natAbs<10^(11+e+1+1)→b.natAbs<10^e→(a*b).natAbs<10^(2*e+13):=fun ha hb=>by
  rw[show 2*e+13=11+e+1+1+e by omega];exact AN ha hb
 refine⟨⟨U*X'-V*X,U*Y'-V*Y,U*W'-V*W,hwn,D2 (pw bU hX') (pw bV hX),D2 (pw bU hY') (pw bV hY),D2 (pw bU hW') (pw bV hW), ?_, ?_⟩, ?_⟩
 ·rw[Rat.intCast_sub,Rat.intCast_sub,Rat.intCast_mul,Rat.intCast_mul,Rat.intCast_mul,Rat.intCast_mul]
  exact Sx e1 e1' hU hV ht
 ·rw[Rat.intCast_sub,Rat.intCast_sub,Rat.intCast_mul,Rat.intCast_mul,Rat.intCast_mul,Rat.intCast_mul]
  exact Sx e2 e2' hU hV ht
 ·refine H0 hwn (X:=U*W') ?_ (Nat.lt_of_lt_of_le (pw bU hW') (Nat.pow_le_pow_right (by decide) (by omega))) (D2 (pw bU hW') (pw bV hW))
  rw[Rat.intCast_sub,Rat.intCast_mul,Rat.intCast_mul]
  exact UL hU hV ht
theorem LnH.sz {f:AF} (hf:LnH f):szQ f.a 11∧szQ f.b 11∧szQ f.c 11:=by
 obtain⟨A,B,C,D,hD0,hA,hB,hC,hD,f1,f2,f3⟩:=hf
 have hD':D.natAbs<10^11:=Nat.lt_of_lt_of_le hD (Nat.pow_le_pow_right (by decide) (by decide))
 exact⟨H0 hD0 f1 hA hD',H0 hD0 f2 hB hD',H0 hD0 f3 hC hD'⟩
theorem Hm.kept {e:Nat} {f:AF} {l:List Ai} (hf:LnH f) (hl: ∀p∈l,Hm e p): ∀k,k≤l.length→ ∀p∈DC f l k,Hm (2*e+14) p
 |0,_,p,hp=>absurd hp (by simp[DC,B8])
 |k+1,hk,p,hp=>by
  have h0:0<l.length:=by omega
  rw[IK,Fu,List.mem_append,List.mem_append] at hp
  rcases hp with(hp|hp)|hp
  ·exact Hm.kept hf hl k (by omega) p hp
  ·split at hp
   ·rw[List.mem_singleton.1 hp];exact(hl _ (AZ h0 k)).mono (by omega)
   ·exact absurd hp (by simp)
  ·split at hp
   ·rename_i c
    rw[List.mem_singleton.1 hp];exact((hl _ (AZ h0 k)).cut (hl _ (AZ h0 (k+1))) hf c).1
   ·exact absurd hp (by simp)
theorem Hm.clip {e:Nat} {f:AF} {l:List Ai} (hf:LnH f) (hl: ∀p∈l,Hm e p): ∀p∈A4 f l,Hm (2*e+14) p:=fun p hp=>by
 unfold A4 at hp
 split at hp
 ·exact Hm.kept hf hl l.length (Nat.le_refl _) p (FM.1 hp)
 ·exact absurd hp (by simp)
theorem ClZ.of {e:Nat} {f:AF} {l:List Ai} (hf:LnH f) (he:e≤50) (hl: ∀p∈l,Hm e p):ClZ f l:=by
 obtain⟨sa,sb,sc⟩:=hf.sz
 refine⟨fun q hq=> ?_,fun i hi hc=> ?_,fun p hp=> ?_⟩
 ·obtain⟨q1,q2⟩:=(hl q hq).sz
  exact⟨sz2 sa q1 (by omega),sz2 sb q2 (by omega),sz2 (sa.mul q1) (sb.mul q2) (by omega),sz2 ((sa.mul q1).add (sb.mul q2)) sc (by omega)⟩
 ·have h0:0<l.length:=by omega
  have hp:=hl _ (AZ h0 i)
  have hq:=hl _ (AZ h0 (i+1))
  have hu:=hp.at_ hf
  have hv:=hq.at_ hf
  have ht:=(hp.cut hq hf hc).2
  obtain⟨p1,p2⟩:=hp.sz
  obtain⟨q1,q2⟩:=hq.sz
  exact⟨sz2 hu hv (by omega),sz2 hu (hu.sub hv) (by omega),TV (TJ hc),sz2 q1 p1 (by omega),sz2 ht (q1.sub p1) (by omega),sz2 p1 (ht.mul (q1.sub p1)) (by omega),sz2 q2 p2 (by omega),sz2 ht (q2.sub p2) (by omega),sz2 p2 (ht.mul (q2.sub p2)) (by omega)⟩
 ·have h:=(Hm.kept hf hl l.length (Nat.le_refl _) p hp).sz
  exact⟨h.1.mono (by omega),h.2.mono (by omega)⟩
theorem S4 {q:Rat} (h:(Af q).length≤5):q.num.natAbs<10^5∧q.den<10^3:=by
 have hi:(itoa q.num).length≤5∧(decDigits q.den).length≤3:=by
  unfold Af Ex at h
  split at h
  ·rename_i e
   exact⟨h,by rw[e];exact Nat.le_trans (CN 1 1 (by decide) (by decide)) (by decide)⟩
  ·rw[List.length_append,List.length_cons] at h
   have h1:0<(itoa q.num).length:=by
    rw[BD,List.length_append]
    have:0<(decDigits q.num.natAbs).length:=by rw[Ru];exact nDigits_pos _
    omega
   omega
 have h2:(decDigits q.num.natAbs).length≤5:=by
  have h1:=hi.1
  rw[BD,List.length_append] at h1
  omega
 exact⟨Nat.lt_of_lt_of_le (CM _) (Nat.pow_le_pow_right (by decide) h2),Nat.lt_of_lt_of_le (CM _) (Nat.pow_le_pow_right (by decide) hi.2)⟩
theorem Ib (q:Rat):q*((q.den:Int):Rat)=(q.num:Rat):=by
 have hd:((q.den:Int):Rat)≠0:=fun e=>by
  have h:=congrArg Rat.num e
  rw[Rat.num_intCast] at h
  have:=q.den_pos
  have h:(q.den:Int)=0:=h
  omega
 have e:q=(q.num:Rat)/((q.den:Int):Rat):=by
  rw[←Rat.divInt_eq_div]
  exact(Rat.num_divInt_den q).symm
 conv=>lhs;lhs;rw[e]
 exact Rat.div_mul_cancel hd
theorem hm5 {p:Ai} (h1:(Af p.1).length≤5) (h2:(Af p.2).length≤5):Hm 8 p:=by
 obtain⟨a,b⟩:=S4 h1
 obtain⟨c,d⟩:=S4 h2
 have b':((p.1.den:Nat):Int).natAbs<10^3:=by rw[Int.natAbs_natCast];exact b
 have d':((p.2.den:Nat):Int).natAbs<10^3:=by rw[Int.natAbs_natCast];exact d
 refine⟨p.1.num*(p.2.den:Nat),p.2.num*(p.1.den:Nat),(p.1.den:Nat)*(p.2.den:Nat), ?_,AN a d',AN c b',Nat.lt_of_lt_of_le (AN b' d') (by decide), ?_, ?_⟩
 ·have:=p.1.den_pos;have:=p.2.den_pos
  exact Int.mul_ne_zero (by omega) (by omega)
 ·have:=Ib p.1
  rw[Rat.intCast_mul,Rat.intCast_mul, ←this];grind
 ·have:=Ib p.2
  rw[Rat.intCast_mul,Rat.intCast_mul, ←this];grind
theorem UN {f:AF} (h1:(Af f.a).length≤5) (h2:(Af f.b).length≤5) (h3:(Af f.c).length≤5):LnH f:=by
 obtain⟨a,b⟩:=S4 h1
 obtain⟨c,d⟩:=S4 h2
 obtain⟨g,h⟩:=S4 h3
 have b':((f.a.den:Nat):Int).natAbs<10^3:=by rw[Int.natAbs_natCast];exact b
 have d':((f.b.den:Nat):Int).natAbs<10^3:=by rw[Int.natAbs_natCast];exact d
 have h':((f.c.den:Nat):Int).natAbs<10^3:=by rw[Int.natAbs_natCast];exact h
 refine⟨f.a.num*((f.b.den:Nat)*(f.c.den:Nat)),f.b.num*((f.a.den:Nat)*(f.c.den:Nat)),f.c.num*((f.a.den:Nat)*(f.b.den:Nat)),(f.a.den:Nat)*((f.b.den:Nat)*(f.c.den:Nat)), ?_,AN a (AN d' h'),AN c (AN b' h'),AN g (AN b' d'),AN b' (AN d' h'), ?_, ?_, ?_⟩
 ·have:=f.a.den_pos;have:=f.b.den_pos;have:=f.c.den_pos
  exact Int.mul_ne_zero (by omega) (Int.mul_ne_zero (by omega) (by omega))
 ·have:=Ib f.a
  simp only[Rat.intCast_mul];rw[←this];grind
 ·have:=Ib f.b
  simp only[Rat.intCast_mul];rw[←this];grind
 ·have:=Ib f.c
  simp only[Rat.intCast_mul];rw[←this];grind
end
section
open Go Go.RowKit Go.Am Go.Lib
set_option maxRecDepth 10000
-- BOXES 12
-- CODE2
theorem Ot {N:Nat} {D:List Deferred} {Q:Exit→Act→World→Prop} {ex:Exit} {env:Env} {W0:World} {bxs bxs':List Bx} (e:bxs=bxs') (h:NE N D Q ex env (Hp W0 bxs')):NE N D Q ex env (Hp W0 bxs):=e▸h
theorem Tm:Af 2=[50]:=(congrArg Af (show(2:Rat)=q2 2 1 by decide+kernel)).trans ns2
theorem SX:Af 3=[51]:=(congrArg Af (show(3:Rat)=q2 3 1 by decide+kernel)).trans ns3
structure Pv (p q:Ai):Prop where
 x:Sz2 p.1 q.2
 y:Sz2 q.1 p.2
 s:Sz2 (p.1*q.2) (q.1*p.2)
theorem Jr (c:Nat) (p q:Ai) (hz:Pv p q) (W:World) (hc:Cm W c) (hv:Ck W) (ht:AS W):
  Ah Tryz.prog 74 #[Aj c,sdV p q] W (fun _:Unit=>str (Af (EF p q))) (fun _=>True) (fun _=>[]):=by
 refine Ab (args:=[Aj c,sdV p q]) Tryz.func74 I I I ?_
 refine zA (zB ?_)
 (refine A6 rfl rfl rfl rfl ?_;intro)
 refine wP I (Aa (zE (zA (zU (qP I ?_)))))
 refine Bq Tryz.underlying90 Tryz.sizeOf44 I I I I I ⟨by decide,by decide⟩ ?_
 refine qP I (qB 0 I I I ?_)
 refine Bq Tryz.underlying90 Tryz.sizeOf44 I I I I I ⟨by decide,by decide⟩ ?_
 refine qP I (qB 0 I I I (qC I I (fun W hp=>BY c p.1 q.2 hz.x W (hc.hp hp) (hv.hp hp) (ht.hp hp)) (qP I ?_)))
 refine Bq Tryz.underlying90 Tryz.sizeOf44 I I I I I ⟨by decide,by decide⟩ ?_
 refine qP I (qB 0 I I I ?_)
 refine Bq Tryz.underlying90 Tryz.sizeOf44 I I I I I ⟨by decide,by decide⟩ ?_
 refine qP I (qB 0 I I I (qC I I (fun W hp=>BY c q.1 p.2 hz.y W (hc.hp hp) (hv.hp hp) (ht.hp hp)) (qP I (qP I (AR (Aa (zE (zA (zB (wP I (wP I (wP I (wC I I (fun W hp=>Cq c (p.1*q.2) (q.1*p.2) hz.s W (hc.hp hp) (hv.hp hp) (ht.hp hp)) ?_)))))))))))))
 exact wP I (Aa (zE (zO (wR1 I I I))))
def crK (l:List Ai) (k:Nat):Rat:=HH (fun i=>EF (Ae l i) (Ae l (i+1))) k
theorem MV (l:List Ai) (k:Nat):crK l (k+1)=crK l k+EF (Ae l k) (Ae l (k+1)):=rfl
structure ArZ (l:List Ai):Prop where
 d: ∀i,i<l.length→Pv (Ae l i) (Ae l (i+1))
 s: ∀i,i<l.length→Sz2 (crK l i) (EF (Ae l i) (Ae l (i+1)))
 h:Sz2 (Cs l) 2
abbrev caB (c:Nat):Bx:=⟨c,83,[.int .i64 0],true,none⟩
abbrev nuB (b:Nat) (q:Rat):Bx:=⟨b,22,[str (Af q)],true,none⟩
theorem Nm (l:List Ai) (hz:ArZ l) (p:Option Addr) (cap:Nat) (W:World) (h:Gv W p l):
  Ah Tryz.prog 29 #[slv p l.length cap] W (fun _:Unit=> .tuple #[str (Af (Cs l/2)), .int .i64 0]) (fun _=>True) (fun _=>[]):=by
 have hn:=h.n
 refine Ab (args:=[slv p l.length cap]) Tryz.func29 I I I ?_
 refine zA (zB (wP I (wP I (Aa (zE (zA (zA (zB (wP I (wC I I (fun W1 hp=>Hr l p cap W1 (h.hp hp)) (wP I (Aa (zE ?_)))))))))))))
 refine zA (zB (wP I (wP I (Aa (zE (zS I (zI (zE (zA (zB ?_))))))))))
 refine Au Tryz.hZ tH I I I I I I I I ?_
 (refine A6 rfl rfl rfl rfl ?_;intro)
 (refine Ag Tryz.hZ rfl rfl rfl rfl ?_;intro)
 (refine Ag Tryz.hZ rfl rfl rfl rfl ?_;intro)
 refine wS 1 I I I (wS 2 I I I (Aa ?_))
 rename_i bC b5 b6
 refine Ot (bxs':=[caB bC,ckB b5 bC,nuB b6 (crK l 0)]) (by show _=[caB bC,ckB b5 bC,nuB b6 0];rw[nuB,Dr];rfl) ?_
 refine zE (zA (zA (zB (wP I ?_))))
 refine wD (X:=Nat) I I (fun W1 _=>D9 p l.length cap W1) ?_
 intro bp _
 refine Aa (zE (zH ?_))
 refine F8 (X:=Nat) (fun k=>[caB bC,ckB b5 bC,nuB b6 (crK l k),lsB bp (slv p l.length cap)])
  (fun j x=>x=j) (fun _ _=>False) 0 rfl (by kernel_rfl) (Ea l bp p cap (by omega)) (fun _=>rfl)
  rfl [] rfl (fun k x W1 _ hp=>⟨Al.of_bx hp 3 rfl rfl,(h.hp hp).m⟩) ?_ ?_ (fun _ _ _ _ _ h=>h.elim)
 ·rintro k k' d l' rec L hk e1 hrec
  obtain rfl:k'=k:=e1
  have hk:k'<l.length:=hk
  have hsu:=MV l k'
  refine zB ?_
  (refine Ag Tryz.hZ rfl rfl rfl rfl ?_;intro)
  refine wS 7 I I I (Aa ?_)
  rename_i b8
  refine CU 6 hrec I ?_
  refine CY ?_
  refine Bg (X:=Unit) [true,true,true,true,true,true,false] (fun _=>[(5,Aj b5)]) (fun _=>[Bz L,caB bC,ckB b5 bC,nuB b6 (crK l (k'+1)),lsB bp (slv p l.length cap),B7 d,Bc l' rec .busy none])
   1 [Bz L,caB bC,ckB b5 bC,nuB b6 (crK l k'),lsB bp (slv p l.length cap),B7 d,Bc l' rec .busy none,⟨b8,90,(sdV (Ae l k') (Ae l (k'+1))).cells.toList,true,none⟩] Tryz.mixed (by kernel_rfl) ?_ ?_
  ·refine qB 2 I I I (qB 3 I I I (qB 2 I I I (qB 7 I I I (qC I I (fun W1 hp=>Jr bC (Ae l k') (Ae l (k'+1)) (hz.d k' hk) W1 (Bw hp 1 I) (h.hp hp).v (h.hp hp).t) (qC I I (fun W1 hp=>Ct bC (crK l k') (EF (Ae l k') (Ae l (k'+1))) (hz.s k' hk) W1 (Bw hp 1 I) (h.hp hp).v (h.hp hp).t) (Cw ?_))))))
   rw[←hsu]
   refine wX (wZ (wS 3 I I I (Aa (Ac ?_))))
   refine AV I (by kernel_rfl) ?_
   exact Av () ⟨I,tO⟩ [0,1,2,3,4,5,6] (by decide) I
  intro _
  exact zN (Ci 6 (k'+1) hrec I I [] I)
 ·rintro k' d l' rec e1
  obtain rfl:k'=l.length:=e1
  refine zN (zE (zA (zA (zB (wB 1 I I I (wB 2 I I I (wC I I (fun W1 hp=>(by have:=FS bC (Cs l) 2 hz.h (by decide) W1 (Bw hp 0 I) (h.hp hp).v (h.hp hp).t;rwa [Tm] at this)) (wP I (Aa (zE (zA (zB (wB 1 I I I ?_)))))))))))))
  refine Bj I I I I ?_
  refine wP I (wB 0 I I I (wP I (Aa (zE (zR I (zA (zB (wP I (wP I (wP I (Aa (zE (zO ?_)))))))))))))
  refine zP ?_
  refine CD 4 I ?_
  exact wR2 I I I
-- BOXES 12
-- CODE2
def moX (l:List Ai) (k:Nat):Rat:=HH (fun i=>((Ae l i).1+(Ae l (i+1)).1)*EF (Ae l i) (Ae l (i+1))) k
def moY (l:List Ai) (k:Nat):Rat:=HH (fun i=>((Ae l i).2+(Ae l (i+1)).2)*EF (Ae l i) (Ae l (i+1))) k
theorem RG (l:List Ai) (k:Nat):moX l (k+1)=moX l k+((Ae l k).1+(Ae l (k+1)).1)*EF (Ae l k) (Ae l (k+1)):=rfl
theorem SC (l:List Ai) (k:Nat):moY l (k+1)=moY l k+((Ae l k).2+(Ae l (k+1)).2)*EF (Ae l k) (Ae l (k+1)):=rfl
structure CeZ (l:List Ai):Prop where
 d: ∀i,i<l.length→Pv (Ae l i) (Ae l (i+1))
 s: ∀i,i<l.length→Sz2 (crK l i) (EF (Ae l i) (Ae l (i+1)))
 x1: ∀i,i<l.length→Sz2 (Ae l i).1 (Ae l (i+1)).1
 x2: ∀i,i<l.length→Sz2 ((Ae l i).1+(Ae l (i+1)).1) (EF (Ae l i) (Ae l (i+1)))
 x3: ∀i,i<l.length→Sz2 (moX l i) (((Ae l i).1+(Ae l (i+1)).1)*EF (Ae l i) (Ae l (i+1)))
 y1: ∀i,i<l.length→Sz2 (Ae l i).2 (Ae l (i+1)).2
 y2: ∀i,i<l.length→Sz2 ((Ae l i).2+(Ae l (i+1)).2) (EF (Ae l i) (Ae l (i+1)))
 y3: ∀i,i<l.length→Sz2 (moY l i) (((Ae l i).2+(Ae l (i+1)).2)*EF (Ae l i) (Ae l (i+1)))
 m:Sz2 3 (Cs l)
 nz:(3*Cs l).num≠0
 dx:Sz2 (HM l) (3*Cs l)
 dy:Sz2 (H1 l) (3*Cs l)
abbrev ptB (b:Nat) (a c:List UInt8):Bx:=⟨b,44,[str a,str c],true,none⟩
theorem Lg (l:List Ai) (hz:CeZ l) (p:Option Addr) (cap:Nat) (W:World) (h:Gv W p l):
  Ah Tryz.prog 59 #[slv p l.length cap] W (fun _:Unit=> .tuple #[.agg #[str (Af (HM l/(3*Cs l))),str (Af (H1 l/(3*Cs l)))], .int .i64 0]) (fun _=>True) (fun _=>[]):=by
 have hn:=h.n
 refine Ab (args:=[slv p l.length cap]) Tryz.func59 I I I ?_
 refine zA (zB ?_)
 (refine Ag Tryz.hZ rfl rfl rfl rfl ?_;intro)
 refine wP I (Aa ?_)
 rename_i b2
 refine zE (zA (zA (zB (wP I (wC I I (fun W1 hp=>Hr l p cap W1 (h.hp hp)) (wP I (Aa (zE (zA (zB (wP I (wP I (Aa ?_)))))))))))))
 refine zE (zS I (zI (zE (zA (zB ?_)))))
 refine Au Tryz.hZ tH I I I I I I I I ?_
 (refine A6 rfl rfl rfl rfl ?_;intro)
 (refine Ag Tryz.hZ rfl rfl rfl rfl ?_;intro)
 refine wS 2 I I I (Aa ?_)
 rename_i bC b5
 refine zE (zA (zB ?_))
 (refine Ag Tryz.hZ rfl rfl rfl rfl ?_;intro)
 (refine Ag Tryz.hZ rfl rfl rfl rfl ?_;intro)
 (refine Ag Tryz.hZ rfl rfl rfl rfl ?_;intro)
 refine wS 3 I I I (wS 4 I I I (wS 5 I I I (Aa ?_)))
 rename_i b6 b7 b8
 refine Ot (bxs':=[ptB b2 [] [],caB bC,ckB b5 bC,nuB b6 (moX l 0),nuB b7 (moY l 0),nuB b8 (crK l 0)]) (by show _=[ptB b2 [] [],caB bC,ckB b5 bC,nuB b6 0,nuB b7 0,nuB b8 0];rw[nuB,nuB,nuB,Dr];rfl) ?_
 refine zE (zA (zA (zB (wP I ?_))))
 refine wD (X:=Nat) I I (fun W1 _=>D9 p l.length cap W1) ?_
 intro bp _
 refine Aa (zE (zH ?_))
 refine F8 (X:=Nat) (fun k=>[ptB b2 [] [],caB bC,ckB b5 bC,nuB b6 (moX l k),nuB b7 (moY l k),nuB b8 (crK l k),lsB bp (slv p l.length cap)])
  (fun j x=>x=j) (fun _ _=>False) 0 rfl (by kernel_rfl) (Ea l bp p cap (by omega)) (fun _=>rfl)
  rfl [] rfl (fun k x W1 _ hp=>⟨Al.of_bx hp 6 rfl rfl,(h.hp hp).m⟩) ?_ ?_ (fun _ _ _ _ _ h=>h.elim)
 ·rintro k k' d l' rec L hk e1 hrec
  obtain rfl:k'=k:=e1
  have hk:k'<l.length:=hk
  have hsu:=MV l k'
  have hsx:=RG l k'
  have hsy:=SC l k'
  refine zB ?_
  (refine Ag Tryz.hZ rfl rfl rfl rfl ?_;intro)
  refine wS 10 I I I (Aa ?_)
  rename_i b10
  refine CU 9 hrec I ?_
  refine CY (zA (zB (wB 3 I I I (wB 10 I I I (wC I I (fun W1 hp=>Jr bC (Ae l k') (Ae l (k'+1)) (hz.d k' hk) W1 (Bw hp 2 I) (h.hp hp).v (h.hp hp).t) (wP I (Aa (zE (Ax ?_)))))))))
  refine Bg (X:=Unit) [true,true,true,true,true,true,true,true,true,true,true,true,true,true,false] (fun _=>[(5,Aj b5),(6,Aj b6),(7,Aj b7),(8,Aj b8),(10,Aj b10),(11,str (Af (EF (Ae l k') (Ae l (k'+1)))))]) (fun _=>[Bz L,ptB b2 [] [],caB bC,ckB b5 bC,nuB b6 (moX l (k'+1)),nuB b7 (moY l k'),nuB b8 (crK l k'),lsB bp (slv p l.length cap),B7 d,Bc l' rec .busy none,⟨b10,90,(sdV (Ae l k') (Ae l (k'+1))).cells.toList,true,none⟩])
   1 [Bz L,ptB b2 [] [],caB bC,ckB b5 bC,nuB b6 (moX l k'),nuB b7 (moY l k'),nuB b8 (crK l k'),lsB bp (slv p l.length cap),B7 d,Bc l' rec .busy none,⟨b10,90,(sdV (Ae l k') (Ae l (k'+1))).cells.toList,true,none⟩] Tryz.mixed (by kernel_rfl) ?_ ?_
  ·refine qB 3 I I I (qB 4 I I I (qB 3 I I I (qB 3 I I I ?_)))
   refine Bq Tryz.underlying90 Tryz.sizeOf44 I I I I I ⟨by decide,by decide⟩ ?_
   refine qP I (qB 10 I I I ?_)
   refine Bq Tryz.underlying90 Tryz.sizeOf44 I I I I I ⟨by decide,by decide⟩ ?_
   refine qP I (qB 10 I I I (qC I I (fun W1 hp=>Ct bC (Ae l k').1 (Ae l (k'+1)).1 (hz.x1 k' hk) W1 (Bw hp 2 I) (h.hp hp).v (h.hp hp).t) (qP I (qC I I (fun W1 hp=>BY bC ((Ae l k').1+(Ae l (k'+1)).1) (EF (Ae l k') (Ae l (k'+1))) (hz.x2 k' hk) W1 (Bw hp 2 I) (h.hp hp).v (h.hp hp).t) (qC I I (fun W1 hp=>Ct bC (moX l k') _ (hz.x3 k' hk) W1 (Bw hp 2 I) (h.hp hp).v (h.hp hp).t) (Cw ?_))))))
   rw[←hsx]
   refine wX (wZ (wS 4 I I I (Aa (Ac ?_))))
   refine AV I (by kernel_rfl) ?_
   exact Av () ⟨I,I,I,I,I,I,tO⟩ [0,1,2,3,4,5,6,7,8,9,10] (by decide) I
  intro _
  refine zE (Ax ?_)
  refine Bg (X:=Unit) [true,true,true,true,true,true,true,true,true,true,true,true,true,true,false] (fun _=>[(5,Aj b5),(8,Aj b8),(11,str (Af (EF (Ae l k') (Ae l (k'+1)))))]) (fun _=>[Bz L,ptB b2 [] [],caB bC,ckB b5 bC,nuB b6 (moX l (k'+1)),nuB b7 (moY l (k'+1)),nuB b8 (crK l k'),lsB bp (slv p l.length cap),B7 d,Bc l' rec .busy none])
   1 [Bz L,ptB b2 [] [],caB bC,ckB b5 bC,nuB b6 (moX l (k'+1)),nuB b7 (moY l k'),nuB b8 (crK l k'),lsB bp (slv p l.length cap),B7 d,Bc l' rec .busy none,⟨b10,90,(sdV (Ae l k') (Ae l (k'+1))).cells.toList,true,none⟩] Tryz.mixed (by kernel_rfl) ?_ ?_
  ·refine qB 3 I I I (qB 5 I I I (qB 3 I I I (qB 3 I I I ?_)))
   refine Bq Tryz.underlying90 Tryz.sizeOf44 I I I I I ⟨by decide,by decide⟩ ?_
   refine qP I (qB 10 I I I ?_)
   refine Bq Tryz.underlying90 Tryz.sizeOf44 I I I I I ⟨by decide,by decide⟩ ?_
   refine qP I (qB 10 I I I (qC I I (fun W1 hp=>Ct bC (Ae l k').2 (Ae l (k'+1)).2 (hz.y1 k' hk) W1 (Bw hp 2 I) (h.hp hp).v (h.hp hp).t) (qP I (qC I I (fun W1 hp=>BY bC ((Ae l k').2+(Ae l (k'+1)).2) (EF (Ae l k') (Ae l (k'+1))) (hz.y2 k' hk) W1 (Bw hp 2 I) (h.hp hp).v (h.hp hp).t) (qC I I (fun W1 hp=>Ct bC (moY l k') _ (hz.y3 k' hk) W1 (Bw hp 2 I) (h.hp hp).v (h.hp hp).t) (Cw ?_))))))
   rw[←hsy]
   refine wX (wZ (wS 5 I I I (Aa (Ac ?_))))
   refine AV I (by kernel_rfl) ?_
   exact Av () ⟨I,I,I,tO⟩ [0,1,2,3,4,5,6,7,8,9] (by decide) I
  intro _
  refine zE (zB (wB 3 I I I (wB 6 I I I (wP I (wC I I (fun W1 hp=>Ct bC (crK l k') (EF (Ae l k') (Ae l (k'+1))) (hz.s k' hk) W1 (Bw hp 2 I) (h.hp hp).v (h.hp hp).t) ?_)))))
  rw[←hsu]
  exact wS 6 I I I (Aa (zN (Ci 9 (k'+1) hrec I I [] I)))
 ·rintro k' d l' rec e1
  obtain rfl:k'=l.length:=e1
  have ec:crK l l.length=Cs l:=rfl
  have ex:moX l l.length=HM l:=rfl
  have ey:moY l l.length=H1 l:=rfl
  rw[ec,ex,ey]
  refine zN (zE (zA (zB (wB 2 I I I (wB 5 I I I (wC I I (fun W1 hp=>(by have:=BY bC 3 (Cs l) hz.m W1 (Bw hp 1 I) (h.hp hp).v (h.hp hp).t;rwa [SX] at this)) (wS 5 I I I (Aa (zE (Ax ?_))))))))))
  refine Bg (X:=Nat) [true,true,true,true,true,true,true,true,true,false,false] (fun b=>[(2,Aj b2),(5,Aj b5),(12,Aj b)]) (fun b=>[ptB b2 [] [],caB bC,ckB b5 bC,B7 d,ptB b (Af (HM l/(3*Cs l))) (Af (H1 l/(3*Cs l)))])
   2 [ptB b2 [] [],caB bC,ckB b5 bC,nuB b6 (HM l),nuB b7 (H1 l),nuB b8 (3*Cs l),lsB bp (slv p l.length cap),B7 d,Bc l' rec .exhausted none] Tryz.mixed (by kernel_rfl) ?_ ?_
  ·refine qB 2 I I I (qB 3 I I I (qB 5 I I I (qC I I (fun W1 hp=>FS bC (HM l) (3*Cs l) hz.dx hz.nz W1 (Bw hp 1 I) (h.hp hp).v (h.hp hp).t) (qB 2 I I I (qB 4 I I I (qB 5 I I I (qC I I (fun W1 hp=>FS bC (H1 l) (3*Cs l) hz.dy hz.nz W1 (Bw hp 1 I) (h.hp hp).v (h.hp hp).t) ?_)))))))
   refine Hc Tryz.hZ tH I I I I I I I I ?_
   refine Cw (wX (wZ ?_))
   refine Ag Tryz.hZ rfl rfl rfl rfl ?_;intro b
   refine Aa (Ac (wX (wZ (wS 9 I I I (Aa (Ac ?_))))))
   refine A5 I (by((repeat (first|refine A9.same ?_|refine A9.off I ?_));exact tO)) ?_
   exact Av b ⟨I,I,I,tO⟩ [0,1,2,7,9] (by decide) I
  intro b12
  refine zE (zA (zA (zB (wB 2 I I I ?_))))
  refine Bj I I I I ?_
  refine wP I (wB 1 I I I (wP I (Aa (zE (zS I (zI (zE (zA (zB (wB 4 I I I (wS 0 I I I (wP I (Aa ?_)))))))))))))
  refine zE (zO ?_)
  refine CD 3 I ?_
  exact AH tH I (.cell 0 I I I I I) (.tmp I) () I tO fun W _=>Ao.nil _ _
-- BOXES 3
-- CODE2
section
variable {P:Program} {W0:World} {N:Nat} {D:List Deferred} {ops:List Oper} {o:Oper} {rest:List Oper} {env:Env} {bxs:List Bx} {A2:World→Prop} {R:Act→World→Prop}
theorem Q6 {ρ:Operand→Value} {c:Call} {f:Operand} {g:Nat} {first vs:List Value} {W:World} (ho:o.op= .call c) (hc:c.callee= .value f) (hf:ρ f= .func (.func g) first.toArray #[]) (ha:c.args.map ρ=vs.toArray) (hE:Bl P g=true):
  (execOp ρ o).run P W= .ok (.enter g (first++vs).toArray) W:=by
 simp only[execOp,ho,resolve,hc,hf,ha,Sem.run_bind,Deferred.ofValue,Sem.run_pure,Result.andThen_ok,invoke,EV hE]
 simp
theorem RK {c:Call} {f:Operand} {g d:Nat} {first vs:List Value} {v:Value}
  (hg:Ay ops N env o=some true) (hd:o.dst=some d) (ho:o.op= .call c) (hc:c.callee= .value f) (hf:evO N env f=some (.func (.func g) first.toArray #[])) (ha:Cl (evO N env) c.args.toList=some vs) (hE:Bl P g=true)
  (hC: ∀W,Hp W0 bxs W→Ah P g (first++vs).toArray W (fun _:Unit=>v) (fun _=>True) (fun _=>[]))
  (h:WQ P N D ops A2 R rest ((d,v)::env) (Hp W0 bxs)):WQ P N D ops A2 R (o::rest) env (Hp W0 bxs):=
 J3 hd (fun a W h1 _ hp=>by
  unfold OpS
  rw[Dt h1 hg,if_pos rfl]
  refine⟨fun c e=>(by rw[ho] at e;cases e), .inr ⟨g,_,Q6 ho hc (A7 h1 _ _ hf) (Er (A7 h1) ha) hE,(hC W hp).out.mono ?_⟩⟩
  rintro e W' ⟨x,he,_,hb,_⟩
  exact⟨he,hp.grow hb,hb⟩) h
end
theorem Pf (x:Nat) (h:x≤18446744073709551615) (W:World):Ah Tryz.prog 161 #[.int .u64 (x:Nat)] W (fun _:Unit=> .int .i64 (Lib.bitLen x)) (fun _=>True) (fun _=>[]):=by
 refine Ah.of1 ((Go.Proofs.Any.bits_Len (P:=Tryz.prog) (ρ:=Tryz.lays125_ren) { Tryz.lays125 with } (x:Int) W (by omega) (by omega)).mono ?_)
 rintro e w' ⟨rfl,rfl⟩
 exact⟨I,Below.refl _ _⟩
def D5 (x y:Ai):List Ai:=if BX y x=true then[y,x] else[x,y]
abbrev lsF (c:Nat):Value:= .func (.func 128) #[Aj c] #[]
abbrev Dj (g:Nat) (l:List Ai) (junk:List Value):Bx:=⟨g,44,ptC l++junk,true,none⟩
theorem R0 {W0 W:World} {bxs:List Bx} (hp:Hp W0 bxs W) (k:Nat) {g:Nat} {x y:Ai} {junk:List Value} (hk:nth bxs k=some (Dj g [x,y] junk)):Al W g (0+0*2) [str (Af x.1),str (Af x.2)]:=
 Cx (a:=[str (Af x.1),str (Af x.2)]) (b:=[str (Af y.1),str (Af y.2)]++junk) (Al.of_bx hp k hk rfl)
theorem Sl {W0 W:World} {bxs:List Bx} (hp:Hp W0 bxs W) (k:Nat) {g:Nat} {x y:Ai} {junk:List Value} (hk:nth bxs k=some (Dj g [x,y] junk)):Al W g (0+1*2) [str (Af y.1),str (Af y.2)]:=
 Cx (a:=[str (Af y.1),str (Af y.2)]) (b:=junk) (Hh (a:=[str (Af x.1),str (Af x.2)]) (b:=[str (Af y.1),str (Af y.2)]++junk) (Al.of_bx hp k hk rfl))
structure SrN (c g:Nat) (x y:Ai) (W:World):Prop where
 k: ∀W',KU W W' g→Cm W' c∧Ck W'∧AS W'
 s1:Sz2 y.1 x.1
 s2:Sz2 y.2 x.2
theorem SrN.trans {c g:Nat} {x y:Ai} {W W':World} (h:SrN c g x y W) (hk:KU W W' g):SrN c g x y W':=⟨fun W2 h2=>h.k W2 (hk.trans h2),h.s1,h.s2⟩
theorem O0 (c:Nat) (W:World) (g cap:Nat) (x y:Ai) (junk:List Value) (hg:W.heap[g]? =some (.cells (ptC [x,y]++junk).toArray 44 (0,0))) (h:SrN c g x y W):
  Calls Tryz.prog 230 #[.slice (some ⟨g,0,none⟩) 2 cap, .int .i64 0, .int .i64 2,lsF c] W fun e W'=> ∃x1:Unit,e= .returned ((fun _=> .tuple #[]) x1)∧True∧LR W W' g ((fun _=>g) x1) ((fun _=> .cells (ptC (D5 x y)++junk).toArray 44 (0,0)) x1):=by
 have key:Calls Tryz.prog 230 [.slice (some ⟨g,0,none⟩) 2 cap, .int .i64 0, .int .i64 2,lsF c].toArray W fun e W'=> ∃x1:Unit,e= .returned ((fun _=> .tuple #[]) x1)∧(fun _=>True) x1∧Below (Ca W).heap.size (Ca W) W'∧Ao (Ca W) W' ((fun _=>[Bz (AK W g),Dj g (D5 x y) junk]) x1):=by
  refine DA (X:=Unit) (val:=fun _=> .tuple #[]) (Φ:=fun _=>True) (nb:=fun _=>[Bz (AK W g),Dj g (D5 x y) junk]) (Hp.enterT (B:=Dj g [x,y] junk) I hg) Tryz.func230 I I I ?_
  refine zA (zB (wP I (wP I (wP I (Aa (zE (zH ?_)))))))
  refine A8 (X:=Bool) (fun b=>[(0, .slice (some ⟨g,0,none⟩) 2 cap),(1, .int .i64 0),(2, .int .i64 2),(3,lsF c),(8, .int .i64 (if b then 2 else 1))]) (fun b=>[Bz (AK W g),Dj g (if b then D5 x y else[x,y]) junk]) (fun _=>True) (fun b=>if b then 0 else 1) false tO ⟨I,I,I,I,I,tO⟩ [] I ?_
  intro b _
  cases b with
  |true=>
   exact zA (zA (zB (wP I (wP I (wP I (Aa (zE (zS I (zJ (zK (zK (zL (PQ (X:=Unit) (val:=fun _=> .tuple #[]) (Φ:=fun _=>True) (nb:=fun _=>[Bz (AK W g),Dj g (D5 x y) junk]) (fn:=Tryz.f230) tH I () I tO fun W1 hp=>(hp.pick (l:=[Bz (AK W g),Dj g (D5 x y) junk]) [0,1] (by decide) I).own)))))))))))))
  |false=>
   refine zA (zA (zB (wP I (wP I (wP I (Aa (zE (zR I (zI (zE (zA (zH (zA ?_)))))))))))))
   refine zB (wP I (wP I (Aa (zE (zH ?_)))))
   refine A8 (X:=Bool) (fun b=>[(0, .slice (some ⟨g,0,none⟩) 2 cap),(1, .int .i64 0),(2, .int .i64 2),(3,lsF c),(8, .int .i64 1),(9, .int .i64 (if b then 0 else 1))]) (fun b=>[Bz (AK W g),Dj g (if b then[y,x] else[x,y]) junk]) (fun b=>b=true→BX y x=true) (fun b=>if b then 0 else 1) false (fun h=>by cases h) ⟨rfl,rfl,rfl,rfl,rfl,rfl,trivial⟩ [] rfl ?_
   intro b hb
   cases b with
   |true=>
    have hlt:=hb rfl
    have e:D5 x y=[y,x]:=by unfold D5;rw[if_pos hlt]
    refine zA (zA (zU (qP I (qP I (qP I (qP I ?_))))))
    iterate 12 refine Qv I I ?_
    refine qP I (AR (Aa (zE (zS I (zJ (zK (zK (zL (zN (zE (zB (wP I (wP I (wP I ?_))))))))))))))
    exact Aa (A0 true tO (by decide) ⟨I,I,I,I,I,tO⟩ [] (by show _=[Bz (AK W g),Dj g (D5 x y) junk];rw[e];rfl))
   |false=>
    refine zA (zA (zU ?_))
    iterate 7 refine qP I ?_
    refine qI I I (by decide) (by decide) (qL 0 I I (fun W1 hp=>Sl hp 1 I) I (qP I (qP I (qP I (qI I I (by decide) (by decide) (qL 0 I I (fun W1 hp=>R0 hp 1 I) I ?_))))))
    refine RK (first:=[Aj c]) I I I I I I (by kernel_rfl) (fun W1 hp=>(by
     obtain⟨hc,hv,ht⟩:=h.k W1 (Mh hg ⟨_,List.mem_cons_self ..⟩ hp)
     exact Jj c y x h.s1 h.s2 W1 hc hv ht)) ?_
    refine qP I (qU 33 (BX y x) I (P7 y x) ?_)
    cases hlt:BX y x with
    |false=>
     have e:D5 x y=[x,y]:=by unfold D5;rw[hlt];rfl
     refine qP I (AR (Aa (zE (zS I (zJ (zK (zK (zL (zN (zE (zB (wP I (wP I (wP I ?_))))))))))))))
     exact Aa (A0 true tO (by decide) ⟨I,I,I,I,I,tO⟩ [] (by show _=[Bz (AK W g),Dj g (D5 x y) junk];rw[e];rfl))
    |true=>
     refine qP I (AR (Aa (zE (zR I (zI (zE (Ax (CY ?_))))))))
     repeat refine Ax ?_
     refine Bg (X:=Unit) [true,true,false,false,false,true,true,true,true,true,true,true,true,true,true,false,false,false] (fun _=>[(0, .slice (some ⟨g,0,none⟩) 2 cap),(1, .int .i64 0),(2, .int .i64 2),(3,lsF c),(8, .int .i64 1),(9, .int .i64 1)]) (fun _=>[Bz (AK W g),Dj g [y,x] junk])
      6 [Bz (AK W g),Dj g [x,y] junk] Tryz.mixed (by kernel_rfl) ?_ ?_
     ·refine qP I (qP I (qP I (qP I (qP I (qI I I (by decide) (by decide) (qL 0 I I (fun W1 hp=>R0 hp 1 I) I (qP I (qP I (qI I I (by decide) (by decide) (qL 0 I I (fun W1 hp=>Sl hp 1 I) I (qI I I (by decide) (by decide) (Cw (wX ?_)))))))))))))
      refine RS.cons ?_ (RS.cons ?_ (RS.cons ?_ (RS.nil)))
      ·refine wP I (Aa (Ac (wX ?_)))
       refine RS.cons ?_ (RS.cons ?_ (RS.nil))
       ·refine wP I (Aa (Ac (wX ?_)))
        refine RS.cons ?_ (RS.cons ?_ (RS.nil))
        ·refine wP I (Aa (Ac (wX (wZ ?_))))
         refine AC 1 (ptC [x,x]++junk) tH I I I I I I I I I I (by show 0+1*2+2≤(ptC [x,y]++junk).length;rw[List.length_append,Bf];show 4≤4+_;omega) I ?_
         refine Aa (Ac (wY (wZ (wI I I (by decide) (by decide) (Aa (Ac (wY (wZ ?_))))))))
         refine AC 1 (ptC [y,x]++junk) tH I I I I I I I I I I (by show 0+0*2+2≤(ptC [x,x]++junk).length;rw[List.length_append,Bf];show 2≤4+_;omega) I ?_
         refine Aa (Ac ?_)
         refine AV I (by kernel_rfl) ?_
         exact Av () ⟨I,I,I,I,I,I,tO⟩ [0,1] (by decide) I
        ·refine AC 1 (ptC [x,x]++junk) tH I I I I I I I I I I (by show 0+1*2+2≤(ptC [x,y]++junk).length;rw[List.length_append,Bf];show 4≤4+_;omega) I ?_
         refine Aa (Ac (wY (wZ (wP I (Aa (Ac (wY (wZ (wI I I (by decide) (by decide) (Aa (Ac (wY (wZ ?_)))))))))))))
         refine AC 1 (ptC [y,x]++junk) tH I I I I I I I I I I (by show 0+0*2+2≤(ptC [x,x]++junk).length;rw[List.length_append,Bf];show 2≤4+_;omega) I ?_
         refine Aa (Ac ?_)
         refine AV I (by kernel_rfl) ?_
         exact Av () ⟨I,I,I,I,I,I,tO⟩ [0,1] (by decide) I
       ·refine AC 1 (ptC [x,x]++junk) tH I I I I I I I I I I (by show 0+1*2+2≤(ptC [x,y]++junk).length;rw[List.length_append,Bf];show 4≤4+_;omega) I ?_
        refine Aa (Ac (wY (wZ (wP I (Aa (Ac (wY (wZ (wP I (Aa (Ac (wY (wZ ?_)))))))))))))
        refine wI I I (by decide) (by decide) (Aa (Ac (wY (wZ ?_))))
        refine AC 1 (ptC [y,x]++junk) tH I I I I I I I I I I (by show 0+0*2+2≤(ptC [x,x]++junk).length;rw[List.length_append,Bf];show 2≤4+_;omega) I ?_
        refine Aa (Ac ?_)
        refine AV I (by kernel_rfl) ?_
        exact Av () ⟨I,I,I,I,I,I,tO⟩ [0,1] (by decide) I
      ·refine wP I (Aa (Ac (wX ?_)))
       refine RS.cons ?_ (RS.cons ?_ (RS.cons ?_ (RS.nil)))
       ·refine wP I (Aa (Ac (wX ?_)))
        refine RS.cons ?_ (RS.cons ?_ (RS.nil))
        ·refine wP I (Aa (Ac (wX (wZ ?_))))
         refine AC 1 (ptC [x,x]++junk) tH I I I I I I I I I I (by show 0+1*2+2≤(ptC [x,y]++junk).length;rw[List.length_append,Bf];show 4≤4+_;omega) I ?_
         refine Aa (Ac (wY (wZ (wI I I (by decide) (by decide) (Aa (Ac (wY (wZ ?_))))))))
         refine AC 1 (ptC [y,x]++junk) tH I I I I I I I I I I (by show 0+0*2+2≤(ptC [x,x]++junk).length;rw[List.length_append,Bf];show 2≤4+_;omega) I ?_
         refine Aa (Ac ?_)
         refine AV I (by kernel_rfl) ?_
         exact Av () ⟨I,I,I,I,I,I,tO⟩ [0,1] (by decide) I
        ·refine AC 1 (ptC [x,x]++junk) tH I I I I I I I I I I (by show 0+1*2+2≤(ptC [x,y]++junk).length;rw[List.length_append,Bf];show 4≤4+_;omega) I ?_
         refine Aa (Ac (wY (wZ (wP I (Aa (Ac (wY (wZ (wI I I (by decide) (by decide) (Aa (Ac (wY (wZ ?_)))))))))))))
         refine AC 1 (ptC [y,x]++junk) tH I I I I I I I I I I (by show 0+0*2+2≤(ptC [x,x]++junk).length;rw[List.length_append,Bf];show 2≤4+_;omega) I ?_
         refine Aa (Ac ?_)
         refine AV I (by kernel_rfl) ?_
         exact Av () ⟨I,I,I,I,I,I,tO⟩ [0,1] (by decide) I
       ·refine wP I (Aa (Ac (wX ?_)))
        refine RS.cons ?_ (RS.cons ?_ (RS.nil))
        ·refine wP I (Aa (Ac (wX (wZ ?_))))
         refine AC 1 (ptC [x,x]++junk) tH I I I I I I I I I I (by show 0+1*2+2≤(ptC [x,y]++junk).length;rw[List.length_append,Bf];show 4≤4+_;omega) I ?_
         refine Aa (Ac (wY (wZ (wI I I (by decide) (by decide) (Aa (Ac (wY (wZ ?_))))))))
         refine AC 1 (ptC [y,x]++junk) tH I I I I I I I I I I (by show 0+0*2+2≤(ptC [x,x]++junk).length;rw[List.length_append,Bf];show 2≤4+_;omega) I ?_
         refine Aa (Ac ?_)
         refine AV I (by kernel_rfl) ?_
         exact Av () ⟨I,I,I,I,I,I,tO⟩ [0,1] (by decide) I
        ·refine AC 1 (ptC [x,x]++junk) tH I I I I I I I I I I (by show 0+1*2+2≤(ptC [x,y]++junk).length;rw[List.length_append,Bf];show 4≤4+_;omega) I ?_
         refine Aa (Ac (wY (wZ (wP I (Aa (Ac (wY (wZ (wI I I (by decide) (by decide) (Aa (Ac (wY (wZ ?_)))))))))))))
         refine AC 1 (ptC [y,x]++junk) tH I I I I I I I I I I (by show 0+0*2+2≤(ptC [x,x]++junk).length;rw[List.length_append,Bf];show 2≤4+_;omega) I ?_
         refine Aa (Ac ?_)
         refine AV I (by kernel_rfl) ?_
         exact Av () ⟨I,I,I,I,I,I,tO⟩ [0,1] (by decide) I
       ·refine AC 1 (ptC [x,x]++junk) tH I I I I I I I I I I (by show 0+1*2+2≤(ptC [x,y]++junk).length;rw[List.length_append,Bf];show 4≤4+_;omega) I ?_
        refine Aa (Ac (wY ?_))
        refine RS.cons ?_ (RS.cons ?_ (RS.nil))
        ·refine wP I (Aa (Ac (wY (wZ (wP I (Aa (Ac (wY (wZ (wI I I (by decide) (by decide) (Aa (Ac (wY ?_)))))))))))))
         refine wZ ?_
         refine AC 1 (ptC [y,x]++junk) tH I I I I I I I I I I (by show 0+0*2+2≤(ptC [x,x]++junk).length;rw[List.length_append,Bf];show 2≤4+_;omega) I ?_
         refine Aa (Ac ?_)
         refine AV I (by kernel_rfl) ?_
         exact Av () ⟨I,I,I,I,I,I,tO⟩ [0,1] (by decide) I
        ·refine wP I (Aa (Ac (wY (wZ (wP I (Aa (Ac (wY (wZ (wI I I (by decide) (by decide) (Aa (Ac (wY ?_)))))))))))))
         refine wZ ?_
         refine AC 1 (ptC [y,x]++junk) tH I I I I I I I I I I (by show 0+0*2+2≤(ptC [x,x]++junk).length;rw[List.length_append,Bf];show 2≤4+_;omega) I ?_
         refine Aa (Ac ?_)
         refine AV I (by kernel_rfl) ?_
         exact Av () ⟨I,I,I,I,I,I,tO⟩ [0,1] (by decide) I
      ·refine AC 1 (ptC [x,x]++junk) tH I I I I I I I I I I (by show 0+1*2+2≤(ptC [x,y]++junk).length;rw[List.length_append,Bf];show 4≤4+_;omega) I ?_
       refine Aa (Ac (wY ?_))
       refine RS.cons ?_ (RS.cons ?_ (RS.nil))
       ·refine wP I (Aa (Ac (wY (wZ (wP I (Aa (Ac (wY (wZ (wP I (Aa (Ac (wY ?_)))))))))))))
        refine wZ (wI I I (by decide) (by decide) (Aa (Ac (wY (wZ ?_)))))
        refine AC 1 (ptC [y,x]++junk) tH I I I I I I I I I I (by show 0+0*2+2≤(ptC [x,x]++junk).length;rw[List.length_append,Bf];show 2≤4+_;omega) I ?_
        refine Aa (Ac ?_)
        refine AV I (by kernel_rfl) ?_
        exact Av () ⟨I,I,I,I,I,I,tO⟩ [0,1] (by decide) I
       ·refine wP I (Aa (Ac (wY ?_)))
        refine RS.cons ?_ (RS.cons ?_ (RS.nil))
        ·refine wP I (Aa (Ac (wY (wZ (wP I (Aa (Ac (wY (wZ (wI I I (by decide) (by decide) (Aa (Ac (wY ?_)))))))))))))
         refine wZ ?_
         refine AC 1 (ptC [y,x]++junk) tH I I I I I I I I I I (by show 0+0*2+2≤(ptC [x,x]++junk).length;rw[List.length_append,Bf];show 2≤4+_;omega) I ?_
         refine Aa (Ac ?_)
         refine AV I (by kernel_rfl) ?_
         exact Av () ⟨I,I,I,I,I,I,tO⟩ [0,1] (by decide) I
        ·refine wP I (Aa (Ac (wY (wZ (wP I (Aa (Ac (wY (wZ (wI I I (by decide) (by decide) (Aa (Ac (wY ?_)))))))))))))
         refine wZ ?_
         refine AC 1 (ptC [y,x]++junk) tH I I I I I I I I I I (by show 0+0*2+2≤(ptC [x,x]++junk).length;rw[List.length_append,Bf];show 2≤4+_;omega) I ?_
         refine Aa (Ac ?_)
         refine AV I (by kernel_rfl) ?_
         exact Av () ⟨I,I,I,I,I,I,tO⟩ [0,1] (by decide) I
     intro _
     exact zN (zE (zB (wP I (wP I (wP I (Aa (A0 true (fun _=>rfl) (by decide) ⟨I,I,I,I,I,I,tO⟩ [] I)))))))
 refine key.mono ?_
 rintro e W' ⟨x1,he,_,hb,hn'⟩
 exact⟨x1,he,tO,Ir hg I hb hn'⟩
theorem Oy (c:Nat) (W:World) (g cap:Nat) (x y:Ai) (junk:List Value) (z:Int) (hg:W.heap[g]? =some (.cells (ptC [x,y]++junk).toArray 44 (0,0))) (h:SrN c g x y W):
  Calls Tryz.prog 175 #[.slice (some ⟨g,0,none⟩) 2 cap, .int .i64 0, .int .i64 2, .int .i64 z,lsF c] W fun e W'=> ∃x1:Unit,e= .returned ((fun _=> .tuple #[]) x1)∧True∧LR W W' g ((fun _=>g) x1) ((fun _=> .cells (ptC (D5 x y)++junk).toArray 44 (0,0)) x1):=by
 have key:Calls Tryz.prog 175 [.slice (some ⟨g,0,none⟩) 2 cap, .int .i64 0, .int .i64 2, .int .i64 z,lsF c].toArray W fun e W'=> ∃x1:Unit,e= .returned ((fun _=> .tuple #[]) x1)∧(fun _=>True) x1∧Below (Ca W).heap.size (Ca W) W'∧Ao (Ca W) W' ((fun _=>[Bz (AK W g),Dj g (D5 x y) junk]) x1):=by
  refine DA (X:=Unit) (val:=fun _=> .tuple #[]) (Φ:=fun _=>True) (nb:=fun _=>[Bz (AK W g),Dj g (D5 x y) junk]) (Hp.enterT (B:=Dj g [x,y] junk) I hg) Tryz.func175 I I I ?_
  refine zA (zB (wP I (Aa (zE (zA (zB (wP I (Aa (zE (zH ?_))))))))))
  refine A8 (X:=Unit) (fun _=>[(0, .slice (some ⟨g,0,none⟩) 2 cap),(1, .int .i64 0),(2, .int .i64 2),(3, .int .i64 z),(4,lsF c)]) (fun _=>[Bz (AK W g),Dj g [x,y] junk]) (fun _=>True) (fun _=>0) () tO ⟨I,I,I,I,I,tO⟩ [] I ?_
  intro _ _
  refine zH (zA (zB (wP I (wP I (wP I (wP I (Aa (zE (zA (zA (zB (wP I (wP I ?_)))))))))))))
  refine Aa (zE (zR I (zA (zB (wP I (wP I (wP I (wP I ?_))))))))
  refine Gy (X:=Unit) (val:=fun _=> .tuple #[]) (Φ:=fun _=>True) (capt:=[]) 1 (B:=Dj g [x,y] junk) (L1:=[]) (L2:=[]) (b:=g) (ob:= .cells (ptC [x,y]++junk).toArray 44 (0,0)) (fun _=>Dj g (D5 x y) junk) (g':=fun _=>g) (o':=fun _=> .cells (ptC (D5 x y)++junk).toArray 44 (0,0))
   rfl rfl rfl rfl rfl rfl (by kernel_rfl) rfl rfl (fun _ _=>rfl) (fun W1 hp=>O0 c W1 g cap x y junk (hp.own.cell 1 _ rfl (g, .cells (ptC [x,y]++junk).toArray 44 (0,0)) (List.mem_cons_self ..)).1 (h.trans (Mh hg ⟨_,List.mem_cons_self ..⟩ hp))) (fun _ _=> ?_)
  refine Aa (zE (zO (zP (zQ (zP (zQ ?_))))))
  refine Tj (X:=Unit) (val:=fun _=> .tuple #[]) (Φ:=fun _=>True) (nb:=fun _=>[Bz (AK W g),Dj g (D5 x y) junk]) (fn:=Tryz.f175) tH I () I tO fun W1 hp=> ?_
  exact(hp.pick (l:=[Bz (AK W g),Dj g (D5 x y) junk]) [0,1] (by decide) I).own
 refine key.mono ?_
 rintro e W' ⟨x1,he,_,hb,hn'⟩
 exact⟨x1,he,tO,Ir hg I hb hn'⟩
theorem NI (c:Nat) (W:World) (g cap:Nat) (x y:Ai) (junk:List Value) (hg:W.heap[g]? =some (.cells (ptC [x,y]++junk).toArray 44 (0,0))) (h:SrN c g x y W):
  Calls Tryz.prog 127 #[.slice (some ⟨g,0,none⟩) 2 cap,lsF c] W fun e W'=> ∃x1:Unit,e= .returned ((fun _=> .tuple #[]) x1)∧True∧LR W W' g ((fun _=>g) x1) ((fun _=> .cells (ptC (D5 x y)++junk).toArray 44 (0,0)) x1):=by
 have key:Calls Tryz.prog 127 [.slice (some ⟨g,0,none⟩) 2 cap,lsF c].toArray W fun e W'=> ∃x1:Unit,e= .returned ((fun _=> .tuple #[]) x1)∧(fun _=>True) x1∧Below (Ca W).heap.size (Ca W) W'∧Ao (Ca W) W' ((fun _=>[Bz (AK W g),Dj g (D5 x y) junk]) x1):=by
  refine DA (X:=Unit) (val:=fun _=> .tuple #[]) (Φ:=fun _=>True) (nb:=fun _=>[Bz (AK W g),Dj g (D5 x y) junk]) (Hp.enterT (B:=Dj g [x,y] junk) I hg) Tryz.func127 I I I ?_
  refine zA (zB (wP I (wP I (wP I (Aa (zE (zB (wP I (wP I (wP I ?_))))))))))
  refine IT (k:= .u64) (kt:= .i64) (by kernel_rfl) (by kernel_rfl) I I I I ?_
  refine Ad 10 (.int .u64 ((2:Nat):Int)) I I ?_
  refine Bm (capt:=[]) I I I I I I (by kernel_rfl) (fun W _=>Pf 2 (by decide) W) ?_
  refine wP I ?_
  refine Gy (X:=Unit) (val:=fun _=> .tuple #[]) (Φ:=fun _=>True) (capt:=[]) 1 (B:=Dj g [x,y] junk) (L1:=[]) (L2:=[]) (b:=g) (ob:= .cells (ptC [x,y]++junk).toArray 44 (0,0)) (fun _=>Dj g (D5 x y) junk) (g':=fun _=>g) (o':=fun _=> .cells (ptC (D5 x y)++junk).toArray 44 (0,0))
   rfl rfl rfl rfl rfl rfl (by kernel_rfl) rfl rfl (fun _ _=>rfl) (fun W1 hp=>Oy c W1 g cap x y junk _ (hp.own.cell 1 _ rfl (g, .cells (ptC [x,y]++junk).toArray 44 (0,0)) (List.mem_cons_self ..)).1 (h.trans (Mh hg ⟨_,List.mem_cons_self ..⟩ hp))) (fun _ _=> ?_)
  refine Aa ?_
  refine PQ (X:=Unit) (val:=fun _=> .tuple #[]) (Φ:=fun _=>True) (nb:=fun _=>[Bz (AK W g),Dj g (D5 x y) junk]) (fn:=Tryz.f127) tH I () I tO fun W1 hp=> ?_
  exact(hp.pick (l:=[Bz (AK W g),Dj g (D5 x y) junk]) [0,1] (by decide) I).own
 refine key.mono ?_
 rintro e W' ⟨x1,he,_,hb,hn'⟩
 exact⟨x1,he,tO,Ir hg I hb hn'⟩
-- BOXES 15
-- CODE2
theorem Tl (q:Rat):(Ep q==0)=decide (q=0):=by
 have h2:q.num=0↔q=0:=Rat.num_eq_zero
 rw[Bool.eq_iff_iff,beq_iff_eq,decide_eq_true_iff, ←h2]
 unfold Ep
 split
 ·rename_i e
  exact⟨fun _=>e,fun _=>rfl⟩
 ·rename_i e
  split
  ·exact⟨fun h=>absurd h (by decide),fun h=>absurd h e⟩
  ·exact⟨fun h=>absurd h (by decide),fun h=>absurd h e⟩
theorem Cm.keep {W W':World} {c g:Nat} (h:Cm W c) (hk:KU W W' g) (hne:c≠g):Cm W' c:=(hk.at_ c hne (Array.getElem?_eq_some_iff.1 h).1).trans h
def DF (f:AF) (l:List Ai) (k:Nat):List Ai:=(JD (Ae l) k f).map (Bk (Ae l))
def FT (f:AF) (l:List Ai) (k:Nat):List Ai:=DF f l k++(if f.at (Ae l k)=0 then[Ae l k] else[])
theorem Q9 (f:AF) (l:List Ai) (k:Nat):DF f l (k+1)=FT f l k++(if f.at (Ae l k)*f.at (Ae l (k+1))<0 then[CO (f.at (Ae l k)/(f.at (Ae l k)-f.at (Ae l (k+1)))) (Ae l k) (Ae l (k+1))] else[]):=by
 unfold DF FT JD
 rw[List.range_succ,List.flatMap_append,List.map_append,List.flatMap_cons,List.flatMap_nil,List.append_nil,List.map_append, ←List.append_assoc]
 have e1:(if f.at (Ae l k)=0 then[((k,0):Gu)] else[]).map (Bk (Ae l))=if f.at (Ae l k)=0 then[Ae l k] else[]:=by
  split
  ·show[CO 0 (Ae l k) (Ae l (k+1))]=_
   rw[H3]
  ·rfl
 have e2:(if f.at (Ae l k)*f.at (Ae l (k+1))<0 then[((k,f.at (Ae l k)/(f.at (Ae l k)-f.at (Ae l (k+1)))):Gu)] else[]).map (Bk (Ae l))=if f.at (Ae l k)*f.at (Ae l (k+1))<0 then[CO (f.at (Ae l k)/(f.at (Ae l k)-f.at (Ae l (k+1)))) (Ae l k) (Ae l (k+1))] else[]:=by
  split
  ·rfl
  ·rfl
 rw[e1,e2]
 rfl
theorem Ik (f:AF) (l:List Ai) (k:Nat):(DF f l k).length≤k:=by unfold DF;rw[List.length_map];exact NG _ _ _
theorem Rh (f:AF) (l:List Ai) (k:Nat):(FT f l k).length≤k+1:=by
 unfold FT
 have:=Ik f l k
 rw[List.length_append]
 have a:(if f.at (Ae l k)=0 then[Ae l k] else[]).length≤1:=by split<;>simp
 omega
structure SeZ (f:AF) (l:List Ai):Prop where
 v: ∀q∈l,Uh f q
 c: ∀i,i<l.length→f.at (Ae l i)*f.at (Ae l (i+1))<0→Uy (Ae l i) (Ae l (i+1)) (f.at (Ae l i)) (f.at (Ae l (i+1)))
 n2:(Ey f l).length≤2
 s: ∀x y,Ey f l=[x,y]→Sz2 y.1 x.1∧Sz2 y.2 x.2
def ptV (x:Ai):Value:= .agg #[str (Af x.1),str (Af x.2)]
def PB (l:List Ai):Value:=match l with
 |[x,y]=> .tuple #[ptV (if BX y x=true then y else x),ptV (if BX y x=true then x else y), .bool true, .int .i64 0]
 |_=> .tuple #[.agg #[str [],str []], .agg #[str [],str []], .bool false, .int .i64 0]
section
variable {P:Program} {N:Nat} {D:List Deferred} {ops:List Oper} {o:Oper} {rest:List Oper} {env:Env} {A A2:World→Prop} {R:Act→World→Prop}
theorem MU {d:Nat} {x:Operand} {a:Addr} (hg:Ay ops N env o=some true) (hd:o.dst=some d) (ho:o.op= .nilCheck x) (hx:evO N env x=some (.pointer (some a)))
  (h:WQ P N D ops A2 R rest ((d, .pointer (some a))::env) A):WQ P N D ops A2 R (o::rest) env A:=
 D7 hg hd (fun c e=>by rw[ho] at e;cases e) (fun _ W hρ _=>by simp[execOp,ho,hρ _ _ hx]) h
end
theorem K9 (f:AF) (hf:Nk f) (l:List Ai) (hz:SeZ f l) (p:Option Addr) (cap:Nat) (W:World) (h:Gv W p l):
  Ah Tryz.prog 60 #[slv p l.length cap,str (Af f.a),str (Af f.b),str (Af f.c)] W (fun _:Unit=>PB (Ey f l)) (fun _=>True) (fun _=>[]):=by
 have h3:=h.n3
 have hn:=h.n
 have hA:=h.m
 have hn0:0<l.length:=by omega
 have hzz:(l.length:Int)≠0:=by omega
 have hvl:(l.map f.at).length=l.length:=List.length_map _
 refine Ab (args:=[slv p l.length cap,str (Af f.a),str (Af f.b),str (Af f.c)]) Tryz.func60 I I I ?_
 refine zA (zB ?_)
 (refine A6 rfl rfl rfl rfl ?_;intro)
 (refine Ag Tryz.hZ rfl rfl rfl rfl ?_;intro)
 (refine Ag Tryz.hZ rfl rfl rfl rfl ?_;intro)
 refine wP I (wP I (Aa ?_))
 rename_i b4 b8 b9
 refine zE (zA (zA (zB (wB 0 I I I (wP I (wP I (wP I ?_)))))))
 refine AD Tryz.hZ tH I I I I I I I I I I I fun bS=> ?_
 refine wC I I (fun W1 hp=>Hy l p cap f.a f.b f.c hf.a hf.b hf.c hf.n bS 3 W1 (h.hp hp) (Al.of_bx hp 3 I I)) (wP I (Aa (zE (zA (zB (wP I (wP I (Aa (zE (zS I (zI (zE (zA ?_)))))))))))))
 refine zB ?_
 refine Au Tryz.hZ tH I I I I I I I I ?_
 (refine A6 rfl rfl rfl rfl ?_;intro)
 (refine Ag Tryz.hZ rfl rfl rfl rfl ?_;intro)
 refine wS 5 I I I (Aa ?_)
 rename_i bC b13
 refine zE (Ax ?_)
 refine Bg (X:= { s:Nat×Vec//s.2.OK 1 l.length (vsC (l.map f.at)) }) [true,true,true,true,true,false,false,false,false] (fun s=>[(4,Aj b4),(8,Aj b8),(9,Aj b9),(10, .bool false),(11, .int .i64 0),(13,Aj b13),(14,Aj s.1.1)]) (fun s=>[lsB b4 (slv p l.length cap),ptB b8 [] [],ptB b9 [] [],caB bC,ckB b13 bC,nmB s.1.1 (s.1.2.val l.length),s.1.2.bx 22 (vsC (l.map f.at))])
  4 [lsB b4 (slv p l.length cap),ptB b8 [] [],ptB b9 [] [],⟨bS,22,[str (Af f.a),str (Af f.b),str (Af f.c)],true,none⟩,caB bC,ckB b13 bC] Tryz.mixed (by kernel_rfl) ?_ ?_
 ·refine qB 0 I I I (qB 5 I I I (qP I (qP I (qP I (Cw (wX ?_))))))
  refine RS.cons ?_ (RS.cons ?_ (RS.nil))
  ·refine wD (X:=Nat×Nat×Nat×Nat) rfl rfl (fun W1 _=>Eh bC f W1) ?_;rintro⟨v4,v5,v6,v7⟩ _
   refine Aa (Ac (wX ?_))
   refine RS.cons ?_ (RS.cons ?_ (RS.nil))
   ·refine wD (X:=Vec) rfl rfl (fun W1 hp=>Cy l f.at 174 [Aj v4,Aj v5,Aj v6,Aj v7] (by kernel_rfl) hn p cap W1 (hA.hp hp) (fun q hq W2 hb=>C0 v4 v5 v6 v7 bC f q (hz.v q hq) W2 (IA.below (by first|exact⟨Al.of_bx hp 6 rfl rfl,Al.of_bx hp 7 rfl rfl,Al.of_bx hp 8 rfl rfl,Al.of_bx hp 9 rfl rfl,Bw hp 4 rfl,h.v.hp hp,h.t.hp hp⟩|exact⟨Al.of_bx hp 7 rfl rfl,Al.of_bx hp 8 rfl rfl,Al.of_bx hp 9 rfl rfl,Al.of_bx hp 10 rfl rfl,Bw hp 4 rfl,h.v.hp hp,h.t.hp hp⟩) hb))) ?_;rintro⟨pV1,cV1,jV1⟩ hV1;obtain⟨gV1,rfl⟩: ∃g,pV1=some g:=Option.ne_none_iff_exists'.1 (fun e=>absurd (hV1.nil e) (by omega))
    refine Aa (Ac (wX (wZ ?_)))
    refine Ag Tryz.hZ rfl rfl rfl rfl ?_;intro b14
    refine Aa (Ac (wX (wZ (wS 11 I I I (Aa (Ac ?_))))))
    refine A5 I (by((repeat (first|refine A9.same ?_|refine A9.off I ?_));exact tO)) ?_
    exact Av (⟨(b14,⟨some gV1,cV1,jV1⟩),hV1⟩: { s:Nat×Vec//s.2.OK 1 l.length (vsC (l.map f.at)) }) ⟨I,I,I,I,I,I,I,tO⟩ [0,1,2,4,5,11,10] (by decide) I
   ·refine Ag Tryz.hZ rfl rfl rfl rfl ?_;intro b14
    refine Aa (Ac (wX (wZ ?_)))
    refine wD (X:=Vec) rfl rfl (fun W1 hp=>Cy l f.at 174 [Aj v4,Aj v5,Aj v6,Aj v7] (by kernel_rfl) hn p cap W1 (hA.hp hp) (fun q hq W2 hb=>C0 v4 v5 v6 v7 bC f q (hz.v q hq) W2 (IA.below (by first|exact⟨Al.of_bx hp 6 rfl rfl,Al.of_bx hp 7 rfl rfl,Al.of_bx hp 8 rfl rfl,Al.of_bx hp 9 rfl rfl,Bw hp 4 rfl,h.v.hp hp,h.t.hp hp⟩|exact⟨Al.of_bx hp 7 rfl rfl,Al.of_bx hp 8 rfl rfl,Al.of_bx hp 9 rfl rfl,Al.of_bx hp 10 rfl rfl,Bw hp 4 rfl,h.v.hp hp,h.t.hp hp⟩) hb))) ?_;rintro⟨pV1,cV1,jV1⟩ hV1;obtain⟨gV1,rfl⟩: ∃g,pV1=some g:=Option.ne_none_iff_exists'.1 (fun e=>absurd (hV1.nil e) (by omega))
    refine Aa (Ac (wX (wZ (wS 10 I I I (Aa (Ac ?_))))))
    refine A5 I (by((repeat (first|refine A9.same ?_|refine A9.off I ?_));exact tO)) ?_
    exact Av (⟨(b14,⟨some gV1,cV1,jV1⟩),hV1⟩: { s:Nat×Vec//s.2.OK 1 l.length (vsC (l.map f.at)) }) ⟨I,I,I,I,I,I,I,tO⟩ [0,1,2,4,5,10,11] (by decide) I
  ·refine Ag Tryz.hZ rfl rfl rfl rfl ?_;intro b14
   refine Aa (Ac (wX (wZ ?_)))
   refine wD (X:=Nat×Nat×Nat×Nat) rfl rfl (fun W1 _=>Eh bC f W1) ?_;rintro⟨v4,v5,v6,v7⟩ _
   refine Aa (Ac (wX (wZ ?_)))
   refine wD (X:=Vec) rfl rfl (fun W1 hp=>Cy l f.at 174 [Aj v4,Aj v5,Aj v6,Aj v7] (by kernel_rfl) hn p cap W1 (hA.hp hp) (fun q hq W2 hb=>C0 v4 v5 v6 v7 bC f q (hz.v q hq) W2 (IA.below (by first|exact⟨Al.of_bx hp 6 rfl rfl,Al.of_bx hp 7 rfl rfl,Al.of_bx hp 8 rfl rfl,Al.of_bx hp 9 rfl rfl,Bw hp 4 rfl,h.v.hp hp,h.t.hp hp⟩|exact⟨Al.of_bx hp 7 rfl rfl,Al.of_bx hp 8 rfl rfl,Al.of_bx hp 9 rfl rfl,Al.of_bx hp 10 rfl rfl,Bw hp 4 rfl,h.v.hp hp,h.t.hp hp⟩) hb))) ?_;rintro⟨pV1,cV1,jV1⟩ hV1;obtain⟨gV1,rfl⟩: ∃g,pV1=some g:=Option.ne_none_iff_exists'.1 (fun e=>absurd (hV1.nil e) (by omega))
   refine Aa (Ac (wX (wZ (wS 6 I I I (Aa (Ac ?_))))))
   refine A5 I (by((repeat (first|refine A9.same ?_|refine A9.off I ?_));exact tO)) ?_
   exact Av (⟨(b14,⟨some gV1,cV1,jV1⟩),hV1⟩: { s:Nat×Vec//s.2.OK 1 l.length (vsC (l.map f.at)) }) ⟨I,I,I,I,I,I,I,tO⟩ [0,1,2,4,5,6,11] (by decide) I
 rintro⟨⟨b14,⟨pV,cV,jV⟩⟩,hV⟩
 obtain⟨gV,rfl⟩: ∃g,pV=some g:=by
  cases pV with
  |none=>have:=hV.nil rfl;omega
  |some g=>exact⟨g,rfl⟩
 have hcapV:=(hV.cap (by simp)).1
 refine zE (zA (zA (zB (wB 4 I I I ?_))))
 refine Bj I I I I ?_
 refine wP I (wB 3 I I I (wP I (Aa (zE (zS I (zI (zE (zA (zB ?_)))))))))
 (refine Ag Tryz.hZ rfl rfl rfl rfl ?_;intro)
 refine Aa ?_
 rename_i b15
 refine zE (zA (zA (zB (wB 0 I I I ?_))))
 refine wD (X:=Nat) I I (fun W1 _=>D9 p l.length cap W1) ?_
 intro bp _
 refine Aa (zE (zH ?_))
 refine FZ ?_
 refine F8 (X:=Nat×Vec) (fun x=>[lsB b4 (slv p l.length cap),ptB b8 [] [],ptB b9 [] [],caB bC,ckB b13 bC,nmB b14 (.slice (some ⟨gV,0,none⟩) l.length cV),⟨gV,22,vsC (l.map f.at)++jV,true,none⟩,lsB b15 (x.2.val (DF f l x.1).length),lsB bp (slv p l.length cap),x.2.bx 44 (ptC (DF f l x.1))])
  (fun j x=>x.1=j∧x.2.OK 2 (DF f l x.1).length (ptC (DF f l x.1))) (fun _ _=>False) (0,Vec.empty) rfl (by kernel_rfl) (Ea l bp p cap (by omega)) (fun _=>rfl)
  ⟨rfl,Vec.OK.empty 2⟩ [] rfl (fun k x W1 _ hp=>⟨Al.of_bx hp 8 rfl rfl,hA.hp hp⟩) ?_ ?_ (fun _ _ _ _ _ h=>h.elim)
 ·rintro k ⟨k',O⟩ d l' rec L hk ⟨e1,hO⟩ hrec
  obtain rfl:k'=k:=e1
  have hk:k'<l.length:=hk
  have hO:O.OK 2 (DF f l k').length (ptC (DF f l k')):=hO
  have hol:=Ik f l k'
  have hml:=Rh f l k'
  have hsl:=Ik f l (k'+1)
  have hk2:(k'+1)%l.length<l.length:=Nat.mod_lt _ hn0
  have ev: ∀i (hi:i<l.length),(l.map f.at)[i]'(by rw[hvl];exact hi)=f.at (Ae l i):=fun i hi=>by rw[List.getElem_map,B2 hi]
  have hr1: ∀ {W0 W1:World} {bxs:List Bx} (hp:Hp W0 bxs W1) (m:Nat) (hm:nth bxs m=some ⟨gV,22,vsC (l.map f.at)++jV,true,none⟩),Al W1 gV (0+k'*1) [str (Af (f.at (Ae l k')))]:=fun hp m hm=>by
   have:=PL hp m hm (i:=k') (by rw[hvl];exact hk)
   rwa [ev k' hk] at this
  have hr2: ∀ {W0 W1:World} {bxs:List Bx} (hp:Hp W0 bxs W1) (m:Nat) (hm:nth bxs m=some ⟨gV,22,vsC (l.map f.at)++jV,true,none⟩),Al W1 gV (0+((k'+1)%l.length)*1) [str (Af (f.at (Ae l (k'+1))))]:=fun hp m hm=>by
   have:=PL hp m hm (i:=(k'+1)%l.length) (by rw[hvl];exact hk2)
   rwa [ev _ hk2,Cb] at this
  obtain⟨u,hu⟩: ∃u,u=f.at (Ae l k'):=⟨_,rfl⟩
  obtain⟨v,hvv⟩: ∃v,v=f.at (Ae l (k'+1)):=⟨_,rfl⟩
  have hsu:=Q9 f l k'
  have hmu:FT f l k'=DF f l k'++(if u=0 then[Ae l k'] else[]):=by rw[hu];rfl
  have hcz:=hz.c k' hk
  rw[←hu, ←hvv] at hsu hcz
  rw[←hu] at hr1
  rw[←hvv] at hr2
  refine zA (zB (wP I (Aa (zE (zB ?_)))))
  (refine Ag Tryz.hZ rfl rfl rfl rfl ?_;intro)
  refine wS 13 I I I (Aa ?_)
  rename_i b17
  refine CU 12 hrec I ?_
  refine CY (zA (zU (qB 6 I I I (qP I ?_))))
  refine qJ ?_
  refine qL 0 I I (fun W1 hp=>hr1 hp 7 I) I (qC I I (fun W1 _=>DV u W1) (qB 6 I I I (qP I (qP I (qV 62 ((k'+1:Nat):Int) I (Az (by omega)) (qB 1 I I I (qP I ?_)))))))
  refine DJ I I I I I hzz ?_
  refine Fl 65 (.int .i64 (((k'+1)%l.length:Nat):Int)) I I ?_
  refine qJ ?_
  refine qL 0 I I (fun W1 hp=>hr2 hp 7 I) I (qC I I (fun W1 _=>DV v W1) (qP I (qP I (AR (Aa (zE (zA (zA (zB (wP I (wP I (wU 70 (decide (u=0)) I (Tl u) (Aa ?_)))))))))))))
  refine AG ?_
  refine AA (X:=Vec) (fun _=>[(4,Aj b4),(8,Aj b8),(9,Aj b9),(10, .bool false),(11, .int .i64 0),(13,Aj b13),(14,Aj b14),(15,Aj b15),(16, .int .i64 (k':Nat)),(17,Aj b17),(18, .int .i64 (Ep u)),(19, .int .i64 (Ep v))])
   (fun O=>[Bz L,lsB b4 (slv p l.length cap),ptB b8 [] [],ptB b9 [] [],caB bC,ckB b13 bC,nmB b14 (.slice (some ⟨gV,0,none⟩) l.length cV),⟨gV,22,vsC (l.map f.at)++jV,true,none⟩,lsB b15 (O.val (FT f l k').length),lsB bp (slv p l.length cap),O.bx 44 (ptC (FT f l k')),B7 d,Bc l' rec .busy none,⟨b17,90,(sdV (Ae l k') (Ae l (k'+1))).cells.toList,true,none⟩])
   (fun O=>O.OK 2 (FT f l k').length (ptC (FT f l k'))) ?_ ?_
  ·refine As I (fun hc1=> ?_) (fun hc1=> ?_)
   ·rw[if_pos (of_decide_eq_true hc1)] at hmu
    have hlm:(DF f l k').length+1=(FT f l k').length:=by rw[hmu,List.length_append];rfl
    refine zB (wB 8 I I I ?_)
    refine Ev Tryz.underlying90 Tryz.sizeOf44 I I I I I ⟨by decide,by decide⟩ ?_
    refine wB 13 I I I ?_
    refine AD Tryz.hZ tH I I I I I I I I I I I fun bS=> ?_
    refine BN (V:=O) (len:=(DF f l k').length) (xs:=ptC (DF f l k')) 10 14 Tryz.vec37 (FT f l k').length (ptC (FT f l k')) I I I I I I I I I I I hO I I hlm (by rw[hmu,Gf];rfl) (by simp only[maxLen];omega) (by omega) I ?_
    intro gO cO jO hO1
    exact wS 8 I I I (Aa (An ⟨some gO,cO,jO⟩ hO1 ⟨I,I,I,I,I,I,I,I,I,I,I,I,tO⟩ [_] I))
   ·rw[if_neg (of_decide_eq_false hc1),List.append_nil] at hmu
    exact zI (An O (by rw[hmu];exact hO) ⟨I,I,I,I,I,I,I,I,I,I,I,I,tO⟩ [] (by rw[hmu];rfl))
  intro O1 hO1
  have hO1:O1.OK 2 (FT f l k').length (ptC (FT f l k')):=hO1
  refine zA (zB (wP I (wP I (wP I (wP I (wU 79 (decide (u*v<0)) I (Qn u v) (Aa (zE ?_))))))))
  refine As I (fun hc2=> ?_) (fun hc2=> ?_)
  ·have hc2':u*v<0:=of_decide_eq_true hc2
   rw[if_pos hc2'] at hsu
   have hlm:(FT f l k').length+1=(DF f l (k'+1)).length:=by rw[hsu,List.length_append];rfl
   refine Bg (X:= { O:Vec//O.OK 2 (DF f l (k'+1)).length (ptC (DF f l (k'+1))) }) [true,true,true,true,true,true,true,true,true,true,true,true,true,true,true,true,true,true,true,false,false,false] (fun _=>[(4,Aj b4),(8,Aj b8),(9,Aj b9),(10, .bool false),(11, .int .i64 0),(13,Aj b13),(14,Aj b14),(15,Aj b15)])
    (fun O=>[Bz L,lsB b4 (slv p l.length cap),ptB b8 [] [],ptB b9 [] [],caB bC,ckB b13 bC,nmB b14 (.slice (some ⟨gV,0,none⟩) l.length cV),⟨gV,22,vsC (l.map f.at)++jV,true,none⟩,lsB b15 (O.1.val (DF f l (k'+1)).length),lsB bp (slv p l.length cap),O.1.bx 44 (ptC (DF f l (k'+1))),B7 d,Bc l' rec .busy none])
    3 [Bz L,lsB b4 (slv p l.length cap),ptB b8 [] [],ptB b9 [] [],caB bC,ckB b13 bC,nmB b14 (.slice (some ⟨gV,0,none⟩) l.length cV),⟨gV,22,vsC (l.map f.at)++jV,true,none⟩,lsB b15 (O1.val (FT f l k').length),lsB bp (slv p l.length cap),O1.bx 44 (ptC (FT f l k')),B7 d,Bc l' rec .busy none,⟨b17,90,(sdV (Ae l k') (Ae l (k'+1))).cells.toList,true,none⟩] Tryz.mixed (by kernel_rfl) ?_ ?_
   ·refine qB 8 I I I (qB 5 I I I ?_)
    refine Bq Tryz.underlying90 Tryz.sizeOf44 I I I I I ⟨by decide,by decide⟩ ?_
    refine qB 13 I I I ?_
    refine Bq Tryz.underlying90 Tryz.sizeOf44 I I I I I ⟨by decide,by decide⟩ ?_
    refine qB 13 I I I (qB 6 I I I (qP I ?_))
    refine qJ ?_
    refine qL 0 I I (fun W1 hp=>hr1 hp 7 I) I (qB 6 I I I (qP I (qP I (qV 92 ((k'+1:Nat):Int) I (Az (by omega)) (qB 1 I I I (qP I ?_))))))
    refine DJ I I I I I hzz ?_
    refine Fl 95 (.int .i64 (((k'+1)%l.length:Nat):Int)) I I ?_
    refine qJ ?_
    refine qL 0 I I (fun W1 hp=>hr2 hp 7 I) I (qC I I (fun W1 hp=>JL bC (Ae l k') (Ae l (k'+1)) u v (hcz hc2') W1 (Bw hp 4 I) (h.v.hp hp) (h.t.hp hp)) (Cw (wX (wZ ?_))))
    refine AD Tryz.hZ tH I I I I I I I I I I I fun bS=> ?_
    refine Aa (Ac (wX (wZ ?_)))
    refine BN (V:=O1) (len:=(FT f l k').length) (xs:=ptC (FT f l k')) 10 14 Tryz.vec37 (DF f l (k'+1)).length (ptC (DF f l (k'+1))) rfl rfl rfl rfl rfl rfl rfl rfl rfl rfl rfl hO1 rfl rfl hlm (by rw[hsu,Gf];rfl) (by simp only[maxLen];omega) (by omega) rfl ?_;intro gO cO jO hO2
    refine Aa (Ac (wY (wZ (wS 8 I I I (Aa (Ac ?_))))))
    refine AV I (by kernel_rfl) ?_
    exact Av (⟨⟨some gO,cO,jO⟩,hO2⟩: { O:Vec//O.OK 2 (DF f l (k'+1)).length (ptC (DF f l (k'+1))) }) ⟨I,I,I,I,I,I,I,I,tO⟩ [0,1,2,3,4,5,6,7,8,9,10,11,12] (by decide) I
   rintro⟨O2,hO2⟩
   exact zN (Ci 12 (k'+1,O2) hrec I ⟨I,hO2⟩ [] I)
  ·rw[if_neg (of_decide_eq_false hc2),List.append_nil] at hsu
   exact zI (zN (Ci 12 (k'+1,O1) hrec I ⟨I,by show O1.OK 2 (DF f l (k'+1)).length (ptC (DF f l (k'+1)));rw[hsu];exact hO1⟩ [_] (by rw[hsu];rfl)))
 ·rintro⟨k',O⟩ d l' rec ⟨e1,hO⟩
  obtain rfl:k'=l.length:=e1
  have hoe:DF f l l.length=Ey f l:=rfl
  have hO:O.OK 2 (Ey f l).length (ptC (Ey f l)):=hO
  have hol:=Ik f l l.length
  rw[hoe] at hol
  rw[hoe]
  have hn2:=hz.n2
  have hs:=hz.s
  generalize Ey f l=S at hO hol hn2 hs⊢
  obtain⟨q,cc,hval⟩: ∃q cc,O.val S.length= .slice q S.length cc:=by
   obtain⟨pO,cO,jO⟩:=O
   cases pO with
   |none=>
    have e:S.length=0:=hO.nil rfl
    exact⟨none,0,by rw[e];rfl⟩
   |some g=>exact⟨some ⟨g,0,none⟩,cO,rfl⟩
  refine zN (zE (zA (zA (zB (wB 4 I I I ?_)))))
  refine Bj I I I I ?_
  refine wP I (wB 3 I I I (wP I ?_))
  refine Ad 105 (.bool false) I I ?_
  refine wP I (wB 7 I I I ?_)
  refine Ad 107 (.slice q S.length cc) I hval ?_
  refine wP I (wP I ?_)
  by_cases h2:S.length<2
  ·have eV:PB S= .tuple #[.agg #[str [],str []], .agg #[str [],str []], .bool false, .int .i64 0]:=by
    match S,h2 with
    |[],_=>rfl
    |[_],_=>rfl
    |_::_::_,h2=>simp at h2;omega
   refine wU 109 true I (dT (by omega)) (wP I (Aa (zE (zR I (Ax ?_)))))
   refine Bg (X:=Unit) [true,true,true,true,true,true,false,false,false,false] (fun _=>[(8,Aj b8),(9,Aj b9),(10, .bool false),(11, .int .i64 0)]) (fun _=>[ptB b8 [] [],ptB b9 [] [],B7 d])
    4 [lsB b4 (slv p l.length cap),⟨b8,44,[str [],str []],false,none⟩,⟨b9,44,[str [],str []],false,none⟩,caB bC,ckB b13 bC] Tryz.mixed (by kernel_rfl) ?_ ?_
   ·refine Hc Tryz.hZ tH I I I I I I I I ?_
    refine Hc Tryz.hZ tH I I I I I I I I ?_
    refine qB 4 I I I ?_
    refine MU I I I I ?_
    refine qP I (qB 3 I I I (Cw (wX (wZ (wS 1 I I I (Aa (Ac (wX (wZ (wS 2 I I I (Aa (Ac (wX ?_)))))))))))))
    refine wZ (wP I (Aa (Ac (wX (wZ (wP I (Aa (Ac ?_))))))))
    refine A5 I (by((repeat (first|refine A9.same ?_|refine A9.off I ?_));exact tO)) ?_
    exact Av () ⟨I,I,I,I,tO⟩ [1,2,10] (by decide) I
   intro _
   refine zE (zO (zP ?_))
   refine CD 2 I ?_
   exact JC tH I (.cell 0 I I I I I) (.cell 1 I I I I I) (.tmp I) (.tmp I) () eV.symm tO fun W _=>Ao.nil _ _
  ·obtain⟨x,y,rfl⟩: ∃x y,S=[x,y]:=by
    match S,h2,hn2 with
    |[x,y],_,_=>exact⟨x,y,rfl⟩
    |[],h2,_=>exact absurd Nat.zero_lt_two h2
    |[_],h2,_=>exact absurd (Nat.lt_succ_self 1) h2
    |_::_::_::_,_,hn2=>simp at hn2
   obtain⟨a,b,eab,eV⟩: ∃a b,D5 x y=[a,b]∧PB [x,y]= .tuple #[ptV a,ptV b, .bool true, .int .i64 0]:=by
    show∃a b,(if BX y x=true then[y,x] else[x,y])=[a,b]∧Value.tuple #[ptV (if BX y x=true then y else x),ptV (if BX y x=true then x else y), .bool true, .int .i64 0]=Value.tuple #[ptV a,ptV b, .bool true, .int .i64 0]
    cases BX y x with
    |true=>exact⟨y,x,rfl,rfl⟩
    |false=>exact⟨x,y,rfl,rfl⟩
   obtain⟨hs1,hs2⟩:=hs x y rfl
   obtain⟨pO,cO,jO⟩:=O
   obtain⟨gO,rfl⟩: ∃g,pO=some g:=Option.ne_none_iff_exists'.1 (fun e=>absurd (hO.nil e) (by show¬2=0;decide))
   refine Ad 109 (.bool false) I I ?_
   refine wP I (Aa (zE (zS I (zI (zE (zA (zB (wB 7 I I I (wB 4 I I I (wP I ?_))))))))))
   refine Gy (X:=Unit) (val:=fun _=> .tuple #[]) (Φ:=fun _=>True) (capt:=[]) 9 (B:=Dj gO [x,y] jO) (L1:=[]) (L2:=[]) (b:=gO) (ob:= .cells (ptC [x,y]++jO).toArray 44 (0,0)) (fun _=>Dj gO (D5 x y) jO) (g':=fun _=>gO) (o':=fun _=> .cells (ptC (D5 x y)++jO).toArray 44 (0,0))
    rfl rfl rfl rfl rfl rfl (by kernel_rfl) rfl rfl (fun _ _=>rfl) (fun W1 hp=> ?_) (fun _ _=> ?_)
   ·have hc:=hp.own.cell 9 _ rfl (gO, .cells (ptC [x,y]++jO).toArray 44 (0,0)) (List.mem_cons_self ..)
    have hne:bC≠gO:=hp.own.apart 3 9 _ _ rfl rfl (by decide) (bC,_) (List.mem_cons_self ..) (gO,_) (List.mem_cons_self ..)
    exact NI bC W1 gO cO x y jO hc.1 ⟨fun W2 hk=>⟨(Bw hp 3 I).keep hk hne,h.v.below (hk.below hp.below hc.2),h.t.below (hk.below hp.below hc.2)⟩,hs1,hs2⟩
   rw[eab]
   refine Aa (zE (zA (zA (zB (wB 4 I I I ?_)))))
   refine Bj I I I I ?_
   refine wP I (wB 3 I I I (wP I (Aa (zE (zS I (zI (zE (Ax ?_))))))))
   refine Bg (X:=Unit) [true,true,true,true,true,true,false,false,false,false] (fun _=>[(8,Aj b8),(9,Aj b9),(10, .bool true),(11, .int .i64 0)]) (fun _=>[ptB b8 (Af a.1) (Af a.2),ptB b9 (Af b.1) (Af b.2),B7 d])
    4 [lsB b4 (slv p l.length cap),⟨b8,44,[str [],str []],false,none⟩,⟨b9,44,[str [],str []],false,none⟩,caB bC,ckB b13 bC,nmB b14 (.slice (some ⟨gV,0,none⟩) l.length cV),⟨gV,22,vsC (l.map f.at)++jV,true,none⟩,lsB b15 (.slice (some ⟨gO,0,none⟩) 2 cO),lsB bp (slv p l.length cap),Dj gO [a,b] jO] Tryz.mixed (by kernel_rfl) ?_ ?_
   ·refine qB 7 I I I (qI I I (by decide) (by decide) (qL 0 I I (fun W1 hp=>R0 hp 9 I) I (qB 7 I I I (qI I I (by decide) (by decide) (qL 0 I I (fun W1 hp=>Sl hp 9 I) I (Cw (wX (wZ (wS 1 I I I (Aa (Ac (wX (wZ ?_)))))))))))))
    refine wS 2 I I I (Aa (Ac (wX (wZ (wP I (Aa (Ac (wX (wZ (wP I (Aa (Ac ?_))))))))))))
    refine A5 I (by((repeat (first|refine A9.same ?_|refine A9.off I ?_));exact tO)) ?_
    exact Av () ⟨I,I,I,I,tO⟩ [1,2,10] (by decide) I
   intro _
   refine zE (zO ?_)
   refine CD 2 I ?_
   exact JC tH I (.cell 0 I I I I I) (.cell 1 I I I I I) (.tmp I) (.tmp I) () eV.symm tO fun W _=>Ao.nil _ _
end
section
open Go Go.RowKit Go.Am Go.Lib
def sq4:List Ai:=[(0,0),(2,0),(2,2),(0,2)]
def tr3:List Ai:=[(0,0),(1,0),(0,1)]
def Oo:AF:=⟨1,1,1⟩
def Mk:AF:=⟨1, -1,0⟩
theorem Rw:Bb sq4:=by
 refine⟨by decide,by decide+kernel,fun i j k h1 h2 h3=> ?_⟩
 have h3:k<4:=h3
 have:(i=0∧j=1∧k=2)∨(i=0∧j=1∧k=3)∨(i=0∧j=2∧k=3)∨(i=1∧j=2∧k=3):=by omega
 rcases this with⟨rfl,rfl,rfl⟩|⟨rfl,rfl,rfl⟩|⟨rfl,rfl,rfl⟩|⟨rfl,rfl,rfl⟩<;>decide+kernel
theorem R9:Bb tr3:=by
 refine⟨by decide,by decide+kernel,fun i j k h1 h2 h3=> ?_⟩
 have h3:k<3:=h3
 obtain⟨rfl,rfl,rfl⟩:i=0∧j=1∧k=2:=by omega
 decide+kernel
theorem Tq:A4 Oo sq4=tr3:=by decide+kernel
theorem Ms:Ey Mk sq4=[(0,0),(2,2)]:=by decide+kernel
theorem TF:BX ((2,2):Ai) (0,0)=false:=by decide+kernel
theorem TE:Cs tr3/2=1/2:=by decide+kernel
theorem SP:HM tr3/(3*Cs tr3)=1/3:=by decide+kernel
theorem T8:H1 tr3/(3*Cs tr3)=1/3:=by decide+kernel
theorem Jv:Af (0:Rat)=[48]:=Dr
theorem U2:Af (1:Rat)=[49]:=by decide+kernel
theorem CC:Af (2:Rat)=[50]:=by decide+kernel
theorem U8:Af (-1:Rat)=[45,49]:=by decide+kernel
theorem U6:Af (1/2:Rat)=[49,47,50]:=by decide+kernel
theorem UI:Af (1/3:Rat)=[49,47,51]:=by decide+kernel
theorem HJ {x y:Int} (hx:x.natAbs<10^8) (hy:y.natAbs<10^8):Hm 8 ((x:Rat),(y:Rat)):=⟨x,y,1,by decide,hx,hy,by decide,Rat.mul_one _,Rat.mul_one _⟩
theorem OV: ∀p∈sq4,Hm 8 p:=fun p hp=>by
 rcases List.mem_cons.1 hp with rfl|hp
 ·exact HJ (x:=0) (y:=0) (by decide) (by decide)
 rcases List.mem_cons.1 hp with rfl|hp
 ·exact HJ (x:=2) (y:=0) (by decide) (by decide)
 rcases List.mem_cons.1 hp with rfl|hp
 ·exact HJ (x:=2) (y:=2) (by decide) (by decide)
 rw[List.mem_singleton.1 hp]
 exact HJ (x:=0) (y:=2) (by decide) (by decide)
theorem Py: ∀p∈tr3,Hm 8 p:=fun p hp=>by
 rcases List.mem_cons.1 hp with rfl|hp
 ·exact HJ (x:=0) (y:=0) (by decide) (by decide)
 rcases List.mem_cons.1 hp with rfl|hp
 ·exact HJ (x:=1) (y:=0) (by decide) (by decide)
 rw[List.mem_singleton.1 hp]
 exact HJ (x:=0) (y:=1) (by decide) (by decide)
theorem R5:LnH Oo:=⟨1,1,1,1,by decide,by decide,by decide,by decide,by decide,Rat.mul_one _,Rat.mul_one _,Rat.mul_one _⟩
theorem RX:LnH Mk:=⟨1, -1,0,1,by decide,by decide,by decide,by decide,by decide,Rat.mul_one _,Rat.mul_one _,Rat.mul_one _⟩
theorem RA {f:AF} (hf:LnH f) (n:f.a≠0∨f.b≠0):Nk f:=⟨hf.sz.1.ok (by decide),hf.sz.2.1.ok (by decide),hf.sz.2.2.ok (by decide),n⟩
theorem TZ:Nk Oo:=RA R5 (.inl (by decide+kernel))
theorem Uz:Nk Mk:=RA RX (.inl (by decide+kernel))
theorem IC.of_hm {e k:Nat} {l:List Ai} (hl: ∀p∈l,Hm e p) (h:e≤k):IC k l:=fun p hp=>⟨(hl p hp).sz.1.mono h,(hl p hp).sz.2.mono h⟩
theorem s2 {q:Rat} (h:q.num.natAbs<10^2∧q.den<10^2):szQ q 2:=h
theorem ez2 {p q:Rat} (h:p.num.natAbs<10^2∧p.den<10^2) (h':q.num.natAbs<10^2∧q.den<10^2):Sz2 p q:=sz2 (s2 h) (s2 h') (by decide)
theorem Pv.of {p q:Ai} (hp:szQ p.1 8∧szQ p.2 8) (hq:szQ q.1 8∧szQ q.2 8):Pv p q:=⟨sz2 hp.1 hq.2 (by decide),sz2 hq.1 hp.2 (by decide),sz2 (hp.1.mul hq.2) (hq.1.mul hp.2) (by decide)⟩
theorem TK (i:Nat):Pv (Ae tr3 i) (Ae tr3 (i+1)):=Pv.of ((IC.of_hm Py (Nat.le_refl 8)).at_ (by decide) i) ((IC.of_hm Py (Nat.le_refl 8)).at_ (by decide) (i+1))
theorem lt3 {i:Nat} (h:i<tr3.length):i=0∨i=1∨i=2:=by have h:i<3:=h;omega
theorem TH: ∀i,i<tr3.length→Sz2 (crK tr3 i) (EF (Ae tr3 i) (Ae tr3 (i+1))):=fun i hi=>by
 rcases lt3 hi with rfl|rfl|rfl<;>exact ez2 (by decide+kernel) (by decide+kernel)
theorem U4:ArZ tr3:=⟨fun i _=>TK i,TH,ez2 (by decide+kernel) (by decide+kernel)⟩
theorem Uo:CeZ tr3:=by
 refine⟨fun i _=>TK i,TH,fun i hi=> ?_,fun i hi=> ?_,fun i hi=> ?_,fun i hi=> ?_,fun i hi=> ?_,fun i hi=> ?_,ez2 (by decide+kernel) (by decide+kernel),by decide+kernel,ez2 (by decide+kernel) (by decide+kernel),ez2 (by decide+kernel) (by decide+kernel)⟩<;>
  rcases lt3 hi with rfl|rfl|rfl<;>exact ez2 (by decide+kernel) (by decide+kernel)
theorem Ue:SeZ Mk sq4:=by
 have h:=ClZ.of RX (by decide) OV
 refine⟨h.v,h.c,by rw[Ms];decide,fun x y e=> ?_⟩
 rw[Ms] at e
 cases e
 exact⟨ez2 (by decide+kernel) (by decide+kernel),ez2 (by decide+kernel) (by decide+kernel)⟩
theorem Su:PB (Ey Mk sq4)= .tuple #[.agg #[str [48],str [48]], .agg #[str [50],str [50]], .bool true, .int .i64 0]:=by
 rw[Ms]
 show Value.tuple #[ptV (if BX ((2,2):Ai) (0,0)=true then _ else _),ptV (if BX ((2,2):Ai) (0,0)=true then _ else _), .bool true, .int .i64 0]=_
 rw[TF]
 show Value.tuple #[.agg #[str (Af 0),str (Af 0)], .agg #[str (Af 2),str (Af 2)], .bool true, .int .i64 0]=_
 rw[Jv,CC]
theorem Ux:ptC sq4=[str [48],str [48],str [50],str [48],str [50],str [50],str [48],str [50]]:=by
 show[str (Af 0),str (Af 0),str (Af 2),str (Af 0),str (Af 2),str (Af 2),str (Af 0),str (Af 2)]=_
 rw[Jv,CC]
theorem Uf:ptC tr3=[str [48],str [48],str [49],str [48],str [48],str [49]]:=by
 show[str (Af 0),str (Af 0),str (Af 1),str (Af 0),str (Af 0),str (Af 1)]=_
 rw[Jv,U2]
theorem FC {W:World} {b off:Nat} {l:List Ai} (h:Al W b off (ptC l)):D0 W (some ⟨b,off,none⟩) l:= .inr ⟨b,off,rfl,fun i hi=>by
 have e:ptC l=ptC (l.take i)++([str (Af l[i].1),str (Af l[i].2)]++ptC (l.drop (i+1))):=by
  have e0:l=l.take i++l[i]::l.drop (i+1):=by rw[←List.drop_eq_getElem_cons hi,List.take_append_drop]
  conv=>lhs;rw[e0]
  unfold ptC
  rw[List.flatMap_append,List.flatMap_cons]
 rw[e] at h
 have h1:=Hh h
 rw[Bf,List.length_take,Nat.min_eq_left (by omega)] at h1
 have h2:=Cx h1
 exact h2⟩
end
section
open Go Go.RowKit Go.Am Go.Lib
set_option maxRecDepth 10000
-- BOXES 6
-- CODE2
theorem Ni {W:World} {p:Option Addr} (h:D0 W p sq4) (hv:Ck W) (ht:AS W):Gv W p sq4:=⟨Rw,by decide,by decide,IC.of_hm OV (by decide),h,hv,ht⟩
theorem Ob {W:World} {p:Option Addr} (h:D0 W p tr3) (hv:Ck W) (ht:AS W):Gv W p tr3:=⟨R9,by decide,by decide,IC.of_hm Py (by decide),h,hv,ht⟩
abbrev UH (b:Nat):Bx:=⟨b,44,ptC sq4,true,none⟩
theorem RI (p:Option Addr) (cap:Nat) (W:World) (h:Gv W p sq4):
  Ah Tryz.prog 22 #[slv p 4 cap,str [49],str [49],str [49]] W (fun V:Vec=> .tuple #[V.val 3, .int .i64 0]) (fun V=>V.OK 2 3 (ptC tr3)) (fun V=>[V.bx 44 (ptC tr3)]):=by
 have h1:=Jh Oo TZ sq4 (ClZ.of R5 (by decide) OV) p cap W h
 rw[Tq] at h1
 have e:[Af Oo.a,Af Oo.b,Af Oo.c]=[[49],[49],[49]]:=by show[Af 1,Af 1,Af 1]=_;rw[U2]
 simp only[List.cons.injEq,and_true] at e
 obtain⟨e1,e2,e3⟩:=e
 rw[e1,e2,e3] at h1
 exact h1
theorem RT (p:Option Addr) (cap:Nat) (W:World) (h:Gv W p tr3):
  Ah Tryz.prog 29 #[slv p 3 cap] W (fun _:Unit=> .tuple #[str [49,47,50], .int .i64 0]) (fun _=>True) (fun _=>[]):=by
 have h1:=Nm tr3 U4 p cap W h
 rw[TE,U6] at h1
 exact h1
theorem OE (p:Option Addr) (cap:Nat) (W:World) (h:Gv W p tr3):
  Ah Tryz.prog 59 #[slv p 3 cap] W (fun _:Unit=> .tuple #[.agg #[str [49,47,51],str [49,47,51]], .int .i64 0]) (fun _=>True) (fun _=>[]):=by
 have h1:=Lg tr3 Uo p cap W h
 rw[SP,T8,UI] at h1
 exact h1
theorem N5 (p:Option Addr) (cap:Nat) (W:World) (h:Gv W p sq4):
  Ah Tryz.prog 60 #[slv p 4 cap,str [49],str [45,49],str [48]] W (fun _:Unit=> .tuple #[.agg #[str [48],str [48]], .agg #[str [50],str [50]], .bool true, .int .i64 0]) (fun _=>True) (fun _=>[]):=by
 have h1:=K9 Mk Uz sq4 Ue p cap W h
 rw[Su] at h1
 have e:[Af Mk.a,Af Mk.b,Af Mk.c]=[[49],[45,49],[48]]:=by show[Af 1,Af (-1),Af 0]=_;rw[U2,U8,Jv]
 simp only[List.cons.injEq,and_true] at e
 obtain⟨e1,e2,e3⟩:=e
 rw[e1,e2,e3] at h1
 exact h1
theorem Cz (W:World) (hv:Ck W) (ht:AS W):
  Ah Tryz.prog 21 #[] W (fun _:Unit=> .bool true) (fun _=>True) (fun _=>[]):=by
 refine Ab (args:=[]) Tryz.func21 I I I ?_
 refine zA (zB (wP I (Aa (zE (zA (zB ?_))))))
 iterate 4 refine Au Tryz.hZ tH I I I I I I I I ?_
 refine AD Tryz.hZ tH I I I I I I I I I I I fun bS=> ?_
 refine wP I (Aa ?_)
 refine Ot (bxs':=[UH bS]) (by show _=[(⟨bS,44,ptC sq4,true,none⟩:Bx)];rw[Ux];rfl) ?_
 refine zE (zA (zB (wP I ?_)))
 refine wD (X:=Vec) I I (fun W1 hp=>RI (some ⟨bS,0,none⟩) 4 W1 (Ni (FC (Al.of_bx hp 0 I I)) (hv.hp hp) (ht.hp hp))) ?_
 rintro⟨pV,cV,jV⟩ hV
 obtain⟨gV,rfl⟩: ∃g,pV=some g:=Option.ne_none_iff_exists'.1 (fun e=>absurd (hV.nil e) (by decide))
 iterate 5 refine wP I ?_
 refine Aa (zE (zA (zB (wP I (wC I I (fun W1 hp=>RT (some ⟨gV,0,none⟩) cV W1 (Ob (FC (Cx (Al.of_bx hp 1 I I:Al W1 gV 0 (ptC tr3++jV)))) (hv.hp hp) (ht.hp hp))) ?_)))))
 iterate 5 refine wP I ?_
 refine Aa (zE (zA (zB (wP I (wC I I (fun W1 hp=>OE (some ⟨gV,0,none⟩) cV W1 (Ob (FC (Cx (Al.of_bx hp 1 I I:Al W1 gV 0 (ptC tr3++jV)))) (hv.hp hp) (ht.hp hp))) (wP I (wP I (wP I ?_))))))))
 (refine Ag Tryz.hZ rfl rfl rfl rfl ?_;intro)
 refine wS 2 I I I (wP I (Aa ?_))
 rename_i b6
 refine zE (zA (zB (wP I (wC I I (fun W1 hp=>N5 (some ⟨bS,0,none⟩) 4 W1 (Ni (FC (Al.of_bx hp 0 I I)) (hv.hp hp) (ht.hp hp))) ?_))))
 iterate 5 refine wP I ?_
 (refine Ag Tryz.hZ rfl rfl rfl rfl ?_;intro)
 (refine Ag Tryz.hZ rfl rfl rfl rfl ?_;intro)
 refine wS 3 I I I (wS 4 I I I (wP I (wP I (Aa ?_))))
 rename_i b8 b9
 refine zE (Ax ?_)
 refine Bg (X:=Unit) [true,true,true,true,true,true,true,true,true,true,true,false,false,false,false,false,false,false,false,false,false,false,false,false,false,false,false,false,false,false,false,false,false,false,false,false,false,false,false,false,false] (fun _=>[(0, .bool true)]) (fun _=>[])
  30 [UH bS,⟨gV,44,ptC tr3++jV,true,none⟩,ptB b6 [49,47,51] [49,47,51],ptB b8 [48] [48],ptB b9 [50] [50]] Tryz.mixed (by kernel_rfl) ?_ ?_
 ·refine qP I (qP I (qP I (qP I (qP I ?_))))
  refine Fl 43 (.int .i64 0) I I ?_
  refine qP I ?_
  refine Fl 44 (.bool true) I I ?_
  refine qP I (qP I ?_)
  iterate 3 refine Hc Tryz.hZ tH I I I I I I I I ?_
  refine Cw (wX (wZ ?_))
  refine AD Tryz.hZ tH I I I I I I I I I I I fun bT=> ?_
  refine Aa (Ac (wX (wZ (wC I I (fun W1 hp=>Gj tr3 (by decide) (some ⟨gV,0,none⟩) (some ⟨bT,0,none⟩) cV 3 W1 (FC (Cx (Al.of_bx hp 1 I I:Al W1 gV 0 (ptC tr3++jV)))) (FC (by have h:=Al.of_bx hp 5 I I;rw[Uf];exact h))) (Aa (Ac (wX (wZ (wP I (Aa (Ac (wX (wZ ?_)))))))))))))
  refine wP I (Aa (Ac (wX (wZ (wP I (Aa (Ac (wX (wZ ?_)))))))))
  refine wP I ?_;refine wU 55 true I ((AX [49,47,50] [49,47,50]).trans (dT I)) ?_
  refine Aa (Ac (wX (wZ (wP I (Aa (Ac (wX (wZ (wP I (Aa (Ac (wX ?_))))))))))))
  refine RS.cons ?_ (RS.cons ?_ (RS.nil))
  ·refine wB 2 I I I (Aa (Ac (wX (wZ ?_))))
   refine Au Tryz.hZ tH I I I I I I I I ?_
   refine Aa (Ac (wX (wZ ?_)))
   refine AM [49,47,51] [49,47,51] [49,47,51] [49,47,51] I I I I I ?_;refine Ad 60 (.bool true) I I ?_
   refine Aa (Ac (wX (wZ (wP I (Aa (Ac (wX (wZ (wP I (Aa (Ac (wX (wZ ?_)))))))))))))
   refine wP I (Aa (Ac (wX (wZ (wP I (Aa (Ac (wX (wZ (wP I (Aa (Ac (wX ?_)))))))))))))
   refine RS.cons ?_ (RS.cons ?_ (RS.nil))
   ·refine wB 3 I I I (Aa (Ac (wX (wZ (wP I (Aa (Ac (wX (wZ (wI I I (by decide) (by decide) (Aa (Ac (wX ?_)))))))))))))
    refine wZ ?_
    refine wB 0 I I I ?_;refine Ad 69 (.agg #[str [48],str [48]]) I (by rw[←Jv];rfl) ?_
    refine Aa (Ac (wX (wZ ?_)))
    refine AM [48] [48] [48] [48] I I I I I ?_;refine Ad 70 (.bool true) I I ?_
    refine Aa (Ac (wX (wZ (wP I (Aa (Ac (wX (wZ (wP I (Aa (Ac (wX ?_))))))))))))
    refine RS.cons ?_ (RS.cons ?_ (RS.nil))
    ·refine wB 4 I I I (Aa (Ac (wX (wZ (wP I (Aa (Ac (wX (wZ (wI I I (by decide) (by decide) (Aa (Ac (wX ?_)))))))))))))
     refine wZ ?_
     refine wB 0 I I I ?_;refine Ad 76 (.agg #[str [50],str [50]]) I (by rw[←CC];rfl) ?_
     refine Aa (Ac (wX (wZ ?_)))
     refine AM [50] [50] [50] [50] I I I I I ?_;refine Ad 77 (.bool true) I I ?_
     refine Aa (Ac (wX (wZ (wP I (Aa (Ac (wX (wZ (wP I (Aa (Ac ?_)))))))))))
     refine A5 I (by((repeat (first|refine A9.same ?_|refine A9.off I ?_));exact tO)) ?_
     exact Av () ⟨I,tO⟩ [] (by decide) I
    ·refine wP I (Aa (Ac (wX ?_)))
     refine RS.cons ?_ (RS.cons ?_ (RS.nil))
     ·refine wB 4 I I I (Aa (Ac (wX (wZ (wI I I (by decide) (by decide) (Aa (Ac (wX (wZ ?_)))))))))
      refine wB 0 I I I ?_;refine Ad 76 (.agg #[str [50],str [50]]) I (by rw[←CC];rfl) ?_
      refine Aa (Ac (wX (wZ ?_)))
      refine AM [50] [50] [50] [50] I I I I I ?_;refine Ad 77 (.bool true) I I ?_
      refine Aa (Ac (wX (wZ (wP I (Aa (Ac (wX (wZ (wP I (Aa (Ac ?_)))))))))))
      refine A5 I (by((repeat (first|refine A9.same ?_|refine A9.off I ?_));exact tO)) ?_
      exact Av () ⟨I,tO⟩ [] (by decide) I
     ·refine wI I I (by decide) (by decide) (Aa (Ac (wX ?_)))
      refine RS.cons ?_ (RS.cons ?_ (RS.nil))
      ·refine wB 4 I I I (Aa (Ac (wX (wZ ?_))))
       refine wB 0 I I I ?_;refine Ad 76 (.agg #[str [50],str [50]]) I (by rw[←CC];rfl) ?_
       refine Aa (Ac (wX (wZ ?_)))
       refine AM [50] [50] [50] [50] I I I I I ?_;refine Ad 77 (.bool true) I I ?_
       refine Aa (Ac (wX (wZ (wP I (Aa (Ac (wX (wZ (wP I (Aa (Ac ?_)))))))))))
       refine A5 I (by((repeat (first|refine A9.same ?_|refine A9.off I ?_));exact tO)) ?_
       exact Av () ⟨I,tO⟩ [] (by decide) I
      ·refine wB 0 I I I ?_;refine Ad 76 (.agg #[str [50],str [50]]) I (by rw[←CC];rfl) ?_
       refine Aa (Ac (wX (wZ (wB 4 I I I (Aa (Ac (wX (wZ ?_))))))))
       refine AM [50] [50] [50] [50] I I I I I ?_;refine Ad 77 (.bool true) I I ?_
       refine Aa (Ac (wX (wZ (wP I (Aa (Ac (wX (wZ (wP I (Aa (Ac ?_)))))))))))
       refine A5 I (by((repeat (first|refine A9.same ?_|refine A9.off I ?_));exact tO)) ?_
       exact Av () ⟨I,tO⟩ [] (by decide) I
   ·refine wP I (Aa (Ac (wX ?_)))
    refine RS.cons ?_ (RS.cons ?_ (RS.nil))
    ·refine wB 3 I I I (Aa (Ac (wX (wZ (wI I I (by decide) (by decide) (Aa (Ac (wX (wZ ?_)))))))))
     refine wB 0 I I I ?_;refine Ad 69 (.agg #[str [48],str [48]]) I (by rw[←Jv];rfl) ?_
     refine Aa (Ac (wX (wZ ?_)))
     refine AM [48] [48] [48] [48] I I I I I ?_;refine Ad 70 (.bool true) I I ?_
     refine Aa (Ac (wX (wZ (wP I (Aa (Ac (wX (wZ (wP I (Aa (Ac (wX ?_))))))))))))
     refine RS.cons ?_ (RS.cons ?_ (RS.nil))
     ·refine wB 4 I I I (Aa (Ac (wX (wZ (wP I (Aa (Ac (wX (wZ (wI I I (by decide) (by decide) (Aa (Ac (wX ?_)))))))))))))
      refine wZ ?_
      refine wB 0 I I I ?_;refine Ad 76 (.agg #[str [50],str [50]]) I (by rw[←CC];rfl) ?_
      refine Aa (Ac (wX (wZ ?_)))
      refine AM [50] [50] [50] [50] I I I I I ?_;refine Ad 77 (.bool true) I I ?_
      refine Aa (Ac (wX (wZ (wP I (Aa (Ac (wX (wZ (wP I (Aa (Ac ?_)))))))))))
      refine A5 I (by((repeat (first|refine A9.same ?_|refine A9.off I ?_));exact tO)) ?_
      exact Av () ⟨I,tO⟩ [] (by decide) I
     ·refine wP I (Aa (Ac (wX ?_)))
      refine RS.cons ?_ (RS.cons ?_ (RS.nil))
      ·refine wB 4 I I I (Aa (Ac (wX (wZ (wI I I (by decide) (by decide) (Aa (Ac (wX (wZ ?_)))))))))
       refine wB 0 I I I ?_;refine Ad 76 (.agg #[str [50],str [50]]) I (by rw[←CC];rfl) ?_
       refine Aa (Ac (wX (wZ ?_)))
       refine AM [50] [50] [50] [50] I I I I I ?_;refine Ad 77 (.bool true) I I ?_
       refine Aa (Ac (wX (wZ (wP I (Aa (Ac (wX (wZ (wP I (Aa (Ac ?_)))))))))))
       refine A5 I (by((repeat (first|refine A9.same ?_|refine A9.off I ?_));exact tO)) ?_
       exact Av () ⟨I,tO⟩ [] (by decide) I
      ·refine wI I I (by decide) (by decide) (Aa (Ac (wX ?_)))
       refine RS.cons ?_ (RS.cons ?_ (RS.nil))
       ·refine wB 4 I I I (Aa (Ac (wX (wZ ?_))))
        refine wB 0 I I I ?_;refine Ad 76 (.agg #[str [50],str [50]]) I (by rw[←CC];rfl) ?_
        refine Aa (Ac (wX (wZ ?_)))
        refine AM [50] [50] [50] [50] I I I I I ?_;refine Ad 77 (.bool true) I I ?_
        refine Aa (Ac (wX (wZ (wP I (Aa (Ac (wX (wZ (wP I (Aa (Ac ?_)))))))))))
        refine A5 I (by((repeat (first|refine A9.same ?_|refine A9.off I ?_));exact tO)) ?_
        exact Av () ⟨I,tO⟩ [] (by decide) I
       ·refine wB 0 I I I ?_;refine Ad 76 (.agg #[str [50],str [50]]) I (by rw[←CC];rfl) ?_
        refine Aa (Ac (wX (wZ (wB 4 I I I (Aa (Ac (wX (wZ ?_))))))))
        refine AM [50] [50] [50] [50] I I I I I ?_;refine Ad 77 (.bool true) I I ?_
        refine Aa (Ac (wX (wZ (wP I (Aa (Ac (wX (wZ (wP I (Aa (Ac ?_)))))))))))
        refine A5 I (by((repeat (first|refine A9.same ?_|refine A9.off I ?_));exact tO)) ?_
        exact Av () ⟨I,tO⟩ [] (by decide) I
    ·refine wI I I (by decide) (by decide) (Aa (Ac (wX ?_)))
     refine RS.cons ?_ (RS.cons ?_ (RS.nil))
     ·refine wB 3 I I I (Aa (Ac (wX (wZ ?_))))
      refine wB 0 I I I ?_;refine Ad 69 (.agg #[str [48],str [48]]) I (by rw[←Jv];rfl) ?_
      refine Aa (Ac (wX (wZ ?_)))
      refine AM [48] [48] [48] [48] I I I I I ?_;refine Ad 70 (.bool true) I I ?_
      refine Aa (Ac (wX (wZ (wP I (Aa (Ac (wX (wZ (wP I (Aa (Ac (wX ?_))))))))))))
      refine RS.cons ?_ (RS.cons ?_ (RS.nil))
      ·refine wB 4 I I I (Aa (Ac (wX (wZ (wP I (Aa (Ac (wX (wZ (wI I I (by decide) (by decide) (Aa (Ac (wX ?_)))))))))))))
       refine wZ ?_
       refine wB 0 I I I ?_;refine Ad 76 (.agg #[str [50],str [50]]) I (by rw[←CC];rfl) ?_
       refine Aa (Ac (wX (wZ ?_)))
       refine AM [50] [50] [50] [50] I I I I I ?_;refine Ad 77 (.bool true) I I ?_
       refine Aa (Ac (wX (wZ (wP I (Aa (Ac (wX (wZ (wP I (Aa (Ac ?_)))))))))))
       refine A5 I (by((repeat (first|refine A9.same ?_|refine A9.off I ?_));exact tO)) ?_
       exact Av () ⟨I,tO⟩ [] (by decide) I
      ·refine wP I (Aa (Ac (wX ?_)))
       refine RS.cons ?_ (RS.cons ?_ (RS.nil))
       ·refine wB 4 I I I (Aa (Ac (wX (wZ (wI I I (by decide) (by decide) (Aa (Ac (wX (wZ ?_)))))))))
        refine wB 0 I I I ?_;refine Ad 76 (.agg #[str [50],str [50]]) I (by rw[←CC];rfl) ?_
        refine Aa (Ac (wX (wZ ?_)))
        refine AM [50] [50] [50] [50] I I I I I ?_;refine Ad 77 (.bool true) I I ?_
        refine Aa (Ac (wX (wZ (wP I (Aa (Ac (wX (wZ (wP I (Aa (Ac ?_)))))))))))
        refine A5 I (by((repeat (first|refine A9.same ?_|refine A9.off I ?_));exact tO)) ?_
        exact Av () ⟨I,tO⟩ [] (by decide) I
       ·refine wI I I (by decide) (by decide) (Aa (Ac (wX ?_)))
        refine RS.cons ?_ (RS.cons ?_ (RS.nil))
        ·refine wB 4 I I I (Aa (Ac (wX (wZ ?_))))
         refine wB 0 I I I ?_;refine Ad 76 (.agg #[str [50],str [50]]) I (by rw[←CC];rfl) ?_
         refine Aa (Ac (wX (wZ ?_)))
         refine AM [50] [50] [50] [50] I I I I I ?_;refine Ad 77 (.bool true) I I ?_
         refine Aa (Ac (wX (wZ (wP I (Aa (Ac (wX (wZ (wP I (Aa (Ac ?_)))))))))))
         refine A5 I (by((repeat (first|refine A9.same ?_|refine A9.off I ?_));exact tO)) ?_
         exact Av () ⟨I,tO⟩ [] (by decide) I
        ·refine wB 0 I I I ?_;refine Ad 76 (.agg #[str [50],str [50]]) I (by rw[←CC];rfl) ?_
         refine Aa (Ac (wX (wZ (wB 4 I I I (Aa (Ac (wX (wZ ?_))))))))
         refine AM [50] [50] [50] [50] I I I I I ?_;refine Ad 77 (.bool true) I I ?_
         refine Aa (Ac (wX (wZ (wP I (Aa (Ac (wX (wZ (wP I (Aa (Ac ?_)))))))))))
         refine A5 I (by((repeat (first|refine A9.same ?_|refine A9.off I ?_));exact tO)) ?_
         exact Av () ⟨I,tO⟩ [] (by decide) I
     ·refine wB 0 I I I ?_;refine Ad 69 (.agg #[str [48],str [48]]) I (by rw[←Jv];rfl) ?_
      refine Aa (Ac (wX (wZ (wB 3 I I I (Aa (Ac (wX (wZ ?_))))))))
      refine AM [48] [48] [48] [48] I I I I I ?_;refine Ad 70 (.bool true) I I ?_
      refine Aa (Ac (wX (wZ (wP I (Aa (Ac (wX (wZ (wP I (Aa (Ac (wX ?_))))))))))))
      refine RS.cons ?_ (RS.cons ?_ (RS.nil))
      ·refine wB 4 I I I (Aa (Ac (wX (wZ (wP I (Aa (Ac (wX (wZ (wI I I (by decide) (by decide) (Aa (Ac (wX ?_)))))))))))))
       refine wZ ?_
       refine wB 0 I I I ?_;refine Ad 76 (.agg #[str [50],str [50]]) I (by rw[←CC];rfl) ?_
       refine Aa (Ac (wX (wZ ?_)))
       refine AM [50] [50] [50] [50] I I I I I ?_;refine Ad 77 (.bool true) I I ?_
       refine Aa (Ac (wX (wZ (wP I (Aa (Ac (wX (wZ (wP I (Aa (Ac ?_)))))))))))
       refine A5 I (by((repeat (first|refine A9.same ?_|refine A9.off I ?_));exact tO)) ?_
       exact Av () ⟨I,tO⟩ [] (by decide) I
      ·refine wP I (Aa (Ac (wX ?_)))
       refine RS.cons ?_ (RS.cons ?_ (RS.nil))
       ·refine wB 4 I I I (Aa (Ac (wX (wZ (wI I I (by decide) (by decide) (Aa (Ac (wX (wZ ?_)))))))))
        refine wB 0 I I I ?_;refine Ad 76 (.agg #[str [50],str [50]]) I (by rw[←CC];rfl) ?_
        refine Aa (Ac (wX (wZ ?_)))
        refine AM [50] [50] [50] [50] I I I I I ?_;refine Ad 77 (.bool true) I I ?_
        refine Aa (Ac (wX (wZ (wP I (Aa (Ac (wX (wZ (wP I (Aa (Ac ?_)))))))))))
        refine A5 I (by((repeat (first|refine A9.same ?_|refine A9.off I ?_));exact tO)) ?_
        exact Av () ⟨I,tO⟩ [] (by decide) I
       ·refine wI I I (by decide) (by decide) (Aa (Ac (wX ?_)))
        refine RS.cons ?_ (RS.cons ?_ (RS.nil))
        ·refine wB 4 I I I (Aa (Ac (wX (wZ ?_))))
         refine wB 0 I I I ?_;refine Ad 76 (.agg #[str [50],str [50]]) I (by rw[←CC];rfl) ?_
         refine Aa (Ac (wX (wZ ?_)))
         refine AM [50] [50] [50] [50] I I I I I ?_;refine Ad 77 (.bool true) I I ?_
         refine Aa (Ac (wX (wZ (wP I (Aa (Ac (wX (wZ (wP I (Aa (Ac ?_)))))))))))
         refine A5 I (by((repeat (first|refine A9.same ?_|refine A9.off I ?_));exact tO)) ?_
         exact Av () ⟨I,tO⟩ [] (by decide) I
        ·refine wB 0 I I I ?_;refine Ad 76 (.agg #[str [50],str [50]]) I (by rw[←CC];rfl) ?_
         refine Aa (Ac (wX (wZ (wB 4 I I I (Aa (Ac (wX (wZ ?_))))))))
         refine AM [50] [50] [50] [50] I I I I I ?_;refine Ad 77 (.bool true) I I ?_
         refine Aa (Ac (wX (wZ (wP I (Aa (Ac (wX (wZ (wP I (Aa (Ac ?_)))))))))))
         refine A5 I (by((repeat (first|refine A9.same ?_|refine A9.off I ?_));exact tO)) ?_
         exact Av () ⟨I,tO⟩ [] (by decide) I
  ·refine Au Tryz.hZ tH I I I I I I I I ?_
   refine Aa (Ac (wX (wZ (wB 2 I I I (Aa (Ac (wX (wZ ?_))))))))
   refine AM [49,47,51] [49,47,51] [49,47,51] [49,47,51] I I I I I ?_;refine Ad 60 (.bool true) I I ?_
   refine Aa (Ac (wX (wZ (wP I (Aa (Ac (wX (wZ (wP I (Aa (Ac (wX (wZ ?_)))))))))))))
   refine wP I (Aa (Ac (wX (wZ (wP I (Aa (Ac (wX (wZ (wP I (Aa (Ac (wX ?_)))))))))))))
   refine RS.cons ?_ (RS.cons ?_ (RS.nil))
   ·refine wB 3 I I I (Aa (Ac (wX (wZ (wP I (Aa (Ac (wX (wZ (wI I I (by decide) (by decide) (Aa (Ac (wX ?_)))))))))))))
    refine wZ ?_
    refine wB 0 I I I ?_;refine Ad 69 (.agg #[str [48],str [48]]) I (by rw[←Jv];rfl) ?_
    refine Aa (Ac (wX (wZ ?_)))
    refine AM [48] [48] [48] [48] I I I I I ?_;refine Ad 70 (.bool true) I I ?_
    refine Aa (Ac (wX (wZ (wP I (Aa (Ac (wX (wZ (wP I (Aa (Ac (wX ?_))))))))))))
    refine RS.cons ?_ (RS.cons ?_ (RS.nil))
    ·refine wB 4 I I I (Aa (Ac (wX (wZ (wP I (Aa (Ac (wX (wZ (wI I I (by decide) (by decide) (Aa (Ac (wX ?_)))))))))))))
     refine wZ ?_
     refine wB 0 I I I ?_;refine Ad 76 (.agg #[str [50],str [50]]) I (by rw[←CC];rfl) ?_
     refine Aa (Ac (wX (wZ ?_)))
     refine AM [50] [50] [50] [50] I I I I I ?_;refine Ad 77 (.bool true) I I ?_
     refine Aa (Ac (wX (wZ (wP I (Aa (Ac (wX (wZ (wP I (Aa (Ac ?_)))))))))))
     refine A5 I (by((repeat (first|refine A9.same ?_|refine A9.off I ?_));exact tO)) ?_
     exact Av () ⟨I,tO⟩ [] (by decide) I
    ·refine wP I (Aa (Ac (wX ?_)))
     refine RS.cons ?_ (RS.cons ?_ (RS.nil))
     ·refine wB 4 I I I (Aa (Ac (wX (wZ (wI I I (by decide) (by decide) (Aa (Ac (wX (wZ ?_)))))))))
      refine wB 0 I I I ?_;refine Ad 76 (.agg #[str [50],str [50]]) I (by rw[←CC];rfl) ?_
      refine Aa (Ac (wX (wZ ?_)))
      refine AM [50] [50] [50] [50] I I I I I ?_;refine Ad 77 (.bool true) I I ?_
      refine Aa (Ac (wX (wZ (wP I (Aa (Ac (wX (wZ (wP I (Aa (Ac ?_)))))))))))
      refine A5 I (by((repeat (first|refine A9.same ?_|refine A9.off I ?_));exact tO)) ?_
      exact Av () ⟨I,tO⟩ [] (by decide) I
     ·refine wI I I (by decide) (by decide) (Aa (Ac (wX ?_)))
      refine RS.cons ?_ (RS.cons ?_ (RS.nil))
      ·refine wB 4 I I I (Aa (Ac (wX (wZ ?_))))
       refine wB 0 I I I ?_;refine Ad 76 (.agg #[str [50],str [50]]) I (by rw[←CC];rfl) ?_
       refine Aa (Ac (wX (wZ ?_)))
       refine AM [50] [50] [50] [50] I I I I I ?_;refine Ad 77 (.bool true) I I ?_
       refine Aa (Ac (wX (wZ (wP I (Aa (Ac (wX (wZ (wP I (Aa (Ac ?_)))))))))))
       refine A5 I (by((repeat (first|refine A9.same ?_|refine A9.off I ?_));exact tO)) ?_
       exact Av () ⟨I,tO⟩ [] (by decide) I
      ·refine wB 0 I I I ?_;refine Ad 76 (.agg #[str [50],str [50]]) I (by rw[←CC];rfl) ?_
       refine Aa (Ac (wX (wZ (wB 4 I I I (Aa (Ac (wX (wZ ?_))))))))
       refine AM [50] [50] [50] [50] I I I I I ?_;refine Ad 77 (.bool true) I I ?_
       refine Aa (Ac (wX (wZ (wP I (Aa (Ac (wX (wZ (wP I (Aa (Ac ?_)))))))))))
       refine A5 I (by((repeat (first|refine A9.same ?_|refine A9.off I ?_));exact tO)) ?_
       exact Av () ⟨I,tO⟩ [] (by decide) I
   ·refine wP I (Aa (Ac (wX ?_)))
    refine RS.cons ?_ (RS.cons ?_ (RS.nil))
    ·refine wB 3 I I I (Aa (Ac (wX (wZ (wI I I (by decide) (by decide) (Aa (Ac (wX (wZ ?_)))))))))
     refine wB 0 I I I ?_;refine Ad 69 (.agg #[str [48],str [48]]) I (by rw[←Jv];rfl) ?_
     refine Aa (Ac (wX (wZ ?_)))
     refine AM [48] [48] [48] [48] I I I I I ?_;refine Ad 70 (.bool true) I I ?_
     refine Aa (Ac (wX (wZ (wP I (Aa (Ac (wX (wZ (wP I (Aa (Ac (wX ?_))))))))))))
     refine RS.cons ?_ (RS.cons ?_ (RS.nil))
     ·refine wB 4 I I I (Aa (Ac (wX (wZ (wP I (Aa (Ac (wX (wZ (wI I I (by decide) (by decide) (Aa (Ac (wX ?_)))))))))))))
      refine wZ ?_
      refine wB 0 I I I ?_;refine Ad 76 (.agg #[str [50],str [50]]) I (by rw[←CC];rfl) ?_
      refine Aa (Ac (wX (wZ ?_)))
      refine AM [50] [50] [50] [50] I I I I I ?_;refine Ad 77 (.bool true) I I ?_
      refine Aa (Ac (wX (wZ (wP I (Aa (Ac (wX (wZ (wP I (Aa (Ac ?_)))))))))))
      refine A5 I (by((repeat (first|refine A9.same ?_|refine A9.off I ?_));exact tO)) ?_
      exact Av () ⟨I,tO⟩ [] (by decide) I
     ·refine wP I (Aa (Ac (wX ?_)))
      refine RS.cons ?_ (RS.cons ?_ (RS.nil))
      ·refine wB 4 I I I (Aa (Ac (wX (wZ (wI I I (by decide) (by decide) (Aa (Ac (wX (wZ ?_)))))))))
       refine wB 0 I I I ?_;refine Ad 76 (.agg #[str [50],str [50]]) I (by rw[←CC];rfl) ?_
       refine Aa (Ac (wX (wZ ?_)))
       refine AM [50] [50] [50] [50] I I I I I ?_;refine Ad 77 (.bool true) I I ?_
       refine Aa (Ac (wX (wZ (wP I (Aa (Ac (wX (wZ (wP I (Aa (Ac ?_)))))))))))
       refine A5 I (by((repeat (first|refine A9.same ?_|refine A9.off I ?_));exact tO)) ?_
       exact Av () ⟨I,tO⟩ [] (by decide) I
      ·refine wI I I (by decide) (by decide) (Aa (Ac (wX ?_)))
       refine RS.cons ?_ (RS.cons ?_ (RS.nil))
       ·refine wB 4 I I I (Aa (Ac (wX (wZ ?_))))
        refine wB 0 I I I ?_;refine Ad 76 (.agg #[str [50],str [50]]) I (by rw[←CC];rfl) ?_
        refine Aa (Ac (wX (wZ ?_)))
        refine AM [50] [50] [50] [50] I I I I I ?_;refine Ad 77 (.bool true) I I ?_
        refine Aa (Ac (wX (wZ (wP I (Aa (Ac (wX (wZ (wP I (Aa (Ac ?_)))))))))))
        refine A5 I (by((repeat (first|refine A9.same ?_|refine A9.off I ?_));exact tO)) ?_
        exact Av () ⟨I,tO⟩ [] (by decide) I
       ·refine wB 0 I I I ?_;refine Ad 76 (.agg #[str [50],str [50]]) I (by rw[←CC];rfl) ?_
        refine Aa (Ac (wX (wZ (wB 4 I I I (Aa (Ac (wX (wZ ?_))))))))
        refine AM [50] [50] [50] [50] I I I I I ?_;refine Ad 77 (.bool true) I I ?_
        refine Aa (Ac (wX (wZ (wP I (Aa (Ac (wX (wZ (wP I (Aa (Ac ?_)))))))))))
        refine A5 I (by((repeat (first|refine A9.same ?_|refine A9.off I ?_));exact tO)) ?_
        exact Av () ⟨I,tO⟩ [] (by decide) I
    ·refine wI I I (by decide) (by decide) (Aa (Ac (wX ?_)))
     refine RS.cons ?_ (RS.cons ?_ (RS.nil))
     ·refine wB 3 I I I (Aa (Ac (wX (wZ ?_))))
      refine wB 0 I I I ?_;refine Ad 69 (.agg #[str [48],str [48]]) I (by rw[←Jv];rfl) ?_
      refine Aa (Ac (wX (wZ ?_)))
      refine AM [48] [48] [48] [48] I I I I I ?_;refine Ad 70 (.bool true) I I ?_
      refine Aa (Ac (wX (wZ (wP I (Aa (Ac (wX (wZ (wP I (Aa (Ac (wX ?_))))))))))))
      refine RS.cons ?_ (RS.cons ?_ (RS.nil))
      ·refine wB 4 I I I (Aa (Ac (wX (wZ (wP I (Aa (Ac (wX (wZ (wI I I (by decide) (by decide) (Aa (Ac (wX ?_)))))))))))))
       refine wZ ?_
       refine wB 0 I I I ?_;refine Ad 76 (.agg #[str [50],str [50]]) I (by rw[←CC];rfl) ?_
       refine Aa (Ac (wX (wZ ?_)))
       refine AM [50] [50] [50] [50] I I I I I ?_;refine Ad 77 (.bool true) I I ?_
       refine Aa (Ac (wX (wZ (wP I (Aa (Ac (wX (wZ (wP I (Aa (Ac ?_)))))))))))
       refine A5 I (by((repeat (first|refine A9.same ?_|refine A9.off I ?_));exact tO)) ?_
       exact Av () ⟨I,tO⟩ [] (by decide) I
      ·refine wP I (Aa (Ac (wX ?_)))
       refine RS.cons ?_ (RS.cons ?_ (RS.nil))
       ·refine wB 4 I I I (Aa (Ac (wX (wZ (wI I I (by decide) (by decide) (Aa (Ac (wX (wZ ?_)))))))))
        refine wB 0 I I I ?_;refine Ad 76 (.agg #[str [50],str [50]]) I (by rw[←CC];rfl) ?_
        refine Aa (Ac (wX (wZ ?_)))
        refine AM [50] [50] [50] [50] I I I I I ?_;refine Ad 77 (.bool true) I I ?_
        refine Aa (Ac (wX (wZ (wP I (Aa (Ac (wX (wZ (wP I (Aa (Ac ?_)))))))))))
        refine A5 I (by((repeat (first|refine A9.same ?_|refine A9.off I ?_));exact tO)) ?_
        exact Av () ⟨I,tO⟩ [] (by decide) I
       ·refine wI I I (by decide) (by decide) (Aa (Ac (wX ?_)))
        refine RS.cons ?_ (RS.cons ?_ (RS.nil))
        ·refine wB 4 I I I (Aa (Ac (wX (wZ ?_))))
         refine wB 0 I I I ?_;refine Ad 76 (.agg #[str [50],str [50]]) I (by rw[←CC];rfl) ?_
         refine Aa (Ac (wX (wZ ?_)))
         refine AM [50] [50] [50] [50] I I I I I ?_;refine Ad 77 (.bool true) I I ?_
         refine Aa (Ac (wX (wZ (wP I (Aa (Ac (wX (wZ (wP I (Aa (Ac ?_)))))))))))
         refine A5 I (by((repeat (first|refine A9.same ?_|refine A9.off I ?_));exact tO)) ?_
         exact Av () ⟨I,tO⟩ [] (by decide) I
        ·refine wB 0 I I I ?_;refine Ad 76 (.agg #[str [50],str [50]]) I (by rw[←CC];rfl) ?_
         refine Aa (Ac (wX (wZ (wB 4 I I I (Aa (Ac (wX (wZ ?_))))))))
         refine AM [50] [50] [50] [50] I I I I I ?_;refine Ad 77 (.bool true) I I ?_
         refine Aa (Ac (wX (wZ (wP I (Aa (Ac (wX (wZ (wP I (Aa (Ac ?_)))))))))))
         refine A5 I (by((repeat (first|refine A9.same ?_|refine A9.off I ?_));exact tO)) ?_
         exact Av () ⟨I,tO⟩ [] (by decide) I
     ·refine wB 0 I I I ?_;refine Ad 69 (.agg #[str [48],str [48]]) I (by rw[←Jv];rfl) ?_
      refine Aa (Ac (wX (wZ (wB 3 I I I (Aa (Ac (wX (wZ ?_))))))))
      refine AM [48] [48] [48] [48] I I I I I ?_;refine Ad 70 (.bool true) I I ?_
      refine Aa (Ac (wX (wZ (wP I (Aa (Ac (wX (wZ (wP I (Aa (Ac (wX ?_))))))))))))
      refine RS.cons ?_ (RS.cons ?_ (RS.nil))
      ·refine wB 4 I I I (Aa (Ac (wX (wZ (wP I (Aa (Ac (wX (wZ (wI I I (by decide) (by decide) (Aa (Ac (wX ?_)))))))))))))
       refine wZ ?_
       refine wB 0 I I I ?_;refine Ad 76 (.agg #[str [50],str [50]]) I (by rw[←CC];rfl) ?_
       refine Aa (Ac (wX (wZ ?_)))
       refine AM [50] [50] [50] [50] I I I I I ?_;refine Ad 77 (.bool true) I I ?_
       refine Aa (Ac (wX (wZ (wP I (Aa (Ac (wX (wZ (wP I (Aa (Ac ?_)))))))))))
       refine A5 I (by((repeat (first|refine A9.same ?_|refine A9.off I ?_));exact tO)) ?_
       exact Av () ⟨I,tO⟩ [] (by decide) I
      ·refine wP I (Aa (Ac (wX ?_)))
       refine RS.cons ?_ (RS.cons ?_ (RS.nil))
       ·refine wB 4 I I I (Aa (Ac (wX (wZ (wI I I (by decide) (by decide) (Aa (Ac (wX (wZ ?_)))))))))
        refine wB 0 I I I ?_;refine Ad 76 (.agg #[str [50],str [50]]) I (by rw[←CC];rfl) ?_
        refine Aa (Ac (wX (wZ ?_)))
        refine AM [50] [50] [50] [50] I I I I I ?_;refine Ad 77 (.bool true) I I ?_
        refine Aa (Ac (wX (wZ (wP I (Aa (Ac (wX (wZ (wP I (Aa (Ac ?_)))))))))))
        refine A5 I (by((repeat (first|refine A9.same ?_|refine A9.off I ?_));exact tO)) ?_
        exact Av () ⟨I,tO⟩ [] (by decide) I
       ·refine wI I I (by decide) (by decide) (Aa (Ac (wX ?_)))
        refine RS.cons ?_ (RS.cons ?_ (RS.nil))
        ·refine wB 4 I I I (Aa (Ac (wX (wZ ?_))))
         refine wB 0 I I I ?_;refine Ad 76 (.agg #[str [50],str [50]]) I (by rw[←CC];rfl) ?_
         refine Aa (Ac (wX (wZ ?_)))
         refine AM [50] [50] [50] [50] I I I I I ?_;refine Ad 77 (.bool true) I I ?_
         refine Aa (Ac (wX (wZ (wP I (Aa (Ac (wX (wZ (wP I (Aa (Ac ?_)))))))))))
         refine A5 I (by((repeat (first|refine A9.same ?_|refine A9.off I ?_));exact tO)) ?_
         exact Av () ⟨I,tO⟩ [] (by decide) I
        ·refine wB 0 I I I ?_;refine Ad 76 (.agg #[str [50],str [50]]) I (by rw[←CC];rfl) ?_
         refine Aa (Ac (wX (wZ (wB 4 I I I (Aa (Ac (wX (wZ ?_))))))))
         refine AM [50] [50] [50] [50] I I I I I ?_;refine Ad 77 (.bool true) I I ?_
         refine Aa (Ac (wX (wZ (wP I (Aa (Ac (wX (wZ (wP I (Aa (Ac ?_)))))))))))
         refine A5 I (by((repeat (first|refine A9.same ?_|refine A9.off I ?_));exact tO)) ?_
         exact Av () ⟨I,tO⟩ [] (by decide) I
 intro _
 exact zE (zO (wR1 I I I))
-- BOXES 8
-- CODE2
def EW (V:Vec):Option Addr:=V.p.map fun g=>⟨g,0,none⟩
def FE (V:Vec):Nat:=match V.p with
 |none=>0
 |some _=>V.cap
theorem GP {V:Vec} {l:List Ai} (h:V.OK 2 l.length (ptC l)):V.val l.length=slv (EW V) l.length (FE V):=by
 obtain⟨p,c,j⟩:=V
 cases p with
 |none=>
  have e:l.length=0:=h.nil rfl
  rw[e];rfl
 |some g=>rfl
theorem ES {W0 W:World} {bxs:List Bx} (hp:Hp W0 bxs W) (k:Nat) {V:Vec} {l:List Ai} (h:V.OK 2 l.length (ptC l)) (hk:nth bxs k=some (V.bx 44 (ptC l))):D0 W (EW V) l:=by
 obtain⟨p,c,j⟩:=V
 cases p with
 |none=>
  have e:l.length=0:=h.nil rfl
  exact .inl (List.length_eq_zero_iff.1 e)
 |some g=>exact D0.of_row (Al.of_bx hp k hk rfl)
theorem Gs.pts {W:World} {p:Option Addr} {l:List Ai} (h:Gs W p (l.map cvS)):D0 W p l:=by
 rcases h with h|⟨b,off,e,h⟩
 ·exact .inl (by simpa using h)
 ·refine .inr ⟨b,off,e,fun i hi=> ?_⟩
  have:=h i (by rw[List.length_map];exact hi)
  rwa [List.getElem_map] at this
structure Om (e:Nat) (l:List Ai):Prop where
 poly:Bb l
 n:l.length≤4096
 hm: ∀p∈l,Hm e p
theorem Om.m {e:Nat} {l:List Ai} (h:Om e l) (he:e≤36) {W:World} {p:Option Addr} (hp:D0 W p l) (hv:Ck W) (ht:AS W):Gv W p l:=⟨h.poly,h.poly.n3,h.n,IC.of_hm h.hm he,hp,hv,ht⟩
theorem GB (f:AF) (l:List Ai):(A4 f l).length≤2*l.length:=by
 unfold A4
 split
 ·have:(Bv (AP f l)).length=(AP f l).length:=Dh (FH _)
  rw[this]
  exact F3 f l l.length
 ·exact Nat.zero_le _
theorem Om.clip {e:Nat} {l:List Ai} (h:Om e l) {f:AF} (hf:LnH f) (hn:l.length≤2048) {x:Ai} (hx:x∈l) (hfx:f.at x<0):Om (2*e+14) (A4 f l):=
 ⟨Cg h.poly hx hfx,by have:=GB f l;omega,Hm.clip hf h.hm⟩
theorem FD {f:AF} (hq:Nk f) (hf:LnH f) {e:Nat} {l r:List Ai} (h:Om e l) (he:e≤36) (er:A4 f l=r) (p:Option Addr) (cap:Nat) (W:World) (hp:D0 W p l) (hv:Ck W) (ht:AS W):
  Ah Tryz.prog 22 #[slv p l.length cap,str (Af f.a),str (Af f.b),str (Af f.c)] W (fun V:Vec=> .tuple #[V.val r.length, .int .i64 0]) (fun V=>V.OK 2 r.length (ptC r)) (fun V=>[V.bx 44 (ptC r)]):=by
 subst er
 exact Jh f hq l (ClZ.of hf (by omega) h.hm) p cap W (h.m he hp hv ht)
theorem UK {n:Nat}:((n:Int)==0)=decide (n=0):=by
 rw[Bool.eq_iff_iff,beq_iff_eq,decide_eq_true_iff];omega
theorem NJ (l:List PtS) (a1 a2 a3 c1 c2 c3:List UInt8) (p:Option Addr) (cap:Nat) (W:World) (hA:Gs W p l) (hn:l.length<4611686018427387904) (hv:Ck W) (ht:AS W):
  Ah Tryz.prog 4 #[slv p l.length cap,str a1,str a2,str a3,str c1,str c2,str c3] W (fun _:Unit=> .bool true) (fun _=>True) (fun _=>[]):=by
 obtain⟨n,hnl⟩: ∃n,n=l.length:=⟨_,rfl⟩
 rw[←hnl]
 refine Ab (args:=[slv p n cap,str a1,str a2,str a3,str c1,str c2,str c3]) Tryz.func4 I I I ?_
 refine zA (zB (wP I (Aa (zE (zA (zA (zB (wP I ?_))))))))
 refine AD Tryz.hZ tH I I I I I I I I I I I fun bS=> ?_
 refine wD (X:=Bool) I I (fun W1 hp=>OR [(p,cap,l)] (by show 1≤100000;decide) (fun y hy=>by rw[List.mem_singleton.1 hy];exact hn) bS 0 1 W1 ⟨by have h:=Al.of_bx hp 0 I I;rw[hnl] at h;exact h,fun y hy=>by rw[List.mem_singleton.1 hy];exact hA.hp hp⟩ (ht.hp hp)) ?_
 intro b1 hb1
 have hb1:b1=true→ ∀x∈[((p,cap,l):Ls)],LH x.2.2:=hb1
 cases b1 with
 |false=>
  refine wP I (wP I ?_)
  iterate 5 refine Ak I I ?_
  refine wP I (wP I ?_)
  iterate 5 refine Ak I I ?_
  refine wP I (Aa (zE (zR I (zA (zB ?_)))))
  refine Bm (capt:=[]) I I I I I I (by kernel_rfl) (fun W1 hp=>Cz W1 (hv.hp hp) (ht.hp hp)) ?_
  exact wP I (Aa (zE (zO (zP (wR1 I I I)))))
 |true=>
 have hF:=hb1 rfl (p,cap,l) (List.mem_singleton.2 rfl)
 iterate 5 refine wP I ?_
 refine wD (X:=Bool) I I (fun W1 hp=>JU a1 a2 a3 W1 (ht.hp hp)) ?_
 intro b2 hb2
 have hb2:b2=true→RD a1 a2 a3:=hb2
 cases b2 with
 |false=>
  refine wP I (wP I (wP I ?_))
  iterate 5 refine Ak I I ?_
  refine wP I (Aa (zE (zR I (zA (zB ?_)))))
  refine Bm (capt:=[]) I I I I I I (by kernel_rfl) (fun W1 hp=>Cz W1 (hv.hp hp) (ht.hp hp)) ?_
  exact wP I (Aa (zE (zO (zP (wR1 I I I)))))
 |true=>
 iterate 6 refine wP I ?_
 refine wD (X:=Bool) I I (fun W1 hp=>JU c1 c2 c3 W1 (ht.hp hp)) ?_
 intro b3 hb3
 have hb3:b3=true→RD c1 c2 c3:=hb3
 cases b3 with
 |false=>
  refine wP I (wP I (Aa (zE (zR I (zA (zB ?_))))))
  refine Bm (capt:=[]) I I I I I I (by kernel_rfl) (fun W1 hp=>Cz W1 (hv.hp hp) (ht.hp hp)) ?_
  exact wP I (Aa (zE (zO (zP (wR1 I I I)))))
 |true=>
 refine wP I (wP I (Aa ?_))
 obtain⟨m,rfl,h3,h8,h5,hP⟩:LH l:=hF
 have hpts:=hA.pts
 obtain rfl:n=m.length:=by rw[hnl,List.length_map]
 obtain⟨A1,A2,A3,rfl,rfl,rfl,o1,o2,o3,n1,n2,n3,hne⟩:=hb2 rfl
 obtain⟨C1,C2,C3,rfl,rfl,rfl,q1,q2,q3,k1,k2,k3,hne'⟩:=hb3 rfl
 have qf:Nk ⟨A1,A2,A3⟩:=⟨o1,o2,o3,hne⟩
 have qg:Nk ⟨C1,C2,C3⟩:=⟨q1,q2,q3,hne'⟩
 have lf:LnH ⟨A1,A2,A3⟩:=UN n1 n2 n3
 have lg:LnH ⟨C1,C2,C3⟩:=UN k1 k2 k3
 obtain⟨f,hf⟩: ∃f:AF,f=⟨A1,A2,A3⟩:=⟨_,rfl⟩
 obtain⟨g,hg⟩: ∃g:AF,g=⟨C1,C2,C3⟩:=⟨_,rfl⟩
 rw[←hf] at qf lf
 rw[←hg] at qg lg
 obtain⟨rfl,rfl,rfl⟩:A1=f.a∧A2=f.b∧A3=f.c:=by rw[hf];exact⟨rfl,rfl,rfl⟩
 obtain⟨rfl,rfl,rfl⟩:C1=g.a∧C2=g.b∧C3=g.c:=by rw[hg];exact⟨rfl,rfl,rfl⟩
 have hm:Om 8 m:=⟨hP,by omega,fun x hx=>hm5 (h5 x hx).2.1 (h5 x hx).2.2⟩
 obtain⟨A,eA⟩: ∃A,A4 f m=A:=⟨_,rfl⟩
 obtain⟨B,eB⟩: ∃B,A4 g m=B:=⟨_,rfl⟩
 refine zE (zS I (zI (zE (zA (zB (wP I (wP I (wP I (wP I ?_)))))))))
 refine wD (X:=Vec) I I (fun W1 hp=>FD qf lf hm (by decide) eA p cap W1 (hpts.hp hp) (hv.hp hp) (ht.hp hp)) ?_
 intro VA hVA
 refine wP I (wP I ?_)
 refine Ad 50 (slv (EW VA) A.length (FE VA)) I (GP hVA) ?_
 refine wP I (wP I (wP I (Aa (zE (zA (zB (wP I (wP I (wP I (wP I ?_))))))))))
 refine wD (X:=Vec) I I (fun W1 hp=>FD qg lg hm (by decide) eB p cap W1 (hpts.hp hp) (hv.hp hp) (ht.hp hp)) ?_
 intro VB hVB
 refine wP I (wP I ?_)
 refine Ad 58 (slv (EW VB) B.length (FE VB)) I (GP hVB) ?_
 refine wP I (wP I (wP I (Aa (zE (zA (zA (zB ?_)))))))
 iterate 6 refine wP I ?_
 refine Aa (zE (zS I (zI (zE (zA (zA (zB (wP I (wP I (wP I ?_))))))))))
 by_cases hfA: ∃x∈m,f.at x<0
 rotate_left
 ·have e0:A=[]:=by rw[←eA];exact DP fun x hx=>Rat.not_lt.1 fun h=>hfA ⟨x,hx,h⟩
  refine wU 68 true I (by rw[e0];rfl) (Aa (zE (zR I (zA (zB ?_)))))
  refine Bm (capt:=[]) I I I I I I (by kernel_rfl) (fun W1 hp=>Cz W1 (hv.hp hp) (ht.hp hp)) ?_
  exact wP I (Aa (zE (zO (zP (wR1 I I I)))))
 obtain⟨x,hx,hfx⟩:=hfA
 have pA:=hm.clip lf (by omega) hx hfx
 have again:=M9 hP hx hfx
 rw[eA] at pA again
 have lA:3≤A.length:=pA.poly.n3
 refine wU 68 false I (by rw[UK];exact dF (by omega)) (Aa (zE (zS I (zI (zE (zA (zB ?_)))))))
 obtain⟨AB,eAB⟩: ∃AB,A4 g A=AB:=⟨_,rfl⟩
 refine wP I (wP I (wP I (wP I ?_)))
 refine wD (X:=Vec) I I (fun W1 hp=>FD qf lf pA (by decide) again (EW VA) (FE VA) W1 (ES hp 1 hVA I) (hv.hp hp) (ht.hp hp)) ?_
 intro VAA hVAA
 refine wP I (wP I ?_)
 refine Ad 76 (slv (EW VAA) A.length (FE VAA)) I (GP hVAA) ?_
 refine wP I (wP I (wP I (Aa (zE (zA (zB (wP I (wP I (wP I (wP I ?_))))))))))
 refine wD (X:=Vec) I I (fun W1 hp=>FD qg lg pA (by decide) eAB (EW VA) (FE VA) W1 (ES hp 1 hVA I) (hv.hp hp) (ht.hp hp)) ?_
 intro VAB hVAB
 refine wP I (wP I ?_)
 refine Ad 84 (slv (EW VAB) AB.length (FE VAB)) I (GP hVAB) ?_
 refine wP I (wP I (wP I (Aa (zE (zA (zA (zB ?_)))))))
 iterate 6 refine wP I ?_
 refine Aa (zE (zS I (zI (zE (zA (zA (zB ?_)))))))
 iterate 9 refine wP I ?_
 refine wC I I (fun W1 hp=>Gj A (by have:=pA.n;omega) (EW VAA) (EW VA) (FE VAA) (FE VA) W1 (ES hp 3 hVAA I) (ES hp 1 hVA I)) (wP I (wP I (Aa (zE (zS I (zI (zE (zA (zA (zB (wP I (wP I (wP I ?_)))))))))))))
 by_cases hgB: ∃x∈m,g.at x<0
 rotate_left
 ·have hge: ∀x∈m,0≤g.at x:=fun x hx=>Rat.not_lt.1 fun h=>hgB ⟨x,hx,h⟩
  have e0:B=[]:=by rw[←eB];exact DP hge
  have e1:AB=[]:=by rw[←eAB, ←eA];exact Px hge
  refine wU 107 true I (by rw[e0];rfl) (Aa (zE (zR I (zA (zB (wP I (wP I (wP I (wU 110 true I (by rw[e1];rfl) (wP I ?_))))))))))
  refine Bm (capt:=[]) I I I I I I (by kernel_rfl) (fun W1 hp=>Cz W1 (hv.hp hp) (ht.hp hp)) ?_
  exact wP I (wP I (Aa (zE (zO (zP (wR1 I I I))))))
 obtain⟨y,hy,hgy⟩:=hgB
 have pB:=hm.clip lg (by omega) hy hgy
 rw[eB] at pB
 have lB:3≤B.length:=pB.poly.n3
 have swap:A4 f B=AB:=by rw[←eB, ←eAB, ←eA];exact(Nf hP hx hfx hy hgy).symm
 refine wU 107 false I (by rw[UK];exact dF (by omega)) (Aa (zE (zS I (zI (zE (zA (zB (wP I (wP I (wP I (wP I ?_)))))))))))
 refine wD (X:=Vec) I I (fun W1 hp=>FD qf lf pB (by decide) swap (EW VB) (FE VB) W1 (ES hp 2 hVB I) (hv.hp hp) (ht.hp hp)) ?_
 intro VBA hVBA
 refine wP I (wP I ?_)
 refine Ad 120 (slv (EW VBA) AB.length (FE VBA)) I (GP hVBA) ?_
 refine wP I (wP I (wP I (Aa ?_)))
 have lAB:AB.length≤4*m.length:=by
  have h1:=GB g A
  have h2:=GB f m
  rw[eAB] at h1
  rw[eA] at h2
  omega
 refine zE (zA (zB ?_))
 iterate 8 refine wP I ?_
 refine wC I I (fun W1 hp=>Gj AB (by omega) (EW VAB) (EW VBA) (FE VAB) (FE VBA) W1 (ES hp 4 hVAB I) (ES hp 5 hVBA I)) (wP I (wP I (wP I ?_)))
 refine Bm (capt:=[]) I I I I I I (by kernel_rfl) (fun W1 hp=>Cz W1 (hv.hp hp) (ht.hp hp)) ?_
 exact wP I (wP I (Aa (zE (zO (wR1 I I I)))))
end
section
open Go
noncomputable abbrev laidL:List (String×DataW Unit):=Rows.beamForcesRow.laid
end
section
open Go Go.RowKit Go.Am Go.ChangeShapes Go.WideShapes Go.Deep Go.ChangeAt
set_option maxRecDepth 100000
section
variable {H:Type} {enc:TypeId×Value→H} {w:World} {base:Nat} {spare:Nat→Bool} {held:Bool} {v:Value} {d:DataW H} {ps:List MemPlace}
end
theorem own:ownKnob Tryz.prog.godebug=none:=by kernel_rfl
theorem PO:laidOutB Tryz.prog=true:=by kernel_rfl
theorem KJ:(laidL.all fun x=>x.2.handleName?.isNone)=true:=by kernel_rfl
theorem NP {W:World} (h:laidMetH Tryz.prog laidL W):AS W:=by
 rw[MakeChecks.laidMetH_plain _ _ _ KJ] at h
 exact Lib.tabIs_of_head (g:=2) (t:=306) (e:=232) (n:=20) (by kernel_rfl) (by kernel_rfl) (by kernel_rfl) (by kernel_rfl) (by kernel_rfl) (by kernel_rfl) h.tail.tail
theorem Uk {W:World} (hS:W.ShapedOpen Tryz.prog):Ck W:=
 cell_of_shapedOpen_int (g:=3) (t:=3) (zero:= #[.int .i64 0]) hS (of_decide_eq_true (by kernel_rfl)) (by kernel_rfl) rfl (by kernel_rfl) (by kernel_rfl) Tryz.underlying3
noncomputable def witW (os:Os):World:=World.laidAll Tryz.prog os laidL
theorem Rn (os:Os) (args:Array Value):laidMetH Tryz.prog laidL ((witW os).forCall (fun _ _=>0) ⟨#[],args,[]⟩).memory:=by
 rw[MakeChecks.laidMetH_plain _ _ _ KJ]
 exact laidMet_laidAll _ (by kernel_rfl) (by kernel_rfl)
theorem O5 (os:Os) (args:Array Value):((witW os).forCall (fun _ _=>0) ⟨#[],args,[]⟩).Shaped Tryz.prog:=
 World.shaped_of_ZipB (by kernel_rfl) (by kernel_rfl)
theorem T9 {H:Type} {enc:TypeId×Value→H} (os:Os) {f:FuncId} {fn:Func} {s:OpenSpec} {conds:List PathCond} (args:Array Value)
  (hok:Input.okWideB Tryz.prog ((witW os).forCall (fun _ _=>0) ⟨#[],args,[]⟩) f ⟨#[],args,[]⟩=true)
  (hrow:s.preRow enc Tryz.prog fn conds false laidL ((witW os).forCall (fun _ _=>0) ⟨#[],args,[]⟩).memory args):
  ∃(w:World) (tape:Tape) (i:Input),w.os=os∧(w.forCall tape i).Shaped Tryz.prog∧i.vars=[]∧Input.okWide Tryz.prog (w.forCall tape i) .any w.heap.size f i∧
   s.preRow enc Tryz.prog fn conds false laidL (w.forCall tape i).memory i.args∧({}:Assume).holds Tryz.prog (lone (Frame.enter Tryz.prog f i.args .normal) [] (w.forCall tape i)):=
 ⟨witW os,fun _ _=>0,⟨#[],args,[]⟩,World.laidAll_os _ _ _,O5 os args,(Input.okWide_of_okWideB (base:=0) hok).1,(Input.okWide_of_okWideB hok).2,hrow,by
  simp only[Assume.holds]
  exact⟨by simp,by simp,by simp,by simp,by simp,by simp⟩⟩
end
section
open Go Go.RowKit Go.Am Go.ChangeShapes Go.WideShapes Go.Deep
set_option maxRecDepth 10000
theorem UM:Tryz.prog.cellsOf 22=1:=by kernel_rfl
theorem NW {H:Type} (d:DataW H):1≤Rows.uptoBulk d:=by
 cases d with
 |lit l=>cases l<;>simp[Rows.uptoBulk]
 |nil=>simp[Rows.uptoBulk]
 |ptr d=>simp[Rows.uptoBulk]
 |slice elems spare=>simp[Rows.uptoBulk]
 |agg parts=>simp[Rows.uptoBulk]
 |iface t d=>simp[Rows.uptoBulk]
 |map entries=>simp[Rows.uptoBulk]
 |held h=>simp[Rows.uptoBulk]
theorem S7 {H:Type} (l:List (DataW H)):l.length≤Rows.uptoBulkAll l:=by
 induction l with
 |nil=>simp[Rows.uptoBulkAll]
 |cons x r ih=>have:=NW x;simp only[Rows.uptoBulkAll,List.length_cons];omega
theorem OQ {H:Type} (e s:List (DataW H)):Rows.uptoBulkAll e+1≤Rows.uptoBulk (.slice e s):=by
 simp only[Rows.uptoBulk];omega
theorem OM {w:World} {a:Addr} {v:Value} (h:w.cell? a=some v):a.spot=none∧a.block<w.heap.size:=by
 unfold World.cell? at h
 split at h
 ·rename_i hb
  refine⟨?_, ?_⟩
  ·cases hs:a.spot with
   |none=>rfl
   |some k=>simp[hs] at h
  ·exact(Array.getElem?_eq_some_iff.1 hb).1
 ·cases h
theorem Oc {w:World} {base n:Nat} {a:Addr} {cs:List Value} (h:w.cells? base a n=some cs) (hn:0<n):a.spot=none∧Al w a.block a.off cs:=by
 obtain⟨_,hl,hg⟩:=World.cells?_some h
 have h0:=hg 0 hn
 have hv:cs[0]? =some cs[0]:=List.getElem?_eq_getElem (by omega)
 rw[hv] at h0
 have hp:=OM h0
 have hs:a.spot=none:=by simpa[Addr.add] using hp.1
 refine⟨hs,⟨by simpa[Addr.add] using hp.2,fun j x hx=> ?_⟩⟩
 have hj:j<n:=by rw[←hl];exact(List.getElem?_eq_some_iff.1 hx).1
 rw[←hx, ←hg j hj]
 congr 1
 unfold Addr.add
 split
 ·subst_vars;cases a;simp_all
 ·rfl
theorem Tp {a:Addr} (hs:a.spot=none) (n:Nat):a.add n=⟨a.block,a.off+n,none⟩:=by
 unfold Addr.add
 split
 ·subst_vars;cases a;simp_all
 ·rfl
section
variable {H:Type} {enc:TypeId×Value→H} {w:World} {base:Nat} {spare:Nat→Bool} {held:Bool} {fuel:Nat}
theorem Qs {u:Value} {x:DataW H×List MemPlace} (h:DataW.trod enc Tryz.prog w base spare held fuel 22 [u]=some x): ∃b:List UInt8,u=str b∧Rows.uptoBulk x.1=b.length+1:=by
 obtain⟨s,e,hx,_⟩:=DataW.trod_string Tryz.underlying22 h
 refine⟨s.data.toList, ?_, ?_⟩
 ·have:u= .string s:=by simpa using e
  rw[this]
 ·rw[hx];simp[Rows.uptoBulk]
end
theorem cPt:Tryz.prog.cellsOf 44=2:=by kernel_rfl
section
variable {H:Type} {enc:TypeId×Value→H} {w:World} {base:Nat} {spare:Nat→Bool} {held:Bool} {fuel:Nat} {cs:List Value} {x:DataW H×List MemPlace}
theorem RF (h:DataW.trod enc Tryz.prog w base spare held fuel 44 cs=some x): ∃f:List UInt8×List UInt8,cs=[str f.1,str f.2]:=by
 obtain⟨xs,m,rfl,hx,hl,hn,hg⟩:=DataW.trod_struct Tryz.underlying44 h
 rw[cPt] at hl
 obtain⟨x0,x1,rfl⟩: ∃x0 x1,xs=[x0,x1]:=by
  match xs,hn with
  |[a,b],_=>exact⟨a,b,rfl⟩
 match cs,hl with
 |[v0,v1],_=>
  have h0:DataW.trod enc Tryz.prog w base spare held m 22 (List.take (Tryz.prog.cellsOf 22) [v0,v1])=some x0:=hg 0 _ rfl
  have h1:DataW.trod enc Tryz.prog w base spare held m 22 (List.take (Tryz.prog.cellsOf 22) [v1])=some x1:=hg 1 _ rfl
  rw[UM] at h0 h1
  obtain⟨s,rfl,_⟩:=Qs h0
  obtain⟨t,rfl,_⟩:=Qs h1
  exact⟨(s,t),I⟩
theorem Qw (h:DataW.trod enc Tryz.prog w base spare held fuel 37 cs=some x):
  ∃(p:Option Addr) (cap:Nat) (l:List (List UInt8×List UInt8)),cs=[.slice p l.length cap]∧Gs w p l∧l.length+1≤Rows.uptoBulk x.1:=by
 rcases open_slice Tryz.underlying37 h with⟨rfl,rfl⟩|⟨a,len,cap,m,n,D,Pl,rfl,_,hl,_,hm,rfl,hx⟩
 ·exact⟨none,0,[],I, .inl I,NW _⟩
 have hlm:len≤m:=by rw[hm];split<;>omega
 obtain⟨S,hS⟩:=choose_lt (α:=List UInt8×List UInt8) (n:=len) (p:=fun i s=>w.cells? base (a.add (i*2)) 2=some [str s.1,str s.2]) fun i hi=>by
  obtain⟨cs',h1,h2⟩:=hx i (by omega)
  rw[cPt] at h1
  obtain⟨f,rfl⟩:=RF h2
  exact⟨f,h1⟩
 refine⟨some a,cap,(List.range len).map S,by simp, ?_, ?_⟩
 ·by_cases h0:len=0
  ·subst h0;exact .inl rfl
  ·have hs:a.spot=none:=by simpa[Addr.add] using(Oc (hS 0 (by omega)) (by decide)).1
   refine .inr ⟨a.block,a.off,by cases a;simp_all,fun i hi=> ?_⟩
   have h1:i<len:=by simpa using hi
   have:=(Oc (hS i h1) (by decide)).2
   rw[Tp hs] at this
   simpa using this
 ·have h1:=S7 ((List.range len).map D)
  have h2:=OQ ((List.range len).map D) ((List.range (m-len)).map fun j=>D (len+j))
  simp only[List.length_map,List.length_range] at h1⊢
  omega
end
section
variable {H:Type} {enc:TypeId×Value→H} {w:World} {base:Nat} {spare:Nat→Bool} {held:Bool} {v:Value} {d:DataW H} {ps:List MemPlace}
theorem NZ {r:Reach} {b0:Nat} (hv:Value.okWide Tryz.prog w r b0 37 v) (h:DataW.Trod enc Tryz.prog w base spare held 37 v d ps):
  ∃(p:Option Addr) (m:Nat) (l:List PtS),v=slv p l.length m∧Gs w p l∧l.length+1≤Rows.uptoBulk d:=by
 obtain⟨p0,n0,c0,rfl⟩:=okWide_slice Tryz.underlying37 hv
 obtain⟨fuel,hf⟩:=h
 obtain⟨p,cap,l,e,hl,hb⟩:=Qw hf
 refine⟨p,cap,l, ?_,hl,hb⟩
 simpa[Value.cells] using e
end
end
end Go.Proofs.YtemghkmmcomalaaGreatDoor
