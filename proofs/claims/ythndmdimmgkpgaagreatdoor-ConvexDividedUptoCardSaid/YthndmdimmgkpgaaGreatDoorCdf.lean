/-
  Lemmas that the theorem convexDivided_upto_card needs (part 6 of 6).
-/
import Derived.Test.YthndmdimmgkpgaaGreatDoorCde
import Derived.Test.YthndmdimmgkpgaaGreatDoorRows
import Derived.Test.YthndmdimmgkpgaaGreatDoorCards
import Derived.Test.YthndmdimmgkpgaaGreatDoorTie
import Derived.Deep.Slices
import Derived.ChangeArms
import Derived.ChangeShapes
import Derived.WideShapes
import Derived.Carry
import Derived.ProofKit
import Derived.OpenShut
import Derived.Deep.DeepHandedRow
import Derived.Lib.LaidTab
import Derived.Stop.LaidErr
import Derived.Lay
import Derived.SevenTiedAt
import Derived.Shelf.Vars
import Derived.ChangeMaps5
set_option maxHeartbeats 64000000
namespace Go.Proofs.YthndmdimmgkpgaaGreatDoor
section
open Go Go.RowKit Go.Am Go.Lib
set_option maxRecDepth 10000
-- BOXES 4
-- CODE2
theorem LC: ∀ {l:List PtS},Fh l=0→ ∃m:List Aj,l=m.map cvS∧ ∀x∈m,okP x
 |[],_=>⟨[],rfl,fun _ h=>absurd h (by simp)⟩
 |x::l,h=>by
  have h:(if (rdR x.1).2≠0 then(rdR x.1).2 else if (rdR x.2).2≠0 then(rdR x.2).2 else Fh l)=0:=h
  by_cases h1:(rdR x.1).2=0
  ·rw[if_neg (by simp[h1])] at h
   by_cases h2:(rdR x.2).2=0
   ·rw[if_neg (by simp[h2])] at h
    obtain⟨m,rfl,hm⟩:=LC h
    obtain⟨q1,o1,e1⟩:=Iy h1
    obtain⟨q2,o2,e2⟩:=Iy h2
    refine⟨(q1,q2)::m, ?_,fun y hy=> ?_⟩
    ·rw[List.map_cons,cvS, ←e1, ←e2]
    ·rcases List.mem_cons.1 hy with rfl|hy
     ·exact⟨o1,o2⟩
     ·exact hm y hy
   ·rw[if_pos h2] at h
    exact absurd h h2
  ·rw[if_pos h1] at h
   exact absurd h h1
def R8 (l:List PtS):Prop:= ∃m:List Aj,l=m.map cvS∧3≤m.length∧(∀x∈m,okP x)∧Bt m
theorem Oi (W:World) (p:Option Addr) (cap:Nat) (l:List PtS) (hA:Gl W p l) (h4:l.length≤4096) (hs: ∀x∈l,x.1.length<4611686018427387904∧x.2.length<4611686018427387904) (ht:AL W):
  Ah Tryz.prog 39 #[slv p l.length cap] W (fun e:Int=> .int .i64 e) (fun e=>e=0→R8 l) (fun _=>[]):=by
 by_cases h3:3≤l.length
 rotate_left
 ·refine Ab (args:=[slv p l.length cap]) Tryz.func39 I I I ?_
  refine zA (zB (wP I (Aa (zE (zA (zA (zB (wP I (wP I (wP I (wU 12 true I (dT (by omega)) (Aa (zE ?_)))))))))))))
  exact zR I (zA (zB (wP I (Aa (zE (zO (zP (Ay tH I (.tmp I) (5:Int) I (fun h=>absurd h (by decide)) fun W _=>Ao.nil _ _))))))))
 by_cases h0:Fh l=0
 ·obtain⟨m,rfl,hm⟩:=LC h0
  rw[List.length_map] at h3 h4
  have h:=Lp W p cap m hA h3 h4 hm ht
  rw[List.length_map]
  refine⟨h.out.mono ?_⟩
  rintro e W' ⟨x,he,hx,hb⟩
  exact⟨x,he,fun h0=>⟨m,I,h3,hm,(hx.1 h0).poly h3⟩,hb⟩
 ·refine Ab (args:=[slv p l.length cap]) Tryz.func39 I I I ?_
  refine zA (zB (wP I (Aa (zE (zA (zA (zB (wP I (wP I (wP I (wU 12 false I (dF (by omega)) (Aa (zE ?_)))))))))))))
  refine zS I (zI (zE (zA (zA (zB (wP I (wP I (wP I (wU 15 false I (dF (by omega)) (Aa (zE (zS I (zI ?_)))))))))))))
  refine zE (zA (zA (zB (wP I (wC I I (fun W1 hp=>Gi W1 p cap l (hA.hp hp) (by omega) hs (ht.hp hp)) (wP I (Aa (zE (zA (zB (wP I (wP I (wU 19 true I (bne_iff_ne.2 h0) ?_)))))))))))))
  exact Aa (zE (zR I (zA (zB (wP I (wP I (Aa (zE (zO (zP (Ay tH I (.tmp I) (Fh l) I (fun h=>absurd h h0) fun W _=>Ao.nil _ _)))))))))))
abbrev Ls:=Option Addr×Nat×List PtS
abbrev lsV (x:Ls):Value:=slv x.1 x.2.2.length x.2.1
structure LsP (W:World) (g off:Nat) (xs:List Ls):Prop where
 r:Al W g off (xs.map lsV)
 p: ∀x∈xs,Gl W x.1 x.2.2
theorem LsP.hp {W0 W:World} {bxs:List Bx} {g off:Nat} {xs:List Ls} (h:LsP W0 g off xs) (hp:Hp W0 bxs W):LsP W g off xs:=⟨h.r.hp hp,fun x hx=>(h.p x hx).hp hp⟩
theorem LsP.row {W:World} {g off:Nat} {xs:List Ls} (h:LsP W g off xs) {i:Nat} (hi:i<xs.length):Al W g (off+i*1) [lsV xs[i]]:=by
 refine⟨h.r.lt,fun j u hu=> ?_⟩
 have hj:j=0:=by have:=(List.getElem?_eq_some_iff.1 hu).1;simpa using this
 subst hj
 have:=h.r.get i (lsV xs[i]) (by rw[List.getElem?_map,List.getElem?_eq_getElem hi];rfl)
 rw[Nat.mul_one,Nat.add_zero,this]
 simpa using hu
theorem LL {α:Type} {F:α→Bool} {l:List α} {i:Nat} (h:i<l.length):(l.drop i).any F=(F l[i]||(l.drop (i+1)).any F):=by
 rw[List.drop_eq_getElem_cons h,List.any_cons]
def H8 (x:Ls):Bool:=Jf x.2.2
theorem Lv (xs:List Ls) (hn:xs.length≤100000) (hl: ∀x∈xs,x.2.2.length<4611686018427387904) (g off cap:Nat) (W:World) (hS:LsP W g off xs):
  Ah Tryz.prog 124 #[slv (some ⟨g,off,none⟩) xs.length cap, .func (.func 58) #[] #[]] W (fun z:Int=> .int .i64 z) (fun z=>0≤z↔xs.any H8=true) (fun _=>[]):=by
 refine Ab (args:=[slv (some ⟨g,off,none⟩) xs.length cap, .func (.func 58) #[] #[]]) Tryz.func124 I I I ?_
 refine zA (zB (wP I (Aa (zE (zA (zA (zB (wP I (wP I (wP I (Aa (zE (zH ?_)))))))))))))
 refine A6 (X:=Nat) (fun i=>[(0,slv (some ⟨g,off,none⟩) xs.length cap),(1, .func (.func 58) #[] #[]),(6,slv (some ⟨g,off,none⟩) xs.length cap),(7, .int .i64 (xs.length:Nat)),(8, .int .i64 (i:Nat))]) (fun _=>[]) (fun i=>i≤xs.length∧xs.any H8=(xs.drop i).any H8) (fun i=>xs.length-i) 0 ⟨Nat.zero_le _,by rw[List.drop_zero]⟩ ⟨I,I,I,I,I,tO⟩ [] I ?_
 intro i hi
 obtain⟨hi,hA⟩:i≤xs.length∧xs.any H8=(xs.drop i).any H8:=hi
 refine zA (zB (wP I ?_))
 by_cases hlt:i<xs.length
 rotate_left
 ·refine wU 9 false I (dF (by omega)) (Aa (zE (zA (zS I (zJ (zK (zK (zL (zE (zA (zB (wP I (Aa ?_)))))))))))))
  refine zE (zO ?_)
  rw[List.drop_of_length_le (by omega)] at hA
  exact Ay tH I (.tmp I) (-1:Int) I (by rw[hA];exact⟨fun h=>absurd h (by decide),fun h=>absurd (show false=true from h) (by decide)⟩) fun W _=>Ao.nil _ _
 refine wU 9 true I (dT (by omega)) (Aa (zE (zA (zR I (zI (zE (zA (zH (zA (zB ?_))))))))))
 have hr:=hS.row hlt
 rw[LL hlt] at hA
 have hx:xs[i]∈xs:=List.getElem_mem _
 obtain⟨x,hq⟩: ∃x,x=xs[i]:=⟨_,rfl⟩
 rw[←hq] at hr hA hx
 refine wP I (wP I (Aa (zE (zA (zB (wP I (wP I (wP I ?_))))))))
 refine wJ ?_
 refine wL 0 I I (fun W1 hp=>hr.hp hp) I ?_
 refine B1 (capt:=[]) I I I I I I (by kernel_rfl) (fun W1 hp=>Lz W1 x.1 x.2.1 x.2.2 ((hS.p x hx).hp hp) (hl x hx)) ?_
 refine Aa (zE ?_)
 refine Ap I (fun hc=> ?_) (fun hc=> ?_)
 ·have hc:H8 x=true:=hc
  exact zA (zB (wP I (wP I (Aa (zE (zO (zQ (zP (zP (zQ (zP (Ay tH I (.tmp I) ((i:Nat):Int) I ⟨fun _=>by rw[hA,hc];rfl,fun _=>by omega⟩ fun W _=>Ao.nil _ _))))))))))))
 ·have hc:H8 x=false:=hc
  rw[hc,Bool.false_or] at hA
  exact zI (zN (zE (zB (wP I (wV 18 ((i+1:Nat):Int) I (Ax (by omega)) (wP I (Aa (Az (i+1) ⟨hlt,hA⟩ (by show xs.length-(i+1)<xs.length-i;omega) ⟨I,I,I,I,I,tO⟩ [] I))))))))
theorem IE (xs:List Ls) (hn:xs.length≤100000) (hl: ∀x∈xs,x.2.2.length<4611686018427387904) (g off cap:Nat) (W:World) (hS:LsP W g off xs):
  Ah Tryz.prog 57 #[slv (some ⟨g,off,none⟩) xs.length cap, .func (.func 58) #[] #[]] W (fun _:Unit=> .bool (xs.any H8)) (fun _=>True) (fun _=>[]):=by
 refine Ab (args:=[slv (some ⟨g,off,none⟩) xs.length cap, .func (.func 58) #[] #[]]) Tryz.func57 I I I ?_
 refine zA (zB (wP I (Aa (zE (zA (zB (wP I (wP I ?_))))))))
 refine wD (X:=Int) I I (fun W1 hp=>Lv xs hn hl g off cap W1 (hS.hp hp)) ?_
 intro z hz
 have hz:0≤z↔xs.any H8=true:=hz
 refine wP I ?_
 refine Af 8 (.bool (xs.any H8)) I (congrArg Value.bool (by
  cases h:xs.any H8 with
  |true=>exact dT (hz.2 h)
  |false=>exact dF fun h2=>by rw[hz.1 h2] at h;cases h)) ?_
 exact wP I (Aa (zE (zO (wR1 I I I))))
theorem MR (xs:List Ls) (hn:xs.length≤100000) (hl: ∀x∈xs,x.2.2.length<4611686018427387904) (g off cap:Nat) (W:World) (hS:LsP W g off xs):
  Ah Tryz.prog 20 #[slv (some ⟨g,off,none⟩) xs.length cap] W (fun _:Unit=> .bool (xs.any H8)) (fun _=>True) (fun _=>[]):=by
 refine Ab (args:=[slv (some ⟨g,off,none⟩) xs.length cap]) Tryz.func20 I I I ?_
 refine zA (zB (wP I (Aa (zE (zA (zB (wP I ?_)))))))
 refine B1 (capt:=[]) I I I I I I (by kernel_rfl) (fun W1 hp=>IE xs hn hl g off cap W1 (hS.hp hp)) ?_
 exact wP I (Aa (zE (zO (wR1 I I I))))
def SL (x:PtS):Bool:=decide (5<max x.1.length x.2.length)
theorem Ob (x:PtS) (W:World):Ah Tryz.prog 40 #[.agg #[str x.1,str x.2]] W (fun _:Unit=> .bool (SL x)) (fun _=>True) (fun _=>[]):=by
 refine Ab (args:=[.agg #[str x.1,str x.2]]) Tryz.func40 I I I ?_
 refine zA (zB ?_)
 (refine A5 rfl rfl rfl rfl ?_;intro)
 refine wP I (Aa (zE (zA (zB (wP I (wB 0 I I I (wP I ?_)))))))
 refine Af 5 (.int .i64 (x.1.length:Nat)) I (congrArg (fun n:Nat=>Value.int .i64 (n:Int)) (Au _)) ?_
 refine wP I (wB 0 I I I (wP I ?_))
 refine Af 8 (.int .i64 (x.2.length:Nat)) I (congrArg (fun n:Nat=>Value.int .i64 (n:Int)) (Au _)) ?_
 exact wP I (wV 9 (max x.1.length x.2.length:Nat) I (by split<;>omega) (wP I (wU 10 (SL x) I (decide_eq_decide.2 (by omega)) (wP I (Aa (zE (zO (wR1 I I I))))))))
theorem Lj (g:Nat) (hE:Bk Tryz.prog g=true) (F:PtS→Bool) (hg: ∀x W,Ah Tryz.prog g #[.agg #[str x.1,str x.2]] W (fun _:Unit=> .bool (F x)) (fun _=>True) (fun _=>[])) (xs:List PtS) (hn:xs.length≤100000) (p:Option Addr) (cap:Nat) (W:World) (hS:Gl W p xs):
  Ah Tryz.prog 81 #[slv p xs.length cap, .func (.func g) #[] #[]] W (fun z:Int=> .int .i64 z) (fun z=>0≤z↔xs.any F=true) (fun _=>[]):=by
 refine Ab (args:=[slv p xs.length cap, .func (.func g) #[] #[]]) Tryz.func81 I I I ?_
 refine zA (zB (wP I (Aa (zE (zA (zA (zB (wP I (wP I (wP I (Aa (zE (zH ?_)))))))))))))
 refine A6 (X:=Nat) (fun i=>[(0,slv p xs.length cap),(1, .func (.func g) #[] #[]),(6,slv p xs.length cap),(7, .int .i64 (xs.length:Nat)),(8, .int .i64 (i:Nat))]) (fun _=>[]) (fun i=>i≤xs.length∧xs.any F=(xs.drop i).any F) (fun i=>xs.length-i) 0 ⟨Nat.zero_le _,by rw[List.drop_zero]⟩ ⟨I,I,I,I,I,tO⟩ [] I ?_
 intro i hi
 obtain⟨hi,hA⟩:i≤xs.length∧xs.any F=(xs.drop i).any F:=hi
 refine zA (zB (wP I ?_))
 by_cases hlt:i<xs.length
 rotate_left
 ·refine wU 9 false I (dF (by omega)) (Aa (zE (zA (zS I (zJ (zK (zK (zL (zE (zA (zB (wP I (Aa ?_)))))))))))))
  refine zE (zO ?_)
  rw[List.drop_of_length_le (by omega)] at hA
  exact Ay tH I (.tmp I) (-1:Int) I (by rw[hA];exact⟨fun h=>absurd h (by decide),fun h=>absurd (show false=true from h) (by decide)⟩) fun W _=>Ao.nil _ _
 refine wU 9 true I (dT (by omega)) (Aa (zE (zA (zR I (zI (zE (zA (zH (zA (zB ?_))))))))))
 obtain⟨b,off,rfl,hrow⟩: ∃b off,p=some ⟨b,off,none⟩∧ ∀i (hi:i<xs.length),Al W b (off+i*2) [str xs[i].1,str xs[i].2]:=by
  rcases hS with h|h
  ·rw[h] at hlt;exact absurd hlt (by simp)
  ·exact h
 have hr:=hrow i hlt
 rw[LL hlt] at hA
 obtain⟨x,hq⟩: ∃x,x=xs[i]:=⟨_,rfl⟩
 rw[←hq] at hr hA
 refine wP I (wP I (Aa (zE (zA (zB (wP I (wP I (wP I ?_))))))))
 refine wJ ?_
 refine wL 0 I I (fun W1 hp=>hr.hp hp) I ?_
 refine B1 (capt:=[]) I I I I I I hE (fun W1 _=>hg x W1) ?_
 refine Aa (zE ?_)
 refine Ap I (fun hc=> ?_) (fun hc=> ?_)
 ·have hc:F x=true:=hc
  exact zA (zB (wP I (wP I (Aa (zE (zO (zQ (zP (zP (zQ (zP (Ay tH I (.tmp I) ((i:Nat):Int) I ⟨fun _=>by rw[hA,hc];rfl,fun _=>by omega⟩ fun W _=>Ao.nil _ _))))))))))))
 ·have hc:F x=false:=hc
  rw[hc,Bool.false_or] at hA
  exact zI (zN (zE (zB (wP I (wV 18 ((i+1:Nat):Int) I (Ax (by omega)) (wP I (Aa (Az (i+1) ⟨hlt,hA⟩ (by show xs.length-(i+1)<xs.length-i;omega) ⟨I,I,I,I,I,tO⟩ [] I))))))))
theorem IS (g:Nat) (hE:Bk Tryz.prog g=true) (F:PtS→Bool) (hg: ∀x W,Ah Tryz.prog g #[.agg #[str x.1,str x.2]] W (fun _:Unit=> .bool (F x)) (fun _=>True) (fun _=>[])) (xs:List PtS) (hn:xs.length≤100000) (p:Option Addr) (cap:Nat) (W:World) (hS:Gl W p xs):
  Ah Tryz.prog 29 #[slv p xs.length cap, .func (.func g) #[] #[]] W (fun _:Unit=> .bool (xs.any F)) (fun _=>True) (fun _=>[]):=by
 refine Ab (args:=[slv p xs.length cap, .func (.func g) #[] #[]]) Tryz.func29 I I I ?_
 refine zA (zB (wP I (Aa (zE (zA (zB (wP I (wP I ?_))))))))
 refine wD (X:=Int) I I (fun W1 hp=>Lj g hE F hg xs hn p cap W1 (hS.hp hp)) ?_
 intro z hz
 have hz:0≤z↔xs.any F=true:=hz
 refine wP I ?_
 refine Af 8 (.bool (xs.any F)) I (congrArg Value.bool (by
  cases h:xs.any F with
  |true=>exact dT (hz.2 h)
  |false=>exact dF fun h2=>by rw[hz.1 h2] at h;cases h)) ?_
 exact wP I (Aa (zE (zO (wR1 I I I))))
def Ma (l:List PtS):Prop:= ∃m:List Aj,l=m.map cvS∧3≤m.length∧m.length≤8∧(∀x∈m,okP x∧(Ae x.1).length≤5∧(Ae x.2).length≤5)∧Bt m
theorem Nc {l:List PtS} (h:Jf l=false):l.length≤8∧ ∀x∈l,x.1.length≤604∧x.2.length≤604:=by
 unfold Jf at h
 rw[Bool.or_eq_false_iff] at h
 refine⟨by have:=of_decide_eq_false h.2;omega,fun x hx=> ?_⟩
 have h1:=List.any_eq_false.1 h.1 x hx
 have h2:Jt x=false:=by cases e:Jt x with
  |true=>exact absurd e h1
  |false=>rfl
 unfold Jt at h2
 rw[Bool.or_eq_false_iff] at h2
 have one: ∀a:List UInt8,Gh a=false→a.length≤604:=fun a ha=>by
  unfold Gh at ha
  rw[Bool.or_eq_false_iff] at ha
  have:=of_decide_eq_false ha.2
  omega
 exact⟨one _ h2.1,one _ h2.2⟩
theorem SM {l:List PtS} (h1:Jf l=false) (h2:R8 l) (h3:l.any SL=false):Ma l:=by
 obtain⟨m,rfl,a,b,c⟩:=h2
 have h8:=(Nc h1).1
 rw[List.length_map] at h8
 refine⟨m,I,a,h8,fun x hx=>⟨b x hx, ?_⟩,c⟩
 have:=List.any_eq_false.1 h3 (cvS x) (List.mem_map_of_mem hx)
 have h5: ¬5<max (Ae x.1).length (Ae x.2).length:=fun h=>this (dT h)
 omega
theorem Pk (xs:List Ls) (hn:xs.length≤100000) (hl: ∀x∈xs,x.2.2.length<4611686018427387904) (g off cap:Nat) (W:World) (hS:LsP W g off xs) (ht:AL W):
  Ah Tryz.prog 9 #[slv (some ⟨g,off,none⟩) xs.length cap] W (fun b:Bool=> .bool b) (fun b=>b=true→ ∀x∈xs,Ma x.2.2) (fun _=>[]):=by
 refine Ab (args:=[slv (some ⟨g,off,none⟩) xs.length cap]) Tryz.func9 I I I ?_
 refine zA (zB (wP I (Aa (zE (zA (zA (zB (wP I (wP I (wP I (Aa (zE (zH ?_)))))))))))))
 refine A6 (X:=Nat) (fun i=>[(0,slv (some ⟨g,off,none⟩) xs.length cap),(5,slv (some ⟨g,off,none⟩) xs.length cap),(6, .int .i64 (xs.length:Nat)),(7, .int .i64 (i:Nat))]) (fun _=>[]) (fun i=>i≤xs.length∧ ∀x∈xs.take i,Ma x.2.2) (fun i=>xs.length-i) 0 ⟨Nat.zero_le _,fun x hx=>absurd hx (by simp)⟩ ⟨I,I,I,I,tO⟩ [] I ?_
 intro i hi
 obtain⟨hi,hA⟩:i≤xs.length∧ ∀x∈xs.take i,Ma x.2.2:=hi
 refine zA (zB (wP I ?_))
 by_cases hlt:i<xs.length
 rotate_left
 ·refine wU 8 false I (dF (by omega)) (Aa (zE (zA (zS I (zJ (zK (zK (zL (zE (zA (zB (wP I (Aa ?_)))))))))))))
  refine zE (zO ?_)
  rw[List.take_of_length_le (by omega)] at hA
  exact Ay tH I (.tmp I) true I (fun _=>hA) fun W _=>Ao.nil _ _
 refine wU 8 true I (dT (by omega)) (Aa (zE (zA (zR I (zI (zE (zA (zH (zA (zB ?_))))))))))
 have hr:=hS.row hlt
 have hx:xs[i]∈xs:=List.getElem_mem _
 have htk:xs.take (i+1)=xs.take i++[xs[i]]:=by rw[List.take_add_one,List.getElem?_eq_getElem hlt];rfl
 obtain⟨x,hq⟩: ∃x,x=xs[i]:=⟨_,rfl⟩
 rw[←hq] at hr htk hx
 have hX:=hS.p x hx
 have hlx:=hl x hx
 refine wJ ?_
 refine wL 0 I I (fun W1 hp=>hr.hp hp) I (wP I (Aa (zE (zA (zB (wP I ?_))))))
 refine AA Tryz.hZ tH I I I I I I I I I I I fun bS=> ?_
 refine B1 (capt:=[]) I I I I I I (by kernel_rfl) (fun W1 hp=>MR [x] (by show 1≤100000;decide) (fun y hy=>by rw[List.mem_singleton.1 hy];exact hlx) bS 0 1 W1 ⟨Al.of_bx hp 0 I I,fun y hy=>by rw[List.mem_singleton.1 hy];exact hX.hp hp⟩) ?_
 have e1:[x].any H8=H8 x:=by simp
 rw[e1]
 cases h1:H8 x with
 |true=>
  refine wP I ?_
  iterate 3 refine Ak I I ?_
  refine wP I (wP I ?_)
  iterate 2 refine Ak I I ?_
  refine wP I (Aa (zE (zR I (zA (zB (wP I (Aa (zE (zO (zQ (zP (zP (zQ ?_)))))))))))))
  exact zP (Ay tH rfl (.tmp rfl) false rfl (fun h=>by cases h) fun W _=>Ao.nil _ _)
 |false=>
  have hno:=Nc h1
  refine wP I (wP I ?_)
  refine wD (X:=Int) (capt:=[]) I I (fun W1 hp=>Oi W1 x.1 x.2.1 x.2.2 (hX.hp hp) (by have:=hno.1;omega) (fun y hy=>by have:=hno.2 y hy;omega) (ht.hp hp)) ?_
  intro e he
  have he:e=0→R8 x.2.2:=he
  refine wP I ?_
  by_cases h2:e=0
  ·refine wU 17 false I (bne_eq_false_iff_eq.2 h2) (wP I (wP I (wP I ?_)))
   refine B1 (capt:=[]) I I I I I I (by kernel_rfl) (fun W1 hp=>IS 40 (by kernel_rfl) SL Ob x.2.2 (by have:=hno.1;omega) x.1 x.2.1 W1 (hX.hp hp)) ?_
   cases h3:x.2.2.any SL with
   |true=>
    refine wP I (Aa (zE (zR I (zA (zB (wP I (Aa (zE (zO (zQ (zP (zP (zQ ?_)))))))))))))
    exact zP (Ay tH rfl (.tmp rfl) false rfl (fun h=>by cases h) fun W _=>Ao.nil _ _)
   |false=>
    refine wP I (Aa (zE (zS I (zI (zN (zE (zB (wP I (wV 23 ((i+1:Nat):Int) I (Ax (by omega)) (wP I (Aa ?_)))))))))))
    exact Az (i+1) ⟨hlt,fun y hy=>by
     rw[htk,List.mem_append] at hy
     rcases hy with hy|hy
     ·exact hA y hy
     ·rw[List.mem_singleton.1 hy];exact SM h1 (he h2) h3⟩ (by show xs.length-(i+1)<xs.length-i;omega) ⟨rfl,rfl,rfl,rfl,trivial⟩ [_] rfl
  ·refine wU 17 true I (bne_iff_ne.2 h2) (wP I (wP I ?_))
   iterate 2 refine Ak I I ?_
   refine wP I (Aa (zE (zR I (zA (zB (wP I (Aa (zE (zO (zQ (zP (zP (zQ ?_)))))))))))))
   exact zP (Ay tH rfl (.tmp rfl) false rfl (fun h=>by cases h) fun W _=>Ao.nil _ _)
def Ub (a b c:List UInt8):Prop:= ∃A B C:Rat,a=Ae A∧b=Ae B∧c=Ae C∧okQ A∧okQ B∧okQ C∧a.length≤5∧b.length≤5∧c.length≤5∧(A≠0∨B≠0)
theorem Pr (a b c:List UInt8) (W:World) (ht:AL W):
  Ah Tryz.prog 10 #[str a,str b,str c] W (fun x:Bool=> .bool x) (fun x=>x=true→Ub a b c) (fun _=>[]):=by
 refine Ab (args:=[str a,str b,str c]) Tryz.func10 I I I ?_
 have no: ∀ {P:Prop},false=true→P:=fun h=>by cases h
 refine zA (zB (wP I (Aa (zE (zA (zB (wP I (wP I ?_))))))))
 refine Af 8 (.int .i64 (a.length:Nat)) I (congrArg (fun n:Nat=>Value.int .i64 (n:Int)) (Au _)) ?_
 refine wP I (wP I ?_)
 refine Af 10 (.int .i64 (b.length:Nat)) I (congrArg (fun n:Nat=>Value.int .i64 (n:Int)) (Au _)) ?_
 refine wP I (wP I ?_)
 refine Af 12 (.int .i64 (c.length:Nat)) I (congrArg (fun n:Nat=>Value.int .i64 (n:Int)) (Au _)) ?_
 refine wP I (wV 13 (max (max a.length b.length) c.length:Nat) I (by split<;>split<;>omega) (wP I ?_))
 by_cases h5:max (max a.length b.length) c.length≤5
 rotate_left
 ·refine wU 14 false I (dF (by omega)) (wP I ?_)
  iterate 3 refine Ak I I ?_
  refine wP I (wP I ?_)
  iterate 3 refine Ak I I ?_
  refine wP I (wP I ?_)
  iterate 3 refine Ak I I ?_
  refine wP I (wP I ?_)
  iterate 6 refine Ak I I ?_
  exact wP I (wP I (Aa (zE (zO (Ay tH I (.tmp I) false I no fun W _=>Ao.nil _ _)))))
 refine wU 14 true I (dT (by omega)) (wP I (wP I (wC I I (fun W1 hp=>CH a (by omega) W1 (ht.hp hp)) (wP I ?_))))
 by_cases ha:(rdR a).2=0
 rotate_left
 ·refine wU 18 false I (beq_eq_false_iff_ne.2 ha) (wP I (wP I ?_))
  iterate 3 refine Ak I I ?_
  refine wP I (wP I ?_)
  iterate 3 refine Ak I I ?_
  refine wP I (wP I ?_)
  iterate 6 refine Ak I I ?_
  exact wP I (wP I (Aa (zE (zO (Ay tH I (.tmp I) false I no fun W _=>Ao.nil _ _)))))
 refine wU 18 true I (beq_iff_eq.2 ha) (wP I (wP I (wP I (wC I I (fun W1 hp=>CH b (by omega) W1 (ht.hp hp)) (wP I ?_)))))
 by_cases hb:(rdR b).2=0
 rotate_left
 ·refine wU 23 false I (beq_eq_false_iff_ne.2 hb) (wP I (wP I ?_))
  iterate 3 refine Ak I I ?_
  refine wP I (wP I ?_)
  iterate 6 refine Ak I I ?_
  exact wP I (wP I (Aa (zE (zO (Ay tH I (.tmp I) false I no fun W _=>Ao.nil _ _)))))
 refine wU 23 true I (beq_iff_eq.2 hb) (wP I (wP I (wP I (wC I I (fun W1 hp=>CH c (by omega) W1 (ht.hp hp)) (wP I ?_)))))
 by_cases hc:(rdR c).2=0
 rotate_left
 ·refine wU 28 false I (beq_eq_false_iff_ne.2 hc) (wP I (wP I ?_))
  iterate 6 refine Ak I I ?_
  exact wP I (wP I (Aa (zE (zO (Ay tH I (.tmp I) false I no fun W _=>Ao.nil _ _)))))
 refine wU 28 true I (beq_iff_eq.2 hc) ?_
 obtain⟨A,oA,rfl⟩:=Iy ha
 obtain⟨B,oB,rfl⟩:=Iy hb
 obtain⟨C,oC,rfl⟩:=Iy hc
 refine wP I (wP I (wP I (wP I ?_)))
 by_cases hA:A=0
 ·refine wU 32 false I (by show(!_)=false;rw[AR,dT (by rw[hA,C3])];rfl) (wP I (wP I (wP I ?_)))
  by_cases hB:B=0
  ·exact wU 35 false I (by show(!_)=false;rw[AR,dT (by rw[hB,C3])];rfl) (wP I (wP I (wP I (Aa (zE (zO (Ay tH I (.tmp I) false I no fun W _=>Ao.nil _ _)))))))
  ·exact wU 35 true I (by show(!_)=true;rw[AR,dF (fun e=>hB (Kp.1 (e.trans C3.symm)))];rfl) (wP I (wP I (wP I (Aa (zE (zO (Ay tH I (.tmp I) true I (fun _=>⟨A,B,C,I,I,I,oA,oB,oC,by omega,by omega,by omega, .inr hB⟩) fun W _=>Ao.nil _ _)))))))
 ·refine wU 32 true I (by show(!_)=true;rw[AR,dF (fun e=>hA (Kp.1 (e.trans C3.symm)))];rfl) (wP I ?_)
  iterate 2 refine Ak I I ?_
  exact wP I (wP I (wP I (Aa (zE (zO (Ay tH I (.tmp I) true I (fun _=>⟨A,B,C,I,I,I,oA,oB,oC,by omega,by omega,by omega, .inl hA⟩) fun W _=>Ao.nil _ _))))))
end
section
open Go Go.RowKit Go.Am Go.Lib
theorem Gs {q:Rat} {X W:Int} {k:Nat} (hW:W≠0) (h:q*(W:Rat)=X) (h1:X.natAbs<10^k) (h2:W.natAbs<10^k):szQ q k:=by
 have hw:(W:Rat)≠0:=fun e=>hW (by have h:=congrArg Rat.num e;rwa [Rat.num_intCast] at h)
 have e:q=(X:Rat)/(W:Rat):=by rw[←h,Rat.mul_div_cancel hw]
 have h:=GR X hW h1 h2
 rw[Iu X hW,Rat.divInt_eq_div] at h
 rw[e]
 exact h
def Hm (e:Nat) (p:Aj):Prop:= ∃X Y W:Int,W≠0∧X.natAbs<10^e∧Y.natAbs<10^e∧W.natAbs<10^e∧p.1*(W:Rat)=X∧p.2*(W:Rat)=Y
theorem Hm.sz {e:Nat} {p:Aj} (h:Hm e p):szQ p.1 e∧szQ p.2 e:=by
 obtain⟨X,Y,W,h0,hX,hY,hW,e1,e2⟩:=h
 exact⟨Gs h0 e1 hX hW,Gs h0 e2 hY hW⟩
theorem Hm.mono {e e':Nat} {p:Aj} (h:Hm e p) (he:e≤e'):Hm e' p:=by
 obtain⟨X,Y,W,h0,hX,hY,hW,e1,e2⟩:=h
 have:=Nat.pow_le_pow_right (show 0<10 by decide) he
 exact⟨X,Y,W,h0,by omega,by omega,by omega,e1,e2⟩
def LnH (f:AD):Prop:= ∃A B C D:Int,D≠0∧A.natAbs<10^11∧B.natAbs<10^11∧C.natAbs<10^11∧D.natAbs<10^9∧f.a*(D:Rat)=A∧f.b*(D:Rat)=B∧f.c*(D:Rat)=C
theorem Sw {u v D Wp Wq p1 q1 Xp Xq U V t:Rat} (hp:p1*Wp=Xp) (hq:q1*Wq=Xq) (hU:u*(D*Wp)=U) (hV:v*(D*Wq)=V) (ht:t*(u-v)=u):(p1+t*(q1-p1))*(U*Wq-V*Wp)=U*Xq-V*Xp:=by
 subst hp hq hU hV
 have e:(p1+t*(q1-p1))*(u-v)=u*q1-v*p1:=by
  have:(p1+t*(q1-p1))*(u-v)=p1*(u-v)+t*(u-v)*(q1-p1):=by grind
  rw[this,ht];grind
 have:(p1+t*(q1-p1))*(u*(D*Wp)*Wq-v*(D*Wq)*Wp)=(p1+t*(q1-p1))*(u-v)*(D*Wp*Wq):=by grind
 rw[this,e];grind
theorem RO {a b c x y A B C D W X Y:Rat} (h1:a*D=A) (h2:b*D=B) (h3:c*D=C) (h4:x*W=X) (h5:y*W=Y):(a*x+b*y-c)*(D*W)=A*X+B*Y-C*W:=by
 subst h1 h2 h3 h4 h5;grind
theorem UT {u v D Wp Wq U V t:Rat} (hU:u*(D*Wp)=U) (hV:v*(D*Wq)=V) (ht:t*(u-v)=u):t*(U*Wq-V*Wp)=U*Wq:=by
 subst hU hV
 have:t*(u*(D*Wp)*Wq-v*(D*Wq)*Wp)=t*(u-v)*(D*Wp*Wq):=by grind
 rw[this,ht];grind
theorem Ud {u v:Rat} (h:u*v<0):u-v≠0:=fun e=>by
 have e2:u=v:=by grind
 subst e2
 rcases BB.1 h with⟨a,b⟩|⟨a,b⟩<;>first|exact Rat.not_lt.2 (Rat.le_of_lt a) b|exact Rat.not_lt.2 (Rat.le_of_lt b) a
theorem Hm.at_ {e:Nat} {p:Aj} {f:AD} (hp:Hm e p) (hf:LnH f):szQ (f.at p) (e+13):=by
 obtain⟨X,Y,W,h0,hX,hY,hW,e1,e2⟩:=hp
 obtain⟨A,B,C,D,hD0,hA,hB,hC,hD,f1,f2,f3⟩:=hf
 have hU:=RO f1 f2 f3 e1 e2
 have b1:=G1 (AI hA hX) (AI hB hY)
 have b2:(C*W).natAbs<10^(11+e+1):=Nat.lt_of_lt_of_le (AI hC hW) (Nat.pow_le_pow_right (by decide) (by omega))
 have b3:=DE b1 b2
 refine Gs (W:=D*W) (X:=A*X+B*Y-C*W) (Int.mul_ne_zero hD0 h0) ?_ (by rw[show e+13=11+e+1+1 by omega];exact b3) ?_
 ·unfold AD.at
  rw[Rat.intCast_mul,Rat.intCast_sub,Rat.intCast_add,Rat.intCast_mul,Rat.intCast_mul,Rat.intCast_mul]
  exact hU
 ·exact Nat.lt_of_lt_of_le (AI hD hW) (Nat.pow_le_pow_right (by decide) (by omega))
theorem Hm.cut {e:Nat} {p q:Aj} {f:AD} (hp:Hm e p) (hq:Hm e q) (hf:LnH f) (h:f.at p*f.at q<0):
  Hm (2*e+14) (Dw (f.at p/(f.at p-f.at q)) p q)∧szQ (f.at p/(f.at p-f.at q)) (2*e+14):=by
 have hn:=Ud h
 obtain⟨X,Y,W,h0,hX,hY,hW,e1,e2⟩:=hp
 obtain⟨X',Y',W',h0',hX',hY',hW',e1',e2'⟩:=hq
 obtain⟨A,B,C,D,hD0,hA,hB,hC,hD,f1,f2,f3⟩:=hf
 have hU:f.at p*((D:Rat)*W)=((A*X+B*Y-C*W:Int):Rat):=by
  rw[Rat.intCast_sub,Rat.intCast_add,Rat.intCast_mul,Rat.intCast_mul,Rat.intCast_mul]
  exact RO f1 f2 f3 e1 e2
 have hV:f.at q*((D:Rat)*W')=((A*X'+B*Y'-C*W':Int):Rat):=by
  rw[Rat.intCast_sub,Rat.intCast_add,Rat.intCast_mul,Rat.intCast_mul,Rat.intCast_mul]
  exact RO f1 f2 f3 e1' e2'
 have bU:(A*X+B*Y-C*W).natAbs<10^(11+e+1+1):=DE (G1 (AI hA hX) (AI hB hY)) (Nat.lt_of_lt_of_le (AI hC hW) (Nat.pow_le_pow_right (by decide) (by omega)))
 have bV:(A*X'+B*Y'-C*W').natAbs<10^(11+e+1+1):=DE (G1 (AI hA hX') (AI hB hY')) (Nat.lt_of_lt_of_le (AI hC hW') (Nat.pow_le_pow_right (by decide) (by omega)))
 generalize A*X+B*Y-C*W=U at hU bU
 generalize A*X'+B*Y'-C*W'=V at hV bV
 have ht:f.at p/(f.at p-f.at q)*(f.at p-f.at q)=f.at p:=Rat.div_mul_cancel hn
 generalize f.at p/(f.at p-f.at q)=t at ht
 have hwn:U*W'-V*W≠0:=fun e0=>by
  have c0:((U*W'-V*W:Int):Rat)=0:=by rw[e0];rfl
  rw[Rat.intCast_sub,Rat.intCast_mul,Rat.intCast_mul, ←hU, ←hV] at c0
  have c1:f.at p*((D:Rat)*W)*W'-f.at q*((D:Rat)*W')*W=(f.at p-f.at q)*((D:Rat)*W*W'):=by grind
  rw[c1] at c0
  have nz: ∀ {z:Int},z≠0→(z:Rat)≠0:=fun hz e=>hz (by have h:=congrArg Rat.num e;rwa [Rat.num_intCast] at h)
  rcases Rat.mul_eq_zero.1 c0 with c|c
  ·exact hn c
  ·rcases Rat.mul_eq_zero.1 c with c|c
   ·rcases Rat.mul_eq_zero.1 c with c|c
    ·exact nz hD0 c
    ·exact nz h0 c
   ·exact nz h0' c
 have pw: ∀ {a b:Int},a.natAbs<10^(11+e+1+1)→b.natAbs<10^e→(a*b).natAbs<10^(2*e+13):=fun ha hb=>by
  rw[show 2*e+13=11+e+1+1+e by omega];exact AI ha hb
 refine⟨⟨U*X'-V*X,U*Y'-V*Y,U*W'-V*W,hwn,DE (pw bU hX') (pw bV hX),DE (pw bU hY') (pw bV hY),DE (pw bU hW') (pw bV hW), ?_, ?_⟩, ?_⟩
 ·rw[Rat.intCast_sub,Rat.intCast_sub,Rat.intCast_mul,Rat.intCast_mul,Rat.intCast_mul,Rat.intCast_mul]
  exact Sw e1 e1' hU hV ht
 ·rw[Rat.intCast_sub,Rat.intCast_sub,Rat.intCast_mul,Rat.intCast_mul,Rat.intCast_mul,Rat.intCast_mul]
  exact Sw e2 e2' hU hV ht
 ·refine Gs hwn (X:=U*W') ?_ (Nat.lt_of_lt_of_le (pw bU hW') (Nat.pow_le_pow_right (by decide) (by omega))) (DE (pw bU hW') (pw bV hW))
  rw[Rat.intCast_sub,Rat.intCast_mul,Rat.intCast_mul]
  exact UT hU hV ht
theorem LnH.sz {f:AD} (hf:LnH f):szQ f.a 11∧szQ f.b 11∧szQ f.c 11:=by
 obtain⟨A,B,C,D,hD0,hA,hB,hC,hD,f1,f2,f3⟩:=hf
 have hD':D.natAbs<10^11:=Nat.lt_of_lt_of_le hD (Nat.pow_le_pow_right (by decide) (by decide))
 exact⟨Gs hD0 f1 hA hD',Gs hD0 f2 hB hD',Gs hD0 f3 hC hD'⟩
theorem Hm.kept {e:Nat} {f:AD} {l:List Aj} (hf:LnH f) (hl: ∀p∈l,Hm e p): ∀k,k≤l.length→ ∀p∈D5 f l k,Hm (2*e+14) p
 |0,_,p,hp=>absurd hp (by simp[D5,Bm])
 |k+1,hk,p,hp=>by
  have h0:0<l.length:=by omega
  rw[Hb,EP,List.mem_append,List.mem_append] at hp
  rcases hp with(hp|hp)|hp
  ·exact Hm.kept hf hl k (by omega) p hp
  ·split at hp
   ·rw[List.mem_singleton.1 hp];exact(hl _ (B8 h0 k)).mono (by omega)
   ·exact absurd hp (by simp)
  ·split at hp
   ·rename_i c
    rw[List.mem_singleton.1 hp];exact((hl _ (B8 h0 k)).cut (hl _ (B8 h0 (k+1))) hf c).1
   ·exact absurd hp (by simp)
theorem Hm.clip {e:Nat} {f:AD} {l:List Aj} (hf:LnH f) (hl: ∀p∈l,Hm e p): ∀p∈AY f l,Hm (2*e+14) p:=fun p hp=>by
 unfold AY at hp
 split at hp
 ·exact Hm.kept hf hl l.length (Nat.le_refl _) p (HG.1 hp)
 ·exact absurd hp (by simp)
theorem ClZ.of {e:Nat} {f:AD} {l:List Aj} (hf:LnH f) (he:e≤50) (hl: ∀p∈l,Hm e p):ClZ f l:=by
 obtain⟨sa,sb,sc⟩:=hf.sz
 refine⟨fun q hq=> ?_,fun i hi hc=> ?_,fun p hp=> ?_⟩
 ·obtain⟨q1,q2⟩:=(hl q hq).sz
  exact⟨sz2 sa q1 (by omega),sz2 sb q2 (by omega),sz2 (sa.mul q1) (sb.mul q2) (by omega),sz2 ((sa.mul q1).add (sb.mul q2)) sc (by omega)⟩
 ·have h0:0<l.length:=by omega
  have hp:=hl _ (B8 h0 i)
  have hq:=hl _ (B8 h0 (i+1))
  have hu:=hp.at_ hf
  have hv:=hq.at_ hf
  have ht:=(hp.cut hq hf hc).2
  obtain⟨p1,p2⟩:=hp.sz
  obtain⟨q1,q2⟩:=hq.sz
  exact⟨sz2 hu hv (by omega),sz2 hu (hu.sub hv) (by omega),UB (Ud hc),sz2 q1 p1 (by omega),sz2 ht (q1.sub p1) (by omega),sz2 p1 (ht.mul (q1.sub p1)) (by omega),sz2 q2 p2 (by omega),sz2 ht (q2.sub p2) (by omega),sz2 p2 (ht.mul (q2.sub p2)) (by omega)⟩
 ·have h:=(Hm.kept hf hl l.length (Nat.le_refl _) p hp).sz
  exact⟨h.1.mono (by omega),h.2.mono (by omega)⟩
theorem Sv {q:Rat} (h:(Ae q).length≤5):q.num.natAbs<10^5∧q.den<10^3:=by
 have hi:(itoa q.num).length≤5∧(decDigits q.den).length≤3:=by
  unfold Ae Ej at h
  split at h
  ·rename_i e
   exact⟨h,by rw[e];exact Nat.le_trans (CU 1 1 (by decide) (by decide)) (by decide)⟩
  ·rw[List.length_append,List.length_cons] at h
   have h1:0<(itoa q.num).length:=by
    rw[BE,List.length_append]
    have:0<(decDigits q.num.natAbs).length:=by rw[SQ];exact nDigits_pos _
    omega
   omega
 have h2:(decDigits q.num.natAbs).length≤5:=by
  have h1:=hi.1
  rw[BE,List.length_append] at h1
  omega
 exact⟨Nat.lt_of_lt_of_le (CM _) (Nat.pow_le_pow_right (by decide) h2),Nat.lt_of_lt_of_le (CM _) (Nat.pow_le_pow_right (by decide) hi.2)⟩
theorem I1 (q:Rat):q*((q.den:Int):Rat)=(q.num:Rat):=by
 have hd:((q.den:Int):Rat)≠0:=fun e=>by
  have h:=congrArg Rat.num e
  rw[Rat.num_intCast] at h
  have:=q.den_pos
  have h:(q.den:Int)=0:=h
  omega
 have e:q=(q.num:Rat)/((q.den:Int):Rat):=by
  rw[←Rat.divInt_eq_div]
  exact(Rat.num_divInt_den q).symm
 conv=>lhs;lhs;rw[e]
 exact Rat.div_mul_cancel hd
theorem hm5 {p:Aj} (h1:(Ae p.1).length≤5) (h2:(Ae p.2).length≤5):Hm 8 p:=by
 obtain⟨a,b⟩:=Sv h1
 obtain⟨c,d⟩:=Sv h2
 have b':((p.1.den:Nat):Int).natAbs<10^3:=by rw[Int.natAbs_natCast];exact b
 have d':((p.2.den:Nat):Int).natAbs<10^3:=by rw[Int.natAbs_natCast];exact d
 refine⟨p.1.num*(p.2.den:Nat),p.2.num*(p.1.den:Nat),(p.1.den:Nat)*(p.2.den:Nat), ?_,AI a d',AI c b',Nat.lt_of_lt_of_le (AI b' d') (by decide), ?_, ?_⟩
 ·have:=p.1.den_pos;have:=p.2.den_pos
  exact Int.mul_ne_zero (by omega) (by omega)
 ·have:=I1 p.1
  rw[Rat.intCast_mul,Rat.intCast_mul, ←this];grind
 ·have:=I1 p.2
  rw[Rat.intCast_mul,Rat.intCast_mul, ←this];grind
theorem Vg {f:AD} (h1:(Ae f.a).length≤5) (h2:(Ae f.b).length≤5) (h3:(Ae f.c).length≤5):LnH f:=by
 obtain⟨a,b⟩:=Sv h1
 obtain⟨c,d⟩:=Sv h2
 obtain⟨g,h⟩:=Sv h3
 have b':((f.a.den:Nat):Int).natAbs<10^3:=by rw[Int.natAbs_natCast];exact b
 have d':((f.b.den:Nat):Int).natAbs<10^3:=by rw[Int.natAbs_natCast];exact d
 have h':((f.c.den:Nat):Int).natAbs<10^3:=by rw[Int.natAbs_natCast];exact h
 refine⟨f.a.num*((f.b.den:Nat)*(f.c.den:Nat)),f.b.num*((f.a.den:Nat)*(f.c.den:Nat)),f.c.num*((f.a.den:Nat)*(f.b.den:Nat)),(f.a.den:Nat)*((f.b.den:Nat)*(f.c.den:Nat)), ?_,AI a (AI d' h'),AI c (AI b' h'),AI g (AI b' d'),AI b' (AI d' h'), ?_, ?_, ?_⟩
 ·have:=f.a.den_pos;have:=f.b.den_pos;have:=f.c.den_pos
  exact Int.mul_ne_zero (by omega) (Int.mul_ne_zero (by omega) (by omega))
 ·have:=I1 f.a
  simp only[Rat.intCast_mul];rw[←this];grind
 ·have:=I1 f.b
  simp only[Rat.intCast_mul];rw[←this];grind
 ·have:=I1 f.c
  simp only[Rat.intCast_mul];rw[←this];grind
end
section
open Go Go.RowKit Go.Am Go.Lib
set_option maxRecDepth 10000
-- BOXES 12
-- CODE2
theorem Ps {N:Nat} {D:List Deferred} {Q:Exit→Act→World→Prop} {ex:Exit} {env:Env} {W0:World} {bxs bxs':List Bx} (e:bxs=bxs') (h:NE N D Q ex env (Hp W0 bxs')):NE N D Q ex env (Hp W0 bxs):=e▸h
theorem TQ:Ae 2=[50]:=(congrArg Ae (show(2:Rat)=q2 2 1 by decide+kernel)).trans ns2
theorem T9:Ae 3=[51]:=(congrArg Ae (show(3:Rat)=q2 3 1 by decide+kernel)).trans ns3
structure Oz (p q:Aj):Prop where
 x:Sz2 p.1 q.2
 y:Sz2 q.1 p.2
 s:Sz2 (p.1*q.2) (q.1*p.2)
theorem Jp (c:Nat) (p q:Aj) (hz:Oz p q) (W:World) (hc:Cq W c) (hv:Ci W) (ht:AL W):
  Ah Tryz.prog 46 #[Ai c,sdV p q] W (fun _:Unit=>str (Ae (CT p q))) (fun _=>True) (fun _=>[]):=by
 refine Ab (args:=[Ai c,sdV p q]) Tryz.func46 I I I ?_
 refine zA (zB ?_)
 (refine A5 rfl rfl rfl rfl ?_;intro)
 refine wP I (Aa (zE (zA (zU (qP I ?_)))))
 refine Bs Tryz.underlying66 Tryz.sizeOf35 I I I I I ⟨by decide,by decide⟩ ?_
 refine qP I (qB 0 I I I ?_)
 refine Bs Tryz.underlying66 Tryz.sizeOf35 I I I I I ⟨by decide,by decide⟩ ?_
 refine qP I (qB 0 I I I (qC I I (fun W hp=>BX c p.1 q.2 hz.x W (hc.hp hp) (hv.hp hp) (ht.hp hp)) (qP I ?_)))
 refine Bs Tryz.underlying66 Tryz.sizeOf35 I I I I I ⟨by decide,by decide⟩ ?_
 refine qP I (qB 0 I I I ?_)
 refine Bs Tryz.underlying66 Tryz.sizeOf35 I I I I I ⟨by decide,by decide⟩ ?_
 refine qP I (qB 0 I I I (qC I I (fun W hp=>BX c q.1 p.2 hz.y W (hc.hp hp) (hv.hp hp) (ht.hp hp)) (qP I (qP I (AP (Aa (zE (zA (zB (wP I (wP I (wP I (wC I I (fun W hp=>Ct c (p.1*q.2) (q.1*p.2) hz.s W (hc.hp hp) (hv.hp hp) (ht.hp hp)) ?_)))))))))))))
 exact wP I (Aa (zE (zO (wR1 I I I))))
def crK (l:List Aj) (k:Nat):Rat:=Bl (fun i=>CT (Ad l i) (Ad l (i+1))) k
theorem Nu (l:List Aj) (k:Nat):crK l (k+1)=crK l k+CT (Ad l k) (Ad l (k+1)):=rfl
structure ArZ (l:List Aj):Prop where
 d: ∀i,i<l.length→Oz (Ad l i) (Ad l (i+1))
 s: ∀i,i<l.length→Sz2 (crK l i) (CT (Ad l i) (Ad l (i+1)))
 h:Sz2 (AV l) 2
abbrev caB (c:Nat):Bx:=⟨c,61,[.int .i64 0],true,none⟩
abbrev nuB (b:Nat) (q:Rat):Bx:=⟨b,23,[str (Ae q)],true,none⟩
theorem GM (l:List Aj) (hz:ArZ l) (p:Option Addr) (cap:Nat) (W:World) (h:ER W p l):
  Ah Tryz.prog 15 #[slv p l.length cap] W (fun _:Unit=> .tuple #[str (Ae (AV l/2)), .int .i64 0]) (fun _=>True) (fun _=>[]):=by
 have hn:=h.n
 refine Ab (args:=[slv p l.length cap]) Tryz.func15 I I I ?_
 refine zA (zB (wP I (wP I (Aa (zE (zA (zA (zB (wP I (wC I I (fun W1 hp=>Fj l p cap W1 (h.hp hp)) (wP I (Aa (zE ?_)))))))))))))
 refine zA (zB (wP I (wP I (Aa (zE (zS I (zI (zE (zA (zB ?_))))))))))
 refine Av Tryz.hZ tH I I I I I I I I ?_
 (refine A5 rfl rfl rfl rfl ?_;intro)
 (refine Ag Tryz.hZ rfl rfl rfl rfl ?_;intro)
 (refine Ag Tryz.hZ rfl rfl rfl rfl ?_;intro)
 refine wS 1 I I I (wS 2 I I I (Aa ?_))
 rename_i bC b5 b6
 refine Ps (bxs':=[caB bC,ckB b5 bC,nuB b6 (crK l 0)]) (by show _=[caB bC,ckB b5 bC,nuB b6 0];rw[nuB,C3];rfl) ?_
 refine zE (zA (zA (zB (wP I ?_))))
 refine wD (X:=Nat) I I (fun W1 _=>DA p l.length cap W1) ?_
 intro bp _
 refine Aa (zE (zH ?_))
 refine F4 (X:=Nat) (fun k=>[caB bC,ckB b5 bC,nuB b6 (crK l k),lsB bp (slv p l.length cap)])
  (fun j x=>x=j) (fun _ _=>False) 0 rfl (by kernel_rfl) (Ea l bp p cap (by omega)) (fun _=>rfl)
  rfl [] rfl (fun k x W1 _ hp=>⟨Al.of_bx hp 3 rfl rfl,(h.hp hp).m⟩) ?_ ?_ (fun _ _ _ _ _ h=>h.elim)
 ·rintro k k' d l' rec L hk e1 hrec
  obtain rfl:k'=k:=e1
  have hk:k'<l.length:=hk
  have hsu:=Nu l k'
  refine zB ?_
  (refine Ag Tryz.hZ rfl rfl rfl rfl ?_;intro)
  refine wS 7 I I I (Aa ?_)
  rename_i b8
  refine CY 6 hrec I ?_
  refine CV ?_
  refine AZ (X:=Unit) [true,true,true,true,true,true,false] (fun _=>[(5,Ai b5)]) (fun _=>[By L,caB bC,ckB b5 bC,nuB b6 (crK l (k'+1)),lsB bp (slv p l.length cap),B5 d,Bc l' rec .busy none])
   1 [By L,caB bC,ckB b5 bC,nuB b6 (crK l k'),lsB bp (slv p l.length cap),B5 d,Bc l' rec .busy none,⟨b8,66,(sdV (Ad l k') (Ad l (k'+1))).cells.toList,true,none⟩] Tryz.mixed (by kernel_rfl) ?_ ?_
  ·refine qB 2 I I I (qB 3 I I I (qB 2 I I I (qB 7 I I I (qC I I (fun W1 hp=>Jp bC (Ad l k') (Ad l (k'+1)) (hz.d k' hk) W1 (Bh hp 1 I) (h.hp hp).v (h.hp hp).t) (qC I I (fun W1 hp=>Cw bC (crK l k') (CT (Ad l k') (Ad l (k'+1))) (hz.s k' hk) W1 (Bh hp 1 I) (h.hp hp).v (h.hp hp).t) (Cm ?_))))))
   rw[←hsu]
   refine wX (wZ (wS 3 I I I (Aa (Ac ?_))))
   refine AT I (by kernel_rfl) ?_
   exact At () ⟨I,tO⟩ [0,1,2,3,4,5,6] (by decide) I
  intro _
  exact zN (Cj 6 (k'+1) hrec I I [] I)
 ·rintro k' d l' rec e1
  obtain rfl:k'=l.length:=e1
  refine zN (zE (zA (zA (zB (wB 1 I I I (wB 2 I I I (wC I I (fun W1 hp=>(by have:=FS bC (AV l) 2 hz.h (by decide) W1 (Bh hp 0 I) (h.hp hp).v (h.hp hp).t;rwa [TQ] at this)) (wP I (Aa (zE (zA (zB (wB 1 I I I ?_)))))))))))))
  refine Bb I I I I ?_
  refine wP I (wB 0 I I I (wP I (Aa (zE (zR I (zA (zB (wP I (wP I (wP I (Aa (zE (zO ?_)))))))))))))
  refine zP ?_
  refine CG 4 I ?_
  exact wR2 I I I
-- BOXES 12
-- CODE2
def moX (l:List Aj) (k:Nat):Rat:=Bl (fun i=>((Ad l i).1+(Ad l (i+1)).1)*CT (Ad l i) (Ad l (i+1))) k
def moY (l:List Aj) (k:Nat):Rat:=Bl (fun i=>((Ad l i).2+(Ad l (i+1)).2)*CT (Ad l i) (Ad l (i+1))) k
theorem Rz (l:List Aj) (k:Nat):moX l (k+1)=moX l k+((Ad l k).1+(Ad l (k+1)).1)*CT (Ad l k) (Ad l (k+1)):=rfl
theorem SO (l:List Aj) (k:Nat):moY l (k+1)=moY l k+((Ad l k).2+(Ad l (k+1)).2)*CT (Ad l k) (Ad l (k+1)):=rfl
structure CeZ (l:List Aj):Prop where
 d: ∀i,i<l.length→Oz (Ad l i) (Ad l (i+1))
 s: ∀i,i<l.length→Sz2 (crK l i) (CT (Ad l i) (Ad l (i+1)))
 x1: ∀i,i<l.length→Sz2 (Ad l i).1 (Ad l (i+1)).1
 x2: ∀i,i<l.length→Sz2 ((Ad l i).1+(Ad l (i+1)).1) (CT (Ad l i) (Ad l (i+1)))
 x3: ∀i,i<l.length→Sz2 (moX l i) (((Ad l i).1+(Ad l (i+1)).1)*CT (Ad l i) (Ad l (i+1)))
 y1: ∀i,i<l.length→Sz2 (Ad l i).2 (Ad l (i+1)).2
 y2: ∀i,i<l.length→Sz2 ((Ad l i).2+(Ad l (i+1)).2) (CT (Ad l i) (Ad l (i+1)))
 y3: ∀i,i<l.length→Sz2 (moY l i) (((Ad l i).2+(Ad l (i+1)).2)*CT (Ad l i) (Ad l (i+1)))
 m:Sz2 3 (AV l)
 nz:(3*AV l).num≠0
 dx:Sz2 (H3 l) (3*AV l)
 dy:Sz2 (Hu l) (3*AV l)
abbrev ptB (b:Nat) (a c:List UInt8):Bx:=⟨b,35,[str a,str c],true,none⟩
theorem Li (l:List Aj) (hz:CeZ l) (p:Option Addr) (cap:Nat) (W:World) (h:ER W p l):
  Ah Tryz.prog 35 #[slv p l.length cap] W (fun _:Unit=> .tuple #[.agg #[str (Ae (H3 l/(3*AV l))),str (Ae (Hu l/(3*AV l)))], .int .i64 0]) (fun _=>True) (fun _=>[]):=by
 have hn:=h.n
 refine Ab (args:=[slv p l.length cap]) Tryz.func35 I I I ?_
 refine zA (zB ?_)
 (refine Ag Tryz.hZ rfl rfl rfl rfl ?_;intro)
 refine wP I (Aa ?_)
 rename_i b2
 refine zE (zA (zA (zB (wP I (wC I I (fun W1 hp=>Fj l p cap W1 (h.hp hp)) (wP I (Aa (zE (zA (zB (wP I (wP I (Aa ?_)))))))))))))
 refine zE (zS I (zI (zE (zA (zB ?_)))))
 refine Av Tryz.hZ tH I I I I I I I I ?_
 (refine A5 rfl rfl rfl rfl ?_;intro)
 (refine Ag Tryz.hZ rfl rfl rfl rfl ?_;intro)
 refine wS 2 I I I (Aa ?_)
 rename_i bC b5
 refine zE (zA (zB ?_))
 (refine Ag Tryz.hZ rfl rfl rfl rfl ?_;intro)
 (refine Ag Tryz.hZ rfl rfl rfl rfl ?_;intro)
 (refine Ag Tryz.hZ rfl rfl rfl rfl ?_;intro)
 refine wS 3 I I I (wS 4 I I I (wS 5 I I I (Aa ?_)))
 rename_i b6 b7 b8
 refine Ps (bxs':=[ptB b2 [] [],caB bC,ckB b5 bC,nuB b6 (moX l 0),nuB b7 (moY l 0),nuB b8 (crK l 0)]) (by show _=[ptB b2 [] [],caB bC,ckB b5 bC,nuB b6 0,nuB b7 0,nuB b8 0];rw[nuB,nuB,nuB,C3];rfl) ?_
 refine zE (zA (zA (zB (wP I ?_))))
 refine wD (X:=Nat) I I (fun W1 _=>DA p l.length cap W1) ?_
 intro bp _
 refine Aa (zE (zH ?_))
 refine F4 (X:=Nat) (fun k=>[ptB b2 [] [],caB bC,ckB b5 bC,nuB b6 (moX l k),nuB b7 (moY l k),nuB b8 (crK l k),lsB bp (slv p l.length cap)])
  (fun j x=>x=j) (fun _ _=>False) 0 rfl (by kernel_rfl) (Ea l bp p cap (by omega)) (fun _=>rfl)
  rfl [] rfl (fun k x W1 _ hp=>⟨Al.of_bx hp 6 rfl rfl,(h.hp hp).m⟩) ?_ ?_ (fun _ _ _ _ _ h=>h.elim)
 ·rintro k k' d l' rec L hk e1 hrec
  obtain rfl:k'=k:=e1
  have hk:k'<l.length:=hk
  have hsu:=Nu l k'
  have hsx:=Rz l k'
  have hsy:=SO l k'
  refine zB ?_
  (refine Ag Tryz.hZ rfl rfl rfl rfl ?_;intro)
  refine wS 10 I I I (Aa ?_)
  rename_i b10
  refine CY 9 hrec I ?_
  refine CV (zA (zB (wB 3 I I I (wB 10 I I I (wC I I (fun W1 hp=>Jp bC (Ad l k') (Ad l (k'+1)) (hz.d k' hk) W1 (Bh hp 2 I) (h.hp hp).v (h.hp hp).t) (wP I (Aa (zE (Aw ?_)))))))))
  refine AZ (X:=Unit) [true,true,true,true,true,true,true,true,true,true,true,true,true,true,false] (fun _=>[(5,Ai b5),(6,Ai b6),(7,Ai b7),(8,Ai b8),(10,Ai b10),(11,str (Ae (CT (Ad l k') (Ad l (k'+1)))))]) (fun _=>[By L,ptB b2 [] [],caB bC,ckB b5 bC,nuB b6 (moX l (k'+1)),nuB b7 (moY l k'),nuB b8 (crK l k'),lsB bp (slv p l.length cap),B5 d,Bc l' rec .busy none,⟨b10,66,(sdV (Ad l k') (Ad l (k'+1))).cells.toList,true,none⟩])
   1 [By L,ptB b2 [] [],caB bC,ckB b5 bC,nuB b6 (moX l k'),nuB b7 (moY l k'),nuB b8 (crK l k'),lsB bp (slv p l.length cap),B5 d,Bc l' rec .busy none,⟨b10,66,(sdV (Ad l k') (Ad l (k'+1))).cells.toList,true,none⟩] Tryz.mixed (by kernel_rfl) ?_ ?_
  ·refine qB 3 I I I (qB 4 I I I (qB 3 I I I (qB 3 I I I ?_)))
   refine Bs Tryz.underlying66 Tryz.sizeOf35 I I I I I ⟨by decide,by decide⟩ ?_
   refine qP I (qB 10 I I I ?_)
   refine Bs Tryz.underlying66 Tryz.sizeOf35 I I I I I ⟨by decide,by decide⟩ ?_
   refine qP I (qB 10 I I I (qC I I (fun W1 hp=>Cw bC (Ad l k').1 (Ad l (k'+1)).1 (hz.x1 k' hk) W1 (Bh hp 2 I) (h.hp hp).v (h.hp hp).t) (qP I (qC I I (fun W1 hp=>BX bC ((Ad l k').1+(Ad l (k'+1)).1) (CT (Ad l k') (Ad l (k'+1))) (hz.x2 k' hk) W1 (Bh hp 2 I) (h.hp hp).v (h.hp hp).t) (qC I I (fun W1 hp=>Cw bC (moX l k') _ (hz.x3 k' hk) W1 (Bh hp 2 I) (h.hp hp).v (h.hp hp).t) (Cm ?_))))))
   rw[←hsx]
   refine wX (wZ (wS 4 I I I (Aa (Ac ?_))))
   refine AT I (by kernel_rfl) ?_
   exact At () ⟨I,I,I,I,I,I,tO⟩ [0,1,2,3,4,5,6,7,8,9,10] (by decide) I
  intro _
  refine zE (Aw ?_)
  refine AZ (X:=Unit) [true,true,true,true,true,true,true,true,true,true,true,true,true,true,false] (fun _=>[(5,Ai b5),(8,Ai b8),(11,str (Ae (CT (Ad l k') (Ad l (k'+1)))))]) (fun _=>[By L,ptB b2 [] [],caB bC,ckB b5 bC,nuB b6 (moX l (k'+1)),nuB b7 (moY l (k'+1)),nuB b8 (crK l k'),lsB bp (slv p l.length cap),B5 d,Bc l' rec .busy none])
   1 [By L,ptB b2 [] [],caB bC,ckB b5 bC,nuB b6 (moX l (k'+1)),nuB b7 (moY l k'),nuB b8 (crK l k'),lsB bp (slv p l.length cap),B5 d,Bc l' rec .busy none,⟨b10,66,(sdV (Ad l k') (Ad l (k'+1))).cells.toList,true,none⟩] Tryz.mixed (by kernel_rfl) ?_ ?_
  ·refine qB 3 I I I (qB 5 I I I (qB 3 I I I (qB 3 I I I ?_)))
   refine Bs Tryz.underlying66 Tryz.sizeOf35 I I I I I ⟨by decide,by decide⟩ ?_
   refine qP I (qB 10 I I I ?_)
   refine Bs Tryz.underlying66 Tryz.sizeOf35 I I I I I ⟨by decide,by decide⟩ ?_
   refine qP I (qB 10 I I I (qC I I (fun W1 hp=>Cw bC (Ad l k').2 (Ad l (k'+1)).2 (hz.y1 k' hk) W1 (Bh hp 2 I) (h.hp hp).v (h.hp hp).t) (qP I (qC I I (fun W1 hp=>BX bC ((Ad l k').2+(Ad l (k'+1)).2) (CT (Ad l k') (Ad l (k'+1))) (hz.y2 k' hk) W1 (Bh hp 2 I) (h.hp hp).v (h.hp hp).t) (qC I I (fun W1 hp=>Cw bC (moY l k') _ (hz.y3 k' hk) W1 (Bh hp 2 I) (h.hp hp).v (h.hp hp).t) (Cm ?_))))))
   rw[←hsy]
   refine wX (wZ (wS 5 I I I (Aa (Ac ?_))))
   refine AT I (by kernel_rfl) ?_
   exact At () ⟨I,I,I,tO⟩ [0,1,2,3,4,5,6,7,8,9] (by decide) I
  intro _
  refine zE (zB (wB 3 I I I (wB 6 I I I (wP I (wC I I (fun W1 hp=>Cw bC (crK l k') (CT (Ad l k') (Ad l (k'+1))) (hz.s k' hk) W1 (Bh hp 2 I) (h.hp hp).v (h.hp hp).t) ?_)))))
  rw[←hsu]
  exact wS 6 I I I (Aa (zN (Cj 9 (k'+1) hrec I I [] I)))
 ·rintro k' d l' rec e1
  obtain rfl:k'=l.length:=e1
  have ec:crK l l.length=AV l:=rfl
  have ex:moX l l.length=H3 l:=rfl
  have ey:moY l l.length=Hu l:=rfl
  rw[ec,ex,ey]
  refine zN (zE (zA (zB (wB 2 I I I (wB 5 I I I (wC I I (fun W1 hp=>(by have:=BX bC 3 (AV l) hz.m W1 (Bh hp 1 I) (h.hp hp).v (h.hp hp).t;rwa [T9] at this)) (wS 5 I I I (Aa (zE (Aw ?_))))))))))
  refine AZ (X:=Nat) [true,true,true,true,true,true,true,true,true,false,false] (fun b=>[(2,Ai b2),(5,Ai b5),(12,Ai b)]) (fun b=>[ptB b2 [] [],caB bC,ckB b5 bC,B5 d,ptB b (Ae (H3 l/(3*AV l))) (Ae (Hu l/(3*AV l)))])
   2 [ptB b2 [] [],caB bC,ckB b5 bC,nuB b6 (H3 l),nuB b7 (Hu l),nuB b8 (3*AV l),lsB bp (slv p l.length cap),B5 d,Bc l' rec .exhausted none] Tryz.mixed (by kernel_rfl) ?_ ?_
  ·refine qB 2 I I I (qB 3 I I I (qB 5 I I I (qC I I (fun W1 hp=>FS bC (H3 l) (3*AV l) hz.dx hz.nz W1 (Bh hp 1 I) (h.hp hp).v (h.hp hp).t) (qB 2 I I I (qB 4 I I I (qB 5 I I I (qC I I (fun W1 hp=>FS bC (Hu l) (3*AV l) hz.dy hz.nz W1 (Bh hp 1 I) (h.hp hp).v (h.hp hp).t) ?_)))))))
   refine GZ Tryz.hZ tH I I I I I I I I ?_
   refine Cm (wX (wZ ?_))
   refine Ag Tryz.hZ rfl rfl rfl rfl ?_;intro b
   refine Aa (Ac (wX (wZ (wS 9 I I I (Aa (Ac ?_))))))
   refine A4 I (by((repeat (first|refine A9.same ?_|refine A9.off I ?_));exact tO)) ?_
   exact At b ⟨I,I,I,tO⟩ [0,1,2,7,9] (by decide) I
  intro b12
  refine zE (zA (zA (zB (wB 2 I I I ?_))))
  refine Bb I I I I ?_
  refine wP I (wB 1 I I I (wP I (Aa (zE (zS I (zI (zE (zA (zB (wB 4 I I I (wS 0 I I I (wP I (Aa ?_)))))))))))))
  refine zE (zO ?_)
  refine CG 3 I ?_
  exact AF tH I (.cell 0 I I I I I) (.tmp I) () I tO fun W _=>Ao.nil _ _
-- BOXES 3
-- CODE2
section
variable {P:Program} {W0:World} {N:Nat} {D:List Deferred} {ops:List Oper} {o:Oper} {rest:List Oper} {env:Env} {bxs:List Bx} {A2:World→Prop} {R:Act→World→Prop}
theorem Rn {ρ:Operand→Value} {c:Call} {f:Operand} {g:Nat} {first vs:List Value} {W:World} (ho:o.op= .call c) (hc:c.callee= .value f) (hf:ρ f= .func (.func g) first.toArray #[]) (ha:c.args.map ρ=vs.toArray) (hE:Bk P g=true):
  (execOp ρ o).run P W= .ok (.enter g (first++vs).toArray) W:=by
 simp only[execOp,ho,resolve,hc,hf,ha,Sem.run_bind,Deferred.ofValue,Sem.run_pure,Result.andThen_ok,invoke,EY hE]
 simp
theorem RP {c:Call} {f:Operand} {g d:Nat} {first vs:List Value} {v:Value}
  (hg:A0 ops N env o=some true) (hd:o.dst=some d) (ho:o.op= .call c) (hc:c.callee= .value f) (hf:evO N env f=some (.func (.func g) first.toArray #[])) (ha:Ck (evO N env) c.args.toList=some vs) (hE:Bk P g=true)
  (hC: ∀W,Hp W0 bxs W→Ah P g (first++vs).toArray W (fun _:Unit=>v) (fun _=>True) (fun _=>[]))
  (h:WQ P N D ops A2 R rest ((d,v)::env) (Hp W0 bxs)):WQ P N D ops A2 R (o::rest) env (Hp W0 bxs):=
 JM hd (fun a W h1 _ hp=>by
  unfold OpS
  rw[Dq h1 hg,if_pos rfl]
  refine⟨fun c e=>(by rw[ho] at e;cases e), .inr ⟨g,_,Rn ho hc (A7 h1 _ _ hf) (Es (A7 h1) ha) hE,(hC W hp).out.mono ?_⟩⟩
  rintro e W' ⟨x,he,_,hb,_⟩
  exact⟨he,hp.grow hb,hb⟩) h
end
theorem Pp (x:Nat) (h:x≤18446744073709551615) (W:World):Ah Tryz.prog 134 #[.int .u64 (x:Nat)] W (fun _:Unit=> .int .i64 (Lib.bitLen x)) (fun _=>True) (fun _=>[]):=by
 refine Ah.of1 ((Go.Proofs.Any.bits_Len (P:=Tryz.prog) (ρ:=Tryz.lays125_ren) { Tryz.lays125 with } (x:Int) W (by omega) (by omega)).mono ?_)
 rintro e w' ⟨rfl,rfl⟩
 exact⟨I,Below.refl _ _⟩
def Dz (x y:Aj):List Aj:=if BR y x=true then[y,x] else[x,y]
abbrev lsF (c:Nat):Value:= .func (.func 71) #[Ai c] #[]
abbrev Dd (g:Nat) (l:List Aj) (junk:List Value):Bx:=⟨g,35,ptC l++junk,true,none⟩
theorem So {W0 W:World} {bxs:List Bx} (hp:Hp W0 bxs W) (k:Nat) {g:Nat} {x y:Aj} {junk:List Value} (hk:nth bxs k=some (Dd g [x,y] junk)):Al W g (0+0*2) [str (Ae x.1),str (Ae x.2)]:=
 Cz (a:=[str (Ae x.1),str (Ae x.2)]) (b:=[str (Ae y.1),str (Ae y.2)]++junk) (Al.of_bx hp k hk rfl)
theorem Sk {W0 W:World} {bxs:List Bx} (hp:Hp W0 bxs W) (k:Nat) {g:Nat} {x y:Aj} {junk:List Value} (hk:nth bxs k=some (Dd g [x,y] junk)):Al W g (0+1*2) [str (Ae y.1),str (Ae y.2)]:=
 Cz (a:=[str (Ae y.1),str (Ae y.2)]) (b:=junk) (GU (a:=[str (Ae x.1),str (Ae x.2)]) (b:=[str (Ae y.1),str (Ae y.2)]++junk) (Al.of_bx hp k hk rfl))
structure SrN (c g:Nat) (x y:Aj) (W:World):Prop where
 k: ∀W',Lg W W' g→Cq W' c∧Ci W'∧AL W'
 s1:Sz2 y.1 x.1
 s2:Sz2 y.2 x.2
theorem SrN.trans {c g:Nat} {x y:Aj} {W W':World} (h:SrN c g x y W) (hk:Lg W W' g):SrN c g x y W':=⟨fun W2 h2=>h.k W2 (hk.trans h2),h.s1,h.s2⟩
theorem OC (c:Nat) (W:World) (g cap:Nat) (x y:Aj) (junk:List Value) (hg:W.heap[g]? =some (.cells (ptC [x,y]++junk).toArray 35 (0,0))) (h:SrN c g x y W):
  Calls Tryz.prog 181 #[.slice (some ⟨g,0,none⟩) 2 cap, .int .i64 0, .int .i64 2,lsF c] W fun e W'=> ∃x1:Unit,e= .returned ((fun _=> .tuple #[]) x1)∧True∧M0 W W' g ((fun _=>g) x1) ((fun _=> .cells (ptC (Dz x y)++junk).toArray 35 (0,0)) x1):=by
 have key:Calls Tryz.prog 181 [.slice (some ⟨g,0,none⟩) 2 cap, .int .i64 0, .int .i64 2,lsF c].toArray W fun e W'=> ∃x1:Unit,e= .returned ((fun _=> .tuple #[]) x1)∧(fun _=>True) x1∧Below (Cb W).heap.size (Cb W) W'∧Ao (Cb W) W' ((fun _=>[By (AH W g),Dd g (Dz x y) junk]) x1):=by
  refine DD (X:=Unit) (val:=fun _=> .tuple #[]) (Φ:=fun _=>True) (nb:=fun _=>[By (AH W g),Dd g (Dz x y) junk]) (Hp.enterT (B:=Dd g [x,y] junk) I hg) Tryz.func181 I I I ?_
  refine zA (zB (wP I (wP I (wP I (Aa (zE (zH ?_)))))))
  refine A6 (X:=Bool) (fun b=>[(0, .slice (some ⟨g,0,none⟩) 2 cap),(1, .int .i64 0),(2, .int .i64 2),(3,lsF c),(8, .int .i64 (if b then 2 else 1))]) (fun b=>[By (AH W g),Dd g (if b then Dz x y else[x,y]) junk]) (fun _=>True) (fun b=>if b then 0 else 1) false tO ⟨I,I,I,I,I,tO⟩ [] I ?_
  intro b _
  cases b with
  |true=>
   exact zA (zA (zB (wP I (wP I (wP I (Aa (zE (zS I (zJ (zK (zK (zL (Q9 (X:=Unit) (val:=fun _=> .tuple #[]) (Φ:=fun _=>True) (nb:=fun _=>[By (AH W g),Dd g (Dz x y) junk]) (fn:=Tryz.f181) tH I () I tO fun W1 hp=>(hp.pick (l:=[By (AH W g),Dd g (Dz x y) junk]) [0,1] (by decide) I).own)))))))))))))
  |false=>
   refine zA (zA (zB (wP I (wP I (wP I (Aa (zE (zR I (zI (zE (zA (zH (zA ?_)))))))))))))
   refine zB (wP I (wP I (Aa (zE (zH ?_)))))
   refine A6 (X:=Bool) (fun b=>[(0, .slice (some ⟨g,0,none⟩) 2 cap),(1, .int .i64 0),(2, .int .i64 2),(3,lsF c),(8, .int .i64 1),(9, .int .i64 (if b then 0 else 1))]) (fun b=>[By (AH W g),Dd g (if b then[y,x] else[x,y]) junk]) (fun b=>b=true→BR y x=true) (fun b=>if b then 0 else 1) false (fun h=>by cases h) ⟨rfl,rfl,rfl,rfl,rfl,rfl,trivial⟩ [] rfl ?_
   intro b hb
   cases b with
   |true=>
    have hlt:=hb rfl
    have e:Dz x y=[y,x]:=by unfold Dz;rw[if_pos hlt]
    refine zA (zA (zU (qP I (qP I (qP I (qP I ?_))))))
    iterate 12 refine PR I I ?_
    refine qP I (AP (Aa (zE (zS I (zJ (zK (zK (zL (zN (zE (zB (wP I (wP I (wP I ?_))))))))))))))
    exact Aa (Az true tO (by decide) ⟨I,I,I,I,I,tO⟩ [] (by show _=[By (AH W g),Dd g (Dz x y) junk];rw[e];rfl))
   |false=>
    refine zA (zA (zU ?_))
    iterate 7 refine qP I ?_
    refine qI I I (by decide) (by decide) (qL 0 I I (fun W1 hp=>Sk hp 1 I) I (qP I (qP I (qP I (qI I I (by decide) (by decide) (qL 0 I I (fun W1 hp=>So hp 1 I) I ?_))))))
    refine RP (first:=[Ai c]) I I I I I I (by kernel_rfl) (fun W1 hp=>(by
     obtain⟨hc,hv,ht⟩:=h.k W1 (Mr hg ⟨_,List.mem_cons_self ..⟩ hp)
     exact Jl c y x h.s1 h.s2 W1 hc hv ht)) ?_
    refine qP I (qU 33 (BR y x) I (Qx y x) ?_)
    cases hlt:BR y x with
    |false=>
     have e:Dz x y=[x,y]:=by unfold Dz;rw[hlt];rfl
     refine qP I (AP (Aa (zE (zS I (zJ (zK (zK (zL (zN (zE (zB (wP I (wP I (wP I ?_))))))))))))))
     exact Aa (Az true tO (by decide) ⟨I,I,I,I,I,tO⟩ [] (by show _=[By (AH W g),Dd g (Dz x y) junk];rw[e];rfl))
    |true=>
     refine qP I (AP (Aa (zE (zR I (zI (zE (Aw (CV ?_))))))))
     repeat refine Aw ?_
     refine AZ (X:=Unit) [true,true,false,false,false,true,true,true,true,true,true,true,true,true,true,false,false,false] (fun _=>[(0, .slice (some ⟨g,0,none⟩) 2 cap),(1, .int .i64 0),(2, .int .i64 2),(3,lsF c),(8, .int .i64 1),(9, .int .i64 1)]) (fun _=>[By (AH W g),Dd g [y,x] junk])
      6 [By (AH W g),Dd g [x,y] junk] Tryz.mixed (by kernel_rfl) ?_ ?_
     ·refine qP I (qP I (qP I (qP I (qP I (qI I I (by decide) (by decide) (qL 0 I I (fun W1 hp=>So hp 1 I) I (qP I (qP I (qI I I (by decide) (by decide) (qL 0 I I (fun W1 hp=>Sk hp 1 I) I (qI I I (by decide) (by decide) (Cm (wX ?_)))))))))))))
      refine RS.cons ?_ (RS.cons ?_ (RS.cons ?_ (RS.nil)))
      ·refine wP I (Aa (Ac (wX ?_)))
       refine RS.cons ?_ (RS.cons ?_ (RS.nil))
       ·refine wP I (Aa (Ac (wX ?_)))
        refine RS.cons ?_ (RS.cons ?_ (RS.nil))
        ·refine wP I (Aa (Ac (wX (wZ ?_))))
         refine AC 1 (ptC [x,x]++junk) tH I I I I I I I I I I (by show 0+1*2+2≤(ptC [x,y]++junk).length;rw[List.length_append,Bg];show 4≤4+_;omega) I ?_
         refine Aa (Ac (wY (wZ (wI I I (by decide) (by decide) (Aa (Ac (wY (wZ ?_))))))))
         refine AC 1 (ptC [y,x]++junk) tH I I I I I I I I I I (by show 0+0*2+2≤(ptC [x,x]++junk).length;rw[List.length_append,Bg];show 2≤4+_;omega) I ?_
         refine Aa (Ac ?_)
         refine AT I (by kernel_rfl) ?_
         exact At () ⟨I,I,I,I,I,I,tO⟩ [0,1] (by decide) I
        ·refine AC 1 (ptC [x,x]++junk) tH I I I I I I I I I I (by show 0+1*2+2≤(ptC [x,y]++junk).length;rw[List.length_append,Bg];show 4≤4+_;omega) I ?_
         refine Aa (Ac (wY (wZ (wP I (Aa (Ac (wY (wZ (wI I I (by decide) (by decide) (Aa (Ac (wY (wZ ?_)))))))))))))
         refine AC 1 (ptC [y,x]++junk) tH I I I I I I I I I I (by show 0+0*2+2≤(ptC [x,x]++junk).length;rw[List.length_append,Bg];show 2≤4+_;omega) I ?_
         refine Aa (Ac ?_)
         refine AT I (by kernel_rfl) ?_
         exact At () ⟨I,I,I,I,I,I,tO⟩ [0,1] (by decide) I
       ·refine AC 1 (ptC [x,x]++junk) tH I I I I I I I I I I (by show 0+1*2+2≤(ptC [x,y]++junk).length;rw[List.length_append,Bg];show 4≤4+_;omega) I ?_
        refine Aa (Ac (wY (wZ (wP I (Aa (Ac (wY (wZ (wP I (Aa (Ac (wY (wZ ?_)))))))))))))
        refine wI I I (by decide) (by decide) (Aa (Ac (wY (wZ ?_))))
        refine AC 1 (ptC [y,x]++junk) tH I I I I I I I I I I (by show 0+0*2+2≤(ptC [x,x]++junk).length;rw[List.length_append,Bg];show 2≤4+_;omega) I ?_
        refine Aa (Ac ?_)
        refine AT I (by kernel_rfl) ?_
        exact At () ⟨I,I,I,I,I,I,tO⟩ [0,1] (by decide) I
      ·refine wP I (Aa (Ac (wX ?_)))
       refine RS.cons ?_ (RS.cons ?_ (RS.cons ?_ (RS.nil)))
       ·refine wP I (Aa (Ac (wX ?_)))
        refine RS.cons ?_ (RS.cons ?_ (RS.nil))
        ·refine wP I (Aa (Ac (wX (wZ ?_))))
         refine AC 1 (ptC [x,x]++junk) tH I I I I I I I I I I (by show 0+1*2+2≤(ptC [x,y]++junk).length;rw[List.length_append,Bg];show 4≤4+_;omega) I ?_
         refine Aa (Ac (wY (wZ (wI I I (by decide) (by decide) (Aa (Ac (wY (wZ ?_))))))))
         refine AC 1 (ptC [y,x]++junk) tH I I I I I I I I I I (by show 0+0*2+2≤(ptC [x,x]++junk).length;rw[List.length_append,Bg];show 2≤4+_;omega) I ?_
         refine Aa (Ac ?_)
         refine AT I (by kernel_rfl) ?_
         exact At () ⟨I,I,I,I,I,I,tO⟩ [0,1] (by decide) I
        ·refine AC 1 (ptC [x,x]++junk) tH I I I I I I I I I I (by show 0+1*2+2≤(ptC [x,y]++junk).length;rw[List.length_append,Bg];show 4≤4+_;omega) I ?_
         refine Aa (Ac (wY (wZ (wP I (Aa (Ac (wY (wZ (wI I I (by decide) (by decide) (Aa (Ac (wY (wZ ?_)))))))))))))
         refine AC 1 (ptC [y,x]++junk) tH I I I I I I I I I I (by show 0+0*2+2≤(ptC [x,x]++junk).length;rw[List.length_append,Bg];show 2≤4+_;omega) I ?_
         refine Aa (Ac ?_)
         refine AT I (by kernel_rfl) ?_
         exact At () ⟨I,I,I,I,I,I,tO⟩ [0,1] (by decide) I
       ·refine wP I (Aa (Ac (wX ?_)))
        refine RS.cons ?_ (RS.cons ?_ (RS.nil))
        ·refine wP I (Aa (Ac (wX (wZ ?_))))
         refine AC 1 (ptC [x,x]++junk) tH I I I I I I I I I I (by show 0+1*2+2≤(ptC [x,y]++junk).length;rw[List.length_append,Bg];show 4≤4+_;omega) I ?_
         refine Aa (Ac (wY (wZ (wI I I (by decide) (by decide) (Aa (Ac (wY (wZ ?_))))))))
         refine AC 1 (ptC [y,x]++junk) tH I I I I I I I I I I (by show 0+0*2+2≤(ptC [x,x]++junk).length;rw[List.length_append,Bg];show 2≤4+_;omega) I ?_
         refine Aa (Ac ?_)
         refine AT I (by kernel_rfl) ?_
         exact At () ⟨I,I,I,I,I,I,tO⟩ [0,1] (by decide) I
        ·refine AC 1 (ptC [x,x]++junk) tH I I I I I I I I I I (by show 0+1*2+2≤(ptC [x,y]++junk).length;rw[List.length_append,Bg];show 4≤4+_;omega) I ?_
         refine Aa (Ac (wY (wZ (wP I (Aa (Ac (wY (wZ (wI I I (by decide) (by decide) (Aa (Ac (wY (wZ ?_)))))))))))))
         refine AC 1 (ptC [y,x]++junk) tH I I I I I I I I I I (by show 0+0*2+2≤(ptC [x,x]++junk).length;rw[List.length_append,Bg];show 2≤4+_;omega) I ?_
         refine Aa (Ac ?_)
         refine AT I (by kernel_rfl) ?_
         exact At () ⟨I,I,I,I,I,I,tO⟩ [0,1] (by decide) I
       ·refine AC 1 (ptC [x,x]++junk) tH I I I I I I I I I I (by show 0+1*2+2≤(ptC [x,y]++junk).length;rw[List.length_append,Bg];show 4≤4+_;omega) I ?_
        refine Aa (Ac (wY ?_))
        refine RS.cons ?_ (RS.cons ?_ (RS.nil))
        ·refine wP I (Aa (Ac (wY (wZ (wP I (Aa (Ac (wY (wZ (wI I I (by decide) (by decide) (Aa (Ac (wY ?_)))))))))))))
         refine wZ ?_
         refine AC 1 (ptC [y,x]++junk) tH I I I I I I I I I I (by show 0+0*2+2≤(ptC [x,x]++junk).length;rw[List.length_append,Bg];show 2≤4+_;omega) I ?_
         refine Aa (Ac ?_)
         refine AT I (by kernel_rfl) ?_
         exact At () ⟨I,I,I,I,I,I,tO⟩ [0,1] (by decide) I
        ·refine wP I (Aa (Ac (wY (wZ (wP I (Aa (Ac (wY (wZ (wI I I (by decide) (by decide) (Aa (Ac (wY ?_)))))))))))))
         refine wZ ?_
         refine AC 1 (ptC [y,x]++junk) tH I I I I I I I I I I (by show 0+0*2+2≤(ptC [x,x]++junk).length;rw[List.length_append,Bg];show 2≤4+_;omega) I ?_
         refine Aa (Ac ?_)
         refine AT I (by kernel_rfl) ?_
         exact At () ⟨I,I,I,I,I,I,tO⟩ [0,1] (by decide) I
      ·refine AC 1 (ptC [x,x]++junk) tH I I I I I I I I I I (by show 0+1*2+2≤(ptC [x,y]++junk).length;rw[List.length_append,Bg];show 4≤4+_;omega) I ?_
       refine Aa (Ac (wY ?_))
       refine RS.cons ?_ (RS.cons ?_ (RS.nil))
       ·refine wP I (Aa (Ac (wY (wZ (wP I (Aa (Ac (wY (wZ (wP I (Aa (Ac (wY ?_)))))))))))))
        refine wZ (wI I I (by decide) (by decide) (Aa (Ac (wY (wZ ?_)))))
        refine AC 1 (ptC [y,x]++junk) tH I I I I I I I I I I (by show 0+0*2+2≤(ptC [x,x]++junk).length;rw[List.length_append,Bg];show 2≤4+_;omega) I ?_
        refine Aa (Ac ?_)
        refine AT I (by kernel_rfl) ?_
        exact At () ⟨I,I,I,I,I,I,tO⟩ [0,1] (by decide) I
       ·refine wP I (Aa (Ac (wY ?_)))
        refine RS.cons ?_ (RS.cons ?_ (RS.nil))
        ·refine wP I (Aa (Ac (wY (wZ (wP I (Aa (Ac (wY (wZ (wI I I (by decide) (by decide) (Aa (Ac (wY ?_)))))))))))))
         refine wZ ?_
         refine AC 1 (ptC [y,x]++junk) tH I I I I I I I I I I (by show 0+0*2+2≤(ptC [x,x]++junk).length;rw[List.length_append,Bg];show 2≤4+_;omega) I ?_
         refine Aa (Ac ?_)
         refine AT I (by kernel_rfl) ?_
         exact At () ⟨I,I,I,I,I,I,tO⟩ [0,1] (by decide) I
        ·refine wP I (Aa (Ac (wY (wZ (wP I (Aa (Ac (wY (wZ (wI I I (by decide) (by decide) (Aa (Ac (wY ?_)))))))))))))
         refine wZ ?_
         refine AC 1 (ptC [y,x]++junk) tH I I I I I I I I I I (by show 0+0*2+2≤(ptC [x,x]++junk).length;rw[List.length_append,Bg];show 2≤4+_;omega) I ?_
         refine Aa (Ac ?_)
         refine AT I (by kernel_rfl) ?_
         exact At () ⟨I,I,I,I,I,I,tO⟩ [0,1] (by decide) I
     intro _
     exact zN (zE (zB (wP I (wP I (wP I (Aa (Az true (fun _=>rfl) (by decide) ⟨I,I,I,I,I,I,tO⟩ [] I)))))))
 refine key.mono ?_
 rintro e W' ⟨x1,he,_,hb,hn'⟩
 exact⟨x1,he,tO,Iq hg I hb hn'⟩
theorem OD (c:Nat) (W:World) (g cap:Nat) (x y:Aj) (junk:List Value) (z:Int) (hg:W.heap[g]? =some (.cells (ptC [x,y]++junk).toArray 35 (0,0))) (h:SrN c g x y W):
  Calls Tryz.prog 133 #[.slice (some ⟨g,0,none⟩) 2 cap, .int .i64 0, .int .i64 2, .int .i64 z,lsF c] W fun e W'=> ∃x1:Unit,e= .returned ((fun _=> .tuple #[]) x1)∧True∧M0 W W' g ((fun _=>g) x1) ((fun _=> .cells (ptC (Dz x y)++junk).toArray 35 (0,0)) x1):=by
 have key:Calls Tryz.prog 133 [.slice (some ⟨g,0,none⟩) 2 cap, .int .i64 0, .int .i64 2, .int .i64 z,lsF c].toArray W fun e W'=> ∃x1:Unit,e= .returned ((fun _=> .tuple #[]) x1)∧(fun _=>True) x1∧Below (Cb W).heap.size (Cb W) W'∧Ao (Cb W) W' ((fun _=>[By (AH W g),Dd g (Dz x y) junk]) x1):=by
  refine DD (X:=Unit) (val:=fun _=> .tuple #[]) (Φ:=fun _=>True) (nb:=fun _=>[By (AH W g),Dd g (Dz x y) junk]) (Hp.enterT (B:=Dd g [x,y] junk) I hg) Tryz.func133 I I I ?_
  refine zA (zB (wP I (Aa (zE (zA (zB (wP I (Aa (zE (zH ?_))))))))))
  refine A6 (X:=Unit) (fun _=>[(0, .slice (some ⟨g,0,none⟩) 2 cap),(1, .int .i64 0),(2, .int .i64 2),(3, .int .i64 z),(4,lsF c)]) (fun _=>[By (AH W g),Dd g [x,y] junk]) (fun _=>True) (fun _=>0) () tO ⟨I,I,I,I,I,tO⟩ [] I ?_
  intro _ _
  refine zH (zA (zB (wP I (wP I (wP I (wP I (Aa (zE (zA (zA (zB (wP I (wP I ?_)))))))))))))
  refine Aa (zE (zR I (zA (zB (wP I (wP I (wP I (wP I ?_))))))))
  refine Gv (X:=Unit) (val:=fun _=> .tuple #[]) (Φ:=fun _=>True) (capt:=[]) 1 (B:=Dd g [x,y] junk) (L1:=[]) (L2:=[]) (b:=g) (ob:= .cells (ptC [x,y]++junk).toArray 35 (0,0)) (fun _=>Dd g (Dz x y) junk) (g':=fun _=>g) (o':=fun _=> .cells (ptC (Dz x y)++junk).toArray 35 (0,0))
   rfl rfl rfl rfl rfl rfl (by kernel_rfl) rfl rfl (fun _ _=>rfl) (fun W1 hp=>OC c W1 g cap x y junk (hp.own.cell 1 _ rfl (g, .cells (ptC [x,y]++junk).toArray 35 (0,0)) (List.mem_cons_self ..)).1 (h.trans (Mr hg ⟨_,List.mem_cons_self ..⟩ hp))) (fun _ _=> ?_)
  refine Aa (zE (zO (zP (zQ (zP (zQ ?_))))))
  refine Ta (X:=Unit) (val:=fun _=> .tuple #[]) (Φ:=fun _=>True) (nb:=fun _=>[By (AH W g),Dd g (Dz x y) junk]) (fn:=Tryz.f133) tH I () I tO fun W1 hp=> ?_
  exact(hp.pick (l:=[By (AH W g),Dd g (Dz x y) junk]) [0,1] (by decide) I).own
 refine key.mono ?_
 rintro e W' ⟨x1,he,_,hb,hn'⟩
 exact⟨x1,he,tO,Iq hg I hb hn'⟩
theorem Oy (c:Nat) (W:World) (g cap:Nat) (x y:Aj) (junk:List Value) (hg:W.heap[g]? =some (.cells (ptC [x,y]++junk).toArray 35 (0,0))) (h:SrN c g x y W):
  Calls Tryz.prog 70 #[.slice (some ⟨g,0,none⟩) 2 cap,lsF c] W fun e W'=> ∃x1:Unit,e= .returned ((fun _=> .tuple #[]) x1)∧True∧M0 W W' g ((fun _=>g) x1) ((fun _=> .cells (ptC (Dz x y)++junk).toArray 35 (0,0)) x1):=by
 have key:Calls Tryz.prog 70 [.slice (some ⟨g,0,none⟩) 2 cap,lsF c].toArray W fun e W'=> ∃x1:Unit,e= .returned ((fun _=> .tuple #[]) x1)∧(fun _=>True) x1∧Below (Cb W).heap.size (Cb W) W'∧Ao (Cb W) W' ((fun _=>[By (AH W g),Dd g (Dz x y) junk]) x1):=by
  refine DD (X:=Unit) (val:=fun _=> .tuple #[]) (Φ:=fun _=>True) (nb:=fun _=>[By (AH W g),Dd g (Dz x y) junk]) (Hp.enterT (B:=Dd g [x,y] junk) I hg) Tryz.func70 I I I ?_
  refine zA (zB (wP I (wP I (wP I (Aa (zE (zB (wP I (wP I (wP I ?_))))))))))
  refine IP (k:= .u64) (kt:= .i64) (by kernel_rfl) (by kernel_rfl) I I I I ?_
  refine Af 10 (.int .u64 ((2:Nat):Int)) I I ?_
  refine B1 (capt:=[]) I I I I I I (by kernel_rfl) (fun W _=>Pp 2 (by decide) W) ?_
  refine wP I ?_
  refine Gv (X:=Unit) (val:=fun _=> .tuple #[]) (Φ:=fun _=>True) (capt:=[]) 1 (B:=Dd g [x,y] junk) (L1:=[]) (L2:=[]) (b:=g) (ob:= .cells (ptC [x,y]++junk).toArray 35 (0,0)) (fun _=>Dd g (Dz x y) junk) (g':=fun _=>g) (o':=fun _=> .cells (ptC (Dz x y)++junk).toArray 35 (0,0))
   rfl rfl rfl rfl rfl rfl (by kernel_rfl) rfl rfl (fun _ _=>rfl) (fun W1 hp=>OD c W1 g cap x y junk _ (hp.own.cell 1 _ rfl (g, .cells (ptC [x,y]++junk).toArray 35 (0,0)) (List.mem_cons_self ..)).1 (h.trans (Mr hg ⟨_,List.mem_cons_self ..⟩ hp))) (fun _ _=> ?_)
  refine Aa ?_
  refine Q9 (X:=Unit) (val:=fun _=> .tuple #[]) (Φ:=fun _=>True) (nb:=fun _=>[By (AH W g),Dd g (Dz x y) junk]) (fn:=Tryz.f70) tH I () I tO fun W1 hp=> ?_
  exact(hp.pick (l:=[By (AH W g),Dd g (Dz x y) junk]) [0,1] (by decide) I).own
 refine key.mono ?_
 rintro e W' ⟨x1,he,_,hb,hn'⟩
 exact⟨x1,he,tO,Iq hg I hb hn'⟩
-- BOXES 15
-- CODE2
theorem SX (q:Rat):(Ew q==0)=decide (q=0):=by
 have h2:q.num=0↔q=0:=Rat.num_eq_zero
 rw[Bool.eq_iff_iff,beq_iff_eq,decide_eq_true_iff, ←h2]
 unfold Ew
 split
 ·rename_i e
  exact⟨fun _=>e,fun _=>rfl⟩
 ·rename_i e
  split
  ·exact⟨fun h=>absurd h (by decide),fun h=>absurd h e⟩
  ·exact⟨fun h=>absurd h (by decide),fun h=>absurd h e⟩
theorem Cq.keep {W W':World} {c g:Nat} (h:Cq W c) (hk:Lg W W' g) (hne:c≠g):Cq W' c:=(hk.at_ c hne (Array.getElem?_eq_some_iff.1 h).1).trans h
def DJ (f:AD) (l:List Aj) (k:Nat):List Aj:=(JH (Ad l) k f).map (BP (Ad l))
def FZ (f:AD) (l:List Aj) (k:Nat):List Aj:=DJ f l k++(if f.at (Ad l k)=0 then[Ad l k] else[])
theorem QC (f:AD) (l:List Aj) (k:Nat):DJ f l (k+1)=FZ f l k++(if f.at (Ad l k)*f.at (Ad l (k+1))<0 then[Dw (f.at (Ad l k)/(f.at (Ad l k)-f.at (Ad l (k+1)))) (Ad l k) (Ad l (k+1))] else[]):=by
 unfold DJ FZ JH
 rw[List.range_succ,List.flatMap_append,List.map_append,List.flatMap_cons,List.flatMap_nil,List.append_nil,List.map_append, ←List.append_assoc]
 have e1:(if f.at (Ad l k)=0 then[((k,0):Jz)] else[]).map (BP (Ad l))=if f.at (Ad l k)=0 then[Ad l k] else[]:=by
  split
  ·show[Dw 0 (Ad l k) (Ad l (k+1))]=_
   rw[OB]
  ·rfl
 have e2:(if f.at (Ad l k)*f.at (Ad l (k+1))<0 then[((k,f.at (Ad l k)/(f.at (Ad l k)-f.at (Ad l (k+1)))):Jz)] else[]).map (BP (Ad l))=if f.at (Ad l k)*f.at (Ad l (k+1))<0 then[Dw (f.at (Ad l k)/(f.at (Ad l k)-f.at (Ad l (k+1)))) (Ad l k) (Ad l (k+1))] else[]:=by
  split
  ·rfl
  ·rfl
 rw[e1,e2]
 rfl
theorem HO (f:AD) (l:List Aj) (k:Nat):(DJ f l k).length≤k:=by unfold DJ;rw[List.length_map];exact Nk _ _ _
theorem Rt (f:AD) (l:List Aj) (k:Nat):(FZ f l k).length≤k+1:=by
 unfold FZ
 have:=HO f l k
 rw[List.length_append]
 have a:(if f.at (Ad l k)=0 then[Ad l k] else[]).length≤1:=by split<;>simp
 omega
structure SeZ (f:AD) (l:List Aj):Prop where
 v: ∀q∈l,Uo f q
 c: ∀i,i<l.length→f.at (Ad l i)*f.at (Ad l (i+1))<0→U2 (Ad l i) (Ad l (i+1)) (f.at (Ad l i)) (f.at (Ad l (i+1)))
 n2:(Ep f l).length≤2
 s: ∀x y,Ep f l=[x,y]→Sz2 y.1 x.1∧Sz2 y.2 x.2
def ptV (x:Aj):Value:= .agg #[str (Ae x.1),str (Ae x.2)]
def Qb (l:List Aj):Value:=match l with
 |[x,y]=> .tuple #[ptV (if BR y x=true then y else x),ptV (if BR y x=true then x else y), .bool true, .int .i64 0]
 |_=> .tuple #[.agg #[str [],str []], .agg #[str [],str []], .bool false, .int .i64 0]
section
variable {P:Program} {N:Nat} {D:List Deferred} {ops:List Oper} {o:Oper} {rest:List Oper} {env:Env} {A A2:World→Prop} {R:Act→World→Prop}
theorem NP {d:Nat} {x:Operand} {a:Addr} (hg:A0 ops N env o=some true) (hd:o.dst=some d) (ho:o.op= .nilCheck x) (hx:evO N env x=some (.pointer (some a)))
  (h:WQ P N D ops A2 R rest ((d, .pointer (some a))::env) A):WQ P N D ops A2 R (o::rest) env A:=
 D7 hg hd (fun c e=>by rw[ho] at e;cases e) (fun _ W hρ _=>by simp[execOp,ho,hρ _ _ hx]) h
end
theorem JQ (f:AD) (hf:NN f) (l:List Aj) (hz:SeZ f l) (p:Option Addr) (cap:Nat) (W:World) (h:ER W p l):
  Ah Tryz.prog 24 #[slv p l.length cap,str (Ae f.a),str (Ae f.b),str (Ae f.c)] W (fun _:Unit=>Qb (Ep f l)) (fun _=>True) (fun _=>[]):=by
 have h3:=h.n3
 have hn:=h.n
 have hA:=h.m
 have hn0:0<l.length:=by omega
 have hzz:(l.length:Int)≠0:=by omega
 have hvl:(l.map f.at).length=l.length:=List.length_map _
 refine Ab (args:=[slv p l.length cap,str (Ae f.a),str (Ae f.b),str (Ae f.c)]) Tryz.func24 I I I ?_
 refine zA (zB ?_)
 (refine A5 rfl rfl rfl rfl ?_;intro)
 (refine Ag Tryz.hZ rfl rfl rfl rfl ?_;intro)
 (refine Ag Tryz.hZ rfl rfl rfl rfl ?_;intro)
 refine wP I (wP I (Aa ?_))
 rename_i b4 b8 b9
 refine zE (zA (zA (zB (wB 0 I I I (wP I (wP I (wP I ?_)))))))
 refine AA Tryz.hZ tH I I I I I I I I I I I fun bS=> ?_
 refine wC I I (fun W1 hp=>Hr l p cap f.a f.b f.c hf.a hf.b hf.c hf.n bS 3 W1 (h.hp hp) (Al.of_bx hp 3 I I)) (wP I (Aa (zE (zA (zB (wP I (wP I (Aa (zE (zS I (zI (zE (zA ?_)))))))))))))
 refine zB ?_
 refine Av Tryz.hZ tH I I I I I I I I ?_
 (refine A5 rfl rfl rfl rfl ?_;intro)
 (refine Ag Tryz.hZ rfl rfl rfl rfl ?_;intro)
 refine wS 5 I I I (Aa ?_)
 rename_i bC b13
 refine zE (Aw ?_)
 refine AZ (X:= { s:Nat×Vec//s.2.OK 1 l.length (vsC (l.map f.at)) }) [true,true,true,true,true,false,false,false,false] (fun s=>[(4,Ai b4),(8,Ai b8),(9,Ai b9),(10, .bool false),(11, .int .i64 0),(13,Ai b13),(14,Ai s.1.1)]) (fun s=>[lsB b4 (slv p l.length cap),ptB b8 [] [],ptB b9 [] [],caB bC,ckB b13 bC,nmB s.1.1 (s.1.2.val l.length),s.1.2.bx 23 (vsC (l.map f.at))])
  4 [lsB b4 (slv p l.length cap),ptB b8 [] [],ptB b9 [] [],⟨bS,23,[str (Ae f.a),str (Ae f.b),str (Ae f.c)],true,none⟩,caB bC,ckB b13 bC] Tryz.mixed (by kernel_rfl) ?_ ?_
 ·refine qB 0 I I I (qB 5 I I I (qP I (qP I (qP I (Cm (wX ?_))))))
  refine RS.cons ?_ (RS.cons ?_ (RS.nil))
  ·refine wD (X:=Nat×Nat×Nat×Nat) rfl rfl (fun W1 _=>El bC f W1) ?_;rintro⟨v4,v5,v6,v7⟩ _
   refine Aa (Ac (wX ?_))
   refine RS.cons ?_ (RS.cons ?_ (RS.nil))
   ·refine wD (X:=Vec) rfl rfl (fun W1 hp=>C1 l f.at 132 [Ai v4,Ai v5,Ai v6,Ai v7] (by kernel_rfl) hn p cap W1 (hA.hp hp) (fun q hq W2 hb=>C2 v4 v5 v6 v7 bC f q (hz.v q hq) W2 (IK.below (by first|exact⟨Al.of_bx hp 6 rfl rfl,Al.of_bx hp 7 rfl rfl,Al.of_bx hp 8 rfl rfl,Al.of_bx hp 9 rfl rfl,Bh hp 4 rfl,h.v.hp hp,h.t.hp hp⟩|exact⟨Al.of_bx hp 7 rfl rfl,Al.of_bx hp 8 rfl rfl,Al.of_bx hp 9 rfl rfl,Al.of_bx hp 10 rfl rfl,Bh hp 4 rfl,h.v.hp hp,h.t.hp hp⟩) hb))) ?_;rintro⟨pV1,cV1,jV1⟩ hV1;obtain⟨gV1,rfl⟩: ∃g,pV1=some g:=Option.ne_none_iff_exists'.1 (fun e=>absurd (hV1.nil e) (by omega))
    refine Aa (Ac (wX (wZ ?_)))
    refine Ag Tryz.hZ rfl rfl rfl rfl ?_;intro b14
    refine Aa (Ac (wX (wZ (wS 11 I I I (Aa (Ac ?_))))))
    refine A4 I (by((repeat (first|refine A9.same ?_|refine A9.off I ?_));exact tO)) ?_
    exact At (⟨(b14,⟨some gV1,cV1,jV1⟩),hV1⟩: { s:Nat×Vec//s.2.OK 1 l.length (vsC (l.map f.at)) }) ⟨I,I,I,I,I,I,I,tO⟩ [0,1,2,4,5,11,10] (by decide) I
   ·refine Ag Tryz.hZ rfl rfl rfl rfl ?_;intro b14
    refine Aa (Ac (wX (wZ ?_)))
    refine wD (X:=Vec) rfl rfl (fun W1 hp=>C1 l f.at 132 [Ai v4,Ai v5,Ai v6,Ai v7] (by kernel_rfl) hn p cap W1 (hA.hp hp) (fun q hq W2 hb=>C2 v4 v5 v6 v7 bC f q (hz.v q hq) W2 (IK.below (by first|exact⟨Al.of_bx hp 6 rfl rfl,Al.of_bx hp 7 rfl rfl,Al.of_bx hp 8 rfl rfl,Al.of_bx hp 9 rfl rfl,Bh hp 4 rfl,h.v.hp hp,h.t.hp hp⟩|exact⟨Al.of_bx hp 7 rfl rfl,Al.of_bx hp 8 rfl rfl,Al.of_bx hp 9 rfl rfl,Al.of_bx hp 10 rfl rfl,Bh hp 4 rfl,h.v.hp hp,h.t.hp hp⟩) hb))) ?_;rintro⟨pV1,cV1,jV1⟩ hV1;obtain⟨gV1,rfl⟩: ∃g,pV1=some g:=Option.ne_none_iff_exists'.1 (fun e=>absurd (hV1.nil e) (by omega))
    refine Aa (Ac (wX (wZ (wS 10 I I I (Aa (Ac ?_))))))
    refine A4 I (by((repeat (first|refine A9.same ?_|refine A9.off I ?_));exact tO)) ?_
    exact At (⟨(b14,⟨some gV1,cV1,jV1⟩),hV1⟩: { s:Nat×Vec//s.2.OK 1 l.length (vsC (l.map f.at)) }) ⟨I,I,I,I,I,I,I,tO⟩ [0,1,2,4,5,10,11] (by decide) I
  ·refine Ag Tryz.hZ rfl rfl rfl rfl ?_;intro b14
   refine Aa (Ac (wX (wZ ?_)))
   refine wD (X:=Nat×Nat×Nat×Nat) rfl rfl (fun W1 _=>El bC f W1) ?_;rintro⟨v4,v5,v6,v7⟩ _
   refine Aa (Ac (wX (wZ ?_)))
   refine wD (X:=Vec) rfl rfl (fun W1 hp=>C1 l f.at 132 [Ai v4,Ai v5,Ai v6,Ai v7] (by kernel_rfl) hn p cap W1 (hA.hp hp) (fun q hq W2 hb=>C2 v4 v5 v6 v7 bC f q (hz.v q hq) W2 (IK.below (by first|exact⟨Al.of_bx hp 6 rfl rfl,Al.of_bx hp 7 rfl rfl,Al.of_bx hp 8 rfl rfl,Al.of_bx hp 9 rfl rfl,Bh hp 4 rfl,h.v.hp hp,h.t.hp hp⟩|exact⟨Al.of_bx hp 7 rfl rfl,Al.of_bx hp 8 rfl rfl,Al.of_bx hp 9 rfl rfl,Al.of_bx hp 10 rfl rfl,Bh hp 4 rfl,h.v.hp hp,h.t.hp hp⟩) hb))) ?_;rintro⟨pV1,cV1,jV1⟩ hV1;obtain⟨gV1,rfl⟩: ∃g,pV1=some g:=Option.ne_none_iff_exists'.1 (fun e=>absurd (hV1.nil e) (by omega))
   refine Aa (Ac (wX (wZ (wS 6 I I I (Aa (Ac ?_))))))
   refine A4 I (by((repeat (first|refine A9.same ?_|refine A9.off I ?_));exact tO)) ?_
   exact At (⟨(b14,⟨some gV1,cV1,jV1⟩),hV1⟩: { s:Nat×Vec//s.2.OK 1 l.length (vsC (l.map f.at)) }) ⟨I,I,I,I,I,I,I,tO⟩ [0,1,2,4,5,6,11] (by decide) I
 rintro⟨⟨b14,⟨pV,cV,jV⟩⟩,hV⟩
 obtain⟨gV,rfl⟩: ∃g,pV=some g:=by
  cases pV with
  |none=>have:=hV.nil rfl;omega
  |some g=>exact⟨g,rfl⟩
 have hcapV:=(hV.cap (by simp)).1
 refine zE (zA (zA (zB (wB 4 I I I ?_))))
 refine Bb I I I I ?_
 refine wP I (wB 3 I I I (wP I (Aa (zE (zS I (zI (zE (zA (zB ?_)))))))))
 (refine Ag Tryz.hZ rfl rfl rfl rfl ?_;intro)
 refine Aa ?_
 rename_i b15
 refine zE (zA (zA (zB (wB 0 I I I ?_))))
 refine wD (X:=Nat) I I (fun W1 _=>DA p l.length cap W1) ?_
 intro bp _
 refine Aa (zE (zH ?_))
 refine FV ?_
 refine F4 (X:=Nat×Vec) (fun x=>[lsB b4 (slv p l.length cap),ptB b8 [] [],ptB b9 [] [],caB bC,ckB b13 bC,nmB b14 (.slice (some ⟨gV,0,none⟩) l.length cV),⟨gV,23,vsC (l.map f.at)++jV,true,none⟩,lsB b15 (x.2.val (DJ f l x.1).length),lsB bp (slv p l.length cap),x.2.bx 35 (ptC (DJ f l x.1))])
  (fun j x=>x.1=j∧x.2.OK 2 (DJ f l x.1).length (ptC (DJ f l x.1))) (fun _ _=>False) (0,Vec.empty) rfl (by kernel_rfl) (Ea l bp p cap (by omega)) (fun _=>rfl)
  ⟨rfl,Vec.OK.empty 2⟩ [] rfl (fun k x W1 _ hp=>⟨Al.of_bx hp 8 rfl rfl,hA.hp hp⟩) ?_ ?_ (fun _ _ _ _ _ h=>h.elim)
 ·rintro k ⟨k',O⟩ d l' rec L hk ⟨e1,hO⟩ hrec
  obtain rfl:k'=k:=e1
  have hk:k'<l.length:=hk
  have hO:O.OK 2 (DJ f l k').length (ptC (DJ f l k')):=hO
  have hol:=HO f l k'
  have hml:=Rt f l k'
  have hsl:=HO f l (k'+1)
  have hk2:(k'+1)%l.length<l.length:=Nat.mod_lt _ hn0
  have ev: ∀i (hi:i<l.length),(l.map f.at)[i]'(by rw[hvl];exact hi)=f.at (Ad l i):=fun i hi=>by rw[List.getElem_map,B6 hi]
  have hr1: ∀ {W0 W1:World} {bxs:List Bx} (hp:Hp W0 bxs W1) (m:Nat) (hm:nth bxs m=some ⟨gV,23,vsC (l.map f.at)++jV,true,none⟩),Al W1 gV (0+k'*1) [str (Ae (f.at (Ad l k')))]:=fun hp m hm=>by
   have:=Qo hp m hm (i:=k') (by rw[hvl];exact hk)
   rwa [ev k' hk] at this
  have hr2: ∀ {W0 W1:World} {bxs:List Bx} (hp:Hp W0 bxs W1) (m:Nat) (hm:nth bxs m=some ⟨gV,23,vsC (l.map f.at)++jV,true,none⟩),Al W1 gV (0+((k'+1)%l.length)*1) [str (Ae (f.at (Ad l (k'+1))))]:=fun hp m hm=>by
   have:=Qo hp m hm (i:=(k'+1)%l.length) (by rw[hvl];exact hk2)
   rwa [ev _ hk2,CF] at this
  obtain⟨u,hu⟩: ∃u,u=f.at (Ad l k'):=⟨_,rfl⟩
  obtain⟨v,hvv⟩: ∃v,v=f.at (Ad l (k'+1)):=⟨_,rfl⟩
  have hsu:=QC f l k'
  have hmu:FZ f l k'=DJ f l k'++(if u=0 then[Ad l k'] else[]):=by rw[hu];rfl
  have hcz:=hz.c k' hk
  rw[←hu, ←hvv] at hsu hcz
  rw[←hu] at hr1
  rw[←hvv] at hr2
  refine zA (zB (wP I (Aa (zE (zB ?_)))))
  (refine Ag Tryz.hZ rfl rfl rfl rfl ?_;intro)
  refine wS 13 I I I (Aa ?_)
  rename_i b17
  refine CY 12 hrec I ?_
  refine CV (zA (zU (qB 6 I I I (qP I ?_))))
  refine qJ ?_
  refine qL 0 I I (fun W1 hp=>hr1 hp 7 I) I (qC I I (fun W1 _=>Ec u W1) (qB 6 I I I (qP I (qP I (qV 62 ((k'+1:Nat):Int) I (Ax (by omega)) (qB 1 I I I (qP I ?_)))))))
  refine DG I I I I I hzz ?_
  refine Fs 65 (.int .i64 (((k'+1)%l.length:Nat):Int)) I I ?_
  refine qJ ?_
  refine qL 0 I I (fun W1 hp=>hr2 hp 7 I) I (qC I I (fun W1 _=>Ec v W1) (qP I (qP I (AP (Aa (zE (zA (zA (zB (wP I (wP I (wU 70 (decide (u=0)) I (SX u) (Aa ?_)))))))))))))
  refine AB ?_
  refine A8 (X:=Vec) (fun _=>[(4,Ai b4),(8,Ai b8),(9,Ai b9),(10, .bool false),(11, .int .i64 0),(13,Ai b13),(14,Ai b14),(15,Ai b15),(16, .int .i64 (k':Nat)),(17,Ai b17),(18, .int .i64 (Ew u)),(19, .int .i64 (Ew v))])
   (fun O=>[By L,lsB b4 (slv p l.length cap),ptB b8 [] [],ptB b9 [] [],caB bC,ckB b13 bC,nmB b14 (.slice (some ⟨gV,0,none⟩) l.length cV),⟨gV,23,vsC (l.map f.at)++jV,true,none⟩,lsB b15 (O.val (FZ f l k').length),lsB bp (slv p l.length cap),O.bx 35 (ptC (FZ f l k')),B5 d,Bc l' rec .busy none,⟨b17,66,(sdV (Ad l k') (Ad l (k'+1))).cells.toList,true,none⟩])
   (fun O=>O.OK 2 (FZ f l k').length (ptC (FZ f l k'))) ?_ ?_
  ·refine Ap I (fun hc1=> ?_) (fun hc1=> ?_)
   ·rw[if_pos (of_decide_eq_true hc1)] at hmu
    have hlm:(DJ f l k').length+1=(FZ f l k').length:=by rw[hmu,List.length_append];rfl
    refine zB (wB 8 I I I ?_)
    refine Ev Tryz.underlying66 Tryz.sizeOf35 I I I I I ⟨by decide,by decide⟩ ?_
    refine wB 13 I I I ?_
    refine AA Tryz.hZ tH I I I I I I I I I I I fun bS=> ?_
    refine BN (V:=O) (len:=(DJ f l k').length) (xs:=ptC (DJ f l k')) 10 14 Tryz.vec22 (FZ f l k').length (ptC (FZ f l k')) I I I I I I I I I I I hO I I hlm (by rw[hmu,FP];rfl) (by simp only[maxLen];omega) (by omega) I ?_
    intro gO cO jO hO1
    exact wS 8 I I I (Aa (An ⟨some gO,cO,jO⟩ hO1 ⟨I,I,I,I,I,I,I,I,I,I,I,I,tO⟩ [_] I))
   ·rw[if_neg (of_decide_eq_false hc1),List.append_nil] at hmu
    exact zI (An O (by rw[hmu];exact hO) ⟨I,I,I,I,I,I,I,I,I,I,I,I,tO⟩ [] (by rw[hmu];rfl))
  intro O1 hO1
  have hO1:O1.OK 2 (FZ f l k').length (ptC (FZ f l k')):=hO1
  refine zA (zB (wP I (wP I (wP I (wP I (wU 79 (decide (u*v<0)) I (PX u v) (Aa (zE ?_))))))))
  refine Ap I (fun hc2=> ?_) (fun hc2=> ?_)
  ·have hc2':u*v<0:=of_decide_eq_true hc2
   rw[if_pos hc2'] at hsu
   have hlm:(FZ f l k').length+1=(DJ f l (k'+1)).length:=by rw[hsu,List.length_append];rfl
   refine AZ (X:= { O:Vec//O.OK 2 (DJ f l (k'+1)).length (ptC (DJ f l (k'+1))) }) [true,true,true,true,true,true,true,true,true,true,true,true,true,true,true,true,true,true,true,false,false,false] (fun _=>[(4,Ai b4),(8,Ai b8),(9,Ai b9),(10, .bool false),(11, .int .i64 0),(13,Ai b13),(14,Ai b14),(15,Ai b15)])
    (fun O=>[By L,lsB b4 (slv p l.length cap),ptB b8 [] [],ptB b9 [] [],caB bC,ckB b13 bC,nmB b14 (.slice (some ⟨gV,0,none⟩) l.length cV),⟨gV,23,vsC (l.map f.at)++jV,true,none⟩,lsB b15 (O.1.val (DJ f l (k'+1)).length),lsB bp (slv p l.length cap),O.1.bx 35 (ptC (DJ f l (k'+1))),B5 d,Bc l' rec .busy none])
    3 [By L,lsB b4 (slv p l.length cap),ptB b8 [] [],ptB b9 [] [],caB bC,ckB b13 bC,nmB b14 (.slice (some ⟨gV,0,none⟩) l.length cV),⟨gV,23,vsC (l.map f.at)++jV,true,none⟩,lsB b15 (O1.val (FZ f l k').length),lsB bp (slv p l.length cap),O1.bx 35 (ptC (FZ f l k')),B5 d,Bc l' rec .busy none,⟨b17,66,(sdV (Ad l k') (Ad l (k'+1))).cells.toList,true,none⟩] Tryz.mixed (by kernel_rfl) ?_ ?_
   ·refine qB 8 I I I (qB 5 I I I ?_)
    refine Bs Tryz.underlying66 Tryz.sizeOf35 I I I I I ⟨by decide,by decide⟩ ?_
    refine qB 13 I I I ?_
    refine Bs Tryz.underlying66 Tryz.sizeOf35 I I I I I ⟨by decide,by decide⟩ ?_
    refine qB 13 I I I (qB 6 I I I (qP I ?_))
    refine qJ ?_
    refine qL 0 I I (fun W1 hp=>hr1 hp 7 I) I (qB 6 I I I (qP I (qP I (qV 92 ((k'+1:Nat):Int) I (Ax (by omega)) (qB 1 I I I (qP I ?_))))))
    refine DG I I I I I hzz ?_
    refine Fs 95 (.int .i64 (((k'+1)%l.length:Nat):Int)) I I ?_
    refine qJ ?_
    refine qL 0 I I (fun W1 hp=>hr2 hp 7 I) I (qC I I (fun W1 hp=>Kn bC (Ad l k') (Ad l (k'+1)) u v (hcz hc2') W1 (Bh hp 4 I) (h.v.hp hp) (h.t.hp hp)) (Cm (wX (wZ ?_))))
    refine AA Tryz.hZ tH I I I I I I I I I I I fun bS=> ?_
    refine Aa (Ac (wX (wZ ?_)))
    refine BN (V:=O1) (len:=(FZ f l k').length) (xs:=ptC (FZ f l k')) 10 14 Tryz.vec22 (DJ f l (k'+1)).length (ptC (DJ f l (k'+1))) rfl rfl rfl rfl rfl rfl rfl rfl rfl rfl rfl hO1 rfl rfl hlm (by rw[hsu,FP];rfl) (by simp only[maxLen];omega) (by omega) rfl ?_;intro gO cO jO hO2
    refine Aa (Ac (wY (wZ (wS 8 I I I (Aa (Ac ?_))))))
    refine AT I (by kernel_rfl) ?_
    exact At (⟨⟨some gO,cO,jO⟩,hO2⟩: { O:Vec//O.OK 2 (DJ f l (k'+1)).length (ptC (DJ f l (k'+1))) }) ⟨I,I,I,I,I,I,I,I,tO⟩ [0,1,2,3,4,5,6,7,8,9,10,11,12] (by decide) I
   rintro⟨O2,hO2⟩
   exact zN (Cj 12 (k'+1,O2) hrec I ⟨I,hO2⟩ [] I)
  ·rw[if_neg (of_decide_eq_false hc2),List.append_nil] at hsu
   exact zI (zN (Cj 12 (k'+1,O1) hrec I ⟨I,by show O1.OK 2 (DJ f l (k'+1)).length (ptC (DJ f l (k'+1)));rw[hsu];exact hO1⟩ [_] (by rw[hsu];rfl)))
 ·rintro⟨k',O⟩ d l' rec ⟨e1,hO⟩
  obtain rfl:k'=l.length:=e1
  have hoe:DJ f l l.length=Ep f l:=rfl
  have hO:O.OK 2 (Ep f l).length (ptC (Ep f l)):=hO
  have hol:=HO f l l.length
  rw[hoe] at hol
  rw[hoe]
  have hn2:=hz.n2
  have hs:=hz.s
  generalize Ep f l=S at hO hol hn2 hs⊢
  obtain⟨q,cc,hval⟩: ∃q cc,O.val S.length= .slice q S.length cc:=by
   obtain⟨pO,cO,jO⟩:=O
   cases pO with
   |none=>
    have e:S.length=0:=hO.nil rfl
    exact⟨none,0,by rw[e];rfl⟩
   |some g=>exact⟨some ⟨g,0,none⟩,cO,rfl⟩
  refine zN (zE (zA (zA (zB (wB 4 I I I ?_)))))
  refine Bb I I I I ?_
  refine wP I (wB 3 I I I (wP I ?_))
  refine Af 105 (.bool false) I I ?_
  refine wP I (wB 7 I I I ?_)
  refine Af 107 (.slice q S.length cc) I hval ?_
  refine wP I (wP I ?_)
  by_cases h2:S.length<2
  ·have eV:Qb S= .tuple #[.agg #[str [],str []], .agg #[str [],str []], .bool false, .int .i64 0]:=by
    match S,h2 with
    |[],_=>rfl
    |[_],_=>rfl
    |_::_::_,h2=>simp at h2;omega
   refine wU 109 true I (dT (by omega)) (wP I (Aa (zE (zR I (Aw ?_)))))
   refine AZ (X:=Unit) [true,true,true,true,true,true,false,false,false,false] (fun _=>[(8,Ai b8),(9,Ai b9),(10, .bool false),(11, .int .i64 0)]) (fun _=>[ptB b8 [] [],ptB b9 [] [],B5 d])
    4 [lsB b4 (slv p l.length cap),⟨b8,35,[str [],str []],false,none⟩,⟨b9,35,[str [],str []],false,none⟩,caB bC,ckB b13 bC] Tryz.mixed (by kernel_rfl) ?_ ?_
   ·refine GZ Tryz.hZ tH I I I I I I I I ?_
    refine GZ Tryz.hZ tH I I I I I I I I ?_
    refine qB 4 I I I ?_
    refine NP I I I I ?_
    refine qP I (qB 3 I I I (Cm (wX (wZ (wS 1 I I I (Aa (Ac (wX (wZ (wS 2 I I I (Aa (Ac (wX ?_)))))))))))))
    refine wZ (wP I (Aa (Ac (wX (wZ (wP I (Aa (Ac ?_))))))))
    refine A4 I (by((repeat (first|refine A9.same ?_|refine A9.off I ?_));exact tO)) ?_
    exact At () ⟨I,I,I,I,tO⟩ [1,2,10] (by decide) I
   intro _
   refine zE (zO (zP ?_))
   refine CG 2 I ?_
   exact J2 tH I (.cell 0 I I I I I) (.cell 1 I I I I I) (.tmp I) (.tmp I) () eV.symm tO fun W _=>Ao.nil _ _
  ·obtain⟨x,y,rfl⟩: ∃x y,S=[x,y]:=by
    match S,h2,hn2 with
    |[x,y],_,_=>exact⟨x,y,rfl⟩
    |[],h2,_=>exact absurd Nat.zero_lt_two h2
    |[_],h2,_=>exact absurd (Nat.lt_succ_self 1) h2
    |_::_::_::_,_,hn2=>simp at hn2
   obtain⟨a,b,eab,eV⟩: ∃a b,Dz x y=[a,b]∧Qb [x,y]= .tuple #[ptV a,ptV b, .bool true, .int .i64 0]:=by
    show∃a b,(if BR y x=true then[y,x] else[x,y])=[a,b]∧Value.tuple #[ptV (if BR y x=true then y else x),ptV (if BR y x=true then x else y), .bool true, .int .i64 0]=Value.tuple #[ptV a,ptV b, .bool true, .int .i64 0]
    cases BR y x with
    |true=>exact⟨y,x,rfl,rfl⟩
    |false=>exact⟨x,y,rfl,rfl⟩
   obtain⟨hs1,hs2⟩:=hs x y rfl
   obtain⟨pO,cO,jO⟩:=O
   obtain⟨gO,rfl⟩: ∃g,pO=some g:=Option.ne_none_iff_exists'.1 (fun e=>absurd (hO.nil e) (by show¬2=0;decide))
   refine Af 109 (.bool false) I I ?_
   refine wP I (Aa (zE (zS I (zI (zE (zA (zB (wB 7 I I I (wB 4 I I I (wP I ?_))))))))))
   refine Gv (X:=Unit) (val:=fun _=> .tuple #[]) (Φ:=fun _=>True) (capt:=[]) 9 (B:=Dd gO [x,y] jO) (L1:=[]) (L2:=[]) (b:=gO) (ob:= .cells (ptC [x,y]++jO).toArray 35 (0,0)) (fun _=>Dd gO (Dz x y) jO) (g':=fun _=>gO) (o':=fun _=> .cells (ptC (Dz x y)++jO).toArray 35 (0,0))
    rfl rfl rfl rfl rfl rfl (by kernel_rfl) rfl rfl (fun _ _=>rfl) (fun W1 hp=> ?_) (fun _ _=> ?_)
   ·have hc:=hp.own.cell 9 _ rfl (gO, .cells (ptC [x,y]++jO).toArray 35 (0,0)) (List.mem_cons_self ..)
    have hne:bC≠gO:=hp.own.apart 3 9 _ _ rfl rfl (by decide) (bC,_) (List.mem_cons_self ..) (gO,_) (List.mem_cons_self ..)
    exact Oy bC W1 gO cO x y jO hc.1 ⟨fun W2 hk=>⟨(Bh hp 3 I).keep hk hne,h.v.below (hk.below hp.below hc.2),h.t.below (hk.below hp.below hc.2)⟩,hs1,hs2⟩
   rw[eab]
   refine Aa (zE (zA (zA (zB (wB 4 I I I ?_)))))
   refine Bb I I I I ?_
   refine wP I (wB 3 I I I (wP I (Aa (zE (zS I (zI (zE (Aw ?_))))))))
   refine AZ (X:=Unit) [true,true,true,true,true,true,false,false,false,false] (fun _=>[(8,Ai b8),(9,Ai b9),(10, .bool true),(11, .int .i64 0)]) (fun _=>[ptB b8 (Ae a.1) (Ae a.2),ptB b9 (Ae b.1) (Ae b.2),B5 d])
    4 [lsB b4 (slv p l.length cap),⟨b8,35,[str [],str []],false,none⟩,⟨b9,35,[str [],str []],false,none⟩,caB bC,ckB b13 bC,nmB b14 (.slice (some ⟨gV,0,none⟩) l.length cV),⟨gV,23,vsC (l.map f.at)++jV,true,none⟩,lsB b15 (.slice (some ⟨gO,0,none⟩) 2 cO),lsB bp (slv p l.length cap),Dd gO [a,b] jO] Tryz.mixed (by kernel_rfl) ?_ ?_
   ·refine qB 7 I I I (qI I I (by decide) (by decide) (qL 0 I I (fun W1 hp=>So hp 9 I) I (qB 7 I I I (qI I I (by decide) (by decide) (qL 0 I I (fun W1 hp=>Sk hp 9 I) I (Cm (wX (wZ (wS 1 I I I (Aa (Ac (wX (wZ ?_)))))))))))))
    refine wS 2 I I I (Aa (Ac (wX (wZ (wP I (Aa (Ac (wX (wZ (wP I (Aa (Ac ?_))))))))))))
    refine A4 I (by((repeat (first|refine A9.same ?_|refine A9.off I ?_));exact tO)) ?_
    exact At () ⟨I,I,I,I,tO⟩ [1,2,10] (by decide) I
   intro _
   refine zE (zO ?_)
   refine CG 2 I ?_
   exact J2 tH I (.cell 0 I I I I I) (.cell 1 I I I I I) (.tmp I) (.tmp I) () eV.symm tO fun W _=>Ao.nil _ _
end
section
open Go Go.RowKit Go.Am Go.Lib
def sq4:List Aj:=[(0,0),(2,0),(2,2),(0,2)]
def tr3:List Aj:=[(0,0),(1,0),(0,1)]
def PI:AD:=⟨1,1,1⟩
def M7:AD:=⟨1, -1,0⟩
theorem SS:Bt sq4:=by
 refine⟨by decide,by decide+kernel,fun i j k h1 h2 h3=> ?_⟩
 have h3:k<4:=h3
 have:(i=0∧j=1∧k=2)∨(i=0∧j=1∧k=3)∨(i=0∧j=2∧k=3)∨(i=1∧j=2∧k=3):=by omega
 rcases this with⟨rfl,rfl,rfl⟩|⟨rfl,rfl,rfl⟩|⟨rfl,rfl,rfl⟩|⟨rfl,rfl,rfl⟩<;>decide+kernel
theorem RW:Bt tr3:=by
 refine⟨by decide,by decide+kernel,fun i j k h1 h2 h3=> ?_⟩
 have h3:k<3:=h3
 obtain⟨rfl,rfl,rfl⟩:i=0∧j=1∧k=2:=by omega
 decide+kernel
theorem TK:AY PI sq4=tr3:=by decide+kernel
theorem Mq:Ep M7 sq4=[(0,0),(2,2)]:=by decide+kernel
theorem Tz:BR ((2,2):Aj) (0,0)=false:=by decide+kernel
theorem T0:AV tr3/2=1/2:=by decide+kernel
theorem TE:H3 tr3/(3*AV tr3)=1/3:=by decide+kernel
theorem TL:Hu tr3/(3*AV tr3)=1/3:=by decide+kernel
theorem J1:Ae (0:Rat)=[48]:=C3
theorem U6:Ae (1:Rat)=[49]:=by decide+kernel
theorem CL:Ae (2:Rat)=[50]:=by decide+kernel
theorem UX:Ae (-1:Rat)=[45,49]:=by decide+kernel
theorem UP:Ae (1/2:Rat)=[49,47,50]:=by decide+kernel
theorem UQ:Ae (1/3:Rat)=[49,47,51]:=by decide+kernel
theorem H0 {x y:Int} (hx:x.natAbs<10^8) (hy:y.natAbs<10^8):Hm 8 ((x:Rat),(y:Rat)):=⟨x,y,1,by decide,hx,hy,by decide,Rat.mul_one _,Rat.mul_one _⟩
theorem OU: ∀p∈sq4,Hm 8 p:=fun p hp=>by
 rcases List.mem_cons.1 hp with rfl|hp
 ·exact H0 (x:=0) (y:=0) (by decide) (by decide)
 rcases List.mem_cons.1 hp with rfl|hp
 ·exact H0 (x:=2) (y:=0) (by decide) (by decide)
 rcases List.mem_cons.1 hp with rfl|hp
 ·exact H0 (x:=2) (y:=2) (by decide) (by decide)
 rw[List.mem_singleton.1 hp]
 exact H0 (x:=0) (y:=2) (by decide) (by decide)
theorem OA: ∀p∈tr3,Hm 8 p:=fun p hp=>by
 rcases List.mem_cons.1 hp with rfl|hp
 ·exact H0 (x:=0) (y:=0) (by decide) (by decide)
 rcases List.mem_cons.1 hp with rfl|hp
 ·exact H0 (x:=1) (y:=0) (by decide) (by decide)
 rw[List.mem_singleton.1 hp]
 exact H0 (x:=0) (y:=1) (by decide) (by decide)
theorem SF:LnH PI:=⟨1,1,1,1,by decide,by decide,by decide,by decide,by decide,Rat.mul_one _,Rat.mul_one _,Rat.mul_one _⟩
theorem S0:LnH M7:=⟨1, -1,0,1,by decide,by decide,by decide,by decide,by decide,Rat.mul_one _,Rat.mul_one _,Rat.mul_one _⟩
theorem Px {f:AD} (hf:LnH f) (n:f.a≠0∨f.b≠0):NN f:=⟨hf.sz.1.ok (by decide),hf.sz.2.1.ok (by decide),hf.sz.2.2.ok (by decide),n⟩
theorem Un:NN PI:=Px SF (.inl (by decide+kernel))
theorem UM:NN M7:=Px S0 (.inl (by decide+kernel))
theorem Hv.of_hm {e k:Nat} {l:List Aj} (hl: ∀p∈l,Hm e p) (h:e≤k):Hv k l:=fun p hp=>⟨(hl p hp).sz.1.mono h,(hl p hp).sz.2.mono h⟩
theorem s2 {q:Rat} (h:q.num.natAbs<10^2∧q.den<10^2):szQ q 2:=h
theorem ez2 {p q:Rat} (h:p.num.natAbs<10^2∧p.den<10^2) (h':q.num.natAbs<10^2∧q.den<10^2):Sz2 p q:=sz2 (s2 h) (s2 h') (by decide)
theorem Oz.of {p q:Aj} (hp:szQ p.1 8∧szQ p.2 8) (hq:szQ q.1 8∧szQ q.2 8):Oz p q:=⟨sz2 hp.1 hq.2 (by decide),sz2 hq.1 hp.2 (by decide),sz2 (hp.1.mul hq.2) (hq.1.mul hp.2) (by decide)⟩
theorem TV (i:Nat):Oz (Ad tr3 i) (Ad tr3 (i+1)):=Oz.of ((Hv.of_hm OA (Nat.le_refl 8)).at_ (by decide) i) ((Hv.of_hm OA (Nat.le_refl 8)).at_ (by decide) (i+1))
theorem lt3 {i:Nat} (h:i<tr3.length):i=0∨i=1∨i=2:=by have h:i<3:=h;omega
theorem Uf: ∀i,i<tr3.length→Sz2 (crK tr3 i) (CT (Ad tr3 i) (Ad tr3 (i+1))):=fun i hi=>by
 rcases lt3 hi with rfl|rfl|rfl<;>exact ez2 (by decide+kernel) (by decide+kernel)
theorem Uk:ArZ tr3:=⟨fun i _=>TV i,Uf,ez2 (by decide+kernel) (by decide+kernel)⟩
theorem Ur:CeZ tr3:=by
 refine⟨fun i _=>TV i,Uf,fun i hi=> ?_,fun i hi=> ?_,fun i hi=> ?_,fun i hi=> ?_,fun i hi=> ?_,fun i hi=> ?_,ez2 (by decide+kernel) (by decide+kernel),by decide+kernel,ez2 (by decide+kernel) (by decide+kernel),ez2 (by decide+kernel) (by decide+kernel)⟩<;>
  rcases lt3 hi with rfl|rfl|rfl<;>exact ez2 (by decide+kernel) (by decide+kernel)
theorem Uu:SeZ M7 sq4:=by
 have h:=ClZ.of S0 (by decide) OU
 refine⟨h.v,h.c,by rw[Mq];decide,fun x y e=> ?_⟩
 rw[Mq] at e
 cases e
 exact⟨ez2 (by decide+kernel) (by decide+kernel),ez2 (by decide+kernel) (by decide+kernel)⟩
theorem RR:Qb (Ep M7 sq4)= .tuple #[.agg #[str [48],str [48]], .agg #[str [50],str [50]], .bool true, .int .i64 0]:=by
 rw[Mq]
 show Value.tuple #[ptV (if BR ((2,2):Aj) (0,0)=true then _ else _),ptV (if BR ((2,2):Aj) (0,0)=true then _ else _), .bool true, .int .i64 0]=_
 rw[Tz]
 show Value.tuple #[.agg #[str (Ae 0),str (Ae 0)], .agg #[str (Ae 2),str (Ae 2)], .bool true, .int .i64 0]=_
 rw[J1,CL]
theorem UI:ptC sq4=[str [48],str [48],str [50],str [48],str [50],str [50],str [48],str [50]]:=by
 show[str (Ae 0),str (Ae 0),str (Ae 2),str (Ae 0),str (Ae 2),str (Ae 2),str (Ae 0),str (Ae 2)]=_
 rw[J1,CL]
theorem Uq:ptC tr3=[str [48],str [48],str [49],str [48],str [48],str [49]]:=by
 show[str (Ae 0),str (Ae 0),str (Ae 1),str (Ae 0),str (Ae 0),str (Ae 1)]=_
 rw[J1,U6]
theorem F1 {W:World} {b off:Nat} {l:List Aj} (h:Al W b off (ptC l)):Dx W (some ⟨b,off,none⟩) l:= .inr ⟨b,off,rfl,fun i hi=>by
 have e:ptC l=ptC (l.take i)++([str (Ae l[i].1),str (Ae l[i].2)]++ptC (l.drop (i+1))):=by
  have e0:l=l.take i++l[i]::l.drop (i+1):=by rw[←List.drop_eq_getElem_cons hi,List.take_append_drop]
  conv=>lhs;rw[e0]
  unfold ptC
  rw[List.flatMap_append,List.flatMap_cons]
 rw[e] at h
 have h1:=GU h
 rw[Bg,List.length_take,Nat.min_eq_left (by omega)] at h1
 have h2:=Cz h1
 exact h2⟩
end
section
open Go Go.RowKit Go.Am Go.Lib
set_option maxRecDepth 10000
-- BOXES 6
-- CODE2
theorem N6 {W:World} {p:Option Addr} (h:Dx W p sq4) (hv:Ci W) (ht:AL W):ER W p sq4:=⟨SS,by decide,by decide,Hv.of_hm OU (by decide),h,hv,ht⟩
theorem Nd {W:World} {p:Option Addr} (h:Dx W p tr3) (hv:Ci W) (ht:AL W):ER W p tr3:=⟨RW,by decide,by decide,Hv.of_hm OA (by decide),h,hv,ht⟩
abbrev UR (b:Nat):Bx:=⟨b,35,ptC sq4,true,none⟩
theorem Sz (p:Option Addr) (cap:Nat) (W:World) (h:ER W p sq4):
  Ah Tryz.prog 12 #[slv p 4 cap,str [49],str [49],str [49]] W (fun V:Vec=> .tuple #[V.val 3, .int .i64 0]) (fun V=>V.OK 2 3 (ptC tr3)) (fun V=>[V.bx 35 (ptC tr3)]):=by
 have h1:=Jh PI Un sq4 (ClZ.of SF (by decide) OU) p cap W h
 rw[TK] at h1
 have e:[Ae PI.a,Ae PI.b,Ae PI.c]=[[49],[49],[49]]:=by show[Ae 1,Ae 1,Ae 1]=_;rw[U6]
 simp only[List.cons.injEq,and_true] at e
 obtain⟨e1,e2,e3⟩:=e
 rw[e1,e2,e3] at h1
 exact h1
theorem RH (p:Option Addr) (cap:Nat) (W:World) (h:ER W p tr3):
  Ah Tryz.prog 15 #[slv p 3 cap] W (fun _:Unit=> .tuple #[str [49,47,50], .int .i64 0]) (fun _=>True) (fun _=>[]):=by
 have h1:=GM tr3 Uk p cap W h
 rw[T0,UP] at h1
 exact h1
theorem OW (p:Option Addr) (cap:Nat) (W:World) (h:ER W p tr3):
  Ah Tryz.prog 35 #[slv p 3 cap] W (fun _:Unit=> .tuple #[.agg #[str [49,47,51],str [49,47,51]], .int .i64 0]) (fun _=>True) (fun _=>[]):=by
 have h1:=Li tr3 Ur p cap W h
 rw[TE,TL,UQ] at h1
 exact h1
theorem Nt (p:Option Addr) (cap:Nat) (W:World) (h:ER W p sq4):
  Ah Tryz.prog 24 #[slv p 4 cap,str [49],str [45,49],str [48]] W (fun _:Unit=> .tuple #[.agg #[str [48],str [48]], .agg #[str [50],str [50]], .bool true, .int .i64 0]) (fun _=>True) (fun _=>[]):=by
 have h1:=JQ M7 UM sq4 Uu p cap W h
 rw[RR] at h1
 have e:[Ae M7.a,Ae M7.b,Ae M7.c]=[[49],[45,49],[48]]:=by show[Ae 1,Ae (-1),Ae 0]=_;rw[U6,UX,J1]
 simp only[List.cons.injEq,and_true] at e
 obtain⟨e1,e2,e3⟩:=e
 rw[e1,e2,e3] at h1
 exact h1
theorem Fo (W:World) (hv:Ci W) (ht:AL W):
  Ah Tryz.prog 11 #[] W (fun _:Unit=> .bool true) (fun _=>True) (fun _=>[]):=by
 refine Ab (args:=[]) Tryz.func11 I I I ?_
 refine zA (zB (wP I (Aa (zE (zA (zB ?_))))))
 iterate 4 refine Av Tryz.hZ tH I I I I I I I I ?_
 refine AA Tryz.hZ tH I I I I I I I I I I I fun bS=> ?_
 refine wP I (Aa ?_)
 refine Ps (bxs':=[UR bS]) (by show _=[(⟨bS,35,ptC sq4,true,none⟩:Bx)];rw[UI];rfl) ?_
 refine zE (zA (zB (wP I ?_)))
 refine wD (X:=Vec) I I (fun W1 hp=>Sz (some ⟨bS,0,none⟩) 4 W1 (N6 (F1 (Al.of_bx hp 0 I I)) (hv.hp hp) (ht.hp hp))) ?_
 rintro⟨pV,cV,jV⟩ hV
 obtain⟨gV,rfl⟩: ∃g,pV=some g:=Option.ne_none_iff_exists'.1 (fun e=>absurd (hV.nil e) (by decide))
 iterate 5 refine wP I ?_
 refine Aa (zE (zA (zB (wP I (wC I I (fun W1 hp=>RH (some ⟨gV,0,none⟩) cV W1 (Nd (F1 (Cz (Al.of_bx hp 1 I I:Al W1 gV 0 (ptC tr3++jV)))) (hv.hp hp) (ht.hp hp))) ?_)))))
 iterate 5 refine wP I ?_
 refine Aa (zE (zA (zB (wP I (wC I I (fun W1 hp=>OW (some ⟨gV,0,none⟩) cV W1 (Nd (F1 (Cz (Al.of_bx hp 1 I I:Al W1 gV 0 (ptC tr3++jV)))) (hv.hp hp) (ht.hp hp))) (wP I (wP I (wP I ?_))))))))
 (refine Ag Tryz.hZ rfl rfl rfl rfl ?_;intro)
 refine wS 2 I I I (wP I (Aa ?_))
 rename_i b6
 refine zE (zA (zB (wP I (wC I I (fun W1 hp=>Nt (some ⟨bS,0,none⟩) 4 W1 (N6 (F1 (Al.of_bx hp 0 I I)) (hv.hp hp) (ht.hp hp))) ?_))))
 iterate 5 refine wP I ?_
 (refine Ag Tryz.hZ rfl rfl rfl rfl ?_;intro)
 (refine Ag Tryz.hZ rfl rfl rfl rfl ?_;intro)
 refine wS 3 I I I (wS 4 I I I (wP I (wP I (Aa ?_))))
 rename_i b8 b9
 refine zE (Aw ?_)
 refine AZ (X:=Unit) [true,true,true,true,true,true,true,true,true,true,true,false,false,false,false,false,false,false,false,false,false,false,false,false,false,false,false,false,false,false,false,false,false,false,false,false,false,false,false,false,false] (fun _=>[(0, .bool true)]) (fun _=>[])
  30 [UR bS,⟨gV,35,ptC tr3++jV,true,none⟩,ptB b6 [49,47,51] [49,47,51],ptB b8 [48] [48],ptB b9 [50] [50]] Tryz.mixed (by kernel_rfl) ?_ ?_
 ·refine qP I (qP I (qP I (qP I (qP I ?_))))
  refine Fs 43 (.int .i64 0) I I ?_
  refine qP I ?_
  refine Fs 44 (.bool true) I I ?_
  refine qP I (qP I ?_)
  iterate 3 refine GZ Tryz.hZ tH I I I I I I I I ?_
  refine Cm (wX (wZ ?_))
  refine AA Tryz.hZ tH I I I I I I I I I I I fun bT=> ?_
  refine Aa (Ac (wX (wZ (wC I I (fun W1 hp=>MQ tr3 (by decide) (some ⟨gV,0,none⟩) (some ⟨bT,0,none⟩) cV 3 W1 (F1 (Cz (Al.of_bx hp 1 I I:Al W1 gV 0 (ptC tr3++jV)))) (F1 (by have h:=Al.of_bx hp 5 I I;rw[Uq];exact h))) (Aa (Ac (wX (wZ (wP I (Aa (Ac (wX (wZ ?_)))))))))))))
  refine wP I (Aa (Ac (wX (wZ (wP I (Aa (Ac (wX (wZ ?_)))))))))
  refine wP I ?_;refine wU 55 true I ((AR [49,47,50] [49,47,50]).trans (dT I)) ?_
  refine Aa (Ac (wX (wZ (wP I (Aa (Ac (wX (wZ (wP I (Aa (Ac (wX ?_))))))))))))
  refine RS.cons ?_ (RS.cons ?_ (RS.nil))
  ·refine wB 2 I I I (Aa (Ac (wX (wZ ?_))))
   refine Av Tryz.hZ tH I I I I I I I I ?_
   refine Aa (Ac (wX (wZ ?_)))
   refine AK [49,47,51] [49,47,51] [49,47,51] [49,47,51] I I I I I ?_;refine Af 60 (.bool true) I I ?_
   refine Aa (Ac (wX (wZ (wP I (Aa (Ac (wX (wZ (wP I (Aa (Ac (wX (wZ ?_)))))))))))))
   refine wP I (Aa (Ac (wX (wZ (wP I (Aa (Ac (wX (wZ (wP I (Aa (Ac (wX ?_)))))))))))))
   refine RS.cons ?_ (RS.cons ?_ (RS.nil))
   ·refine wB 3 I I I (Aa (Ac (wX (wZ (wP I (Aa (Ac (wX (wZ (wI I I (by decide) (by decide) (Aa (Ac (wX ?_)))))))))))))
    refine wZ ?_
    refine wB 0 I I I ?_;refine Af 69 (.agg #[str [48],str [48]]) I (by rw[←J1];rfl) ?_
    refine Aa (Ac (wX (wZ ?_)))
    refine AK [48] [48] [48] [48] I I I I I ?_;refine Af 70 (.bool true) I I ?_
    refine Aa (Ac (wX (wZ (wP I (Aa (Ac (wX (wZ (wP I (Aa (Ac (wX ?_))))))))))))
    refine RS.cons ?_ (RS.cons ?_ (RS.nil))
    ·refine wB 4 I I I (Aa (Ac (wX (wZ (wP I (Aa (Ac (wX (wZ (wI I I (by decide) (by decide) (Aa (Ac (wX ?_)))))))))))))
     refine wZ ?_
     refine wB 0 I I I ?_;refine Af 76 (.agg #[str [50],str [50]]) I (by rw[←CL];rfl) ?_
     refine Aa (Ac (wX (wZ ?_)))
     refine AK [50] [50] [50] [50] I I I I I ?_;refine Af 77 (.bool true) I I ?_
     refine Aa (Ac (wX (wZ (wP I (Aa (Ac (wX (wZ (wP I (Aa (Ac ?_)))))))))))
     refine A4 I (by((repeat (first|refine A9.same ?_|refine A9.off I ?_));exact tO)) ?_
     exact At () ⟨I,tO⟩ [] (by decide) I
    ·refine wP I (Aa (Ac (wX ?_)))
     refine RS.cons ?_ (RS.cons ?_ (RS.nil))
     ·refine wB 4 I I I (Aa (Ac (wX (wZ (wI I I (by decide) (by decide) (Aa (Ac (wX (wZ ?_)))))))))
      refine wB 0 I I I ?_;refine Af 76 (.agg #[str [50],str [50]]) I (by rw[←CL];rfl) ?_
      refine Aa (Ac (wX (wZ ?_)))
      refine AK [50] [50] [50] [50] I I I I I ?_;refine Af 77 (.bool true) I I ?_
      refine Aa (Ac (wX (wZ (wP I (Aa (Ac (wX (wZ (wP I (Aa (Ac ?_)))))))))))
      refine A4 I (by((repeat (first|refine A9.same ?_|refine A9.off I ?_));exact tO)) ?_
      exact At () ⟨I,tO⟩ [] (by decide) I
     ·refine wI I I (by decide) (by decide) (Aa (Ac (wX ?_)))
      refine RS.cons ?_ (RS.cons ?_ (RS.nil))
      ·refine wB 4 I I I (Aa (Ac (wX (wZ ?_))))
       refine wB 0 I I I ?_;refine Af 76 (.agg #[str [50],str [50]]) I (by rw[←CL];rfl) ?_
       refine Aa (Ac (wX (wZ ?_)))
       refine AK [50] [50] [50] [50] I I I I I ?_;refine Af 77 (.bool true) I I ?_
       refine Aa (Ac (wX (wZ (wP I (Aa (Ac (wX (wZ (wP I (Aa (Ac ?_)))))))))))
       refine A4 I (by((repeat (first|refine A9.same ?_|refine A9.off I ?_));exact tO)) ?_
       exact At () ⟨I,tO⟩ [] (by decide) I
      ·refine wB 0 I I I ?_;refine Af 76 (.agg #[str [50],str [50]]) I (by rw[←CL];rfl) ?_
       refine Aa (Ac (wX (wZ (wB 4 I I I (Aa (Ac (wX (wZ ?_))))))))
       refine AK [50] [50] [50] [50] I I I I I ?_;refine Af 77 (.bool true) I I ?_
       refine Aa (Ac (wX (wZ (wP I (Aa (Ac (wX (wZ (wP I (Aa (Ac ?_)))))))))))
       refine A4 I (by((repeat (first|refine A9.same ?_|refine A9.off I ?_));exact tO)) ?_
       exact At () ⟨I,tO⟩ [] (by decide) I
   ·refine wP I (Aa (Ac (wX ?_)))
    refine RS.cons ?_ (RS.cons ?_ (RS.nil))
    ·refine wB 3 I I I (Aa (Ac (wX (wZ (wI I I (by decide) (by decide) (Aa (Ac (wX (wZ ?_)))))))))
     refine wB 0 I I I ?_;refine Af 69 (.agg #[str [48],str [48]]) I (by rw[←J1];rfl) ?_
     refine Aa (Ac (wX (wZ ?_)))
     refine AK [48] [48] [48] [48] I I I I I ?_;refine Af 70 (.bool true) I I ?_
     refine Aa (Ac (wX (wZ (wP I (Aa (Ac (wX (wZ (wP I (Aa (Ac (wX ?_))))))))))))
     refine RS.cons ?_ (RS.cons ?_ (RS.nil))
     ·refine wB 4 I I I (Aa (Ac (wX (wZ (wP I (Aa (Ac (wX (wZ (wI I I (by decide) (by decide) (Aa (Ac (wX ?_)))))))))))))
      refine wZ ?_
      refine wB 0 I I I ?_;refine Af 76 (.agg #[str [50],str [50]]) I (by rw[←CL];rfl) ?_
      refine Aa (Ac (wX (wZ ?_)))
      refine AK [50] [50] [50] [50] I I I I I ?_;refine Af 77 (.bool true) I I ?_
      refine Aa (Ac (wX (wZ (wP I (Aa (Ac (wX (wZ (wP I (Aa (Ac ?_)))))))))))
      refine A4 I (by((repeat (first|refine A9.same ?_|refine A9.off I ?_));exact tO)) ?_
      exact At () ⟨I,tO⟩ [] (by decide) I
     ·refine wP I (Aa (Ac (wX ?_)))
      refine RS.cons ?_ (RS.cons ?_ (RS.nil))
      ·refine wB 4 I I I (Aa (Ac (wX (wZ (wI I I (by decide) (by decide) (Aa (Ac (wX (wZ ?_)))))))))
       refine wB 0 I I I ?_;refine Af 76 (.agg #[str [50],str [50]]) I (by rw[←CL];rfl) ?_
       refine Aa (Ac (wX (wZ ?_)))
       refine AK [50] [50] [50] [50] I I I I I ?_;refine Af 77 (.bool true) I I ?_
       refine Aa (Ac (wX (wZ (wP I (Aa (Ac (wX (wZ (wP I (Aa (Ac ?_)))))))))))
       refine A4 I (by((repeat (first|refine A9.same ?_|refine A9.off I ?_));exact tO)) ?_
       exact At () ⟨I,tO⟩ [] (by decide) I
      ·refine wI I I (by decide) (by decide) (Aa (Ac (wX ?_)))
       refine RS.cons ?_ (RS.cons ?_ (RS.nil))
       ·refine wB 4 I I I (Aa (Ac (wX (wZ ?_))))
        refine wB 0 I I I ?_;refine Af 76 (.agg #[str [50],str [50]]) I (by rw[←CL];rfl) ?_
        refine Aa (Ac (wX (wZ ?_)))
        refine AK [50] [50] [50] [50] I I I I I ?_;refine Af 77 (.bool true) I I ?_
        refine Aa (Ac (wX (wZ (wP I (Aa (Ac (wX (wZ (wP I (Aa (Ac ?_)))))))))))
        refine A4 I (by((repeat (first|refine A9.same ?_|refine A9.off I ?_));exact tO)) ?_
        exact At () ⟨I,tO⟩ [] (by decide) I
       ·refine wB 0 I I I ?_;refine Af 76 (.agg #[str [50],str [50]]) I (by rw[←CL];rfl) ?_
        refine Aa (Ac (wX (wZ (wB 4 I I I (Aa (Ac (wX (wZ ?_))))))))
        refine AK [50] [50] [50] [50] I I I I I ?_;refine Af 77 (.bool true) I I ?_
        refine Aa (Ac (wX (wZ (wP I (Aa (Ac (wX (wZ (wP I (Aa (Ac ?_)))))))))))
        refine A4 I (by((repeat (first|refine A9.same ?_|refine A9.off I ?_));exact tO)) ?_
        exact At () ⟨I,tO⟩ [] (by decide) I
    ·refine wI I I (by decide) (by decide) (Aa (Ac (wX ?_)))
     refine RS.cons ?_ (RS.cons ?_ (RS.nil))
     ·refine wB 3 I I I (Aa (Ac (wX (wZ ?_))))
      refine wB 0 I I I ?_;refine Af 69 (.agg #[str [48],str [48]]) I (by rw[←J1];rfl) ?_
      refine Aa (Ac (wX (wZ ?_)))
      refine AK [48] [48] [48] [48] I I I I I ?_;refine Af 70 (.bool true) I I ?_
      refine Aa (Ac (wX (wZ (wP I (Aa (Ac (wX (wZ (wP I (Aa (Ac (wX ?_))))))))))))
      refine RS.cons ?_ (RS.cons ?_ (RS.nil))
      ·refine wB 4 I I I (Aa (Ac (wX (wZ (wP I (Aa (Ac (wX (wZ (wI I I (by decide) (by decide) (Aa (Ac (wX ?_)))))))))))))
       refine wZ ?_
       refine wB 0 I I I ?_;refine Af 76 (.agg #[str [50],str [50]]) I (by rw[←CL];rfl) ?_
       refine Aa (Ac (wX (wZ ?_)))
       refine AK [50] [50] [50] [50] I I I I I ?_;refine Af 77 (.bool true) I I ?_
       refine Aa (Ac (wX (wZ (wP I (Aa (Ac (wX (wZ (wP I (Aa (Ac ?_)))))))))))
       refine A4 I (by((repeat (first|refine A9.same ?_|refine A9.off I ?_));exact tO)) ?_
       exact At () ⟨I,tO⟩ [] (by decide) I
      ·refine wP I (Aa (Ac (wX ?_)))
       refine RS.cons ?_ (RS.cons ?_ (RS.nil))
       ·refine wB 4 I I I (Aa (Ac (wX (wZ (wI I I (by decide) (by decide) (Aa (Ac (wX (wZ ?_)))))))))
        refine wB 0 I I I ?_;refine Af 76 (.agg #[str [50],str [50]]) I (by rw[←CL];rfl) ?_
        refine Aa (Ac (wX (wZ ?_)))
        refine AK [50] [50] [50] [50] I I I I I ?_;refine Af 77 (.bool true) I I ?_
        refine Aa (Ac (wX (wZ (wP I (Aa (Ac (wX (wZ (wP I (Aa (Ac ?_)))))))))))
        refine A4 I (by((repeat (first|refine A9.same ?_|refine A9.off I ?_));exact tO)) ?_
        exact At () ⟨I,tO⟩ [] (by decide) I
       ·refine wI I I (by decide) (by decide) (Aa (Ac (wX ?_)))
        refine RS.cons ?_ (RS.cons ?_ (RS.nil))
        ·refine wB 4 I I I (Aa (Ac (wX (wZ ?_))))
         refine wB 0 I I I ?_;refine Af 76 (.agg #[str [50],str [50]]) I (by rw[←CL];rfl) ?_
         refine Aa (Ac (wX (wZ ?_)))
         refine AK [50] [50] [50] [50] I I I I I ?_;refine Af 77 (.bool true) I I ?_
         refine Aa (Ac (wX (wZ (wP I (Aa (Ac (wX (wZ (wP I (Aa (Ac ?_)))))))))))
         refine A4 I (by((repeat (first|refine A9.same ?_|refine A9.off I ?_));exact tO)) ?_
         exact At () ⟨I,tO⟩ [] (by decide) I
        ·refine wB 0 I I I ?_;refine Af 76 (.agg #[str [50],str [50]]) I (by rw[←CL];rfl) ?_
         refine Aa (Ac (wX (wZ (wB 4 I I I (Aa (Ac (wX (wZ ?_))))))))
         refine AK [50] [50] [50] [50] I I I I I ?_;refine Af 77 (.bool true) I I ?_
         refine Aa (Ac (wX (wZ (wP I (Aa (Ac (wX (wZ (wP I (Aa (Ac ?_)))))))))))
         refine A4 I (by((repeat (first|refine A9.same ?_|refine A9.off I ?_));exact tO)) ?_
         exact At () ⟨I,tO⟩ [] (by decide) I
     ·refine wB 0 I I I ?_;refine Af 69 (.agg #[str [48],str [48]]) I (by rw[←J1];rfl) ?_
      refine Aa (Ac (wX (wZ (wB 3 I I I (Aa (Ac (wX (wZ ?_))))))))
      refine AK [48] [48] [48] [48] I I I I I ?_;refine Af 70 (.bool true) I I ?_
      refine Aa (Ac (wX (wZ (wP I (Aa (Ac (wX (wZ (wP I (Aa (Ac (wX ?_))))))))))))
      refine RS.cons ?_ (RS.cons ?_ (RS.nil))
      ·refine wB 4 I I I (Aa (Ac (wX (wZ (wP I (Aa (Ac (wX (wZ (wI I I (by decide) (by decide) (Aa (Ac (wX ?_)))))))))))))
       refine wZ ?_
       refine wB 0 I I I ?_;refine Af 76 (.agg #[str [50],str [50]]) I (by rw[←CL];rfl) ?_
       refine Aa (Ac (wX (wZ ?_)))
       refine AK [50] [50] [50] [50] I I I I I ?_;refine Af 77 (.bool true) I I ?_
       refine Aa (Ac (wX (wZ (wP I (Aa (Ac (wX (wZ (wP I (Aa (Ac ?_)))))))))))
       refine A4 I (by((repeat (first|refine A9.same ?_|refine A9.off I ?_));exact tO)) ?_
       exact At () ⟨I,tO⟩ [] (by decide) I
      ·refine wP I (Aa (Ac (wX ?_)))
       refine RS.cons ?_ (RS.cons ?_ (RS.nil))
       ·refine wB 4 I I I (Aa (Ac (wX (wZ (wI I I (by decide) (by decide) (Aa (Ac (wX (wZ ?_)))))))))
        refine wB 0 I I I ?_;refine Af 76 (.agg #[str [50],str [50]]) I (by rw[←CL];rfl) ?_
        refine Aa (Ac (wX (wZ ?_)))
        refine AK [50] [50] [50] [50] I I I I I ?_;refine Af 77 (.bool true) I I ?_
        refine Aa (Ac (wX (wZ (wP I (Aa (Ac (wX (wZ (wP I (Aa (Ac ?_)))))))))))
        refine A4 I (by((repeat (first|refine A9.same ?_|refine A9.off I ?_));exact tO)) ?_
        exact At () ⟨I,tO⟩ [] (by decide) I
       ·refine wI I I (by decide) (by decide) (Aa (Ac (wX ?_)))
        refine RS.cons ?_ (RS.cons ?_ (RS.nil))
        ·refine wB 4 I I I (Aa (Ac (wX (wZ ?_))))
         refine wB 0 I I I ?_;refine Af 76 (.agg #[str [50],str [50]]) I (by rw[←CL];rfl) ?_
         refine Aa (Ac (wX (wZ ?_)))
         refine AK [50] [50] [50] [50] I I I I I ?_;refine Af 77 (.bool true) I I ?_
         refine Aa (Ac (wX (wZ (wP I (Aa (Ac (wX (wZ (wP I (Aa (Ac ?_)))))))))))
         refine A4 I (by((repeat (first|refine A9.same ?_|refine A9.off I ?_));exact tO)) ?_
         exact At () ⟨I,tO⟩ [] (by decide) I
        ·refine wB 0 I I I ?_;refine Af 76 (.agg #[str [50],str [50]]) I (by rw[←CL];rfl) ?_
         refine Aa (Ac (wX (wZ (wB 4 I I I (Aa (Ac (wX (wZ ?_))))))))
         refine AK [50] [50] [50] [50] I I I I I ?_;refine Af 77 (.bool true) I I ?_
         refine Aa (Ac (wX (wZ (wP I (Aa (Ac (wX (wZ (wP I (Aa (Ac ?_)))))))))))
         refine A4 I (by((repeat (first|refine A9.same ?_|refine A9.off I ?_));exact tO)) ?_
         exact At () ⟨I,tO⟩ [] (by decide) I
  ·refine Av Tryz.hZ tH I I I I I I I I ?_
   refine Aa (Ac (wX (wZ (wB 2 I I I (Aa (Ac (wX (wZ ?_))))))))
   refine AK [49,47,51] [49,47,51] [49,47,51] [49,47,51] I I I I I ?_;refine Af 60 (.bool true) I I ?_
   refine Aa (Ac (wX (wZ (wP I (Aa (Ac (wX (wZ (wP I (Aa (Ac (wX (wZ ?_)))))))))))))
   refine wP I (Aa (Ac (wX (wZ (wP I (Aa (Ac (wX (wZ (wP I (Aa (Ac (wX ?_)))))))))))))
   refine RS.cons ?_ (RS.cons ?_ (RS.nil))
   ·refine wB 3 I I I (Aa (Ac (wX (wZ (wP I (Aa (Ac (wX (wZ (wI I I (by decide) (by decide) (Aa (Ac (wX ?_)))))))))))))
    refine wZ ?_
    refine wB 0 I I I ?_;refine Af 69 (.agg #[str [48],str [48]]) I (by rw[←J1];rfl) ?_
    refine Aa (Ac (wX (wZ ?_)))
    refine AK [48] [48] [48] [48] I I I I I ?_;refine Af 70 (.bool true) I I ?_
    refine Aa (Ac (wX (wZ (wP I (Aa (Ac (wX (wZ (wP I (Aa (Ac (wX ?_))))))))))))
    refine RS.cons ?_ (RS.cons ?_ (RS.nil))
    ·refine wB 4 I I I (Aa (Ac (wX (wZ (wP I (Aa (Ac (wX (wZ (wI I I (by decide) (by decide) (Aa (Ac (wX ?_)))))))))))))
     refine wZ ?_
     refine wB 0 I I I ?_;refine Af 76 (.agg #[str [50],str [50]]) I (by rw[←CL];rfl) ?_
     refine Aa (Ac (wX (wZ ?_)))
     refine AK [50] [50] [50] [50] I I I I I ?_;refine Af 77 (.bool true) I I ?_
     refine Aa (Ac (wX (wZ (wP I (Aa (Ac (wX (wZ (wP I (Aa (Ac ?_)))))))))))
     refine A4 I (by((repeat (first|refine A9.same ?_|refine A9.off I ?_));exact tO)) ?_
     exact At () ⟨I,tO⟩ [] (by decide) I
    ·refine wP I (Aa (Ac (wX ?_)))
     refine RS.cons ?_ (RS.cons ?_ (RS.nil))
     ·refine wB 4 I I I (Aa (Ac (wX (wZ (wI I I (by decide) (by decide) (Aa (Ac (wX (wZ ?_)))))))))
      refine wB 0 I I I ?_;refine Af 76 (.agg #[str [50],str [50]]) I (by rw[←CL];rfl) ?_
      refine Aa (Ac (wX (wZ ?_)))
      refine AK [50] [50] [50] [50] I I I I I ?_;refine Af 77 (.bool true) I I ?_
      refine Aa (Ac (wX (wZ (wP I (Aa (Ac (wX (wZ (wP I (Aa (Ac ?_)))))))))))
      refine A4 I (by((repeat (first|refine A9.same ?_|refine A9.off I ?_));exact tO)) ?_
      exact At () ⟨I,tO⟩ [] (by decide) I
     ·refine wI I I (by decide) (by decide) (Aa (Ac (wX ?_)))
      refine RS.cons ?_ (RS.cons ?_ (RS.nil))
      ·refine wB 4 I I I (Aa (Ac (wX (wZ ?_))))
       refine wB 0 I I I ?_;refine Af 76 (.agg #[str [50],str [50]]) I (by rw[←CL];rfl) ?_
       refine Aa (Ac (wX (wZ ?_)))
       refine AK [50] [50] [50] [50] I I I I I ?_;refine Af 77 (.bool true) I I ?_
       refine Aa (Ac (wX (wZ (wP I (Aa (Ac (wX (wZ (wP I (Aa (Ac ?_)))))))))))
       refine A4 I (by((repeat (first|refine A9.same ?_|refine A9.off I ?_));exact tO)) ?_
       exact At () ⟨I,tO⟩ [] (by decide) I
      ·refine wB 0 I I I ?_;refine Af 76 (.agg #[str [50],str [50]]) I (by rw[←CL];rfl) ?_
       refine Aa (Ac (wX (wZ (wB 4 I I I (Aa (Ac (wX (wZ ?_))))))))
       refine AK [50] [50] [50] [50] I I I I I ?_;refine Af 77 (.bool true) I I ?_
       refine Aa (Ac (wX (wZ (wP I (Aa (Ac (wX (wZ (wP I (Aa (Ac ?_)))))))))))
       refine A4 I (by((repeat (first|refine A9.same ?_|refine A9.off I ?_));exact tO)) ?_
       exact At () ⟨I,tO⟩ [] (by decide) I
   ·refine wP I (Aa (Ac (wX ?_)))
    refine RS.cons ?_ (RS.cons ?_ (RS.nil))
    ·refine wB 3 I I I (Aa (Ac (wX (wZ (wI I I (by decide) (by decide) (Aa (Ac (wX (wZ ?_)))))))))
     refine wB 0 I I I ?_;refine Af 69 (.agg #[str [48],str [48]]) I (by rw[←J1];rfl) ?_
     refine Aa (Ac (wX (wZ ?_)))
     refine AK [48] [48] [48] [48] I I I I I ?_;refine Af 70 (.bool true) I I ?_
     refine Aa (Ac (wX (wZ (wP I (Aa (Ac (wX (wZ (wP I (Aa (Ac (wX ?_))))))))))))
     refine RS.cons ?_ (RS.cons ?_ (RS.nil))
     ·refine wB 4 I I I (Aa (Ac (wX (wZ (wP I (Aa (Ac (wX (wZ (wI I I (by decide) (by decide) (Aa (Ac (wX ?_)))))))))))))
      refine wZ ?_
      refine wB 0 I I I ?_;refine Af 76 (.agg #[str [50],str [50]]) I (by rw[←CL];rfl) ?_
      refine Aa (Ac (wX (wZ ?_)))
      refine AK [50] [50] [50] [50] I I I I I ?_;refine Af 77 (.bool true) I I ?_
      refine Aa (Ac (wX (wZ (wP I (Aa (Ac (wX (wZ (wP I (Aa (Ac ?_)))))))))))
      refine A4 I (by((repeat (first|refine A9.same ?_|refine A9.off I ?_));exact tO)) ?_
      exact At () ⟨I,tO⟩ [] (by decide) I
     ·refine wP I (Aa (Ac (wX ?_)))
      refine RS.cons ?_ (RS.cons ?_ (RS.nil))
      ·refine wB 4 I I I (Aa (Ac (wX (wZ (wI I I (by decide) (by decide) (Aa (Ac (wX (wZ ?_)))))))))
       refine wB 0 I I I ?_;refine Af 76 (.agg #[str [50],str [50]]) I (by rw[←CL];rfl) ?_
       refine Aa (Ac (wX (wZ ?_)))
       refine AK [50] [50] [50] [50] I I I I I ?_;refine Af 77 (.bool true) I I ?_
       refine Aa (Ac (wX (wZ (wP I (Aa (Ac (wX (wZ (wP I (Aa (Ac ?_)))))))))))
       refine A4 I (by((repeat (first|refine A9.same ?_|refine A9.off I ?_));exact tO)) ?_
       exact At () ⟨I,tO⟩ [] (by decide) I
      ·refine wI I I (by decide) (by decide) (Aa (Ac (wX ?_)))
       refine RS.cons ?_ (RS.cons ?_ (RS.nil))
       ·refine wB 4 I I I (Aa (Ac (wX (wZ ?_))))
        refine wB 0 I I I ?_;refine Af 76 (.agg #[str [50],str [50]]) I (by rw[←CL];rfl) ?_
        refine Aa (Ac (wX (wZ ?_)))
        refine AK [50] [50] [50] [50] I I I I I ?_;refine Af 77 (.bool true) I I ?_
        refine Aa (Ac (wX (wZ (wP I (Aa (Ac (wX (wZ (wP I (Aa (Ac ?_)))))))))))
        refine A4 I (by((repeat (first|refine A9.same ?_|refine A9.off I ?_));exact tO)) ?_
        exact At () ⟨I,tO⟩ [] (by decide) I
       ·refine wB 0 I I I ?_;refine Af 76 (.agg #[str [50],str [50]]) I (by rw[←CL];rfl) ?_
        refine Aa (Ac (wX (wZ (wB 4 I I I (Aa (Ac (wX (wZ ?_))))))))
        refine AK [50] [50] [50] [50] I I I I I ?_;refine Af 77 (.bool true) I I ?_
        refine Aa (Ac (wX (wZ (wP I (Aa (Ac (wX (wZ (wP I (Aa (Ac ?_)))))))))))
        refine A4 I (by((repeat (first|refine A9.same ?_|refine A9.off I ?_));exact tO)) ?_
        exact At () ⟨I,tO⟩ [] (by decide) I
    ·refine wI I I (by decide) (by decide) (Aa (Ac (wX ?_)))
     refine RS.cons ?_ (RS.cons ?_ (RS.nil))
     ·refine wB 3 I I I (Aa (Ac (wX (wZ ?_))))
      refine wB 0 I I I ?_;refine Af 69 (.agg #[str [48],str [48]]) I (by rw[←J1];rfl) ?_
      refine Aa (Ac (wX (wZ ?_)))
      refine AK [48] [48] [48] [48] I I I I I ?_;refine Af 70 (.bool true) I I ?_
      refine Aa (Ac (wX (wZ (wP I (Aa (Ac (wX (wZ (wP I (Aa (Ac (wX ?_))))))))))))
      refine RS.cons ?_ (RS.cons ?_ (RS.nil))
      ·refine wB 4 I I I (Aa (Ac (wX (wZ (wP I (Aa (Ac (wX (wZ (wI I I (by decide) (by decide) (Aa (Ac (wX ?_)))))))))))))
       refine wZ ?_
       refine wB 0 I I I ?_;refine Af 76 (.agg #[str [50],str [50]]) I (by rw[←CL];rfl) ?_
       refine Aa (Ac (wX (wZ ?_)))
       refine AK [50] [50] [50] [50] I I I I I ?_;refine Af 77 (.bool true) I I ?_
       refine Aa (Ac (wX (wZ (wP I (Aa (Ac (wX (wZ (wP I (Aa (Ac ?_)))))))))))
       refine A4 I (by((repeat (first|refine A9.same ?_|refine A9.off I ?_));exact tO)) ?_
       exact At () ⟨I,tO⟩ [] (by decide) I
      ·refine wP I (Aa (Ac (wX ?_)))
       refine RS.cons ?_ (RS.cons ?_ (RS.nil))
       ·refine wB 4 I I I (Aa (Ac (wX (wZ (wI I I (by decide) (by decide) (Aa (Ac (wX (wZ ?_)))))))))
        refine wB 0 I I I ?_;refine Af 76 (.agg #[str [50],str [50]]) I (by rw[←CL];rfl) ?_
        refine Aa (Ac (wX (wZ ?_)))
        refine AK [50] [50] [50] [50] I I I I I ?_;refine Af 77 (.bool true) I I ?_
        refine Aa (Ac (wX (wZ (wP I (Aa (Ac (wX (wZ (wP I (Aa (Ac ?_)))))))))))
        refine A4 I (by((repeat (first|refine A9.same ?_|refine A9.off I ?_));exact tO)) ?_
        exact At () ⟨I,tO⟩ [] (by decide) I
       ·refine wI I I (by decide) (by decide) (Aa (Ac (wX ?_)))
        refine RS.cons ?_ (RS.cons ?_ (RS.nil))
        ·refine wB 4 I I I (Aa (Ac (wX (wZ ?_))))
         refine wB 0 I I I ?_;refine Af 76 (.agg #[str [50],str [50]]) I (by rw[←CL];rfl) ?_
         refine Aa (Ac (wX (wZ ?_)))
         refine AK [50] [50] [50] [50] I I I I I ?_;refine Af 77 (.bool true) I I ?_
         refine Aa (Ac (wX (wZ (wP I (Aa (Ac (wX (wZ (wP I (Aa (Ac ?_)))))))))))
         refine A4 I (by((repeat (first|refine A9.same ?_|refine A9.off I ?_));exact tO)) ?_
         exact At () ⟨I,tO⟩ [] (by decide) I
        ·refine wB 0 I I I ?_;refine Af 76 (.agg #[str [50],str [50]]) I (by rw[←CL];rfl) ?_
         refine Aa (Ac (wX (wZ (wB 4 I I I (Aa (Ac (wX (wZ ?_))))))))
         refine AK [50] [50] [50] [50] I I I I I ?_;refine Af 77 (.bool true) I I ?_
         refine Aa (Ac (wX (wZ (wP I (Aa (Ac (wX (wZ (wP I (Aa (Ac ?_)))))))))))
         refine A4 I (by((repeat (first|refine A9.same ?_|refine A9.off I ?_));exact tO)) ?_
         exact At () ⟨I,tO⟩ [] (by decide) I
     ·refine wB 0 I I I ?_;refine Af 69 (.agg #[str [48],str [48]]) I (by rw[←J1];rfl) ?_
      refine Aa (Ac (wX (wZ (wB 3 I I I (Aa (Ac (wX (wZ ?_))))))))
      refine AK [48] [48] [48] [48] I I I I I ?_;refine Af 70 (.bool true) I I ?_
      refine Aa (Ac (wX (wZ (wP I (Aa (Ac (wX (wZ (wP I (Aa (Ac (wX ?_))))))))))))
      refine RS.cons ?_ (RS.cons ?_ (RS.nil))
      ·refine wB 4 I I I (Aa (Ac (wX (wZ (wP I (Aa (Ac (wX (wZ (wI I I (by decide) (by decide) (Aa (Ac (wX ?_)))))))))))))
       refine wZ ?_
       refine wB 0 I I I ?_;refine Af 76 (.agg #[str [50],str [50]]) I (by rw[←CL];rfl) ?_
       refine Aa (Ac (wX (wZ ?_)))
       refine AK [50] [50] [50] [50] I I I I I ?_;refine Af 77 (.bool true) I I ?_
       refine Aa (Ac (wX (wZ (wP I (Aa (Ac (wX (wZ (wP I (Aa (Ac ?_)))))))))))
       refine A4 I (by((repeat (first|refine A9.same ?_|refine A9.off I ?_));exact tO)) ?_
       exact At () ⟨I,tO⟩ [] (by decide) I
      ·refine wP I (Aa (Ac (wX ?_)))
       refine RS.cons ?_ (RS.cons ?_ (RS.nil))
       ·refine wB 4 I I I (Aa (Ac (wX (wZ (wI I I (by decide) (by decide) (Aa (Ac (wX (wZ ?_)))))))))
        refine wB 0 I I I ?_;refine Af 76 (.agg #[str [50],str [50]]) I (by rw[←CL];rfl) ?_
        refine Aa (Ac (wX (wZ ?_)))
        refine AK [50] [50] [50] [50] I I I I I ?_;refine Af 77 (.bool true) I I ?_
        refine Aa (Ac (wX (wZ (wP I (Aa (Ac (wX (wZ (wP I (Aa (Ac ?_)))))))))))
        refine A4 I (by((repeat (first|refine A9.same ?_|refine A9.off I ?_));exact tO)) ?_
        exact At () ⟨I,tO⟩ [] (by decide) I
       ·refine wI I I (by decide) (by decide) (Aa (Ac (wX ?_)))
        refine RS.cons ?_ (RS.cons ?_ (RS.nil))
        ·refine wB 4 I I I (Aa (Ac (wX (wZ ?_))))
         refine wB 0 I I I ?_;refine Af 76 (.agg #[str [50],str [50]]) I (by rw[←CL];rfl) ?_
         refine Aa (Ac (wX (wZ ?_)))
         refine AK [50] [50] [50] [50] I I I I I ?_;refine Af 77 (.bool true) I I ?_
         refine Aa (Ac (wX (wZ (wP I (Aa (Ac (wX (wZ (wP I (Aa (Ac ?_)))))))))))
         refine A4 I (by((repeat (first|refine A9.same ?_|refine A9.off I ?_));exact tO)) ?_
         exact At () ⟨I,tO⟩ [] (by decide) I
        ·refine wB 0 I I I ?_;refine Af 76 (.agg #[str [50],str [50]]) I (by rw[←CL];rfl) ?_
         refine Aa (Ac (wX (wZ (wB 4 I I I (Aa (Ac (wX (wZ ?_))))))))
         refine AK [50] [50] [50] [50] I I I I I ?_;refine Af 77 (.bool true) I I ?_
         refine Aa (Ac (wX (wZ (wP I (Aa (Ac (wX (wZ (wP I (Aa (Ac ?_)))))))))))
         refine A4 I (by((repeat (first|refine A9.same ?_|refine A9.off I ?_));exact tO)) ?_
         exact At () ⟨I,tO⟩ [] (by decide) I
 intro _
 exact zE (zO (wR1 I I I))
-- BOXES 8
-- CODE2
def CW (V:Vec):Option Addr:=V.p.map fun g=>⟨g,0,none⟩
def CA (V:Vec):Nat:=match V.p with
 |none=>0
 |some _=>V.cap
theorem Ou {V:Vec} {l:List Aj} (h:V.OK 2 l.length (ptC l)):V.val l.length=slv (CW V) l.length (CA V):=by
 obtain⟨p,c,j⟩:=V
 cases p with
 |none=>
  have e:l.length=0:=h.nil rfl
  rw[e];rfl
 |some g=>rfl
theorem K3 {W0 W:World} {bxs:List Bx} (hp:Hp W0 bxs W) (k:Nat) {V:Vec} {l:List Aj} (h:V.OK 2 l.length (ptC l)) (hk:nth bxs k=some (V.bx 35 (ptC l))):Dx W (CW V) l:=by
 obtain⟨p,c,j⟩:=V
 cases p with
 |none=>
  have e:l.length=0:=h.nil rfl
  exact .inl (List.length_eq_zero_iff.1 e)
 |some g=>exact Dx.of_row (Al.of_bx hp k hk rfl)
theorem Gl.pts {W:World} {p:Option Addr} {l:List Aj} (h:Gl W p (l.map cvS)):Dx W p l:=by
 rcases h with h|⟨b,off,e,h⟩
 ·exact .inl (by simpa using h)
 ·refine .inr ⟨b,off,e,fun i hi=> ?_⟩
  have:=h i (by rw[List.length_map];exact hi)
  rwa [List.getElem_map] at this
structure MY (e:Nat) (l:List Aj):Prop where
 poly:Bt l
 n:l.length≤4096
 hm: ∀p∈l,Hm e p
theorem MY.m {e:Nat} {l:List Aj} (h:MY e l) (he:e≤36) {W:World} {p:Option Addr} (hp:Dx W p l) (hv:Ci W) (ht:AL W):ER W p l:=⟨h.poly,h.poly.n3,h.n,Hv.of_hm h.hm he,hp,hv,ht⟩
theorem IT (f:AD) (l:List Aj):(AY f l).length≤2*l.length:=by
 unfold AY
 split
 ·have:(BU (Ba f l)).length=(Ba f l).length:=Dh (GW _)
  rw[this]
  exact F0 f l l.length
 ·exact Nat.zero_le _
theorem MY.clip {e:Nat} {l:List Aj} (h:MY e l) {f:AD} (hf:LnH f) (hn:l.length≤2048) {x:Aj} (hx:x∈l) (hfx:f.at x<0):MY (2*e+14) (AY f l):=
 ⟨N7 h.poly hx hfx,by have:=IT f l;omega,Hm.clip hf h.hm⟩
theorem L4 {f:AD} (hq:NN f) (hf:LnH f) {e:Nat} {l r:List Aj} (h:MY e l) (he:e≤36) (er:AY f l=r) (p:Option Addr) (cap:Nat) (W:World) (hp:Dx W p l) (hv:Ci W) (ht:AL W):
  Ah Tryz.prog 12 #[slv p l.length cap,str (Ae f.a),str (Ae f.b),str (Ae f.c)] W (fun V:Vec=> .tuple #[V.val r.length, .int .i64 0]) (fun V=>V.OK 2 r.length (ptC r)) (fun V=>[V.bx 35 (ptC r)]):=by
 subst er
 exact Jh f hq l (ClZ.of hf (by omega) h.hm) p cap W (h.m he hp hv ht)
theorem UY {n:Nat}:((n:Int)==0)=decide (n=0):=by
 rw[Bool.eq_iff_iff,beq_iff_eq,decide_eq_true_iff];omega
-- BOXES 8
-- CODE2
structure Gj (l:List Aj) (k:Nat) (lo hi:Aj):Prop where
 le: ∀j,j<k→lo.1≤(Ad l j).1∧lo.2≤(Ad l j).2∧(Ad l j).1≤hi.1∧(Ad l j).2≤hi.2
 a1: ∃j,lo.1=(Ad l j).1
 a2: ∃j,lo.2=(Ad l j).2
 b1: ∃j,hi.1=(Ad l j).1
 b2: ∃j,hi.2=(Ad l j).2
def mnQ (x y:Rat):Rat:=if x<y then x else y
def mxQ (x y:Rat):Rat:=if y<x then x else y
theorem Uc (x y:Rat):mnQ x y≤x:=by unfold mnQ;split;exact Rat.le_refl;rename_i h;exact Rat.not_lt.1 h
theorem TU (x y:Rat):mnQ x y≤y:=by unfold mnQ;split;rename_i h;exact Rat.le_of_lt h;exact Rat.le_refl
theorem TW (x y:Rat):x≤mxQ x y:=by unfold mxQ;split;exact Rat.le_refl;rename_i h;exact Rat.not_lt.1 h
theorem Ua (x y:Rat):y≤mxQ x y:=by unfold mxQ;split;rename_i h;exact Rat.le_of_lt h;exact Rat.le_refl
theorem SG (x y:Rat):mnQ x y=x∨mnQ x y=y:=by unfold mnQ;split;exact .inl rfl;exact .inr rfl
theorem RL (x y:Rat):mxQ x y=x∨mxQ x y=y:=by unfold mxQ;split;exact .inl rfl;exact .inr rfl
theorem Gj.one (l:List Aj):Gj l 1 (Ad l 0) (Ad l 0):=⟨fun j hj=>by rw[show j=0 by omega];exact⟨Rat.le_refl,Rat.le_refl,Rat.le_refl,Rat.le_refl⟩,⟨0,rfl⟩,⟨0,rfl⟩,⟨0,rfl⟩,⟨0,rfl⟩⟩
theorem Gj.next {l:List Aj} {k:Nat} {lo hi:Aj} (h:Gj l k lo hi):Gj l (k+1) (mnQ (Ad l k).1 lo.1,mnQ (Ad l k).2 lo.2) (mxQ (Ad l k).1 hi.1,mxQ (Ad l k).2 hi.2):=by
 have ch: ∀ {m x y:Rat} {F:Aj→Rat},(m=x∨m=y)→x=F (Ad l k)→(∃j,y=F (Ad l j))→ ∃j,m=F (Ad l j):=fun ho hx hy=>by
  rcases ho with e|e
  ·exact⟨k,e.trans hx⟩
  ·obtain⟨j,hj⟩:=hy
   exact⟨j,e.trans hj⟩
 refine⟨fun j hj=> ?_,ch (SG ..) I h.a1,ch (F:=(·.2)) (SG ..) I h.a2,ch (RL ..) I h.b1,ch (F:=(·.2)) (RL ..) I h.b2⟩
 by_cases e:j=k
 ·subst e
  exact⟨Uc ..,Uc ..,TW ..,TW ..⟩
 ·obtain⟨x1,x2,x3,x4⟩:=h.le j (by omega)
  exact⟨Rat.le_trans (TU ..) x1,Rat.le_trans (TU ..) x2,Rat.le_trans x3 (Ua ..),Rat.le_trans x4 (Ua ..)⟩
theorem Gj.sz {l:List Aj} {k e:Nat} {lo hi:Aj} (h:Gj l k lo hi) (hs:Hv e l) (h0:0<l.length):szQ lo.1 e∧szQ lo.2 e∧szQ hi.1 e∧szQ hi.2 e:=by
 obtain⟨i,a1⟩:=h.a1
 obtain⟨j,a2⟩:=h.a2
 obtain⟨m,b1⟩:=h.b1
 obtain⟨n,b2⟩:=h.b2
 rw[a1,a2,b1,b2]
 exact⟨(hs.at_ h0 i).1,(hs.at_ h0 j).2,(hs.at_ h0 m).1,(hs.at_ h0 n).2⟩
theorem KP (l:List Aj) (p:Option Addr) (cap:Nat) (W:World) (h:ER W p l) (hcap:l.length≤cap):
  Ah Tryz.prog 17 #[slv p l.length cap] W (fun x:Aj×Aj=> .tuple #[ptV x.1,ptV x.2, .int .i64 0]) (fun x=>Gj l l.length x.1 x.2) (fun _=>[]):=by
 have hn:=h.n
 have hn3:=h.n3
 have h0:0<l.length:=by omega
 have hsz:=h.sz
 refine Ab (args:=[slv p l.length cap]) Tryz.func17 I I I ?_
 refine zA (zB ?_)
 (refine Ag Tryz.hZ rfl rfl rfl rfl ?_;intro)
 (refine Ag Tryz.hZ rfl rfl rfl rfl ?_;intro)
 refine wP I (Aa ?_)
 rename_i b2 b3
 refine zE (zA (zA (zB (wP I (wC I I (fun W1 hp=>Fj l p cap W1 (h.hp hp)) (wP I (Aa (zE (zA (zB (wP I (wP I (Aa ?_)))))))))))))
 refine zE (zS I (zI (zE (zA (zB ?_)))))
 refine Av Tryz.hZ tH I I I I I I I I ?_
 (refine A5 rfl rfl rfl rfl ?_;intro)
 refine wP I (Aa ?_)
 rename_i bC
 obtain⟨g,off,e1,hrow0⟩:=h.m.at_ h0
 have hrow: ∀i,i<l.length→Al W g (off+i*2) [str (Ae (Ad l i).1),str (Ae (Ad l i).2)]:=fun i hi=>by rw[B6 hi];exact hrow0 i hi
 have hr0:=hrow 0 h0
 subst e1
 obtain⟨x0,hx0⟩: ∃x0,x0=Ad l 0:=⟨_,rfl⟩
 rw[←hx0] at hr0
 refine zE (Aw ?_)
 refine AZ (X:=Nat×Nat) [true,true,true,true,true,true,false,false,false,false] (fun s=>[(0,slv (some ⟨g,off,none⟩) l.length cap),(2,Ai b2),(3,Ai b3),(4, .int .i64 0),(6,Ai bC),(7,Ai s.1),(8,Ai s.2)]) (fun s=>[ptB b2 [] [],ptB b3 [] [],caB bC,ptB s.1 (Ae x0.1) (Ae x0.2),ptB s.2 (Ae x0.1) (Ae x0.2)])
  4 [ptB b2 [] [],ptB b3 [] [],caB bC] Tryz.mixed (by kernel_rfl) ?_ ?_
 ·refine qP I (qI I I (by decide) (by omega) (qL 0 I I (fun W1 hp=>hr0.hp hp) I (qP I (qI I I (by decide) (by omega) (qL 0 I I (fun W1 hp=>hr0.hp hp) I (Cm (wX ?_)))))))
  refine RS.cons ?_ (RS.cons ?_ (RS.nil))
  ·refine Ag Tryz.hZ rfl rfl rfl rfl ?_;intro b7
   refine Aa (Ac (wX (wZ ?_)))
   refine Ag Tryz.hZ rfl rfl rfl rfl ?_;intro b8
   refine Aa (Ac (wX (wZ (wS 3 I I I (Aa (Ac (wX (wZ (wS 4 I I I (Aa (Ac ?_)))))))))))
   refine A4 I (by((repeat (first|refine A9.same ?_|refine A9.off I ?_));exact tO)) ?_
   exact At (b7,b8) ⟨I,I,I,I,I,I,I,tO⟩ [0,1,2,3,4] (by decide) I
  ·refine Ag Tryz.hZ rfl rfl rfl rfl ?_;intro b8
   refine Aa (Ac (wX (wZ ?_)))
   refine Ag Tryz.hZ rfl rfl rfl rfl ?_;intro b7
   refine Aa (Ac (wX (wZ (wS 4 I I I (Aa (Ac (wX (wZ (wS 3 I I I (Aa (Ac ?_)))))))))))
   refine A4 I (by((repeat (first|refine A9.same ?_|refine A9.off I ?_));exact tO)) ?_
   exact At (b7,b8) ⟨I,I,I,I,I,I,I,tO⟩ [0,1,2,4,3] (by decide) I
 rintro⟨b7,b8⟩
 refine zE (zA (zA (zB (wP I ?_))))
 refine EH 1 tH I I I I I I I I (by omega) hcap ?_
 refine Af 27 (.slice (some ⟨g,off+1*2,none⟩) (l.length-1) (cap-1)) I (by rw[if_neg (by omega)]) ?_
 refine wP I (wP I (Aa (zE (zH ?_))))
 refine A6 (X:=Nat×Aj×Aj) (fun s=>[(2,Ai b2),(3,Ai b3),(4, .int .i64 0),(6,Ai bC),(7,Ai b7),(8,Ai b8),(27, .slice (some ⟨g,off+1*2,none⟩) (l.length-1) (cap-1)),(28, .int .i64 ((l.length-1:Nat):Int)),(29, .int .i64 ((s.1:Nat):Int))])
  (fun s=>[ptB b2 [] [],ptB b3 [] [],caB bC,ptB b7 (Ae s.2.1.1) (Ae s.2.1.2),ptB b8 (Ae s.2.2.1) (Ae s.2.2.2)]) (fun s=>s.1≤l.length-1∧Gj l (s.1+1) s.2.1 s.2.2) (fun s=>l.length-1-s.1) (0,x0,x0) ⟨Nat.zero_le _,by rw[hx0];exact Gj.one l⟩ ⟨rfl,rfl,rfl,rfl,rfl,rfl,rfl,rfl,rfl,trivial⟩ [] rfl ?_
 rintro⟨i,lo,hi⟩ ⟨hi1,hB⟩
 have hi1:i≤l.length-1:=hi1
 have hB:Gj l (i+1) lo hi:=hB
 obtain⟨s1,s2,s3,s4⟩:=hB.sz hsz h0
 refine zA (zB (wP I ?_))
 by_cases hlt:i<l.length-1
 ·refine wU 30 true I (dT (by omega)) (Aa (zE (zA (zR I (zI (zE (zA (zH (zA (zB ?_))))))))))
  have hr:Al W g (off+1*2+i*2) [str (Ae (Ad l (i+1)).1),str (Ae (Ad l (i+1)).2)]:=by
   have:=hrow (i+1) (by omega)
   rwa [show off+(i+1)*2=off+1*2+i*2 by omega] at this
  have hBn:=hB.next
  obtain⟨sx,sy⟩:=hsz.at_ h0 (i+1)
  generalize Ad l (i+1)=x at hr hBn sx sy
  refine wJ ?_
  refine wL 0 I I (fun W1 hp=>hr.hp hp) I ?_
  (refine Ag Tryz.hZ rfl rfl rfl rfl ?_;intro)
  refine wS 5 I I I (Aa ?_)
  rename_i b10
  refine zE (zA (zA (zB (wP I (wP I (wB 5 I I I (wP I (wB 3 I I I (wC I I (fun W1 hp=>BK bC x.1 lo.1 (sz2 sx s1 (by decide)) W1 (Bh hp 2 I) (h.v.hp hp) (h.t.hp hp)) (wP I (wU 39 (decide (x.1<lo.1)) I (HZ _ _) (Aa (AB ?_)))))))))))))
  refine A8 (X:=Unit) (fun _=>[(2,Ai b2),(3,Ai b3),(4, .int .i64 0),(6,Ai bC),(7,Ai b7),(8,Ai b8),(10,Ai b10),(27, .slice (some ⟨g,off+1*2,none⟩) (l.length-1) (cap-1)),(28, .int .i64 ((l.length-1:Nat):Int)),(29, .int .i64 ((i:Nat):Int))]) (fun _=>[ptB b2 [] [],ptB b3 [] [],caB bC,ptB b7 (Ae (mnQ x.1 lo.1)) (Ae lo.2),ptB b8 (Ae hi.1) (Ae hi.2),ptB b10 (Ae x.1) (Ae x.2)]) (fun _=>True) ?_ ?_
  ·refine Ap I (fun hc=> ?_) (fun hc=> ?_)
   ·exact zB (wP I (wB 5 I I I (wP I (wS 3 I I I (Aa (An () tO ⟨I,I,I,I,I,I,I,I,I,I,tO⟩ [] (by rw[mnQ,if_pos (of_decide_eq_true hc)];rfl)))))))
   ·exact zI (An () tO ⟨I,I,I,I,I,I,I,I,I,I,tO⟩ [] (by rw[mnQ,if_neg (of_decide_eq_false hc)];rfl))
  intro _ _
  refine zA (zA (zB (wP I (wP I (wB 5 I I I (wP I (wB 3 I I I (wC I I (fun W1 hp=>BK bC x.2 lo.2 (sz2 sy s2 (by decide)) W1 (Bh hp 2 I) (h.v.hp hp) (h.t.hp hp)) (wP I (wU 49 (decide (x.2<lo.2)) I (HZ _ _) (Aa (AB ?_))))))))))))
  refine A8 (X:=Unit) (fun _=>[(2,Ai b2),(3,Ai b3),(4, .int .i64 0),(6,Ai bC),(7,Ai b7),(8,Ai b8),(10,Ai b10),(27, .slice (some ⟨g,off+1*2,none⟩) (l.length-1) (cap-1)),(28, .int .i64 ((l.length-1:Nat):Int)),(29, .int .i64 ((i:Nat):Int))]) (fun _=>[ptB b2 [] [],ptB b3 [] [],caB bC,ptB b7 (Ae (mnQ x.1 lo.1)) (Ae (mnQ x.2 lo.2)),ptB b8 (Ae hi.1) (Ae hi.2),ptB b10 (Ae x.1) (Ae x.2)]) (fun _=>True) ?_ ?_
  ·refine Ap I (fun hc=> ?_) (fun hc=> ?_)
   ·exact zB (wP I (wB 5 I I I (wP I (wS 3 I I I (Aa (An () tO ⟨I,I,I,I,I,I,I,I,I,I,tO⟩ [] (by rw[mnQ,mnQ,if_pos (of_decide_eq_true hc)];rfl)))))))
   ·exact zI (An () tO ⟨I,I,I,I,I,I,I,I,I,I,tO⟩ [] (by rw[mnQ,mnQ,if_neg (of_decide_eq_false hc)];rfl))
  intro _ _
  refine zA (zA (zB (wP I (wP I (wB 5 I I I (wP I (wB 4 I I I (wC I I (fun W1 hp=>BK bC x.1 hi.1 (sz2 sx s3 (by decide)) W1 (Bh hp 2 I) (h.v.hp hp) (h.t.hp hp)) (wP I (wU 59 (decide (hi.1<x.1)) I (GI _ _) (Aa (AB ?_))))))))))))
  refine A8 (X:=Unit) (fun _=>[(2,Ai b2),(3,Ai b3),(4, .int .i64 0),(6,Ai bC),(7,Ai b7),(8,Ai b8),(10,Ai b10),(27, .slice (some ⟨g,off+1*2,none⟩) (l.length-1) (cap-1)),(28, .int .i64 ((l.length-1:Nat):Int)),(29, .int .i64 ((i:Nat):Int))]) (fun _=>[ptB b2 [] [],ptB b3 [] [],caB bC,ptB b7 (Ae (mnQ x.1 lo.1)) (Ae (mnQ x.2 lo.2)),ptB b8 (Ae (mxQ x.1 hi.1)) (Ae hi.2),ptB b10 (Ae x.1) (Ae x.2)]) (fun _=>True) ?_ ?_
  ·refine Ap I (fun hc=> ?_) (fun hc=> ?_)
   ·exact zB (wP I (wB 5 I I I (wP I (wS 4 I I I (Aa (An () tO ⟨I,I,I,I,I,I,I,I,I,I,tO⟩ [] (by rw[mxQ,if_pos (of_decide_eq_true hc)];rfl)))))))
   ·exact zI (An () tO ⟨I,I,I,I,I,I,I,I,I,I,tO⟩ [] (by rw[mxQ,if_neg (of_decide_eq_false hc)];rfl))
  intro _ _
  refine zA (zB (wP I (wP I (wB 5 I I I (wP I (wB 4 I I I (wC I I (fun W1 hp=>BK bC x.2 hi.2 (sz2 sy s4 (by decide)) W1 (Bh hp 2 I) (h.v.hp hp) (h.t.hp hp)) (wP I (wU 69 (decide (hi.2<x.2)) I (GI _ _) (Aa (zE ?_)))))))))))
  refine Ap I (fun hc=> ?_) (fun hc=> ?_)
  ·exact zB (wP I (wB 5 I I I (wP I (wS 4 I I I (Aa (zN (zE (zB (wP I (wV 73 ((i+1:Nat):Int) I (Ax (by omega)) (wP I (Aa (Az (i+1,(mnQ x.1 lo.1,mnQ x.2 lo.2),(mxQ x.1 hi.1,mxQ x.2 hi.2)) ⟨hlt,hBn⟩ (by show l.length-1-(i+1)<l.length-1-i;omega) ⟨I,I,I,I,I,I,I,I,I,tO⟩ [_] (by rw[mxQ,mxQ,if_pos (of_decide_eq_true hc)];rfl))))))))))))))
  ·exact zI (zN (zE (zB (wP I (wV 73 ((i+1:Nat):Int) I (Ax (by omega)) (wP I (Aa (Az (i+1,(mnQ x.1 lo.1,mnQ x.2 lo.2),(mxQ x.1 hi.1,mxQ x.2 hi.2)) ⟨hlt,hBn⟩ (by show l.length-1-(i+1)<l.length-1-i;omega) ⟨I,I,I,I,I,I,I,I,I,tO⟩ [_] (by rw[mxQ,mxQ,if_neg (of_decide_eq_false hc)];rfl)))))))))
 ·obtain rfl:i=l.length-1:=by omega
  rw[Nat.sub_add_cancel (by omega)] at hB
  refine wU 30 false I (dF (by omega)) (Aa (zE (zA (zS I (zJ (zK (zK (zL (zE (zA (zA (zB (wP I ?_)))))))))))))
  refine Bb I I I I ?_
  refine wP I (wB 2 I I I (wP I (Aa (zE (zS I (zI (zE (Aw ?_))))))))
  refine AZ (X:=Unit) [true,true,false,false,false] (fun _=>[(2,Ai b2),(3,Ai b3),(4, .int .i64 0)]) (fun _=>[ptB b2 (Ae lo.1) (Ae lo.2),ptB b3 (Ae hi.1) (Ae hi.2)])
   3 [⟨b2,35,[str [],str []],false,none⟩,⟨b3,35,[str [],str []],false,none⟩,caB bC,ptB b7 (Ae lo.1) (Ae lo.2),ptB b8 (Ae hi.1) (Ae hi.2)] Tryz.mixed (by kernel_rfl) ?_ ?_
  ·refine qB 3 I I I (qB 4 I I I (Cm (wX (wZ (wS 0 I I I (Aa (Ac (wX (wZ (wS 1 I I I (Aa (Ac (wX ?_)))))))))))))
   refine wZ (wP I (Aa (Ac ?_)))
   refine A4 I (by((repeat (first|refine A9.same ?_|refine A9.off I ?_));exact tO)) ?_
   exact At () ⟨I,I,I,tO⟩ [0,1] (by decide) I
  intro _
  exact zE (zO (Qc tH I (.cell 0 I I I I I) (.cell 1 I I I I I) (.tmp I) (lo,hi) I hB fun W _=>Ao.nil _ _))
-- BOXES 5
-- CODE2
theorem HL {p q:Rat} (h:p≤q):Dy p q≤0:=of_decide_eq_true ((Q5 p q).trans (dT h))
theorem GH (lo hi x:Aj) (z1:Sz2 lo.1 x.1) (z2:Sz2 x.1 hi.1) (z3:Sz2 lo.2 x.2) (z4:Sz2 x.2 hi.2) (h1:lo.1≤x.1) (h2:x.1≤hi.1) (h3:lo.2≤x.2) (h4:x.2≤hi.2) (W:World) (ht:AL W):
  Ah Tryz.prog 19 #[ptV lo,ptV hi,ptV x] W (fun _:Unit=> .bool true) (fun _=>True) (fun _=>[]):=by
 refine Ab (args:=[ptV lo,ptV hi,ptV x]) Tryz.func19 I I I ?_
 refine zA (zB ?_)
 (refine A5 rfl rfl rfl rfl ?_;intro)
 (refine A5 rfl rfl rfl rfl ?_;intro)
 (refine A5 rfl rfl rfl rfl ?_;intro)
 refine wP I (Aa ?_)
 rename_i b3 b4 b5
 refine zE (zA (zB (wP I (wB 0 I I I (wP I (wB 2 I I I (wC I I (fun W1 hp=>FN lo.1 x.1 z1 W1 (ht.hp hp)) ?_)))))))
 iterate 5 refine wP I ?_
 refine Aa (zE (zA (zB (wP I (wB 2 I I I (wP I (wB 1 I I I (wC I I (fun W1 hp=>FN x.1 hi.1 z2 W1 (ht.hp hp)) ?_))))))))
 iterate 5 refine wP I ?_
 refine Aa (zE (zA (zB (wP I (wB 0 I I I (wP I (wB 2 I I I (wC I I (fun W1 hp=>FN lo.2 x.2 z3 W1 (ht.hp hp)) ?_))))))))
 iterate 5 refine wP I ?_
 refine Aa (zE (zA (zB (wP I (wB 2 I I I (wP I (wB 1 I I I (wC I I (fun W1 hp=>FN x.2 hi.2 z4 W1 (ht.hp hp)) ?_))))))))
 iterate 5 refine wP I ?_
 refine Aa (zE (zA (zB ?_)))
 iterate 5 refine wP I ?_
 refine Af 51 (.int .i64 0) I I ?_
 refine wP I ?_
 refine Af 52 (.bool true) I I ?_
 iterate 6 refine wP I ?_
 have c1:=HL h1
 have c2:=HL h2
 have c3:=HL h3
 have c4:=HL h4
 exact wP I (wU 59 true I (dT (by split<;>split<;>split<;>omega)) (wP I (wP I (Aa (zE (zO (wR1 I I I)))))))
theorem DK (q:Rat) (h:Sz2 0 q) (W:World) (ht:AL W):
  Ah Tryz.prog 13 #[str (Ae q)] W (fun _:Unit=>str (Ae (-q))) (fun _=>True) (fun _=>[]):=by
 refine Ab (args:=[str (Ae q)]) Tryz.func13 I I I ?_
 refine zA (zB (wP I (Aa (zE (zA (zB (wP I ?_)))))))
 refine wC I I (fun W1 hp=>by
  have:=OI 0 q h W1 (ht.hp hp)
  rwa [C3] at this) ?_
 iterate 5 refine wP I ?_
 exact Aa (zE (zA (zB (wP I (wP I (Aa (zE (zO (wR1 I I (by rw[show -q=0-q by grind]))))))))))
theorem I3 (l:List Aj) (p:Option Addr) (cap:Nat) (W:World) (h:l=[]∨(ArZ l∧ER W p l)):
  Ah Tryz.prog 14 #[slv p l.length cap] W (fun _:Unit=> .tuple #[str (Ae (AV l/2)), .int .i64 0]) (fun _=>True) (fun _=>[]):=by
 refine Ab (args:=[slv p l.length cap]) Tryz.func14 I I I ?_
 refine zA (zB (wP I (wP I (Aa (zE (zA (zA (zB (wP I (wP I (wP I ?_)))))))))))
 rcases h with rfl|⟨hz,hM⟩
 ·refine Af 6 (.bool true) I I ?_
  exact Aa (zE (zR I (zA (zB (wP I (wP I (Aa (zE (zO (zP (wR2 I I (by rw[show AV []/2=0 by decide+kernel,C3]))))))))))))
 ·have h3:=hM.n3
  refine wU 6 false I (by rw[UY];exact dF (by omega)) (Aa (zE (zS I (zI (zE (zA (zB (wP I (wC I I (fun W1 hp=>GM l hz p cap W1 (hM.hp hp)) (wP I (wP I (wP I (wP I ?_)))))))))))))
  exact Aa (zE (zO (wR2 I I I)))
end
section
open Go Go.RowKit Go.Am Go.Lib
def D4 (W:Nat→Int):Nat→Int
 |0=>1
 |k+1=>D4 W k*W k
def Ca (e:Nat→Nat):Nat→Nat
 |0=>0
 |k+1=>Ca e k+e k
theorem JV {W:Nat→Int} (h: ∀j,W j≠0): ∀k,D4 W k≠0
 |0=>show(1:Int)≠0 by decide
 |k+1=>Int.mul_ne_zero (JV h k) (h k)
theorem GF {W:Nat→Int} {e:Nat→Nat} (h: ∀j,(W j).natAbs<10^e j): ∀k,(D4 W k).natAbs≤10^Ca e k
 |0=>Nat.le_refl _
 |k+1=>by
  show(D4 W k*W k).natAbs≤10^(Ca e k+e k)
  rw[Int.natAbs_mul,Nat.pow_add]
  exact Nat.mul_le_mul (GF h k) (Nat.le_of_lt (h k))
theorem Jc {W:Nat→Int}: ∀k,D4 W (k+1)=W 0*D4 (fun j=>W (j+1)) k
 |0=>by show 1*W 0=W 0*1;omega
 |k+1=>by
  show D4 W (k+1)*W (k+1)=W 0*(D4 (fun j=>W (j+1)) k*W (k+1))
  rw[Jc k,Int.mul_assoc]
theorem G6 {e:Nat→Nat}: ∀k,Ca e (k+1)=e 0+Ca (fun j=>e (j+1)) k
 |0=>by show 0+e 0=e 0+0;omega
 |k+1=>by
  show Ca e (k+1)+e (k+1)=e 0+(Ca (fun j=>e (j+1)) k+e (k+1))
  rw[G6 k];omega
structure HmN (P:Nat→Aj) (X Y W:Nat→Int) (e:Nat→Nat):Prop where
 nz: ∀j,W j≠0
 x: ∀j,(X j).natAbs<10^e j
 y: ∀j,(Y j).natAbs<10^e j
 w: ∀j,(W j).natAbs<10^e j
 px: ∀j,(P j).1*(W j:Rat)=(X j:Rat)
 py: ∀j,(P j).2*(W j:Rat)=(Y j:Rat)
theorem R4 {p1 p2 q1 q2 A B X Y U V:Rat} (h1:p1*A=X) (h2:p2*A=Y) (h3:q1*B=U) (h4:q2*B=V):(p1*q2-q1*p2)*(A*B)=X*V-U*Y:=by
 subst h1 h2 h3 h4;grind
theorem Sh {a b c d:Int} {e f s:Nat} {R:Int} (ha:a.natAbs<10^e) (hb:b.natAbs<10^f) (hc:c.natAbs<10^f) (hd:d.natAbs<10^e) (hR:R.natAbs≤10^s):((a*b-c*d)*R).natAbs≤2*10^(e+f+s):=by
 have h1:(a*b).natAbs≤10^(e+f):=by rw[Int.natAbs_mul,Nat.pow_add];exact Nat.mul_le_mul (Nat.le_of_lt ha) (Nat.le_of_lt hb)
 have h2:(c*d).natAbs≤10^(e+f):=by rw[Int.natAbs_mul,Nat.pow_add,Nat.mul_comm (10^e)];exact Nat.mul_le_mul (Nat.le_of_lt hc) (Nat.le_of_lt hd)
 have h3:(a*b-c*d).natAbs≤2*10^(e+f):=by omega
 rw[Int.natAbs_mul,Nat.pow_add _ _ s, ←Nat.mul_assoc]
 exact Nat.mul_le_mul h3 hR
def crN (P:Nat→Aj) (k:Nat):Rat:=Bl (fun i=>CT (P i) (P (i+1))) k
theorem Nn (P:Nat→Aj) (k:Nat):crN P (k+1)=crN P k+CT (P k) (P (k+1)):=rfl
theorem HmN.part {P:Nat→Aj} {X Y W:Nat→Int} {e:Nat→Nat} (h:HmN P X Y W e): ∀k, ∃N:Int,crN P k*(D4 W (k+1):Rat)=(N:Rat)∧N.natAbs≤2*k*10^Ca e (k+1)
 |0=>⟨0,by show(0:Rat)*_=_;rw[Rat.zero_mul];rfl,Nat.zero_le _⟩
 |k+1=>by
  obtain⟨N,hN,hb⟩:=h.part k
  refine⟨N*W (k+1)+(X k*Y (k+1)-X (k+1)*Y k)*D4 W k, ?_, ?_⟩
  ·have e1:D4 W (k+1+1)=D4 W k*W k*W (k+1):=rfl
   have e2:D4 W (k+1)=D4 W k*W k:=rfl
   have c:=R4 (h.px k) (h.py k) (h.px (k+1)) (h.py (k+1))
   rw[e2,Rat.intCast_mul] at hN
   rw[Nn,e1]
   simp only[Rat.intCast_mul,Rat.intCast_add,Rat.intCast_sub]
   rw[←hN, ←c]
   unfold CT
   grind
  ·have b1:(N*W (k+1)).natAbs≤2*k*10^Ca e (k+1)*10^e (k+1):=by
    rw[Int.natAbs_mul];exact Nat.mul_le_mul hb (Nat.le_of_lt (h.w (k+1)))
   have b2:=Sh (h.x k) (h.y (k+1)) (h.x (k+1)) (h.y k) (GF h.w k)
   have p1:10^Ca e (k+1+1)=10^Ca e (k+1)*10^e (k+1):=by
    show 10^(Ca e (k+1)+e (k+1))=_
    rw[Nat.pow_add]
   have p2:e k+e (k+1)+Ca e k=Ca e (k+1+1):=by
    show _=Ca e k+e k+e (k+1)
    omega
   rw[p2] at b2
   rw[Nat.mul_assoc, ←p1] at b1
   have:2*(k+1)*10^Ca e (k+1+1)=2*k*10^Ca e (k+1+1)+2*10^Ca e (k+1+1):=by rw[←Nat.add_mul];congr 1
   rw[this]
   exact Nat.le_trans (Int.natAbs_add_le _ _) (Nat.add_le_add b1 b2)
theorem HmN.whole {P:Nat→Aj} {X Y W:Nat→Int} {e:Nat→Nat} (h:HmN P X Y W e) {n:Nat} (h2:2≤n) (cl:P n=P 0): ∃N:Int,crN P n*(D4 W n:Rat)=(N:Rat)∧N.natAbs≤2*n*10^Ca e n:=by
 obtain⟨k,rfl⟩: ∃k,n=k+1+1:=⟨n-2,by omega⟩
 obtain⟨N,hN,hb⟩:=h.part (k+1)
 have c:=R4 (h.px (k+1)) (h.py (k+1)) (h.px 0) (h.py 0)
 have e1:D4 W (k+1+1)=W 0*D4 (fun j=>W (j+1)) k*W (k+1):=by
  show D4 W (k+1)*W (k+1)=_
  rw[Jc]
 have e2:Ca e (k+1+1)=e (k+1)+e 0+Ca (fun j=>e (j+1)) k:=by
  show Ca e (k+1)+e (k+1)=_
  rw[G6];omega
 refine⟨N+(X (k+1)*Y 0-X 0*Y (k+1))*D4 (fun j=>W (j+1)) k, ?_, ?_⟩
 ·rw[Nn,cl,Rat.intCast_add, ←hN,e1]
  simp only[Rat.intCast_mul,Rat.intCast_sub]
  rw[←c]
  unfold CT
  grind
 ·have b2:=Sh (h.x (k+1)) (h.y 0) (h.x 0) (h.y (k+1)) (GF (W:=fun j=>W (j+1)) (e:=fun j=>e (j+1)) (fun j=>h.w (j+1)) k)
  rw[←e2] at b2
  have:2*(k+1+1)*10^Ca e (k+1+1)=2*(k+1)*10^Ca e (k+1+1)+2*10^Ca e (k+1+1):=by rw[←Nat.add_mul];congr 1
  rw[this]
  exact Nat.le_trans (Int.natAbs_add_le _ _) (Nat.add_le_add hb b2)
theorem N2 {q:Rat} {N Q:Int} {s k:Nat} (hQ:Q≠0) (h:q*(Q:Rat)=(N:Rat)) (hN:N.natAbs≤2*k*10^s) (hW:Q.natAbs≤10^s) (hk:2*k<100):szQ q (s+2):=by
 have p:10^(s+2)=100*10^s:=by rw[Nat.pow_add,Nat.mul_comm]
 have p0:0<10^s:=Nat.pow_pos (by decide)
 refine Gs hQ h ?_ ?_
 ·rw[p]
  exact Nat.lt_of_le_of_lt hN (Nat.mul_lt_mul_of_pos_right hk p0)
 ·rw[p];omega
def HmZ (E:Nat) (l:List Aj):Prop:= ∃Z:List (Nat×Aj),Z.map (·.2)=l∧(∀z∈Z,Hm z.1 z.2)∧(Z.map (·.1)).sum≤E
theorem LW: ∀(l:List Nat) (e:Nat→Nat),(∀i (h:i<l.length),e i=l[i])→Ca e l.length=l.sum
 |[],_,_=>rfl
 |a::l,e,h=>by
  rw[List.length_cons,G6,List.sum_cons,LW l (fun j=>e (j+1)) (fun i hi=>h (i+1) (by rw[List.length_cons];omega)),h 0 (by simp)]
  rfl
theorem OG (e:Nat→Nat) {k n:Nat} (h:k≤n):Ca e k≤Ca e n:=by
 obtain⟨d,rfl⟩: ∃d,n=k+d:=⟨n-k,by omega⟩
 clear h
 induction d with
 |zero=>exact Nat.le_refl _
 |succ d ih=>exact Nat.le_trans ih (Nat.le_add_right _ _)
theorem HmZ.num {E:Nat} {l:List Aj} (h:HmZ E l) (h0:0<l.length): ∃X Y W e,HmN (Ad l) X Y W e∧Ca e l.length≤E:=by
 obtain⟨Z,hl,hm,hs⟩:=h
 have hlen:Z.length=l.length:=by rw[←hl,List.length_map]
 obtain⟨e,he⟩: ∃e:Nat→Nat,e=fun i=>((Z.map (·.1))[i%l.length]?).getD 0:=⟨_,rfl⟩
 have one: ∀j,Hm (e j) (Ad l j):=fun j=>by
  have hj:j%l.length<Z.length:=by rw[hlen];exact Nat.mod_lt _ h0
  have e1:e j=(Z[j%l.length]).1:=by rw[he];simp[List.getElem?_eq_getElem hj]
  have e2:Ad l j=(Z[j%l.length]).2:=by
   unfold Ad
   have:l[j%l.length]? =some (Z[j%l.length]).2:=by
    conv=>lhs;lhs;rw[←hl]
    rw[List.getElem?_map,List.getElem?_eq_getElem hj];rfl
   rw[this];rfl
  rw[e1,e2]
  exact hm _ (List.getElem_mem hj)
 have hN: ∃X Y W,HmN (Ad l) X Y W e:=by
  refine⟨fun j=>Classical.choose (one j),fun j=>Classical.choose (Classical.choose_spec (one j)),fun j=>Classical.choose (Classical.choose_spec (Classical.choose_spec (one j))), ?_⟩
  have sp:=fun j=>Classical.choose_spec (Classical.choose_spec (Classical.choose_spec (one j)))
  exact⟨fun j=>(sp j).1,fun j=>(sp j).2.1,fun j=>(sp j).2.2.1,fun j=>(sp j).2.2.2.1,fun j=>(sp j).2.2.2.2.1,fun j=>(sp j).2.2.2.2.2⟩
 obtain⟨X,Y,W,hN⟩:=hN
 refine⟨X,Y,W,e,hN, ?_⟩
 have:Ca e (Z.map (·.1)).length=(Z.map (·.1)).sum:=LW _ _ fun i hi=>by
  have h2:i<l.length:=by rw[List.length_map,hlen] at hi;exact hi
  rw[he]
  show((Z.map (·.1))[i%l.length]?).getD 0=_
  rw[Nat.mod_eq_of_lt h2,List.getElem?_eq_getElem hi];rfl
 rw[List.length_map,hlen] at this
 rw[this];exact hs
theorem HmZ.rot {E:Nat} {l:List Aj} (h:HmZ E l) (k:Nat):HmZ E (CQ k l):=by
 obtain⟨Z,rfl,hm,hs⟩:=h
 refine⟨Z.drop k++Z.take k, ?_,fun z hz=> ?_, ?_⟩
 ·unfold CQ
  rw[List.map_append,List.map_drop,List.map_take]
 ·rcases List.mem_append.1 hz with h|h
  ·exact hm z (List.mem_of_mem_drop h)
  ·exact hm z (List.mem_of_mem_take h)
 ·rw[List.map_append,List.sum_append,Nat.add_comm, ←List.sum_append, ←List.map_append,List.take_append_drop]
  exact hs
theorem HmZ.app {E F:Nat} {l m:List Aj} (h:HmZ E l) (g:HmZ F m):HmZ (E+F) (l++m):=by
 obtain⟨Z,rfl,hm,hs⟩:=h
 obtain⟨Y,rfl,gm,gs⟩:=g
 refine⟨Z++Y,List.map_append,fun z hz=> ?_, ?_⟩
 ·rcases List.mem_append.1 hz with h|h
  ·exact hm z h
  ·exact gm z h
 ·rw[List.map_append,List.sum_append];omega
theorem HmZ.nil:HmZ 0 []:=⟨[],rfl,fun _ h=>absurd h (by simp),Nat.le_refl _⟩
theorem HmZ.one {e:Nat} {p:Aj} (h:Hm e p):HmZ e [p]:=⟨[(e,p)],rfl,fun z hz=>by rw[List.mem_singleton.1 hz];exact h,by simp⟩
theorem HmZ.mono {E F:Nat} {l:List Aj} (h:HmZ E l) (hE:E≤F):HmZ F l:=by
 obtain⟨Z,a,b,c⟩:=h
 exact⟨Z,a,b,by omega⟩
theorem HmZ.all {e:Nat}: ∀ {l:List Aj},(∀p∈l,Hm e p)→HmZ (e*l.length) l
 |[],_=>HmZ.nil
 |p::l,h=>by
  have:=(HmZ.one (h p (List.mem_cons_self ..))).app (HmZ.all (l:=l) fun q hq=>h q (List.mem_cons_of_mem _ hq))
  exact this.mono (by rw[List.length_cons,Nat.mul_add];omega)
def Rh (f:AD) (l:List Aj) (k:Nat):Nat:=((List.range k).filter fun i=>decide (f.at (Ad l i)*f.at (Ad l (i+1))<0)).length
theorem Rl (f:AD) (l:List Aj) (k:Nat):Rh f l (k+1)=Rh f l k+(if f.at (Ad l k)*f.at (Ad l (k+1))<0 then 1 else 0):=by
 unfold Rh
 rw[List.range_succ,List.filter_append,List.length_append]
 congr 1
 split
 ·rename_i h;rw[List.filter_cons_of_pos (by exact dT h)];rfl
 ·rename_i h;rw[List.filter_cons_of_neg (by rw[dF h];decide)];rfl
theorem Tb {f:AD} {l:List Aj} (h:Bt l):Rh f l l.length≤2:=by
 refine Nat.le_of_not_lt fun h3=> ?_
 unfold Rh at h3
 obtain⟨L,hL⟩: ∃L,L=(List.range l.length).filter fun i=>decide (f.at (Ad l i)*f.at (Ad l (i+1))<0):=⟨_,rfl⟩
 rw[←hL] at h3
 have hs:L.Pairwise (· < ·):=by rw[hL];exact List.pairwise_lt_range.filter _
 have hm: ∀i∈L,i<l.length∧f.at (Ad l i)*f.at (Ad l (i+1))<0:=fun i hi=>by
  rw[hL,List.mem_filter,List.mem_range] at hi
  exact⟨hi.1,of_decide_eq_true hi.2⟩
 have hp:=List.pairwise_iff_getElem.1 hs
 have m0:=hm _ (List.getElem_mem (show 0<L.length by omega))
 have m1:=hm _ (List.getElem_mem (show 1<L.length by omega))
 have m2:=hm _ (List.getElem_mem (show 2<L.length by omega))
 exact B9.cuts2 h (hp 0 1 (by omega) (by omega) (by decide)) (hp 1 2 (by omega) (by omega) (by decide)) m2.1 m0.2 m1.2 m2.2
theorem HmZ.kept {e:Nat} {f:AD} {l:List Aj} (hf:LnH f) (hl: ∀p∈l,Hm e p): ∀k,k≤l.length→HmZ (e*k+(2*e+14)*Rh f l k) (D5 f l k)
 |0,_=>HmZ.nil.mono (Nat.zero_le _)
 |k+1,hk=>by
  have h0:0<l.length:=by omega
  have ih:=HmZ.kept hf hl k (by omega)
  rw[Hb,EP,Rl]
  have a:HmZ e (if f.at (Ad l k)≤0 then[Ad l k] else[]):=by
   split
   ·exact HmZ.one (hl _ (B8 h0 k))
   ·exact HmZ.nil.mono (Nat.zero_le _)
  by_cases c:f.at (Ad l k)*f.at (Ad l (k+1))<0
  ·rw[if_pos c,if_pos c]
   refine((ih.app a).app (HmZ.one ((hl _ (B8 h0 k)).cut (hl _ (B8 h0 (k+1))) hf c).1)).mono ?_
   rw[Nat.mul_add,Nat.mul_add];omega
  ·rw[if_neg c,if_neg c]
   refine((ih.app a).app HmZ.nil).mono ?_
   rw[Nat.mul_add,Nat.mul_add];omega
theorem HmZ.clip {e:Nat} {f:AD} {l:List Aj} (hf:LnH f) (hl: ∀p∈l,Hm e p) (hP:Bt l):HmZ (e*l.length+(2*e+14)*2) (AY f l):=by
 unfold AY
 split
 ·refine((HmZ.kept hf hl l.length (Nat.le_refl _)).mono ?_).rot _
  have:=Nat.mul_le_mul_left (2*e+14) (Tb (f:=f) hP)
  omega
 ·exact HmZ.nil.mono (Nat.zero_le _)
theorem ArZ.of {e E:Nat} {l:List Aj} (hl: ∀p∈l,Hm e p) (hz:HmZ E l) (h2:2≤l.length) (hn:l.length<50) (he:e≤60) (hE:E≤170) (hs:E+4*e≤290):ArZ l∧szQ (AV l) (E+2):=by
 have h0:0<l.length:=by omega
 obtain⟨X,Y,W,ex,hN,hsu⟩:=hz.num h0
 have pt: ∀i,szQ (Ad l i).1 e∧szQ (Ad l i).2 e:=fun i=>(hl _ (B8 h0 i)).sz
 have dz: ∀i,Oz (Ad l i) (Ad l (i+1)):=fun i=>by
  obtain⟨a1,a2⟩:=pt i
  obtain⟨b1,b2⟩:=pt (i+1)
  exact⟨sz2 a1 b2 (by omega),sz2 b1 a2 (by omega),sz2 (a1.mul b2) (b1.mul a2) (by omega)⟩
 have sc: ∀i,szQ (CT (Ad l i) (Ad l (i+1))) (4*e+1):=fun i=>by
  obtain⟨a1,a2⟩:=pt i
  obtain⟨b1,b2⟩:=pt (i+1)
  exact((a1.mul b2).sub (b1.mul a2)).mono (by omega)
 have sk: ∀i,i<l.length→szQ (crK l i) (E+2):=fun i hi=>by
  obtain⟨N,hq,hb⟩:=hN.part i
  exact(N2 (JV hN.nz _) hq hb (GF hN.w _) (by omega)).mono (by
   have:=OG ex (show i+1≤l.length by omega)
   omega)
 have st:szQ (AV l) (E+2):=by
  obtain⟨N,hq,hb⟩:=hN.whole h2 DH
  exact(N2 (JV hN.nz _) hq hb (GF hN.w _) (by omega)).mono (by omega)
 have s2:szQ (2:Rat) 1:=by unfold szQ;decide+kernel
 exact⟨⟨fun i _=>dz i,fun i hi=>sz2 (sk i hi) (sc i) (by omega),sz2 st s2 (by omega)⟩,st⟩
end
section
open Go Go.RowKit Go.Am Go.Lib
set_option maxRecDepth 10000
-- BOXES 8
-- CODE2
theorem LnH.neg {f:AD} (h:LnH f):LnH f.neg:=by
 obtain⟨A,B,C,D,h0,a,b,c,d,e1,e2,e3⟩:=h
 refine⟨-A, -B, -C,D,h0,by rw[Int.natAbs_neg];exact a,by rw[Int.natAbs_neg];exact b,by rw[Int.natAbs_neg];exact c,d, ?_, ?_, ?_⟩<;>unfold AD.neg<;>simp only[Rat.intCast_neg]
 ·rw[←e1];grind
 ·rw[←e2];grind
 ·rw[←e3];grind
theorem AD.neg_ne {f:AD} (h:f.a≠0∨f.b≠0):f.neg.a≠0∨f.neg.b≠0:=by
 rcases h with h|h
 ·exact .inl fun c=>h (by have c: -f.a=0:=c;grind)
 ·exact .inr fun c=>h (by have c: -f.b=0:=c;grind)
theorem Sm {q:Rat} (h:szQ q 11):Sz2 0 q:=sz2 (a:=1) (by unfold szQ;decide+kernel) h (by decide)
theorem Gj.hull {l:List Aj} {lo hi x:Aj} (h:Gj l l.length lo hi) (hx:GY l x):lo.1≤x.1∧x.1≤hi.1∧lo.2≤x.2∧x.2≤hi.2:=by
 have mem: ∀p∈l,lo.1≤p.1∧lo.2≤p.2∧p.1≤hi.1∧p.2≤hi.2:=fun p hp=>by
  obtain⟨j,hj,rfl⟩:=LM hp
  exact h.le j hj
 have g1:=hx ⟨1,0,lo.1⟩ fun p hp=>by have:=(mem p hp).1;unfold AD.at;grind
 have g2:=hx ⟨-1,0, -hi.1⟩ fun p hp=>by have:=(mem p hp).2.2.1;unfold AD.at;grind
 have g3:=hx ⟨0,1,lo.2⟩ fun p hp=>by have:=(mem p hp).2.1;unfold AD.at;grind
 have g4:=hx ⟨0, -1, -hi.2⟩ fun p hp=>by have:=(mem p hp).2.2.2;unfold AD.at;grind
 unfold AD.at at g1 g2 g3 g4
 simp only at g1 g2 g3 g4
 exact⟨by grind,by grind,by grind,by grind⟩
theorem Gj.part {l m:List Aj} {lo hi s t:Aj} (h:Gj l l.length lo hi) (g:Gj m m.length s t) (h0:0<m.length) (hm: ∀x∈m,GY l x):
  (lo.1≤s.1∧s.1≤hi.1∧lo.2≤s.2∧s.2≤hi.2)∧lo.1≤t.1∧t.1≤hi.1∧lo.2≤t.2∧t.2≤hi.2:=by
 obtain⟨i,a1⟩:=g.a1
 obtain⟨j,a2⟩:=g.a2
 obtain⟨k,b1⟩:=g.b1
 obtain⟨n,b2⟩:=g.b2
 have p:=fun j=>h.hull (hm _ (B8 h0 j))
 rw[a1,a2,b1,b2]
 exact⟨⟨(p i).1,(p i).2.1,(p j).2.2.1,(p j).2.2.2⟩,(p k).1,(p k).2.1,(p n).2.2.1,(p n).2.2.2⟩
structure Kt (m A:List Aj):Prop where
 s:A=[]∨MY 30 A
 ar:A=[]∨ArZ A
 sh:szQ (AV A) 126
 hull: ∀x∈A,GY m x
theorem Kt.of {m:List Aj} (h:MY 8 m) (h8:m.length≤8) {f:AD} (hf:LnH f):Kt m (AY f m):=by
 have hh: ∀x∈AY f m,GY m x:=fun x hx=>(NR hx).1
 by_cases hfA: ∃x∈m,f.at x<0
 ·obtain⟨x,hx,hfx⟩:=hfA
  have p:=h.clip hf (by omega) hx hfx
  have hz:=(HmZ.clip hf h.hm h.poly).mono (show 8*m.length+(2*8+14)*2≤124 by omega)
  have n2:=IT f m
  have n3:=p.poly.n3
  obtain⟨a,s⟩:=ArZ.of p.hm hz (by omega) (by omega) (by decide) (by decide) (by decide)
  exact⟨.inr p, .inr a,s,hh⟩
 ·have e:AY f m=[]:=O0 fun x hx=>Rat.not_lt.1 fun h=>hfA ⟨x,hx,h⟩
  rw[e] at hh⊢
  exact⟨.inl I, .inl I,by show szQ 0 126;exact szQ.mono (k:=1) (by unfold szQ;decide+kernel) (by decide),hh⟩
theorem Kt.area {m A:List Aj} (h:Kt m A) {W:World} {p:Option Addr} (hp:Dx W p A) (hv:Ci W) (ht:AL W):A=[]∨(ArZ A∧ER W p A):=by
 rcases h.s with e|s
 ·exact .inl e
 ·rcases h.ar with e|a
  ·exact .inl e
  ·exact .inr ⟨a,s.m (by decide) hp hv ht⟩
theorem NJ {q:Rat} {k:Nat} (h:szQ q k):szQ (q/2) (k+1):=h.div (b:=1) (by unfold szQ;decide+kernel) (by decide)
theorem Ry {V:Vec} {l:List Aj} (h:V.OK 2 l.length (ptC l)):l.length≤CA V:=by
 obtain⟨p,c,j⟩:=V
 cases p with
 |none=>exact Nat.le_of_eq (h.nil rfl)
 |some g=>exact(h.cap (by simp)).1
theorem Le (l:List PtS) (a1 a2 a3:List UInt8) (p:Option Addr) (cap:Nat) (W:World) (hA:Gl W p l) (hn:l.length<4611686018427387904) (hcap:l.length≤cap) (hv:Ci W) (ht:AL W):
  Ah Tryz.prog 3 #[slv p l.length cap,str a1,str a2,str a3] W (fun _:Unit=> .bool true) (fun _=>True) (fun _=>[]):=by
 obtain⟨n,hnl⟩: ∃n,n=l.length:=⟨_,rfl⟩
 rw[←hnl]
 refine Ab (args:=[slv p n cap,str a1,str a2,str a3]) Tryz.func3 I I I ?_
 refine zA (zB (wP I (Aa (zE (zA (zA (zB (wP I ?_))))))))
 refine AA Tryz.hZ tH I I I I I I I I I I I fun bS=> ?_
 refine wD (X:=Bool) I I (fun W1 hp=>Pk [(p,cap,l)] (by show 1≤100000;decide) (fun y hy=>by rw[List.mem_singleton.1 hy];exact hn) bS 0 1 W1 ⟨by have h:=Al.of_bx hp 0 I I;rw[hnl] at h;exact h,fun y hy=>by rw[List.mem_singleton.1 hy];exact hA.hp hp⟩ (ht.hp hp)) ?_
 intro b1 hb1
 have hb1:b1=true→ ∀x∈[((p,cap,l):Ls)],Ma x.2.2:=hb1
 cases b1 with
 |false=>
  refine wP I (wP I ?_)
  iterate 5 refine Ak I I ?_
  refine wP I (Aa (zE (zR I (zA (zB ?_)))))
  refine B1 (capt:=[]) I I I I I I (by kernel_rfl) (fun W1 hp=>Fo W1 (hv.hp hp) (ht.hp hp)) ?_
  exact wP I (Aa (zE (zO (zP (wR1 I I I)))))
 |true=>
 have hF:=hb1 rfl (p,cap,l) (List.mem_singleton.2 rfl)
 iterate 5 refine wP I ?_
 refine wD (X:=Bool) I I (fun W1 hp=>Pr a1 a2 a3 W1 (ht.hp hp)) ?_
 intro b2 hb2
 have hb2:b2=true→Ub a1 a2 a3:=hb2
 cases b2 with
 |false=>
  refine wP I (wP I (Aa (zE (zR I (zA (zB ?_))))))
  refine B1 (capt:=[]) I I I I I I (by kernel_rfl) (fun W1 hp=>Fo W1 (hv.hp hp) (ht.hp hp)) ?_
  exact wP I (Aa (zE (zO (zP (wR1 I I I)))))
 |true=>
 refine wP I (wP I (Aa ?_))
 obtain⟨m,rfl,h3,h8,h5,hP⟩:Ma l:=hF
 have hpts:=hA.pts
 obtain rfl:n=m.length:=by rw[hnl,List.length_map]
 rw[List.length_map] at hcap
 obtain⟨A1,A2,A3,rfl,rfl,rfl,o1,o2,o3,n1,n2,n3,hne⟩:=hb2 rfl
 have qf:NN ⟨A1,A2,A3⟩:=⟨o1,o2,o3,hne⟩
 have lf:LnH ⟨A1,A2,A3⟩:=Vg n1 n2 n3
 obtain⟨f,hf⟩: ∃f:AD,f=⟨A1,A2,A3⟩:=⟨_,rfl⟩
 rw[←hf] at qf lf
 obtain⟨rfl,rfl,rfl⟩:A1=f.a∧A2=f.b∧A3=f.c:=by rw[hf];exact⟨rfl,rfl,rfl⟩
 have lg:LnH f.neg:=lf.neg
 have qg:NN f.neg:=Px lg (AD.neg_ne hne)
 obtain⟨sa,sb,sc⟩:=lf.sz
 have hm:MY 8 m:=⟨hP,by omega,fun x hx=>hm5 (h5 x hx).2.1 (h5 x hx).2.2⟩
 have arm:=ArZ.of hm.hm ((HmZ.all hm.hm).mono (show 8*m.length≤64 by omega)) (by omega) (by omega) (by decide) (by decide) (by decide)
 have pA0:=Kt.of hm h8 lf
 have pB0:=Kt.of hm h8 lg
 have sum0:=KI hne m
 have ne0:AD.neg f=⟨-f.a, -f.b, -f.c⟩:=rfl
 obtain⟨A,eA⟩: ∃A,AY f m=A:=⟨_,rfl⟩
 obtain⟨B,eB⟩: ∃B,AY f.neg m=B:=⟨_,rfl⟩
 rw[eA] at pA0 sum0
 rw[eB] at pB0 sum0
 have sum1:AV A/2+AV B/2=AV m/2:=by rw[←sum0,Rat.div_def,Rat.div_def,Rat.div_def];grind
 refine zE (zS I (zI (zE (zA (zB (wP I (wP I (wP I (wP I ?_)))))))))
 refine wD (X:=Vec) I I (fun W1 hp=>L4 qf lf hm (by decide) eA p cap W1 (hpts.hp hp) (hv.hp hp) (ht.hp hp)) ?_
 intro VA hVA
 refine wP I (wP I ?_)
 refine Af 47 (slv (CW VA) A.length (CA VA)) I (Ou hVA) ?_
 refine wP I (wP I (wP I (Aa (zE (zA (zB (wP I (wP I (wC I I (fun W1 hp=>DK f.a (Sm sa) W1 (ht.hp hp)) (wP I (wC I I (fun W1 hp=>DK f.b (Sm sb) W1 (ht.hp hp)) (wP I (wC I I (fun W1 hp=>DK f.c (Sm sc) W1 (ht.hp hp)) ?_)))))))))))))
 refine wD (X:=Vec) I I (fun W1 hp=>L4 qg lg hm (by decide) eB p cap W1 (hpts.hp hp) (hv.hp hp) (ht.hp hp)) ?_
 intro VB hVB
 refine wP I (wP I ?_)
 refine Af 58 (slv (CW VB) B.length (CA VB)) I (Ou hVB) ?_
 refine wP I (wP I (wP I (Aa (zE (zA (zB (wP I (wC I I (fun W1 hp=>I3 A (CW VA) (CA VA) W1 (pA0.area (K3 hp 1 hVA I) (hv.hp hp) (ht.hp hp))) ?_))))))))
 iterate 5 refine wP I ?_
 refine Aa (zE (zA (zB (wP I (wC I I (fun W1 hp=>I3 B (CW VB) (CA VB) W1 (pB0.area (K3 hp 2 hVB I) (hv.hp hp) (ht.hp hp))) ?_)))))
 iterate 5 refine wP I ?_
 refine Aa (zE (zA (zB (wP I (wC I I (fun W1 hp=>GM m arm.1 p cap W1 (hm.m (by decide) (hpts.hp hp) (hv.hp hp) (ht.hp hp))) ?_)))))
 iterate 5 refine wP I ?_
 refine Aa (zE (zA (zB (wP I (wP I (wC I I (fun W1 hp=>(Kd (AV A/2) (AV B/2) (sz2 (NJ pA0.sh) (NJ pB0.sh) (by decide)) W1 (hv.hp hp) (ht.hp hp)).cast (v':= .tuple #[str (Ae (AV m/2)), .int .i64 0]) (by rw[sum1])) ?_))))))
 iterate 5 refine wP I ?_
 refine Aa (zE (zA (zA (zB (wP I (wP I (wP I (wP I ?_))))))))
 refine Af 84 (.int .i64 0) I I ?_
 refine wP I ?_
 refine Af 85 (.bool false) I I ?_
 iterate 28 refine wP I ?_
 refine Aa (zE (zS I (zI (zE (zA (zA (zB ?_)))))))
 iterate 7 refine wP I ?_
 refine Af 121 (.int .i64 0) I I ?_
 refine wP I ?_
 refine Af 122 (.bool false) I I ?_
 refine wP I (wP I (wP I (wP I (wU 126 false I (by simp) (wP I (Aa (zE (zS I (zI (zE (zA (zB (wP I ?_)))))))))))))
 refine wD (X:=Aj×Aj) I I (fun W1 hp=>KP m p cap W1 (hm.m (by decide) (hpts.hp hp) (hv.hp hp) (ht.hp hp)) hcap) ?_
 rintro⟨lo,hi⟩ hbox
 have hbox:Gj m m.length lo hi:=hbox
 have hs8:Hv 8 m:=fun x hx=>(hm.hm x hx).sz
 obtain⟨z1,z2,z3,z4⟩:=hbox.sz hs8 (by omega)
 refine wP I (wP I (wP I (wP I ?_)))
 (refine Ag Tryz.hZ rfl rfl rfl rfl ?_;intro)
 (refine Ag Tryz.hZ rfl rfl rfl rfl ?_;intro)
 refine wS 3 I I I (wS 4 I I I (wP I (Aa ?_)))
 rename_i b21 b22
 refine zE (zA (zA (zB (wP I (wP I ?_)))))
 refine AA Tryz.hZ tH I I I I I I I I I I I fun bR=> ?_
 refine wP I (wP I (Aa (zE (zH ?_))))
 obtain⟨bS0,hbS0⟩: ∃x:Bx,x=⟨bS,22,[slv p m.length cap],true,none⟩:=⟨_,rfl⟩
 refine A6 (X:=Nat) (fun i=>[(0,slv p m.length cap),(21,Ai b21),(22,Ai b22),(23, .int .i64 0),(136,slv (some ⟨bR,0,none⟩) 2 2),(137, .int .i64 2),(138, .int .i64 (i:Nat))])
  (fun _=>[bS0,VA.bx 35 (ptC A),VB.bx 35 (ptC B),ptB b21 (Ae lo.1) (Ae lo.2),ptB b22 (Ae hi.1) (Ae hi.2),⟨bR,22,[slv (CW VA) A.length (CA VA),slv (CW VB) B.length (CA VB)],true,none⟩])
  (fun i=>i≤2) (fun i=>2-i) 0 (Nat.zero_le _) ⟨rfl,rfl,rfl,rfl,rfl,rfl,rfl,trivial⟩ [] (by rw[hbS0];rfl) ?_
 intro i hi2
 have hi2:i≤2:=hi2
 refine zA (zB (wP I ?_))
 by_cases hlt:i<2
 ·refine wU 139 true I (dT (by omega)) (Aa (zE (zA (zR I (zI (zE (zA (zH (zA (zB ?_))))))))))
  obtain⟨L,V,kV,hrow,pL,hVL,hbx⟩: ∃(L:List Aj) (V:Vec) (kV:Nat),([slv (CW VA) A.length (CA VA),slv (CW VB) B.length (CA VB)]:List Value)[i]? =some (slv (CW V) L.length (CA V))∧Kt m L∧V.OK 2 L.length (ptC L)∧
    ∀l2,nth ([bS0,VA.bx 35 (ptC A),VB.bx 35 (ptC B),ptB b21 (Ae lo.1) (Ae lo.2),ptB b22 (Ae hi.1) (Ae hi.2),⟨bR,22,[slv (CW VA) A.length (CA VA),slv (CW VB) B.length (CA VB)],true,none⟩]++l2) kV=some (V.bx 35 (ptC L)):=by
   rcases(show i=0∨i=1 by omega) with rfl|rfl
   ·exact⟨A,VA,1,I,pA0,hVA,fun _=>rfl⟩
   ·exact⟨B,VB,2,I,pB0,hVB,fun _=>rfl⟩
  have row: ∀ {W1:World} {l2:List Bx},Hp W ([bS0,VA.bx 35 (ptC A),VB.bx 35 (ptC B),ptB b21 (Ae lo.1) (Ae lo.2),ptB b22 (Ae hi.1) (Ae hi.2),⟨bR,22,[slv (CW VA) A.length (CA VA),slv (CW VB) B.length (CA VB)],true,none⟩]++l2) W1→Al W1 bR (0+i*1) [slv (CW V) L.length (CA V)]:=fun {W1 l2} hp=>by
   have h:=Al.of_bx hp 5 rfl rfl
   refine⟨h.lt,fun m u hu=> ?_⟩
   cases m with
   |zero=>
    obtain rfl:slv (CW V) L.length (CA V)=u:=by simpa using hu
    have:=h.get i _ hrow
    rw[Nat.zero_add,Nat.mul_one,Nat.add_zero]
    rwa [Nat.zero_add] at this
   |succ m=>simp at hu
  refine wJ ?_
  refine wL 0 I I (fun W1 hp=>row (l2:=[]) hp) I (wP I (Aa (zE (zA (zA (zB (wP I (wP I (wP I ?_)))))))))
  rcases pL.s with rfl|sL
  ·refine wU 144 true I I (wP I ?_)
   iterate 3 refine Ak I I ?_
   exact wP I (Aa (zE (zR I (zJ (zK (zL (zE (zB (wP I (wV 181 ((i+1:Nat):Int) I (Ax (by omega)) (wP I (Aa (Az (i+1) hlt (by show 2-(i+1)<2-i;omega) ⟨I,I,I,I,I,I,I,tO⟩ [] I)))))))))))))
  have l3:3≤L.length:=sL.poly.n3
  refine wU 144 false I (by rw[UY];exact dF (by omega)) ?_
  have pm: ∀ {W1:World} {l2:List Bx},Hp W ([bS0,VA.bx 35 (ptC A),VB.bx 35 (ptC B),ptB b21 (Ae lo.1) (Ae lo.2),ptB b22 (Ae hi.1) (Ae hi.2),⟨bR,22,[slv (CW VA) A.length (CA VA),slv (CW VB) B.length (CA VB)],true,none⟩]++l2) W1→ER W1 (CW V) L:=fun {W1 l2} hp=>sL.m (by decide) (K3 hp kV hVL (hbx l2)) (hv.hp hp) (ht.hp hp)
  have hc:L.length≤CA V:=Ry hVL
  refine wP I (wP I (wC I I (fun W1 hp=>(pm (l2:=[]) hp).chk (CA V)) (wP I (wP I (Aa (zE (zS I (zI (zE (zA (zB (wP I ?_))))))))))))
  refine wD (X:=Aj×Aj) I I (fun W1 hp=>KP L (CW V) (CA V) W1 (pm (l2:=[]) hp) hc) ?_
  rintro⟨s,t⟩ hst
  have hst:Gj L L.length s t:=hst
  obtain⟨y1,y2,y3,y4⟩:=hst.sz (fun x hx=>(sL.hm x hx).sz) (by omega)
  obtain⟨⟨u1,u2,u3,u4⟩,v1,v2,v3,v4⟩:=hbox.part hst (by omega) pL.hull
  refine wP I (wP I (wP I (wP I ?_)))
  (refine Ag Tryz.hZ rfl rfl rfl rfl ?_;intro)
  (refine Ag Tryz.hZ rfl rfl rfl rfl ?_;intro)
  refine wS 6 I I I (wS 7 I I I (wP I (Aa ?_)))
  rename_i b26 b27
  refine zE (zA (zB ?_))
  iterate 8 refine wP I ?_
  refine wC I I (fun W1 hp=>(pm (l2:=[ptB b26 (Ae s.1) (Ae s.2),ptB b27 (Ae t.1) (Ae t.2)]) hp).chk (CA V)) (wP I (wP I (wP I (wB 3 I I I (wB 4 I I I (wB 6 I I I (wC I I (fun W1 hp=>GH lo hi s (sz2 z1 y1 (by decide)) (sz2 y1 z3 (by decide)) (sz2 z2 y2 (by decide)) (sz2 y2 z4 (by decide)) u1 u2 u3 u4 W1 (ht.hp hp)) (wP I (wP I (wP I (wB 3 I I I (wB 4 I I I (wB 7 I I I ?_)))))))))))))
  exact wC I I (fun W1 hp=>GH lo hi t (sz2 z1 y3 (by decide)) (sz2 y3 z3 (by decide)) (sz2 z2 y4 (by decide)) (sz2 y4 z4 (by decide)) v1 v2 v3 v4 W1 (ht.hp hp)) (wP I (wP I (Aa (zE (zS I (zI (zN (zE (zB (wP I (wV 181 ((i+1:Nat):Int) I (Ax (by omega)) (wP I (Aa (Az (i+1) hlt (by show 2-(i+1)<2-i;omega) ⟨I,I,I,I,I,I,I,tO⟩ [_,_] I))))))))))))))
 ·obtain rfl:i=2:=by omega
  refine Af 139 (.bool false) I I ?_
  refine Aa (zE (zA (zS I (zJ (zK (zK (zL (zE (zA (zB ?_))))))))))
  refine B1 (capt:=[]) I I I I I I (by kernel_rfl) (fun W1 hp=>Fo W1 (hv.hp hp) (ht.hp hp)) ?_
  exact wP I (Aa (zE (zO (wR1 I I I))))
end
section
open Go
noncomputable abbrev laidL:List (String×DataW Unit):=Rows.convexDividedRow.laid
end
section
open Go Go.RowKit Go.Am Go.ChangeShapes Go.WideShapes Go.Deep Go.ChangeAt
set_option maxRecDepth 100000
section
variable {H:Type} {enc:TypeId×Value→H} {w:World} {base:Nat} {spare:Nat→Bool} {held:Bool} {v:Value} {d:DataW H} {ps:List MemPlace}
end
theorem own:ownKnob Tryz.prog.godebug=none:=by kernel_rfl
theorem PP:laidOutB Tryz.prog=true:=by kernel_rfl
theorem KY:(laidL.all fun x=>x.2.handleName?.isNone)=true:=by kernel_rfl
theorem Ov {W:World} (h:laidMetH Tryz.prog laidL W):AL W:=by
 rw[MakeChecks.laidMetH_plain _ _ _ KY] at h
 exact Lib.tabIs_of_head (g:=2) (t:=263) (e:=198) (n:=20) (by kernel_rfl) (by kernel_rfl) (by kernel_rfl) (by kernel_rfl) (by kernel_rfl) (by kernel_rfl) h.tail.tail
theorem Um {W:World} (hS:W.ShapedOpen Tryz.prog):Ci W:=
 cell_of_shapedOpen_int (g:=3) (t:=3) (zero:= #[.int .i64 0]) hS (of_decide_eq_true (by kernel_rfl)) (by kernel_rfl) rfl (by kernel_rfl) (by kernel_rfl) Tryz.underlying3
noncomputable def witW (os:Os):World:=World.laidAll Tryz.prog os laidL
theorem Rx (os:Os) (args:Array Value):laidMetH Tryz.prog laidL ((witW os).forCall (fun _ _=>0) ⟨#[],args,[]⟩).memory:=by
 rw[MakeChecks.laidMetH_plain _ _ _ KY]
 exact laidMet_laidAll _ (by kernel_rfl) (by kernel_rfl)
theorem Pc (os:Os) (args:Array Value):((witW os).forCall (fun _ _=>0) ⟨#[],args,[]⟩).Shaped Tryz.prog:=
 World.shaped_of_ZipB (by kernel_rfl) (by kernel_rfl)
theorem T2 {H:Type} {enc:TypeId×Value→H} (os:Os) {f:FuncId} {fn:Func} {s:OpenSpec} {conds:List PathCond} (args:Array Value)
  (hok:Input.okWideB Tryz.prog ((witW os).forCall (fun _ _=>0) ⟨#[],args,[]⟩) f ⟨#[],args,[]⟩=true)
  (hrow:s.preRow enc Tryz.prog fn conds false laidL ((witW os).forCall (fun _ _=>0) ⟨#[],args,[]⟩).memory args):
  ∃(w:World) (tape:Tape) (i:Input),w.os=os∧(w.forCall tape i).Shaped Tryz.prog∧i.vars=[]∧Input.okWide Tryz.prog (w.forCall tape i) .any w.heap.size f i∧
   s.preRow enc Tryz.prog fn conds false laidL (w.forCall tape i).memory i.args∧({}:Assume).holds Tryz.prog (lone (Frame.enter Tryz.prog f i.args .normal) [] (w.forCall tape i)):=
 ⟨witW os,fun _ _=>0,⟨#[],args,[]⟩,World.laidAll_os _ _ _,Pc os args,(Input.okWide_of_okWideB (base:=0) hok).1,(Input.okWide_of_okWideB hok).2,hrow,by
  simp only[Assume.holds]
  exact⟨by simp,by simp,by simp,by simp,by simp,by simp⟩⟩
end
section
open Go Go.RowKit Go.Am Go.ChangeShapes Go.WideShapes Go.Deep
set_option maxRecDepth 10000
theorem UO:Tryz.prog.cellsOf 23=1:=by kernel_rfl
theorem Ng {H:Type} (d:DataW H):1≤Rows.uptoBulk d:=by
 cases d with
 |lit l=>cases l<;>simp[Rows.uptoBulk]
 |nil=>simp[Rows.uptoBulk]
 |ptr d=>simp[Rows.uptoBulk]
 |slice elems spare=>simp[Rows.uptoBulk]
 |agg parts=>simp[Rows.uptoBulk]
 |iface t d=>simp[Rows.uptoBulk]
 |map entries=>simp[Rows.uptoBulk]
 |held h=>simp[Rows.uptoBulk]
theorem Sr {H:Type} (l:List (DataW H)):l.length≤Rows.uptoBulkAll l:=by
 induction l with
 |nil=>simp[Rows.uptoBulkAll]
 |cons x r ih=>have:=Ng x;simp only[Rows.uptoBulkAll,List.length_cons];omega
theorem OH {H:Type} (e s:List (DataW H)):Rows.uptoBulkAll e+1≤Rows.uptoBulk (.slice e s):=by
 simp only[Rows.uptoBulk];omega
theorem OT {w:World} {a:Addr} {v:Value} (h:w.cell? a=some v):a.spot=none∧a.block<w.heap.size:=by
 unfold World.cell? at h
 split at h
 ·rename_i hb
  refine⟨?_, ?_⟩
  ·cases hs:a.spot with
   |none=>rfl
   |some k=>simp[hs] at h
  ·exact(Array.getElem?_eq_some_iff.1 hb).1
 ·cases h
theorem On {w:World} {base n:Nat} {a:Addr} {cs:List Value} (h:w.cells? base a n=some cs) (hn:0<n):a.spot=none∧Al w a.block a.off cs:=by
 obtain⟨_,hl,hg⟩:=World.cells?_some h
 have h0:=hg 0 hn
 have hv:cs[0]? =some cs[0]:=List.getElem?_eq_getElem (by omega)
 rw[hv] at h0
 have hp:=OT h0
 have hs:a.spot=none:=by simpa[Addr.add] using hp.1
 refine⟨hs,⟨by simpa[Addr.add] using hp.2,fun j x hx=> ?_⟩⟩
 have hj:j<n:=by rw[←hl];exact(List.getElem?_eq_some_iff.1 hx).1
 rw[←hx, ←hg j hj]
 congr 1
 unfold Addr.add
 split
 ·subst_vars;cases a;simp_all
 ·rfl
theorem Tn {a:Addr} (hs:a.spot=none) (n:Nat):a.add n=⟨a.block,a.off+n,none⟩:=by
 unfold Addr.add
 split
 ·subst_vars;cases a;simp_all
 ·rfl
section
variable {H:Type} {enc:TypeId×Value→H} {w:World} {base:Nat} {spare:Nat→Bool} {held:Bool} {fuel:Nat}
theorem Ql {u:Value} {x:DataW H×List MemPlace} (h:DataW.trod enc Tryz.prog w base spare held fuel 23 [u]=some x): ∃b:List UInt8,u=str b∧Rows.uptoBulk x.1=b.length+1:=by
 obtain⟨s,e,hx,_⟩:=DataW.trod_string Tryz.underlying23 h
 refine⟨s.data.toList, ?_, ?_⟩
 ·have:u= .string s:=by simpa using e
  rw[this]
 ·rw[hx];simp[Rows.uptoBulk]
end
theorem cPt:Tryz.prog.cellsOf 35=2:=by kernel_rfl
section
variable {H:Type} {enc:TypeId×Value→H} {w:World} {base:Nat} {spare:Nat→Bool} {held:Bool} {fuel:Nat} {cs:List Value} {x:DataW H×List MemPlace}
theorem RQ (h:DataW.trod enc Tryz.prog w base spare held fuel 35 cs=some x): ∃f:List UInt8×List UInt8,cs=[str f.1,str f.2]:=by
 obtain⟨xs,m,rfl,hx,hl,hn,hg⟩:=DataW.trod_struct Tryz.underlying35 h
 rw[cPt] at hl
 obtain⟨x0,x1,rfl⟩: ∃x0 x1,xs=[x0,x1]:=by
  match xs,hn with
  |[a,b],_=>exact⟨a,b,rfl⟩
 match cs,hl with
 |[v0,v1],_=>
  have h0:DataW.trod enc Tryz.prog w base spare held m 23 (List.take (Tryz.prog.cellsOf 23) [v0,v1])=some x0:=hg 0 _ rfl
  have h1:DataW.trod enc Tryz.prog w base spare held m 23 (List.take (Tryz.prog.cellsOf 23) [v1])=some x1:=hg 1 _ rfl
  rw[UO] at h0 h1
  obtain⟨s,rfl,_⟩:=Ql h0
  obtain⟨t,rfl,_⟩:=Ql h1
  exact⟨(s,t),I⟩
theorem Rg (h:DataW.trod enc Tryz.prog w base spare held fuel 22 cs=some x):
  ∃(p:Option Addr) (cap:Nat) (l:List (List UInt8×List UInt8)),cs=[.slice p l.length cap]∧Gl w p l∧l.length+1≤Rows.uptoBulk x.1:=by
 rcases open_slice Tryz.underlying22 h with⟨rfl,rfl⟩|⟨a,len,cap,m,n,D,Pl,rfl,_,hl,_,hm,rfl,hx⟩
 ·exact⟨none,0,[],I, .inl I,Ng _⟩
 have hlm:len≤m:=by rw[hm];split<;>omega
 obtain⟨S,hS⟩:=choose_lt (α:=List UInt8×List UInt8) (n:=len) (p:=fun i s=>w.cells? base (a.add (i*2)) 2=some [str s.1,str s.2]) fun i hi=>by
  obtain⟨cs',h1,h2⟩:=hx i (by omega)
  rw[cPt] at h1
  obtain⟨f,rfl⟩:=RQ h2
  exact⟨f,h1⟩
 refine⟨some a,cap,(List.range len).map S,by simp, ?_, ?_⟩
 ·by_cases h0:len=0
  ·subst h0;exact .inl rfl
  ·have hs:a.spot=none:=by simpa[Addr.add] using(On (hS 0 (by omega)) (by decide)).1
   refine .inr ⟨a.block,a.off,by cases a;simp_all,fun i hi=> ?_⟩
   have h1:i<len:=by simpa using hi
   have:=(On (hS i h1) (by decide)).2
   rw[Tn hs] at this
   simpa using this
 ·have h1:=Sr ((List.range len).map D)
  have h2:=OH ((List.range len).map D) ((List.range (m-len)).map fun j=>D (len+j))
  simp only[List.length_map,List.length_range] at h1⊢
  omega
end
section
variable {H:Type} {enc:TypeId×Value→H} {w:World} {base:Nat} {spare:Nat→Bool} {held:Bool} {v:Value} {d:DataW H} {ps:List MemPlace}
theorem O4 {r:Reach} {b0:Nat} (hv:Value.okWide Tryz.prog w r b0 22 v) (h:DataW.Trod enc Tryz.prog w base spare held 22 v d ps):
  ∃(p:Option Addr) (m:Nat) (l:List PtS),v=slv p l.length m∧Gl w p l∧l.length+1≤Rows.uptoBulk d:=by
 obtain⟨p0,n0,c0,rfl⟩:=okWide_slice Tryz.underlying22 hv
 obtain⟨fuel,hf⟩:=h
 obtain⟨p,cap,l,e,hl,hb⟩:=Rg hf
 refine⟨p,cap,l, ?_,hl,hb⟩
 simpa[Value.cells] using e
theorem SY {p:Option Addr} {n cap:Nat} (h:DataW.Trod enc Tryz.prog w base spare held 22 (slv p n cap) d ps):n≤cap:=by
 obtain⟨fuel,hf⟩:=h
 rcases open_slice Tryz.underlying22 hf with⟨e,_⟩|⟨a,len,cap',m,n',D,Pl,e,_,hl,_⟩
 ·have e:[slv p n cap]=[Value.slice none 0 0]:=by simpa[Value.cells] using e
  cases e
  exact Nat.le_refl _
 ·have e:[slv p n cap]=[Value.slice (some a) len cap']:=by simpa[Value.cells] using e
  cases e
  exact hl
end
end
end Go.Proofs.YthndmdimmgkpgaaGreatDoor
