/-
  Lemmas that the theorem levelOrders_upto_card needs (part 8 of 8).
-/
import Derived.Test.YtmblgcglonikiaaGreatDoorLog
import Derived.Test.YtmblgcglonikiaaGreatDoorRows
import Derived.Deep.Slices
import Derived.ChangeArms
import Derived.ChangeShapes
import Derived.WideShapes
import Derived.Carry
import Derived.Test.YtmblgcglonikiaaGreatDoorCards
import Derived.Test.YtmblgcglonikiaaGreatDoorTie
import Derived.ProofKit
import Derived.OpenShut
import Derived.Deep.DeepHandedRow
import Derived.Lib.LaidTab
import Derived.Stop.LaidErr
import Derived.Lay
import Derived.SevenTiedAt
import Derived.Shelf.Vars
set_option maxHeartbeats 64000000
namespace Go.Proofs.YtmblgcglonikiaaGreatDoor
section
open Go Go.RowKit Go.Am Go.Lib
set_option maxRecDepth 10000
-- BOXES 4
-- CODE2
structure Gf (W:World) (p:Option Addr) (rs:List (List Sd)):Prop where
 n:rs.length<1099511627776
 T:tot rs<1099511627776
 R:BD W p rs
 d:Kz W
 v:BP W
 t:AJ W
theorem Gf.hp {W0 W:World} {bxs:List Bx} {p:Option Addr} {rs:List (List Sd)} (h:Gf W0 p rs) (hp:Hp W0 bxs W):Gf W p rs:=⟨h.n,h.T,h.R.hp hp,h.d.hp hp,h.v.hp hp,h.t.hp hp⟩
theorem Gf.w {W:World} {p:Option Addr} {rs:List (List Sd)} (h:Gf W p rs) (hc:chk rs=0):DZ W p rs:=⟨h.n,h.R,hc,h.d,h.v,h.t⟩
def HF (rs:List (List Sd)) (a:List UInt8):Int:=if chk rs≠0 then 1 else Kw a
theorem OT {rs:List (List Sd)} {a:List UInt8} (h:HF rs a=0):chk rs=0∧ ∃q,szQ q 20∧a=Ac q:=by
 unfold HF at h
 by_cases hc:chk rs=0
 ·rw[if_neg (fun h=>h hc)] at h
  exact⟨hc,UE h⟩
 ·rw[if_pos hc] at h;exact absurd h (by decide)
theorem Xh (W:World) (p:Option Addr) (cap:Nat) (rs:List (List Sd)) (h:Gf W p rs) (a:List UInt8) (hl:a.length≤4000000000) (he:HF rs a≠0):
  Ad Tryz.prog 23 #[AO p rs.length cap,str a] W (fun _:Unit=> .tuple #[str [], .bool false, .int .i64 (HF rs a)]) (fun _=>True) (fun _=>[]):=by
 have hn:=h.n
 have hT:=h.T
 refine Ab (args:=[AO p rs.length cap,str a]) Tryz.func23 I I I ?_
 refine zA (zB ?_)
 (refine A3 rfl rfl rfl rfl ?_;intro)
 refine wP I (wP I (wP I (Aa (zE (zA (zA (zB (wB 0 I I I (wP I (wC I I (fun W1 hp=>Fl W1 p cap rs (by omega) (by omega) (h.R.hp hp) a hl (h.t.hp hp)) (wP I (Aa (zE ?_)))))))))))))
 refine zA (zB (wP I (wP I (wU 14 true I (bne_iff_ne.2 he) (Aa (zE (zR I (zA (zB (wP I (wP I (wP I (wP I ?_)))))))))))))
 exact Aa (zE (zO (zP (wR3 I I I))))
theorem UU (W:World) (p:Option Addr) (cap:Nat) (rs:List (List Sd)) (h:Gf W p rs) (a:List UInt8) (hl:a.length≤4000000000) (ax:Bool) (he:HF rs a≠0):
  Ad Tryz.prog 25 #[AO p rs.length cap,str a, .bool ax] W (fun _:Unit=> .tuple #[.slice none 0 0, .int .i64 (HF rs a)]) (fun _=>True) (fun _=>[]):=by
 have hn:=h.n
 have hT:=h.T
 refine Ab (args:=[AO p rs.length cap,str a, .bool ax]) Tryz.func25 I I I ?_
 refine zA (zB ?_)
 (refine A3 rfl rfl rfl rfl ?_;intro)
 refine wP I (wP I (Aa (zE (zA (zA (zB (wB 0 I I I (wP I (wC I I (fun W1 hp=>Fl W1 p cap rs (by omega) (by omega) (h.R.hp hp) a hl (h.t.hp hp)) (wP I (Aa (zE (zA ?_)))))))))))))
 refine zB (wP I (wP I (wU 19 true I (bne_iff_ne.2 he) (Aa (zE (zR I (zA (zB (wP I (wP I (wP I (Aa (zE ?_)))))))))))))
 exact zO (zP (wR2 I I I))
theorem KT (W:World) (p:Option Addr) (cap:Nat) (rs:List (List Sd)) (h:DZ W p rs) (z:Rat) (hz:szQ z 20) (k:Nat) (hk:k≤(Bi rs).length) (h1: ∀j (hj:j<(Bi rs).length),j<k→(Bi rs)[j]≤z) (h2: ∀hj:k<(Bi rs).length,z<(Bi rs)[k]):
  Ad Tryz.prog 23 #[AO p rs.length cap,str (Ac z)] W (fun _:Unit=>if k<(Bi rs).length then .tuple #[str (Ac (Oe rs k)), .bool true, .int .i64 0] else .tuple #[str [], .bool false, .int .i64 0]) (fun _=>True) (fun _=>[]):=by
 obtain⟨hrg,_⟩:=Cr h.c
 have hpos:=Rn h.c
 have hlen:=Ri (DL h.c).2.1
 have hn:=h.n
 have hT:=(DL h.c).2.1
 have hl:=B7 (hz.ok (by decide))
 refine Ab (args:=[AO p rs.length cap,str (Ac z)]) Tryz.func23 I I I ?_
 refine zA (zB ?_)
 (refine A3 rfl rfl rfl rfl ?_;intro)
 refine wP I (wP I (wP I (Aa ?_)))
 rename_i b2
 refine zE (zA (zA (zB (wB 0 I I I (wP I (wC I I (fun W1 hp=>(Fl W1 p cap rs (by omega) (by omega) (h.R.hp hp) (Ac z) (by omega) (h.t.hp hp)).cast (v':= .int .i64 0) (by rw[if_neg (fun e=>e h.c),QT hz])) (wP I (Aa (zE (zA (zB (wP I (wP I ?_)))))))))))))
 refine Aa (zE (zS I (zI (zE (zA (zB (wB 0 I I I ?_)))))))
 refine wD (X:=Vec) I I (fun W1 hp=>NX W1 p cap rs (h.hp hp)) ?_
 intro V hV
 obtain⟨pL,cL,hLv,hLr⟩:=Vec.num hV
 obtain⟨gL,hpe,hLq⟩:=hLr hpos
 subst hpe
 rw[hLv]
 refine wP I (Aa (zE (zA (zA (zB (wP I (Aa (zE (zH ?_)))))))))
 refine Ar (X:=Nat) (fun i=>[(1,str (Ac z)),(8, .slice (some ⟨gL,0,none⟩) (Bi rs).length cL),(9, .int .i64 (i:Nat))]) (fun _=>[bxE b2 24 (slv p rs.length cap),V.bx 25 (nS (Bi rs))]) (fun i=>i≤k) (fun i=>(Bi rs).length-i) 0 (Nat.zero_le _) ⟨I,I,I,O⟩ [] I ?_
 intro i hi
 have hi:i≤k:=hi
 refine zA (zA (zB (wP I (wP I (wP I (wP I ?_))))))
 by_cases hlt:i<(Bi rs).length
 ·refine wU 21 true I (dT (by omega)) (Aa (zE (zR I (zI (zE (zA (zH (zA (zB (wP I (wP I ?_)))))))))))
  refine wJ ?_
  refine wL 0 I I (fun W1 hp=>Sm hLq hp 1 I i hlt) I (wP I (wC I I (fun W1 hp=>DO (Oe rs i) z (sz2 (by rw[←PR hlt];exact LF hrg (List.getElem_mem hlt)) hz (by decide)) W1 (h.t.hp hp)) (wP I (wU 30 (decide (z<Oe rs i)) I (Fb _ _) (Aa (zE ?_))))))
  refine Af I (fun hc=> ?_) (fun hc=> ?_)
  ·have hc:z<Oe rs i:=of_decide_eq_true hc
   have e:i=k:=by
    rcases Nat.lt_or_ge i k with c|c
    ·have:=h1 i hlt c
     rw[PR hlt] at this
     exact absurd hc (Rat.not_lt.2 this)
    ·omega
   subst e
   refine zA (zB (wP I (wP I ?_)))
   refine wJ ?_
   exact wL 0 I I (fun W1 hp=>Sm hLq hp 1 I i hlt) I (wP I (wP I (wP I (Aa (zE (zO (zQ (zP (zP (zQ (zP (wR3 I I (by rw[if_pos hlt])))))))))))))
  ·have hc: ¬z<Oe rs i:=of_decide_eq_false hc
   have e:i≠k:=fun e=>by
    subst e
    have:=h2 hlt
    rw[PR hlt] at this
    exact hc this
   exact zI (zN (zE (zB (wP I (wP I (wV 23 ((i+1:Nat):Int) I (At (by omega)) (wP I (Aa (Al (i+1) (by show i+1≤k;omega) (by show(Bi rs).length-(i+1)<(Bi rs).length-i;omega) ⟨I,I,I,O⟩ [] I)))))))))
 ·refine wU 21 false I (dF (by omega)) (Aa (zE (zS I (zJ (zK (zK (zL (zE (zA (zB (wP I (wP I (wP I ?_)))))))))))))
  exact Aa (zE (zO (wR3 I I (by rw[if_neg (show¬k<(Bi rs).length by omega)]))))
-- BOXES 5
-- CODE2
theorem NZ (a:List UInt8) (hl:a.length≤4000000000) (W:World) (hv:BP W) (ht:AJ W):
  Ad Tryz.prog 110 #[str a] W (fun _:Unit=> .tuple #[str (rdR a).1.1,str (rdR a).1.2, .int .i64 (rdR a).2]) (fun _=>True) (fun _=>[]):=by
 refine Ab (args:=[str a]) Tryz.func110 I I I ?_
 refine zA (zB (wP I (wP I (wP I (Aa (zE (zA (zB (wP I (wC I I (fun W hp=>(Db a hl W (hv.hp hp) (ht.hp hp)).cast (v':= .tuple #[Ji (rdR a).1.1 (rdR a).1.2, .int .i64 (rdR a).2]) I) (wP I (wP I (wP I ?_)))))))))))))
 (refine Ah Tryz.hZ rfl rfl rfl rfl ?_;intro)
 refine wS 0 I I I (wP I (Aa (zE (zA (zU (qP I (qB 0 I I I (qP I (qB 0 I I I (qP I (qP I (qP I (qP I ?_)))))))))))))
 exact A4 (Aa (zE (zO (wR3 I I I))))
theorem IY (W:World) (p:Option Addr) (cap:Nat) (rs:List (List Sd)) (h:Gf W p rs) (a:List UInt8) (hl:a.length≤4000000000):
  Ad Tryz.prog 51 #[AO p rs.length cap,str a] W (fun _:Unit=> .int .i64 (HF rs a)) (fun _=>True) (fun _=>[]):=by
 have hn:=h.n
 have hT:=h.T
 refine Ab (args:=[AO p rs.length cap,str a]) Tryz.func51 I I I ?_
 refine zA (zB ?_)
 (refine A3 rfl rfl rfl rfl ?_;intro)
 refine wP I (Aa (zE (zA (zA (zB (wB 0 I I I (wC I I (fun W1 hp=>Gl W1 p cap rs (by omega) (by omega) (h.R.hp hp)) (wP I ?_))))))))
 by_cases hc:chk rs=0
 rotate_left
 ·exact wU 10 true I (bne_iff_ne.2 hc) (Aa (zE (zR I (zA (zB (wP I (Aa (zE (zO (zP (wR1 I I (by unfold HF;rw[if_pos hc]))))))))))))
 have e1:HF rs a=Kw a:=by unfold HF;rw[if_neg (fun h=>h hc)]
 rw[e1]
 refine wU 10 false I (bne_eq_false_iff_eq.2 hc) (Aa (zE (zS I (zI (zE (zA (zB ?_)))))))
 by_cases he:(rdR a).2=0
 rotate_left
 ·skip
  refine wP I (wC I I (fun W1 hp=>NZ a hl W1 (h.v.hp hp) (h.t.hp hp)) ?_)
  iterate 7 refine wP I ?_
  refine Aa (zE (zA (zA (zB (wP I (wP I (wU 18 true I (bne_iff_ne.2 he) (Aa (zE (zR I (zA (zB (wP I (wP I ?_))))))))))))))
  exact Aa (zE (zO (zP (wR1 I I (by unfold Kw;rw[if_pos he])))))
 obtain⟨q,hk,rfl⟩:=L8 he
 have hE:Kw (Ac q)=if Ta (Ac q)=true then 4 else 0:=by unfold Kw;rw[if_neg (fun h=>h he)]
 rw[hE,LW]
 refine wP I (wC I I (fun W1 hp=>Hc q hk W1 (h.v.hp hp) (h.t.hp hp)) ?_)
 iterate 7 refine wP I ?_
 refine Aa (zE (zA (zA (zB (wP I (wP I (Aa (zE (zS I (zI (zE (zA (zA ?_)))))))))))))
 refine zB (wP I (wC I I (fun W1 _=>Ch (itoa q.num) [45] W1) ?_))
 refine Ak 21 (str (decDigits q.num.natAbs)) I (by rw[Bg]) ?_
 refine wP I ?_
 refine Ak 22 (.int .i64 ((decDigits q.num.natAbs).length:Nat)) I (congrArg (fun n:Nat=>Value.int .i64 (n:Int)) (Az _)) ?_
 refine wP I ?_
 by_cases h1:20<(decDigits q.num.natAbs).length
 ·refine wU 23 true I (dT (by omega)) (wP I ?_)
  iterate 3 refine Ae I I ?_
  exact wP I (Aa (zE (zR I (zA (zB (wP I (Aa (zE (zO (zP (wR1 I I (by rw[dT h1];rfl))))))))))))
 rw[dF h1,Bool.false_or]
 refine wU 23 false I (dF (by omega)) (wP I (wP I (wP I ?_)))
 refine Ak 26 (.int .i64 ((decDigits q.den).length:Nat)) I (congrArg (fun n:Nat=>Value.int .i64 (n:Int)) ((Az _).trans (by rw[EC]))) ?_
 refine wP I (wU 27 (decide (20<(decDigits q.den).length)) I (decide_eq_decide.2 (by omega)) (wP I (Aa (zE ?_))))
 refine Af I (fun h2=> ?_) (fun h2=> ?_)
 ·exact zA (zB (wP I (Aa (zE (zO (zP (wR1 I I (by rw[if_pos h2]))))))))
 ·exact zI (zE (zA (zB (wP I (Aa (zE (zO (wR1 I I (by rw[h2,if_neg (by decide)])))))))))
theorem W4 (W:World) (p:Option Addr) (cap:Nat) (rs:List (List Sd)) (h:Gf W p rs) (a:List UInt8) (hl:a.length≤4000000000) (he:HF rs a≠0):
  Ad Tryz.prog 22 #[AO p rs.length cap,str a] W (fun _:Unit=> .tuple #[str [], .bool false, .int .i64 (HF rs a)]) (fun _=>True) (fun _=>[]):=by
 refine Ab (args:=[AO p rs.length cap,str a]) Tryz.func22 I I I ?_
 refine zA (zB ?_)
 (refine A3 rfl rfl rfl rfl ?_;intro)
 (refine A3 rfl rfl rfl rfl ?_;intro)
 refine wP I (wP I (wP I (Aa (zE (zA (zA (zB (wB 0 I I I (wB 1 I I I (wC I I (fun W1 hp=>IY W1 p cap rs (h.hp hp) a hl) (wP I (Aa (zE ?_)))))))))))))
 refine zA (zB (wP I (wP I (wU 16 true I (bne_iff_ne.2 he) (Aa (zE (zR I (zA (zB (wP I (wP I (wP I (wP I ?_)))))))))))))
 exact Aa (zE (zO (zP (wR3 I I I))))
theorem Ve (W:World) (p:Option Addr) (cap:Nat) (rs:List (List Sd)) (h:Gf W p rs) (a:List UInt8) (hl:a.length≤4000000000) (ax:Bool) (he:HF rs a≠0):
  Ad Tryz.prog 24 #[AO p rs.length cap,str a, .bool ax] W (fun _:Unit=> .tuple #[.slice none 0 0, .int .i64 (HF rs a)]) (fun _=>True) (fun _=>[]):=by
 refine Ab (args:=[AO p rs.length cap,str a, .bool ax]) Tryz.func24 I I I ?_
 refine zA (zB ?_)
 (refine A3 rfl rfl rfl rfl ?_;intro)
 (refine A3 rfl rfl rfl rfl ?_;intro)
 refine wP I (wP I (Aa (zE (zA (zA (zB (wB 0 I I I (wB 1 I I I (wC I I (fun W1 hp=>IY W1 p cap rs (h.hp hp) a hl) (wP I (Aa (zE (zA ?_)))))))))))))
 refine zB (wP I (wP I (wU 20 true I (bne_iff_ne.2 he) (Aa (zE (zR I (zA (zB (wP I (wP I (wP I (Aa (zE ?_)))))))))))))
 exact zO (zP (wR2 I I I))
-- BOXES 6
-- CODE2
def NA (W:World) (p:Option Addr) (l:List Nat):Prop:=l=[]∨ ∃b off,p=some ⟨b,off,none⟩∧ ∀k (_:k<l.length),An W b (off+k*1) [.int .i64 (l[k]:Nat)]
theorem NA.row {W:World} {p:Option Addr} {l:List Nat} (h:NA W p l) {i:Nat} (hi:i<l.length): ∃b off,p=some ⟨b,off,none⟩∧ ∀k (_:k<l.length),An W b (off+k*1) [.int .i64 (l[k]:Nat)]:=by
 rcases h with rfl|h
 ·exact absurd hi (Nat.not_lt_zero _)
 ·exact h
theorem QI {W:World} {b:Nat} {l:List Nat} {junk:List Value} (h:An W b 0 (iC l++junk)):NA W (some ⟨b,0,none⟩) l:= .inr ⟨b,0,rfl,fun k hk=>⟨h.lt,fun m u hu=>by
 have hm:m=0:=by have:=(List.getElem?_eq_some_iff.1 hu).1;simpa using this
 subst hm
 have:=h.get k u (by
  rw[List.getElem?_append_left (by rw[List.length_map];exact hk),List.getElem?_map,List.getElem?_eq_getElem hk]
  exact hu)
 rw[Nat.mul_one,Nat.add_zero];exact this⟩⟩
theorem M5 {V:Vec} {l:List Nat} (hV:V.OK 1 l.length (iC l)): ∃p cap,V.val l.length= .slice p l.length cap∧
  ∀ {W0 W:World} {bxs:List Bx},Hp W0 bxs W→ ∀k,nth bxs k=some (V.bx 3 (iC l))→NA W p l:=by
 obtain⟨p,cap,junk⟩:=V
 cases p with
 |none=>
  have h0:=hV.nil rfl
  exact⟨none,0,by rw[h0];rfl,fun _ _ _=> .inl (List.length_eq_zero_iff.1 h0)⟩
 |some g=>exact⟨some ⟨g,0,none⟩,cap,rfl,fun {W0 W bxs} hp k hk=>QI (An.of_bx hp k hk rfl)⟩
theorem JW (W:World) (p q:Option Addr) (cap cap2:Nat) (xs ys:List Nat) (hA:NA W p xs) (hB:NA W q ys) (hn:xs.length<4611686018427387904) (hm:ys.length<4611686018427387904):
  Ad Tryz.prog 20 #[.slice p xs.length cap, .slice q ys.length cap2] W (fun _:Unit=> .bool (decide (xs=ys))) (fun _=>True) (fun _=>[]):=by
 refine Ab (args:=[.slice p xs.length cap, .slice q ys.length cap2]) Tryz.func20 I I I ?_
 refine zA (zB (wP I (Aa (zE (zA (zA (zB ?_)))))))
 iterate 5 refine wP I ?_
 by_cases hl:xs.length=ys.length
 ·refine wU 10 false I (by rw[hl];simp) (Aa (zE (zS I (zI (zE (zA (zA (zB (wP I (wP I (wP I (Aa (A0 ?_)))))))))))))
  refine A8 (X:=Unit) (fun _=>[(4, .bool false)]) (fun _=>[]) (fun _=>xs=ys) ?_ ?_
  ·refine BJ ?_
   refine Ar (X:=Nat) (fun i=>[(0, .slice p xs.length cap),(1, .slice q ys.length cap2),(4, .bool false),(12, .int .i64 (xs.length:Nat)),(13, .int .i64 (i:Nat))]) (fun _=>[]) (fun i=>i≤xs.length∧xs.take i=ys.take i) (fun i=>xs.length-i) 0 ⟨Nat.zero_le _,I⟩ ⟨I,I,I,I,I,O⟩ [] I ?_
   rintro i ⟨hi,he⟩
   refine zA (zB (wP I ?_))
   by_cases hlt:i<xs.length
   ·refine wU 14 true I (dT (by omega)) (Aa (zE (zA (zR I (zI (zE (zA (zH (zA (zB ?_))))))))))
    obtain⟨pb,po,rfl,hr1⟩:=hA.row hlt
    obtain⟨qb,qo,rfl,hr2⟩:=hB.row (show i<ys.length by omega)
    refine wP I (wP I (Aa (zE (zA (zU (qP I (qP I ?_)))))))
    refine qJ ?_
    refine qL 0 I I (fun W hp=>(hr1 i hlt).hp hp) I (qP I (qP I ?_))
    refine qJ ?_
    refine qL 0 I I (fun W hp=>(hr2 i (by omega)).hp hp) I (qP I ?_)
    by_cases hx:xs[i]=ys[i]
    ·exact qU 24 false I (by rw[hx];simp) (A4 (Aa (zE (zS I (zI (zN (zE (zB (wP I (wV 25 ((i+1:Nat):Int) I (At (by omega)) (wP I (Aa (Al (i+1) ⟨hlt,by rw[List.take_add_one,List.take_add_one,he,List.getElem?_eq_getElem hlt,List.getElem?_eq_getElem (by omega),hx]⟩ (by show xs.length-(i+1)<xs.length-i;omega) ⟨I,I,I,I,I,O⟩ [] I)))))))))))))
    ·refine qU 24 true I (bne_iff_ne.2 (by omega)) (A4 (Aa (zE (zR I (zA (zB (wP I (Aa (zE (zO (zQ (zP (zP ?_)))))))))))))
     exact zQ (zP (wR1 rfl rfl (by rw[dF fun e=>hx (by subst e;rfl)])))
   ·exact wU 14 false I (dF (by omega)) (Aa (zE (zA (zS I (zJ (zK (zK (zL (Aj () (by rw[List.take_of_length_le (by omega),List.take_of_length_le (by omega)] at he;exact he) ⟨I,O⟩ [] I)))))))))
  ·intro _ he
   have he:xs=ys:=he
   exact zA (zB (wP I (Aa (zE (zO (wR1 I I (by rw[dT he])))))))
 ·exact wU 10 true I (by rw[bne_iff_ne];omega) (Aa (zE (zR I (zA (zB (wP I (Aa (zE (zO (zP (wR1 I I (by rw[dF fun e=>hl (by rw[e])]))))))))))))
def sq1 (x y:Int):Sd:=⟨x,y,1,1,false,0,0⟩
def sqG:Sd:=⟨0,0,0,0,true,0,0⟩
def sqL (g:Bool):List Sd:=[if g then sqG else sq1 0 0,sq1 10 0,sq1 10 10,sq1 0 10]
theorem Iz (x y:Int) (W:World):Ad Tryz.prog 99 #[.int .i64 x, .int .i64 y] W (fun _:Unit=>(sq1 x y).val) (fun _=>True) (fun _=>[]):=by
 refine Ab (args:=[.int .i64 x, .int .i64 y]) Tryz.func99 I I I ?_
 refine zA (zB ?_)
 (refine Ah Tryz.hZ rfl rfl rfl rfl ?_;intro)
 refine Aa (zE (zA (zB (wP I (wP I ?_)))))
 refine A5 Tryz.hZ tH I I I I I I I I ?_
 exact wS 0 I I I (Aa (zE (zO (A9 tH I (.cell 0 I I I I I) () I O fun W _=>Av.nil _ _))))
theorem Fk (g:Bool) (W:World):Ad Tryz.prog 47 #[.bool g] W (fun x:Nat×Nat=>AO (some ⟨x.2,0,none⟩) 1 1) (fun _=>True)
  (fun x=>[⟨x.1,80,cellsOf (sqL g),true,none⟩,bxE x.2 76 (slv (some ⟨x.1,0,none⟩) 4 4)]):=by
 refine Ab (args:=[.bool g]) Tryz.func47 I I I ?_
 refine zA (zB ?_)
 (refine Ah Tryz.hZ rfl rfl rfl rfl ?_;intro)
 refine Aa (zE (zA (zB (wP I (Aa (zE (zA (zB (wP I ?_)))))))))
 refine AT (capt:=[]) I I I I I I (by kernel_rfl) (fun W _=>Iz 0 0 W) ?_
 refine wP I ?_
 refine AT (capt:=[]) I I I I I I (by kernel_rfl) (fun W _=>Iz 10 0 W) ?_
 refine wP I ?_
 refine AT (capt:=[]) I I I I I I (by kernel_rfl) (fun W _=>Iz 10 10 W) ?_
 refine wP I ?_
 refine AT (capt:=[]) I I I I I I (by kernel_rfl) (fun W _=>Iz 0 10 W) ?_
 refine As Tryz.hZ tH I I I I I I I I I I I fun bS=> ?_
 refine wP I (Aa (zE (zA (zA (zB (wP I (Aa ?_)))))))
 cases g with
 |false=>
  refine zE (zS I (zI (zE (zA (zB (wP I ?_))))))
  refine As Tryz.hZ tH I I I I I I I I I I I fun bR=> ?_
  refine A5 Tryz.hZ tH I I I I I I I I ?_
  exact wS 0 I I I (Aa (zE (zO (A9 tH I (.cell 0 I I I I I) (bS,bR) I O fun W hp=>Av.of_hp (hp.pick (l:=[⟨bS,80,cellsOf (sqL false),true,none⟩,bxE bR 76 (slv (some ⟨bS,0,none⟩) 4 4)]) [1,2] (by decide) I)))))
 |true=>
  refine zE (zR I (zB (wP I ?_)))
  refine A5 Tryz.hZ tH I I I I I I I I ?_
  refine wJ ?_
  refine wS 1 I I I (Aa (zE (zA (zB (wP I ?_)))))
  refine As Tryz.hZ tH I I I I I I I I I I I fun bR=> ?_
  refine A5 Tryz.hZ tH I I I I I I I I ?_
  exact wS 0 I I I (Aa (zE (zO (A9 tH I (.cell 0 I I I I I) (bS,bR) I O fun W hp=>Av.of_hp (hp.pick (l:=[⟨bS,80,cellsOf (sqL true),true,none⟩,bxE bR 76 (slv (some ⟨bS,0,none⟩) 4 4)]) [1,2] (by decide) I)))))
theorem Qv {g:Bool} {bS bR:Nat} {W0 W:World} {bxs:List Bx} (hp:Hp W0 bxs W) (k i:Nat) (hk:nth bxs k=some ⟨bS,80,cellsOf (sqL g),true,none⟩) (hi:nth bxs i=some (bxE bR 76 (slv (some ⟨bS,0,none⟩) 4 4))):BD W (some ⟨bR,0,none⟩) [sqL g]:=by
 refine .inr ⟨bR,0,I,⟨fun j l hl=> ?_⟩⟩
 have hj:j=0:=by have:=(List.getElem?_eq_some_iff.1 hl).1;simpa using this
 subst hj
 have hl:sqL g=l:=by simpa using hl
 subst hl
 have hrow:=An.of_bx hp k hk rfl
 exact⟨some ⟨bS,0,none⟩,4,An.of_bx hp i hi I, .inr ⟨bS,0,I,FA.of_cells hrow.lt fun j u hj=>hrow.get j u hj⟩⟩
theorem Zo (g:Bool):chk [sqL g]=0:=by cases g<;>decide+kernel
theorem Zk:Bi [sqL false]=[q2 0 1,q2 5 1]:=by decide+kernel
theorem Zi:Bi [sqL true]=[q2 0 1,q2 5 1,q2 10 1]:=by decide+kernel
theorem Zu:GF (Ao [sqL true]) (q2 5 1) true=[1,3]:=by decide+kernel
theorem Z3:prW (Ao [sqL false]) (q2 5 1)=[(0,2),(1,3)]:=by decide+kernel
-- BOXES 14
-- CODE2
theorem L5 (W:World) (p q:Option Addr) (cp cq:Nat) (L:List (Nat×Nat)) (hn:L.length<4611686018427387904) (hp0:Nd W p L) (hq0:Nd W q L):
  Ad Tryz.prog 21 #[.slice p L.length cp, .slice q L.length cq] W (fun _:Unit=> .bool true) (fun _=>True) (fun _=>[]):=by
 refine Ab (args:=[.slice p L.length cp, .slice q L.length cq]) Tryz.func21 I I I ?_
 refine zA (zB (wP I (Aa (zE (zA (zA (zB ?_)))))))
 iterate 5 refine wP I ?_
 refine wU 11 false I (by simp) (Aa (zE (zS I (zI (zE (zA (zA (zB (wP I (Aa (zE (zH ?_))))))))))))
 refine Ar (X:=Nat) (fun i=>[(0, .slice p L.length cp),(1, .slice q L.length cq),(5, .int .i64 (i:Nat))]) (fun _=>[]) (fun i=>i≤L.length) (fun i=>L.length-i) 0 (Nat.zero_le _) ⟨I,I,I,O⟩ [] I ?_
 intro i hi
 have hi:i≤L.length:=hi
 refine zA (zA (zB (wP I (wP I (wP I (wP I ?_))))))
 by_cases hlt:i<L.length
 ·refine wU 15 true I (dT (by omega)) (Aa (zE (zR I (zI (zE (zA (zH (zA (zA (zU ?_))))))))))
  obtain⟨g1,o1,rfl,h1⟩:=hp0.at_ hlt
  obtain⟨g2,o2,rfl,h2⟩:=hq0.at_ hlt
  obtain⟨c1,s1,r1⟩:=h1 i hlt
  obtain⟨c2,s2,r2⟩:=h2 i hlt
  obtain⟨⟨x,y⟩,hxy⟩: ∃xy,xy=L[i]:=⟨_,rfl⟩
  rw[←hxy] at r1 r2
  refine qP I (qP I ?_)
  refine qJ ?_
  refine qL 0 I I (fun W1 hp=>s1.hp hp) I (qP I (qP I (qP I ?_)))
  refine qJ ?_
  refine qL 0 I I (fun W1 hp=>s2.hp hp) I (qP I (qP I (A4 (Aa (zE (zS I (zI (zE (zA (zB (wP I (Aa (zE ?_)))))))))))))
  refine zH ?_
  refine Ar (X:=Nat) (fun k=>[(0, .slice (some ⟨g1,o1,none⟩) L.length cp),(1, .slice (some ⟨g2,o2,none⟩) L.length cq),(5, .int .i64 (i:Nat)),(6, .int .i64 (k:Nat))]) (fun _=>[]) (fun k=>k≤2) (fun k=>2-k) 0 (by decide) ⟨I,I,I,I,O⟩ [] I ?_
  intro k hk
  have hk:k≤2:=hk
  refine zA (zA (zB (wP I (wP I (wP I ?_)))))
  refine wJ ?_
  refine wL 0 I I (fun W1 hp=>s1.hp hp) I (wP I (wP I ?_))
  by_cases hk2:k<2
  ·refine wU 35 true I (dT (by show(k:Int)<((2:Nat):Int);omega)) (Aa (zE (zR I (zI (zE (zA (zH (zA (zU ?_)))))))))
   obtain⟨v,hv⟩: ∃v,v=if k=0 then x else y:=⟨_,rfl⟩
   have rr: ∀ {c:Nat},An W c 0 (prC (x,y))→An W c (0+k*1) [.int .i64 (v:Nat)]:=fun {c} h=>by
    have:k=0∨k=1:=by omega
    rcases this with rfl|rfl
    ·rw[if_pos rfl] at hv;subst hv
     exact⟨h.lt,fun m u hu=>by
      have hm:m=0:=by have:=(List.getElem?_eq_some_iff.1 hu).1;simpa using this
      subst hm
      exact h.get 0 u hu⟩
    ·rw[if_neg (by decide)] at hv;subst hv
     exact⟨h.lt,fun m u hu=>by
      have hm:m=0:=by have:=(List.getElem?_eq_some_iff.1 hu).1;simpa using this
      subst hm
      exact h.get 1 u hu⟩
   have q1:=rr r1
   have q2:=rr r2
   refine qP I (qP I ?_)
   refine qJ ?_
   refine qL 0 I I (fun W1 hp=>s1.hp hp) I (qP I ?_)
   refine qJ ?_
   refine qL 0 I I (fun W1 hp=>q1.hp hp) I (qP I (qP I ?_))
   refine qJ ?_
   refine qL 0 I I (fun W1 hp=>s2.hp hp) I (qP I ?_)
   refine qJ ?_
   refine qL 0 I I (fun W1 hp=>q2.hp hp) I (qP I (qU 52 false I (by simp) (A4 (Aa (zE (zS I (zI (zN (zE (zB (wP I (wP I (wV 37 ((k+1:Nat):Int) I (At (by omega)) ?_)))))))))))))
   exact wP I (Aa (Al (k+1) (by show k+1≤2;omega) (by show 2-(k+1)<2-k;omega) ⟨I,I,I,I,O⟩ [] I))
  ·refine wU 35 false I (dF (by show¬(k:Int)<((2:Nat):Int);omega)) (Aa (zE (zS I (zJ (zK (zK (zL (zN (zE (zB (wP I (wP I (wV 17 ((i+1:Nat):Int) I (At (by omega)) ?_)))))))))))))
   exact wP I (Aa (Al (i+1) hlt (by show L.length-(i+1)<L.length-i;omega) ⟨I,I,I,O⟩ [] I))
 ·refine wU 15 false I (dF (by omega)) (Aa (zE (zS I (zJ (zK (zK (zL (zE (zA (zB (wP I (Aa (zE ?_)))))))))))))
  exact zO (wR1 I I I)
theorem Z1 (g:Bool):tot [sqL g]=4:=by cases g<;>rfl
theorem LN {g:Bool} {bS bR:Nat} {W0 W:World} {bxs:List Bx} (hp:Hp W0 bxs W) (k i:Nat) (hk:nth bxs k=some ⟨bS,80,cellsOf (sqL g),true,none⟩) (hi:nth bxs i=some (bxE bR 76 (slv (some ⟨bS,0,none⟩) 4 4))) (hd:Kz W0) (hv:BP W0) (ht:AJ W0):DZ W (some ⟨bR,0,none⟩) [sqL g]:=
 ⟨by show 1<_;decide,Qv hp k i hk hi,Zo g,hd.hp hp,hv.hp hp,ht.hp hp⟩
theorem Xv {g:Bool} {l:List Rat} (e:Bi [sqL g]=l) (W:World) (bR:Nat) (h:DZ W (some ⟨bR,0,none⟩) [sqL g]):
  Ad Tryz.prog 11 #[AO (some ⟨bR,0,none⟩) 1 1] W (fun V:Vec=> .tuple #[V.val l.length, .int .i64 0]) (fun V=>V.OK 1 l.length (nS l)) (fun V=>[V.bx 25 (nS l)]):=by
 subst e
 exact Tj W (some ⟨bR,0,none⟩) 1 [sqL g] h
theorem Z5 (W:World) (bR:Nat) (h:DZ W (some ⟨bR,0,none⟩) [sqL true]):
  Ad Tryz.prog 24 #[AO (some ⟨bR,0,none⟩) 1 1,str [53], .bool true] W (fun V:Vec=> .tuple #[V.val [1,3].length, .int .i64 0]) (fun V=>V.OK 1 [1,3].length (iC [1,3])) (fun V=>[V.bx 3 (iC [1,3])]):=by
 have h1:=Kf W (some ⟨bR,0,none⟩) 1 [sqL true] h (by rw[Z1];decide) (q2 5 1) ⟨by decide,by decide⟩ true
 rw[ns5,Zu] at h1
 exact h1
theorem Zn (W:World) (bR:Nat) (h:DZ W (some ⟨bR,0,none⟩) [sqL false]):
  Ad Tryz.prog 18 #[AO (some ⟨bR,0,none⟩) 1 1,str [53]] W (fun x:Vec×Nz=> .tuple #[x.1.val x.2.length, .int .i64 0]) (fun x=>x.2.map (·.2)=[(0,2),(1,3)]∧x.1.OK 1 x.2.length (DR x.2)) (fun x=>[x.1.bx 35 (DR x.2),prB x.2]):=by
 have h1:=Qe W (some ⟨bR,0,none⟩) 1 [sqL false] h (q2 5 1) ⟨by decide,by decide⟩
 rw[ns5,Z3] at h1
 exact h1
theorem R0 {V:Vec} {l:List Rat} (hV:V.OK 1 l.length (nS l)): ∃p cap,V.val l.length=slv p (l.map Ac).length cap∧
  ∀ {W0 W:World} {bxs:List Bx},Hp W0 bxs W→ ∀k,nth bxs k=some (V.bx 25 (nS l))→Pc W p (l.map Ac):=by
 have e:(l.map Ac).map str=nS l:=by simp[nS]
 obtain⟨p,cap,junk⟩:=V
 cases p with
 |none=>
  have hl:=List.length_eq_zero_iff.1 (hV.nil rfl)
  subst hl
  exact⟨none,0,I,fun _ _ _=> .inl I⟩
 |some g=>
  refine⟨some ⟨g,0,none⟩,cap,by rw[List.length_map];rfl,fun {W0 W bxs} hp k hk=> .inr ⟨g,0,I, ?_⟩⟩
  rw[e]
  exact CO hp k (A:=[]) (C:=junk) hk I I
theorem Rj {W0 W:World} {bxs:List Bx} (hp:Hp W0 bxs W) (k:Nat) {b:Nat} {t:TypeId} {l:List (List UInt8)} (hk:nth bxs k=some ⟨b,t,l.map str,true,none⟩):Pc W (some ⟨b,0,none⟩) l:= .inr ⟨b,0,rfl,An.of_bx hp k hk rfl⟩
theorem Wc {W0 W:World} {bxs:List Bx} (hp:Hp W0 bxs W) (k:Nat) {b:Nat} {t:TypeId} {l:List Nat} (hk:nth bxs k=some ⟨b,t,iC l,true,none⟩):NA W (some ⟨b,0,none⟩) l:=QI (junk:=[]) (by rw[List.append_nil];exact An.of_bx hp k hk rfl)
theorem e05:([q2 0 1,q2 5 1]:List Rat).map Ac=[[48],[53]]:=by rw[List.map_cons,List.map_cons,List.map_nil,ns0,ns5]
theorem aK:([q2 0 1,q2 5 1,q2 10 1]:List Rat).map Ac=[[48],[53],[49,48]]:=by rw[List.map_cons,List.map_cons,List.map_cons,List.map_nil,ns0,ns5,aR]
theorem J7 (W:World) (hd:Kz W) (hv:BP W) (ht:AJ W):Ad Tryz.prog 8 #[] W (fun _:Unit=> .bool true) (fun _=>True) (fun _=>[]):=by
 refine Ab (args:=[]) Tryz.func8 I I I ?_
 refine zA (zB (wP I (Aa (zE (zA (zB ?_))))))
 refine wD (X:=Nat×Nat) I I (fun W1 _=>Fk false W1) ?_
 rintro⟨s1,r1⟩ _
 refine wD (X:=Vec) I I (fun W1 hp=>Xv Zk W1 r1 (LN hp 0 1 I I hd hv ht)) ?_
 intro V1 hV1
 obtain⟨p1,c1,e1,m1⟩:=R0 hV1
 rw[e1]
 iterate 5 refine wP I ?_
 refine Aa (zE (zA (zB ?_)))
 refine wD (X:=Nat×Nat) I I (fun W1 _=>Fk true W1) ?_
 rintro⟨s2,r2⟩ _
 refine wD (X:=Vec) I I (fun W1 hp=>Xv Zi W1 r2 (LN hp 3 4 I I hd hv ht)) ?_
 intro V2 hV2
 obtain⟨p2,c2,e2,m2⟩:=R0 hV2
 rw[e2]
 iterate 5 refine wP I ?_
 refine Aa (zE (zA (zB ?_)))
 refine wD (X:=Nat×Nat) I I (fun W1 _=>Fk true W1) ?_
 rintro⟨s3,r3⟩ _
 refine wD (X:=Vec) I I (fun W1 hp=>Z5 W1 r3 (LN hp 6 7 I I hd hv ht)) ?_
 intro V3 hV3
 obtain⟨p3,c3,e3,m3⟩:=M5 hV3
 rw[e3]
 iterate 5 refine wP I ?_
 refine Aa (zE (zA (zB ?_)))
 refine wD (X:=Nat×Nat) I I (fun W1 _=>Fk false W1) ?_
 rintro⟨s4,r4⟩ _
 refine wD (X:=Vec×Nz) I I (fun W1 hp=>Zn W1 r4 (LN hp 9 10 I I hd hv ht)) ?_
 rintro⟨V4,mk⟩ ⟨hmk,hV4⟩
 obtain⟨p4,c4,e4,m4⟩:=UB hmk hV4
 dsimp only
 rw[e4]
 iterate 5 refine wP I ?_
 refine Aa (zE (zA (zB ?_)))
 iterate 6 refine wP I ?_
 refine Ak 34 (.bool true) I I ?_
 refine wP I (wP I ?_)
 refine As Tryz.hZ tH I I I I I I I I I I I fun bA=> ?_
 refine wC I I (fun W1 hp=>(JP W1 p1 (some ⟨bA,0,none⟩) c1 2 _ [[48],[53]] (m1 hp 2 I) (Rj hp 13 I) (by decide) (by decide)).cast (v':= .bool true) (by rw[e05,dT I])) (wP I (wP I (wP I ?_)))
 refine As Tryz.hZ tH I I I I I I I I I I I fun bB=> ?_
 refine wC I I (fun W1 hp=>(JP W1 p2 (some ⟨bB,0,none⟩) c2 3 _ [[48],[53],[49,48]] (m2 hp 5 I) (Rj hp 14 I) (by decide) (by decide)).cast (v':= .bool true) (by rw[aK,dT I])) (wP I (wP I (wP I ?_)))
 refine As Tryz.hZ tH I I I I I I I I I I I fun bC=> ?_
 refine wC I I (fun W1 hp=>(JW W1 p3 (some ⟨bC,0,none⟩) c3 2 [1,3] [1,3] (m3 hp 8 I) (Wc hp 15 I) (by decide) (by decide)).cast (v':= .bool true) (by rw[dT I])) (wP I (wP I (wP I ?_)))
 refine As Tryz.hZ tH I I I I I I I I I I I fun bD=> ?_
 refine As Tryz.hZ tH I I I I I I I I I I I fun bE=> ?_
 refine As Tryz.hZ tH I I I I I I I I I I I fun bF=> ?_
 refine wC I I (fun W1 hp=>L5 W1 p4 (some ⟨bF,0,none⟩) c4 2 [(0,2),(1,3)] (by decide) (m4 hp 11 12 I I) (.inr ⟨bF,0,I,fun i hi=> ?_⟩)) ?_
 ·have hF:=An.of_bx hp 18 rfl rfl
  have:i=0∨i=1:=by have:i<2:=hi;omega
  rcases this with rfl|rfl
  ·exact⟨bD,⟨hF.lt,fun m u hu=>by
    have hm:m=0:=by have:=(List.getElem?_eq_some_iff.1 hu).1;simpa using this
    subst hm
    exact hF.get 0 u hu⟩,An.of_bx hp 16 I I⟩
  ·exact⟨bE,⟨hF.lt,fun m u hu=>by
    have hm:m=0:=by have:=(List.getElem?_eq_some_iff.1 hu).1;simpa using this
    subst hm
    exact hF.get 1 u hu⟩,An.of_bx hp 17 I I⟩
 exact wP I (wP I (Aa (zE (zO (wR1 I I I)))))
-- BOXES 4
-- CODE2
theorem M9 (l:List Nat):(iC l).length=l.length:=List.length_map _
theorem Nj (a b:List Nat):iC (a++b)=iC a++iC b:=List.map_append
theorem Xx {l:List Nat} {i:Nat} (hi:i<l.length):iC l=iC (l.take i)++([.int .i64 (l[i]:Nat)]++iC (l.drop (i+1))):=by
 conv=>lhs;rw[←List.take_append_drop i l,List.drop_eq_getElem_cons hi,Nj]
 rfl
theorem Zs {W0 W:World} {bxs:List Bx} (hp:Hp W0 bxs W) (k:Nat) {g i:Nat} {l:List Nat} {junk:List Value} (hk:nth bxs k=some ⟨g,3,iC l++junk,true,none⟩) (hi:i<l.length):An W g (0+i*1) [.int .i64 (l[i]:Nat)]:=
 CO hp k (A:=iC (l.take i)) (B:=[.int .i64 (l[i]:Nat)]) (C:=iC (l.drop (i+1))++junk) hk (by rw[Xx hi,List.append_assoc,List.append_assoc]) (by rw[M9,List.length_take];omega)
theorem Yj {l:List Nat} {junk:List Value} (i:Nat) (j:Nat) {u:Value} (h:(iC (l.take i))[j]? =some u):(iC l++junk)[j]? =some u:=by
 have e:iC l=iC (l.take i)++iC (l.drop i):=by rw[←Nj,List.take_append_drop]
 have hj:=(List.getElem?_eq_some_iff.1 h).1
 rw[e,List.append_assoc,List.getElem?_append_left hj];exact h
theorem XS {l:List Nat} {junk:List Value} (i:Nat) (hi:i≤l.length) (j:Nat) {u:Value} (h:(iC (l.drop i))[j]? =some u):(iC l++junk)[i*1+j]? =some u:=by
 have e:iC l=iC (l.take i)++iC (l.drop i):=by rw[←Nj,List.take_append_drop]
 have hj:=(List.getElem?_eq_some_iff.1 h).1
 have hl:(iC (l.take i)).length=i:=by rw[M9,List.length_take,Nat.min_eq_left hi]
 rw[e,List.append_assoc,List.getElem?_append_right (by omega),hl,Nat.mul_one,Nat.add_sub_cancel_left,List.getElem?_append_left hj];exact h
theorem X2 {l:List Nat}: ∀u∈iC l,u.oneCell'=true:=fun u hu=>by
 obtain⟨q,_,rfl⟩:=List.mem_map.1 hu
 rfl
theorem Tm (c:Nat→Nat→Int) (l:List Nat) (x:Nat):BH c (l++[x])=L0 c x (BH c l):=by
 unfold BH
 rw[List.foldl_append];rfl
theorem Uj {F:List FrP} {z:Rat} {i y:Nat} (h:y<i):Sr (fr F i) (fr F y) z=true↔Hr F z i y<0:=by
 rw[X6]
 unfold Sr
 by_cases e:(fr F i).at z=(fr F y).at z
 ·rw[if_pos e,decide_eq_true_eq]
  constructor
  ·exact fun h=> .inr ⟨e, .inl h⟩
  ·rintro(h1|⟨_,h1|⟨_,h1⟩⟩)
   ·rw[e] at h1;exact absurd h1 Rat.lt_irrefl
   ·exact h1
   ·omega
 ·rw[if_neg e,decide_eq_true_eq]
  constructor
  ·exact .inl
  ·rintro(h1|⟨h1,_⟩)
   ·exact h1
   ·exact absurd h1 e
def Gt (F:List FrP) (z:Rat) (ax:Bool) (i:Nat):List Nat:=BH (Hr F z) (Ff F ax i)
theorem V9 (F:List FrP) (z:Rat) (ax:Bool) (i:Nat):(Gt F z ax i).length≤i:=by
 unfold Gt
 rw[IC]
 exact JT F ax i
theorem Xm {F:List FrP} {z:Rat} {ax:Bool} {i y:Nat} (h:y∈Gt F z ax i):y<i:=by
 have h:=(List.mem_filter.1 (OD.1 h)).1
 exact List.mem_range.1 h
theorem Vn (F:List FrP) (z:Rat) (ax:Bool) (i:Nat):Gt F z ax (i+1)=if ((fr F i).ax==ax)=true then L0 (Hr F z) i (Gt F z ax i) else Gt F z ax i:=by
 unfold Gt
 rw[O2]
 split
 ·exact Tm _ _ _
 ·rfl
theorem PA (W:World) (p:Option Addr) (cap:Nat) (rs:List (List Sd)) (h:DZ W p rs) (z:Rat) (hz:szQ z 20) (ax:Bool):
  Ad Tryz.prog 25 #[AO p rs.length cap,str (Ac z), .bool ax] W (fun V:Vec=> .tuple #[V.val (GF (Ao rs) z ax).length, .int .i64 0]) (fun V=>V.OK 1 (GF (Ao rs) z ax).length (iC (GF (Ao rs) z ax))) (fun V=>[V.bx 3 (iC (GF (Ao rs) z ax))]):=by
 obtain⟨hne,h24,h0⟩:=DL h.c
 obtain⟨hrg,_⟩:=Cr h.c
 have hn:=h.n
 have hl:=B7 (hz.ok (by decide))
 have eF:=CR rs
 obtain⟨T,hTe⟩: ∃T,T=tot rs:=⟨_,rfl⟩
 have hTn:tot rs<1099511627776:=by omega
 rw[←hTe] at eF h24 h0
 have eO:GF (Ao rs) z ax=Gt (Ao rs) z ax T:=by rw[←eF];rfl
 rw[eO]
 refine Ab (args:=[AO p rs.length cap,str (Ac z), .bool ax]) Tryz.func25 I I I ?_
 refine zA (zB ?_)
 (refine A3 rfl rfl rfl rfl ?_;intro)
 refine wP I (wP I (Aa ?_))
 rename_i b3
 refine zE (zA (zA (zB (wB 0 I I I (wP I (wC I I (fun W1 hp=>(Fl W1 p cap rs (by omega) hTn (h.R.hp hp) (Ac z) (by omega) (h.t.hp hp)).cast (v':= .int .i64 0) (by rw[if_neg (fun e=>e h.c),QT hz])) (wP I (Aa (zE (zA (zB (wP I (wP I ?_)))))))))))))
 refine Aa (zE (zS I (zI (zE (zA (zB (wB 0 I I I ?_)))))))
 refine wD (X:=Vec) I I (fun W1 hp=>Ng W1 p cap rs (h.hp hp)) ?_
 intro F hF
 obtain⟨gF,cF,eFv,hFr⟩:=Vec.frs hF (by omega)
 rw[eFv]
 iterate 5 refine wP I ?_
 refine Aa (zE (zA (zB ?_)))
 refine BI tH I I I I I ?_
 intro gE
 refine wP I (Aa (zE (zA (zA (zB (wP I (Aa (zE (zH ?_)))))))))
 refine Ar (X:=Nat×Nat×Nat×List Value) (fun s=>[(1,str (Ac z)),(2, .bool ax),(9, .slice (some ⟨gF,0,none⟩) (Ao rs).length cF),(11, .slice (some ⟨s.2.1,0,none⟩) (Gt (Ao rs) z ax s.1).length s.2.2.1),(12, .int .i64 (s.1:Nat))])
  (fun s=>[bxE b3 24 (slv p rs.length cap),F.bx 48 (frC (Ao rs)),⟨s.2.1,3,iC (Gt (Ao rs) z ax s.1)++s.2.2.2,true,none⟩])
  (fun s=>s.1≤T∧(⟨some s.2.1,s.2.2.1,s.2.2.2⟩:Vec).OK 1 (Gt (Ao rs) z ax s.1).length (iC (Gt (Ao rs) z ax s.1))) (fun s=>T-s.1) (0,gE,0,[]) ⟨Nat.zero_le _,⟨rfl,(fun h=>by cases h),fun _=>⟨Nat.le_refl _,Nat.zero_le _,rfl⟩⟩⟩ ⟨rfl,rfl,rfl,rfl,rfl,trivial⟩ [] rfl ?_
 rintro⟨i,gO,cO,jO⟩ ⟨hi,hO⟩
 have hi:i≤T:=hi
 have hO:(⟨some gO,cO,jO⟩:Vec).OK 1 (Gt (Ao rs) z ax i).length (iC (Gt (Ao rs) z ax i)):=hO
 refine zA (zA (zB (wP I (wP I (wP I (wP I ?_))))))
 by_cases hlt:i<T
 ·refine wU 30 true I (dT (by omega)) (Aa (zE (zR I (zI (zE (zA (zH (zA (zA (zB ?_))))))))))
  have hsu:=Vn (Ao rs) z ax i
  have hol:=V9 (Ao rs) z ax i
  obtain⟨S,hS⟩: ∃S,S=Gt (Ao rs) z ax i:=⟨_,rfl⟩
  rw[←hS] at hO hsu hol
  rw[←hS]
  have hrow: ∀ {W0 W:World} {bxs:List Bx},Hp W0 bxs W→ ∀k,nth bxs k=some (F.bx 48 (frC (Ao rs)))→ ∀m,m<T→An W gF (0+m*5) (frV (fr (Ao rs) m)).cells.toList:=fun hp k hk m hm=>hFr hp k hk m _ (Fj (by omega))
  have hok: ∀m,m<T→(fr (Ao rs) m).OK:=fun m hm=>(Es hrg (Fe (by omega))).ok
  have hmem: ∀y∈S,y<i:=fun y hy=>by rw[hS] at hy;exact Xm hy
  refine wP I (wP I ?_)
  refine wJ ?_
  refine wP I (wL 0 I I (fun W1 hp=>hrow hp 1 I i hlt) I (wP I ?_))
  refine CX Tryz.underlying4 I I I I I I ?_
  by_cases hax:(fr (Ao rs) i).ax=ax
  rotate_left
  ·rw[if_neg (by rw[beq_iff_eq];exact hax)] at hsu
   exact wU 39 true rfl (by cases h1:(fr (Ao rs) i).ax<;>cases h2:ax<;>simp_all) (Aa (zE (zR rfl (zJ (zK (zL (zE (zB (wP rfl (wP rfl (wV 32 ((i+1:Nat):Int) rfl (At (by omega)) (wP rfl (Aa (Al (i+1,gO,cO,jO) ⟨hlt,by show(⟨some gO,cO,jO⟩:Vec).OK 1 (Gt (Ao rs) z ax (i+1)).length (iC (Gt (Ao rs) z ax (i+1)));rw[hsu];exact hO⟩ (by show T-(i+1)<T-i;omega) ⟨rfl,rfl,rfl,(by show _=some (Value.slice (some ⟨gO,0,none⟩) (Gt (Ao rs) z ax (i+1)).length cO);rw[hsu];rfl),rfl,trivial⟩ [] (by show _=[_,_,(⟨gO,3,iC (Gt (Ao rs) z ax (i+1))++jO,true,none⟩:Bx)]++[];rw[hsu];rfl)))))))))))))))
  rw[if_pos (by rw[beq_iff_eq];exact hax)] at hsu
  refine wU 39 false I (by rw[hax];simp) (Aa (zE (zS I (zI (zE (zA (zB (wP I (wP I (wP I (Aa (A0 (Au ?_)))))))))))))
  refine A8 (X:=Nat) (fun j=>[(1,str (Ac z)),(2, .bool ax),(9, .slice (some ⟨gF,0,none⟩) (Ao rs).length cF),(11, .slice (some ⟨gO,0,none⟩) S.length cO),(12, .int .i64 (i:Nat)),(13, .int .i64 (j:Nat))])
   (fun _=>[bxE b3 24 (slv p rs.length cap),F.bx 48 (frC (Ao rs)),⟨gO,3,iC S++jO,true,none⟩]) (fun j=>j≤S.length∧(∀y∈S.drop j,Hr (Ao rs) z i y<0)∧(∀(_:0<j) (hl:j-1<S.length), ¬Hr (Ao rs) z i S[j-1]<0)) ?_ ?_
  ·refine zH ?_
   refine Ar (X:=Nat) (fun j=>[(1,str (Ac z)),(2, .bool ax),(9, .slice (some ⟨gF,0,none⟩) (Ao rs).length cF),(11, .slice (some ⟨gO,0,none⟩) S.length cO),(12, .int .i64 (i:Nat)),(13, .int .i64 (j:Nat))])
    (fun _=>[bxE b3 24 (slv p rs.length cap),F.bx 48 (frC (Ao rs)),⟨gO,3,iC S++jO,true,none⟩]) (fun j=>j≤S.length∧ ∀y∈S.drop j,Hr (Ao rs) z i y<0) (fun j=>j) S.length ⟨Nat.le_refl _,fun y hy=>by rw[List.drop_length] at hy;cases hy⟩ ⟨rfl,rfl,rfl,rfl,rfl,rfl,trivial⟩ [] rfl ?_
   rintro j ⟨hj,hlow⟩
   have hj:j≤S.length:=hj
   refine zA (zA (zU (qP I (qP I ?_))))
   by_cases hj0:0<j
   ·obtain⟨m,hm⟩: ∃m,m=j-1:=⟨_,rfl⟩
    have hml:m<S.length:=by omega
    obtain⟨y,hy⟩: ∃y,y=S[m]:=⟨_,rfl⟩
    have hyi:y<i:=hmem y (by rw[hy];exact List.getElem_mem hml)
    refine qU 43 true I (dT (by omega)) (qP I (qP I (qP I ?_)))
    refine qJ ?_
    refine qL 0 I I (fun W1 hp=>hrow hp 1 I i hlt) I (qP I (qP I (qP I (qP I (qV 52 (m:Nat) I ((Ai (by omega) (by omega)).trans (by omega)) ?_)))))
    refine qJ ?_
    refine qL 0 I I (fun W1 hp=>(show An W1 gO (0+m*1) [.int .i64 (y:Nat)] by rw[hy];exact Zs hp 2 I hml)) I ?_
    refine qJ ?_
    refine qL 0 I I (fun W1 hp=>hrow hp 1 I y (by omega)) I (qP I (qC I I (fun W1 hp=>NU (fr (Ao rs) i) (fr (Ao rs) y) (hok i hlt) (hok y (by omega)) z (hz.mono (by decide)) W1 (h.t.hp hp)) (qP I (A4 (Aa (zE ?_))))))
    refine Af I (fun hc=> ?_) (fun hc=> ?_)
    ·have hc:Hr (Ao rs) z i y<0:=(Uj hyi).1 hc
     refine zI (zE (zH (zB (wP I (wP I (wV 61 (m:Nat) I ((Ai (by omega) (by omega)).trans (by omega)) (wP I (Aa (zN ?_)))))))))
     exact Al m ⟨by show m≤S.length;omega,fun x hx=>(by
      rw[List.drop_eq_getElem_cons hml,List.mem_cons, ←hy,show m+1=j by omega] at hx
      rcases hx with e|e
      ·rw[e];exact hc
      ·exact hlow x e)⟩ (by show m<j;omega) ⟨I,I,I,I,I,I,O⟩ [] I
    ·have hc: ¬Hr (Ao rs) z i y<0:=fun e=>by
      have h1:=(Uj hyi).2 e
      rw[hc] at h1;cases h1
     refine zJ (zK (zK (zL ?_)))
     exact Aj j ⟨hj,hlow,fun _ hl=>(by
      have e:S[j-1]=y:=by rw[hy];simp only[hm]
      rw[e];exact hc)⟩ ⟨rfl,rfl,rfl,rfl,rfl,rfl,trivial⟩ [] rfl
   ·refine qU 43 false I (dF (by omega)) (qP I ?_)
    iterate 14 refine BA I I ?_
    exact qP I (A4 (Aa (zE (zS I (zJ (zK (zK (zL (Aj j ⟨hj,hlow,fun h=>absurd h hj0⟩ ⟨I,I,I,I,I,I,O⟩ [] I)))))))))
  rintro j ⟨hj,hlow,hup⟩
  have hj:j≤S.length:=hj
  have hins:=OV (c:=Hr (Ao rs) z) hj hlow fun h0=>hup h0 (by omega)
  rw[hins] at hsu
  have hcap:=(hO.cap (by simp)).1
  have hcap:S.length≤cO:=hcap
  refine zA (zB ?_)
  refine BI tH I I I I I ?_
  intro g0
  refine wP I (wP I ?_)
  refine CN j tH I I I I I I I I (by omega) ?_
  refine CW (V:=⟨some g0,0,[]⟩) (len:=0) (xs:=[]) (news:=iC (S.take j)) 3 Tryz.vec35 rfl rfl rfl rfl rfl rfl rfl rfl rfl ⟨rfl,(fun h=>by cases h),fun _=>⟨Nat.le_refl _,Nat.zero_le _,rfl⟩⟩ (by rw[M9,List.length_take];omega) (fun W1 hp n u hu=>by rw[Addr.add_none];exact(An.of_bx hp 2 rfl rfl).get n u (Yj j n hu)) X2 (by simp only[maxLen];omega) (by omega) ?_
  intro V1 hV1 _
  refine wP I (Aa (zE (zA (zB (wP I (wP I ?_))))))
  refine As Tryz.hZ tH I I I I I I I I I I I fun bS=> ?_
  refine AB (V:=V1) (len:=0+j) (xs:=iC (S.take j)) 3 4 Tryz.vec35 (j+1) (iC (S.take j++[i])) I I I I I I I I I I I hV1 I I (by omega) (by rw[Nj];rfl) (by simp only[maxLen];omega) (by omega) I ?_
  intro g2 c2 j2 hV2
  refine wP I (Aa (zE (zB (wP I (wP I (wP I ?_))))))
  refine Bw j tH I I I I I I I I hj hcap ?_
  refine CW (V:=⟨some g2,c2,j2⟩) (len:=j+1) (xs:=iC (S.take j++[i])) (news:=iC (S.drop j)) 3 Tryz.vec35 I I I I I I I I I hV2 (by rw[M9,List.length_drop];omega) (fun W1 hp n u hu=>by
   have hn:=(List.getElem?_eq_some_iff.1 hu).1
   rw[M9,List.length_drop] at hn
   have h:=(An.of_bx hp 2 rfl rfl).get (j*1+n) u (XS j hj n hu)
   rw[Addr.add_none,if_neg (show¬cO=j by omega)]
   rw[←Nat.add_assoc] at h
   exact h) X2 (by simp only[maxLen];omega) (by omega) ?_
  intro V3 hV3 _
  obtain⟨p3,c3,j3⟩:=V3
  cases p3 with
  |none=>exact absurd (hV3.nil rfl) (by omega)
  |some g3=>
   have el:(Gt (Ao rs) z ax (i+1)).length=j+1+(S.length-j):=by
    rw[hsu,List.length_append,List.length_cons,List.length_take,List.length_drop]
    omega
   have ex:iC (Gt (Ao rs) z ax (i+1))=iC (S.take j++[i])++iC (S.drop j):=by rw[hsu, ←Nj,List.append_assoc];rfl
   rw[←el, ←ex] at hV3
   rw[←el, ←ex]
   exact wP I (Aa (zN (zE (zB (wP I (wP I (wV 32 ((i+1:Nat):Int) I (At (by omega)) (wP I (Aa (Cu (i+1,g3,c3,j3) ⟨hlt,hV3⟩ (by show T-(i+1)<T-i;omega) ⟨I,I,I,I,I,O⟩ fun W1 hp=>hp.pick [0,1,3] (by decide) I))))))))))
 ·have e:i=T:=by omega
  subst e
  refine wU 30 false I (dF (by omega)) (Aa (zE (zS I (zJ (zK (zK (zL (zE (zA (zB (wP I (wP I (wP I ?_)))))))))))))
  exact Aa (zE (zO (AK tH I (.tmp I) (.tmp I) (⟨some gO,cO,jO⟩:Vec) I hO fun W1 hp=>Av.of_hp1 hp 2 I)))
-- BOXES 4
-- CODE2
theorem Oq {P:Program} {f:Nat} {args:Array Value} {W:World} {v:Value} (h:Ad P f args W (fun _:Unit=>v) (fun _=>True) (fun _=>[])) {X:Type} {val:X→Value} {Φ:X→Prop} {nb:X→List Bx} (x:X) (hv:v=val x) (hx:Φ x) (hnb: ∀W',Av W W' (nb x)):Ad P f args W val Φ nb:=by
 refine⟨h.out.mono fun e W' h1=> ?_⟩
 obtain⟨_,he,_,hb,_⟩:=h1
 exact⟨x,by rw[he,hv],hx,hb,hnb W'⟩
theorem R3 (W W':World):Av W W' [DD]:=Own.one (fun p hp=>by cases hp) List.nodup_nil
theorem Z8 (rs:List (List Sd)) (z:Rat): ∃k,k≤(Bi rs).length∧(∀j (hj:j<(Bi rs).length),j<k→(Bi rs)[j]≤z)∧(∀hj:k<(Bi rs).length,z<(Bi rs)[k]):=by
 have hs:=Lc rs
 refine⟨((Bi rs).filter fun a=>decide (a≤z)).length,List.length_filter_le .., ?_, ?_⟩
 all_goals
  have key: ∀(l:List Rat),l.Pairwise (· < ·)→(∀j (hj:j<l.length),j<(l.filter fun a=>decide (a≤z)).length→l[j]≤z)∧(∀hj:(l.filter fun a=>decide (a≤z)).length<l.length,z<l[(l.filter fun a=>decide (a≤z)).length]):=by
   intro l
   induction l with
   |nil=>exact fun _=>⟨fun j hj=>absurd hj (by simp),fun hj=>absurd hj (by simp)⟩
   |cons x l ih=>
    intro hp
    obtain⟨hx,hp⟩:=List.pairwise_cons.1 hp
    obtain⟨i1,i2⟩:=ih hp
    by_cases hz:x≤z
    ·have e:((x::l).filter fun a=>decide (a≤z))=x::l.filter fun a=>decide (a≤z):=by rw[List.filter_cons,if_pos (dT hz)]
     refine⟨fun j hj hk=> ?_,fun hj=> ?_⟩
     ·rw[e,List.length_cons] at hk
      cases j with
      |zero=>exact hz
      |succ j=>exact i1 j (by simpa using hj) (by omega)
     ·have hj2:=hj
      rw[e,List.length_cons,List.length_cons] at hj2
      have h3:=i2 (by omega)
      simp only[e,List.length_cons,List.getElem_cons_succ]
      exact h3
    ·have e:((x::l).filter fun a=>decide (a≤z))=[]:=by
      rw[List.filter_cons,if_neg (by simpa using hz)]
      refine List.filter_eq_nil_iff.2 fun y hy=> ?_
      have:=hx y hy
      have h4: ¬y≤z:=fun h=>hz (Rat.le_trans (Rat.le_of_lt this) h)
      simpa using h4
     refine⟨fun j hj hk=> ?_,fun hj=> ?_⟩
     ·rw[e] at hk;exact absurd hk (Nat.not_lt_zero _)
     ·simp only[e,List.length_nil,List.getElem_cons_zero]
      exact Rat.not_le.1 hz
 ·exact(key _ hs).1
 ·exact(key _ hs).2
theorem VA {rs:List (List Sd)} (a:List UInt8) (hl:a.length≤4000000000): ∃(b:List UInt8) (c:Bool) (e:Int), ∀(W:World) (p:Option Addr) (cap:Nat),Gf W p rs→
  Ad Tryz.prog 22 #[AO p rs.length cap,str a] W (fun _:Unit=> .tuple #[str b, .bool c, .int .i64 e]) (fun _=>True) (fun _=>[])∧
  Ad Tryz.prog 23 #[AO p rs.length cap,str a] W (fun _:Unit=> .tuple #[str b, .bool c, .int .i64 e]) (fun _=>True) (fun _=>[]):=by
 by_cases he:HF rs a=0
 ·obtain⟨hc,z,hz,rfl⟩:=OT he
  obtain⟨k,hk,h1,h2⟩:=Z8 rs z
  by_cases hkl:k<(Bi rs).length
  ·exact⟨Ac (Oe rs k),true,0,fun W p cap h=>⟨(Li W p cap rs (h.w hc) z hz k hk h1 h2).cast (by rw[if_pos hkl]),(KT W p cap rs (h.w hc) z hz k hk h1 h2).cast (by rw[if_pos hkl])⟩⟩
  ·exact⟨[],false,0,fun W p cap h=>⟨(Li W p cap rs (h.w hc) z hz k hk h1 h2).cast (by rw[if_neg hkl]),(KT W p cap rs (h.w hc) z hz k hk h1 h2).cast (by rw[if_neg hkl])⟩⟩
 ·exact⟨[],false,HF rs a,fun W p cap h=>⟨W4 W p cap rs h a hl he,Xh W p cap rs h a hl he⟩⟩
theorem UI {rs:List (List Sd)} (hg:grt rs 12=false) (a:List UInt8) (hl:a.length≤4000000000) (ax:Bool): ∃(L:List Nat) (e:Int),L.length≤24∧ ∀(W:World) (p:Option Addr) (cap:Nat),Gf W p rs→
  Ad Tryz.prog 24 #[AO p rs.length cap,str a, .bool ax] W (fun V:Vec=> .tuple #[V.val L.length, .int .i64 e]) (fun V=>V.OK 1 L.length (iC L)) (fun V=>[V.bx 3 (iC L)])∧
  Ad Tryz.prog 25 #[AO p rs.length cap,str a, .bool ax] W (fun V:Vec=> .tuple #[V.val L.length, .int .i64 e]) (fun V=>V.OK 1 L.length (iC L)) (fun V=>[V.bx 3 (iC L)]):=by
 by_cases he:HF rs a=0
 ·obtain⟨hc,z,hz,rfl⟩:=OT he
  have h24:=(DL hc).2.1
  have h12:tot rs≤12:=by
   unfold grt at hg
   simp only[Bool.or_eq_false_iff,Bool.and_eq_false_iff,decide_eq_false_iff_not] at hg
   omega
  refine⟨GF (Ao rs) z ax,0, ?_,fun W p cap h=>⟨Kf W p cap rs (h.w hc) h12 z hz ax,PA W p cap rs (h.w hc) z hz ax⟩⟩
  have h1:=JT (Ao rs) ax (Ao rs).length
  have h2:=CR rs
  unfold GF
  rw[IC]
  have h3:(upr (Ao rs) ax).length≤(Ao rs).length:=h1
  omega
 ·exact⟨[],HF rs a,by decide,fun W p cap h=>⟨Oq (Ve W p cap rs h a hl ax he) Vec.empty I (Vec.OK.empty 1) fun W'=>R3 _ _,Oq (UU W p cap rs h a hl ax he) Vec.empty I (Vec.OK.empty 1) fun W'=>R3 _ _⟩⟩
def UW (a:List UInt8):Bool:=(decide (30<a.length)&&decide (a.length<299))||decide (604<a.length)
theorem Pn (a:List UInt8) (W:World):Ad Tryz.prog 46 #[str a] W (fun _:Unit=> .bool (UW a)) (fun _=>True) (fun _=>[]):=by
 refine Ab (args:=[str a]) Tryz.func46 I I I ?_
 refine zA (zB (wP I (Aa (zE (zA (zB (wP I (wP I ?_))))))))
 refine Ak 4 (.int .i64 (a.length:Nat)) I (congrArg (fun n:Nat=>Value.int .i64 (n:Int)) (Az _)) ?_
 refine wP I ?_
 by_cases h1:30<a.length
 ·refine wU 5 true I (dT (by omega)) (wP I (wP I (wP I ?_)))
  refine Ak 8 (.int .i64 (a.length:Nat)) I (congrArg (fun n:Nat=>Value.int .i64 (n:Int)) (Az _)) ?_
  refine wP I ?_
  by_cases h2:a.length<299
  ·refine wU 9 true I (dT (by omega)) (wP I (wP I ?_))
   iterate 3 refine Ae I I ?_
   exact wP I (wP I (Aa (zE (zO (wR1 I I (by unfold UW;rw[dT h1,dT h2];rfl))))))
  ·refine wU 9 false I (dF (by omega)) (wP I (wP I (wP I (wP I ?_))))
   refine Ak 13 (.int .i64 (a.length:Nat)) I (congrArg (fun n:Nat=>Value.int .i64 (n:Int)) (Az _)) ?_
   exact wP I (wU 14 (decide (604<a.length)) I (decide_eq_decide.2 (by omega)) (wP I (wP I (Aa (zE (zO (wR1 I I (by unfold UW;rw[dT h1,dF h2];rfl))))))))
 ·refine wU 5 false I (dF (by omega)) (wP I ?_)
  iterate 3 refine Ae I I ?_
  refine wP I (wP I (wP I (wP I ?_)))
  refine Ak 13 (.int .i64 (a.length:Nat)) I (congrArg (fun n:Nat=>Value.int .i64 (n:Int)) (Az _)) ?_
  exact wP I (wU 14 (decide (604<a.length)) I (decide_eq_decide.2 (by omega)) (wP I (wP I (Aa (zE (zO (wR1 I I (by unfold UW;rw[dF h1];rfl))))))))
theorem PJ (W:World) (p:Option Addr) (cap:Nat) (rs:List (List Sd)) (h:Gf W p rs) (a:List UInt8):Ad Tryz.prog 7 #[AO p rs.length cap,str a] W (fun _:Unit=> .bool (grt rs 12||UW a)) (fun _=>True) (fun _=>[]):=by
 have hn:=h.n
 have hT:=h.T
 refine Ab (args:=[AO p rs.length cap,str a]) Tryz.func7 I I I ?_
 refine zA (zB ?_)
 (refine A3 rfl rfl rfl rfl ?_;intro)
 refine wP I (Aa (zE (zA (zB (wB 0 I I I (wC I I (fun W1 hp=>Re W1 p cap rs 12 (by omega) (by omega) (h.R.hp hp)) ?_))))))
 cases hg:grt rs 12 with
 |true=>
  refine wP I ?_
  iterate 2 refine Ae I I ?_
  exact wP I (wP I (Aa (zE (zO (wR1 I I I)))))
 |false=>
  exact wP I (wP I (wC I I (fun W1 _=>Pn a W1) (wP I (wP I (Aa (zE (zO (wR1 I I I))))))))
-- BOXES 9
-- CODE2
theorem Ok (W:World) (p:Option Addr) (cap:Nat) (rs:List (List Sd)) (a:List UInt8) (hl:a.length≤4000000000) (ax:Bool) (h:Gf W p rs):
  Ad Tryz.prog 4 #[AO p rs.length cap,str a, .bool ax] W (fun _:Unit=> .bool true) (fun _=>True) (fun _=>[]):=by
 obtain⟨bN,cN,eN,hN⟩:=VA (rs:=rs) a hl
 refine Ab (args:=[AO p rs.length cap,str a, .bool ax]) Tryz.func4 I I I ?_
 refine zA (zB ?_)
 (refine A3 rfl rfl rfl rfl ?_;intro)
 refine wP I (Aa (zE (zA (zA (zB (wB 0 I I I (wP I (wC I I (fun W1 hp=>PJ W1 p cap rs (h.hp hp) a) (Aa (zE ?_))))))))))
 refine Af I (fun hg=> ?_) (fun hg=> ?_)
 ·exact zA (zB (wC I I (fun W1 hp=>J7 W1 (h.d.hp hp) (h.v.hp hp) (h.t.hp hp)) (wP I (Aa (zE (zO (zP (wR1 I I I))))))))
 have hg:(grt rs 12||UW a)=false:=hg
 obtain⟨LO,eO,nO,hO⟩:=UI (rs:=rs) (Bool.or_eq_false_iff.1 hg).1 a hl ax
 refine zI (zE (zA (zB (wB 0 I I I (wP I (wC I I (fun W1 hp=>(hN W1 p cap (h.hp hp)).1) ?_))))))
 iterate 7 refine wP I ?_
 refine Aa (zE (zA (zB (wB 0 I I I (wP I (wC I I (fun W1 hp=>(hN W1 p cap (h.hp hp)).2) ?_))))))
 iterate 7 refine wP I ?_
 refine Aa (zE (zA (zB (wB 0 I I I (wP I (wP I ?_))))))
 refine wD (X:=Vec) I I (fun W1 hp=>(hO W1 p cap (h.hp hp)).1) ?_
 intro S1 hS1
 obtain⟨p3,c3,e3,hr3⟩:=M5 hS1
 rw[e3]
 iterate 5 refine wP I ?_
 refine Aa (zE (zA (zB (wB 0 I I I (wP I (wP I ?_))))))
 refine wD (X:=Vec) I I (fun W1 hp=>(hO W1 p cap (h.hp hp)).2) ?_
 intro S2 hS2
 obtain⟨p4,c4,e4,hr4⟩:=M5 hS2
 rw[e4]
 iterate 5 refine wP I ?_
 refine Aa (zE (zA (zB (wP I (wP I (wP I (wU 51 true I (by rw[AH];exact dT I) (wP I (wP I (wP I ?_))))))))))
 refine CX Tryz.underlying4 I I I I I I ?_
 refine wU 55 true I (by simp) ?_
 iterate 5 refine wP I ?_
 refine wU 60 true I (beq_self_eq_true eN) (wP I (wP I (wP I (wP I (wC I I (fun W1 hp=>(JW W1 p3 p4 c3 c4 LO LO (hr3 hp 1 I) (hr4 hp 2 I) (by omega) (by omega)).cast (v':= .bool true) (by rw[dT I])) ?_)))))
 iterate 5 refine wP I ?_
 exact wU 70 true I (beq_self_eq_true eO) (wP I (wP I (wC I I (fun W1 hp=>J7 W1 (h.d.hp hp) (h.v.hp hp) (h.t.hp hp)) (wP I (wP I (Aa (zE (zO (wR1 I I I)))))))))
end
section
open Go Go.RowKit Go.Am Go.ChangeShapes Go.WideShapes Go.Deep
set_option maxRecDepth 10000
theorem c42:Tryz.prog.cellsOf 80=7:=by kernel_rfl
theorem c27:Tryz.prog.cellsOf 76=1:=by kernel_rfl
theorem c24:Tryz.prog.cellsOf 24=1:=by kernel_rfl
theorem c22:Tryz.prog.cellsOf 22=1:=by kernel_rfl
theorem c3:Tryz.prog.cellsOf 3=1:=by kernel_rfl
theorem c4:Tryz.prog.cellsOf 4=1:=by kernel_rfl
theorem Na {H:Type} (d:DataW H):1≤Rows.uptoBulk d:=by
 cases d with
 |lit l=>cases l<;>simp[Rows.uptoBulk]
 |nil=>simp[Rows.uptoBulk]
 |ptr d=>simp[Rows.uptoBulk]
 |slice elems spare=>simp[Rows.uptoBulk]
 |agg parts=>simp[Rows.uptoBulk]
 |iface t d=>simp[Rows.uptoBulk]
 |map entries=>simp[Rows.uptoBulk]
 |held h=>simp[Rows.uptoBulk]
theorem VW {H:Type} (l:List (DataW H)):l.length≤Rows.uptoBulkAll l:=by
 induction l with
 |nil=>simp[Rows.uptoBulkAll]
 |cons x r ih=>have:=Na x;simp only[Rows.uptoBulkAll,List.length_cons];omega
theorem WV {H:Type} {A:Type} (L:A→Nat) (D:A→DataW H) (is:List A) (h: ∀i,i∈is→L i+1≤Rows.uptoBulk (D i)):
  (is.map L).sum+is.length≤Rows.uptoBulkAll (is.map D):=by
 induction is with
 |nil=>simp[Rows.uptoBulkAll]
 |cons x r ih=>
  have h1:=h x (.head _)
  have h2:=ih fun i hi=>h i (.tail _ hi)
  simp only[List.map_cons,List.sum_cons,List.length_cons,Rows.uptoBulkAll]
  omega
theorem N7 {H:Type} (e s:List (DataW H)):Rows.uptoBulkAll e+1≤Rows.uptoBulk (.slice e s):=by
 simp only[Rows.uptoBulk];omega
theorem Tw {w:World} {a:Addr} {v:Value} (h:w.cell? a=some v):a.spot=none∧a.block<w.heap.size:=by
 unfold World.cell? at h
 split at h
 ·rename_i hb
  refine⟨?_, ?_⟩
  ·cases hs:a.spot with
   |none=>rfl
   |some k=>simp[hs] at h
  ·exact(Array.getElem?_eq_some_iff.1 hb).1
 ·cases h
theorem Ka {w:World} {base n:Nat} {a:Addr} {cs:List Value} (h:w.cells? base a n=some cs) (hn:0<n):a.spot=none∧An w a.block a.off cs:=by
 obtain⟨_,hl,hg⟩:=World.cells?_some h
 have h0:=hg 0 hn
 have hv:cs[0]? =some cs[0]:=List.getElem?_eq_getElem (by omega)
 rw[hv] at h0
 have hp:=Tw h0
 have hs:a.spot=none:=by simpa[Addr.add] using hp.1
 refine⟨hs,⟨by simpa[Addr.add] using hp.2,fun j x hx=> ?_⟩⟩
 have hj:j<n:=by rw[←hl];exact(List.getElem?_eq_some_iff.1 hx).1
 rw[←hx, ←hg j hj]
 congr 1
 unfold Addr.add
 split
 ·subst_vars;cases a;simp_all
 ·rfl
theorem TF {a:Addr} (hs:a.spot=none) (n:Nat):a.add n=⟨a.block,a.off+n,none⟩:=by
 unfold Addr.add
 split
 ·subst_vars;cases a;simp_all
 ·rfl
def Sd.in64 (s:Sd):Prop:= ∀z∈[s.x,s.y,s.rise,s.run,s.plate,s.over], -9223372036854775808≤z∧z≤9223372036854775807
section
variable {H:Type} {enc:TypeId×Value→H} {w:World} {base:Nat} {spare:Nat→Bool} {held:Bool} {fuel:Nat} {cs:List Value} {x:DataW H×List MemPlace}
theorem XI (h:DataW.trod enc Tryz.prog w base spare held fuel 80 cs=some x): ∃s:Sd,cs=s.cells∧s.in64:=by
 obtain⟨xs,m,rfl,rfl,hl,hx,hf⟩:=DataW.trod_struct Tryz.underlying80 h
 rw[c42] at hl
 have g: ∀(i:Nat) (o t:Nat) (f:Field),(match Tryz.prog.underlying 80 with|some (.struct fs)=>fs[i]? |_=>none)=some f→f.offset=o→f.type=t→
   ∃y,DataW.trod enc Tryz.prog w base spare held m t ((cs.drop o).take (Tryz.prog.cellsOf t))=some y:=by
  intro i o t f hi ho ht
  rw[Tryz.underlying80] at hi
  subst ho;subst ht
  have h1:=hf i f hi
  have h2:i<xs.length:=by rw[hx];exact(Array.getElem?_eq_some_iff.1 hi).1
  rw[List.getElem?_eq_getElem h2] at h1
  exact⟨_,h1⟩
 match cs,hl with
 |[v0,v1,v2,v3,v4,v5,v6],_=>
  have gi: ∀(i o:Nat) (f:Field) (v:Value),(match Tryz.prog.underlying 80 with|some (.struct fs)=>fs[i]? |_=>none)=some f→f.offset=o→f.type=3→([v0,v1,v2,v3,v4,v5,v6].drop o).take 1=[v]→
    ∃z,v= .int .i64 z∧ -9223372036854775808≤z∧z≤9223372036854775807:=by
   intro i o f v h1 h2 h3 h4
   obtain⟨y,hy⟩:=g i o 3 f h1 h2 h3
   rw[c3,h4] at hy
   obtain⟨z,e1,_,hw⟩:=DataW.trod_int Tryz.underlying3 hy
   refine⟨z,by simpa using e1, ?_⟩
   simpa[Lit.wf,IntKind.min,IntKind.max,IntKind.signed,IntKind.bits] using hw
  obtain⟨z0,rfl,b0⟩:=gi 0 0 _ v0 (by rw[Tryz.underlying80];rfl) rfl rfl rfl
  obtain⟨z1,rfl,b1⟩:=gi 1 1 _ v1 (by rw[Tryz.underlying80];rfl) rfl rfl rfl
  obtain⟨z2,rfl,b2⟩:=gi 2 2 _ v2 (by rw[Tryz.underlying80];rfl) rfl rfl rfl
  obtain⟨z3,rfl,b3⟩:=gi 3 3 _ v3 (by rw[Tryz.underlying80];rfl) rfl rfl rfl
  obtain⟨z5,rfl,b5⟩:=gi 5 5 _ v5 (by rw[Tryz.underlying80];rfl) rfl rfl rfl
  obtain⟨z6,rfl,b6⟩:=gi 6 6 _ v6 (by rw[Tryz.underlying80];rfl) rfl rfl rfl
  obtain⟨y4,hy4⟩:=g 4 4 4 _ (by rw[Tryz.underlying80];rfl) rfl rfl
  rw[c4] at hy4
  obtain⟨z4,e4,_⟩:=DataW.trod_bool Tryz.underlying4 hy4
  obtain rfl:v4= .bool z4:=by simpa using e4
  refine⟨⟨z0,z1,z2,z3,z4,z5,z6⟩,I, ?_⟩
  intro z hz
  simp only[List.mem_cons,List.not_mem_nil,or_false] at hz
  rcases hz with rfl|rfl|rfl|rfl|rfl|rfl<;>assumption
theorem Uy (h:DataW.trod enc Tryz.prog w base spare held fuel 76 cs=some x):
  ∃(p:Option Addr) (cap:Nat) (l:List Sd),cs=[slv p l.length cap]∧BW w p l∧(∀s∈l,s.in64)∧l.length+1≤Rows.uptoBulk x.1:=by
 rcases open_slice Tryz.underlying76 h with⟨rfl,rfl⟩|⟨a,len,cap,m,n,D,Pl,rfl,_,hl,_,hm,rfl,hx⟩
 ·exact⟨none,0,[],rfl, .inl rfl,(fun _ hs=>by cases hs),Na _⟩
 have hlm:len≤m:=by rw[hm];split<;>omega
 obtain⟨S,hS⟩:=choose_lt (α:=Sd) (n:=len) (p:=fun i s=>w.cells? base (a.add (i*7)) 7=some s.cells∧s.in64) fun i hi=>by
  obtain⟨cs',h1,h2⟩:=hx i (by omega)
  rw[c42] at h1
  obtain⟨s,rfl,h3⟩:=XI h2
  exact⟨s,h1,h3⟩
 refine⟨some a,cap,(List.range len).map S,by simp, ?_, ?_, ?_⟩
 ·by_cases h0:len=0
  ·subst h0;exact .inl rfl
  ·have hs:a.spot=none:=by simpa[Addr.add] using(Ka (hS 0 (by omega)).1 (by decide)).1
   refine .inr ⟨a.block,a.off,by cases a;simp_all,⟨fun i s hi=> ?_⟩⟩
   simp only[List.getElem?_map,Option.map_eq_some_iff] at hi
   obtain⟨k,hk,rfl⟩:=hi
   have hk':i<len∧k=i:=by
    have:=List.getElem?_eq_some_iff.1 hk
    obtain⟨h1,h2⟩:=this
    simp at h1 h2
    exact⟨h1,h2.symm⟩
   obtain⟨h1,rfl⟩:=hk'
   have:=(Ka (hS k h1).1 (by decide)).2
   rwa [TF hs] at this
 ·intro s hs
  simp only[List.mem_map,List.mem_range] at hs
  obtain⟨i,hi,rfl⟩:=hs
  exact(hS i hi).2
 ·have h1:=VW ((List.range len).map D)
  have h2:=N7 ((List.range len).map D) ((List.range (m-len)).map fun j=>D (len+j))
  simp only[List.length_map,List.length_range] at h1⊢
  omega
theorem SH (h:DataW.trod enc Tryz.prog w base spare held fuel 22 cs=some x):
  ∃(p:Option Addr) (cap:Nat) (rs:List (List Sd)),cs=[slv p rs.length cap]∧BD w p rs∧(∀l∈rs, ∀s∈l,s.in64)∧tot rs+rs.length+1≤Rows.uptoBulk x.1:=by
 rcases open_slice Tryz.underlying22 h with⟨rfl,rfl⟩|⟨a,len,cap,m,n,D,Pl,rfl,_,hl,_,hm,rfl,hx⟩
 ·exact⟨none,0,[],rfl, .inl rfl,(fun _ hs=>by cases hs),Na _⟩
 have hlm:len≤m:=by rw[hm];split<;>omega
 obtain⟨L,hL⟩:=choose_lt (α:=List Sd) (n:=len) (p:=fun i l=> ∃q c,w.cells? base (a.add (i*1)) 1=some [slv q l.length c]∧BW w q l∧(∀s∈l,s.in64)∧l.length+1≤Rows.uptoBulk (D i)) fun i hi=>by
  obtain⟨cs',h1,h2⟩:=hx i (by omega)
  rw[c27] at h1
  obtain⟨q,c,l,rfl,h3,h4,h5⟩:=Uy h2
  exact⟨l,q,c,h1,h3,h4,h5⟩
 refine⟨some a,cap,(List.range len).map L,by simp, ?_, ?_, ?_⟩
 ·by_cases h0:len=0
  ·subst h0;exact .inl rfl
  ·obtain⟨q0,c0,h00,_⟩:=hL 0 (by omega)
   have hs:a.spot=none:=by simpa[Addr.add] using(Ka h00 (by decide)).1
   refine .inr ⟨a.block,a.off,by cases a;simp_all,⟨fun i l hi=> ?_⟩⟩
   simp only[List.getElem?_map,Option.map_eq_some_iff] at hi
   obtain⟨k,hk,rfl⟩:=hi
   have hk':i<len∧k=i:=by
    obtain⟨h1,h2⟩:=List.getElem?_eq_some_iff.1 hk
    simp at h1 h2
    exact⟨h1,h2.symm⟩
   obtain⟨h1,rfl⟩:=hk'
   obtain⟨q,c,h2,h3,_⟩:=hL k h1
   have:=(Ka h2 (by decide)).2
   rw[TF hs] at this
   exact⟨q,c,this,h3⟩
 ·intro l hl'
  simp only[List.mem_map,List.mem_range] at hl'
  obtain⟨i,hi,rfl⟩:=hl'
  obtain⟨_,_,_,_,h3,_⟩:=hL i hi
  exact h3
 ·have h1:=WV (fun i=>(L i).length) D (List.range len) fun i hi=>by
   obtain⟨_,_,_,_,_,h3⟩:=hL i (by simpa using hi)
   exact h3
  have h2:=N7 ((List.range len).map D) ((List.range (m-len)).map fun j=>D (len+j))
  simp only[tot,List.map_map,List.length_map,List.length_range] at h1⊢
  have h3:(List.range len).map (List.length∘L)=(List.range len).map fun i=>(L i).length:=rfl
  rw[h3]
  show _≤Rows.uptoBulk (DataW.slice _ _)
  omega
end
section
variable {H:Type} {enc:TypeId×Value→H} {w:World} {base:Nat} {spare:Nat→Bool} {held:Bool} {v:Value} {d:DataW H} {ps:List MemPlace}
theorem Uz {r:Reach} {b0:Nat} (hv:Value.okWide Tryz.prog w r b0 24 v) (h:DataW.Trod enc Tryz.prog w base spare held 24 v d ps):
  ∃(p:Option Addr) (cap:Nat) (rs:List (List Sd)),v=AO p rs.length cap∧BD w p rs∧(∀l∈rs, ∀s∈l,s.in64)∧tot rs+rs.length+2≤Rows.uptoBulk d:=by
 obtain⟨cs,rfl,hc⟩:=okWide_struct Tryz.underlying24 hv
 obtain⟨fuel,hf⟩:=h
 obtain⟨xs,m,rfl,hx,hl,hn,hg⟩:=DataW.trod_struct Tryz.underlying24 hf
 rw[c24] at hc
 obtain⟨y0,rfl⟩: ∃y,xs=[y]:=by
  match xs,hn with
  |[y],_=>exact⟨y,rfl⟩
 have h0:DataW.trod enc Tryz.prog w base spare held m 22 (List.take (Tryz.prog.cellsOf 22) (List.drop 0 cs.toList))=some y0:=hg 0 _ rfl
 rw[c22] at h0
 obtain⟨c0,rfl⟩: ∃c,cs= #[c]:=by
  obtain⟨l⟩:=cs
  match l,hc with
  |[c],_=>exact⟨c,rfl⟩
 obtain⟨p,cap,rs,e1,e2,e3,e4⟩:=SH h0
 simp only[Prod.mk.injEq] at hx
 obtain⟨rfl,_⟩:=hx
 refine⟨p,cap,rs, ?_,e2,e3, ?_⟩
 ·have:c0=slv p rs.length cap:=by simpa[Value.cells] using e1
  rw[this]
 ·simp only[List.map_cons,List.map_nil,Rows.uptoBulk,Rows.uptoBulkAll]
  have:y0.1=(y0:DataW H×List MemPlace).1:=rfl
  omega
end
end
section
open Go
noncomputable abbrev laidL:List (String×DataW Unit):=Rows.levelListsRow.laid
end
section
open Go Go.RowKit Go.Am Go.ChangeShapes Go.WideShapes Go.Deep Go.ChangeAt
set_option maxRecDepth 100000
section
variable {H:Type} {enc:TypeId×Value→H} {w:World} {base:Nat} {spare:Nat→Bool} {held:Bool} {v:Value} {d:DataW H} {ps:List MemPlace}
end
theorem own:ownKnob Tryz.prog.godebug=none:=by kernel_rfl
theorem Ug:laidOutB Tryz.prog=true:=by kernel_rfl
theorem Jd:(laidL.all fun x=>x.2.handleName?.isNone)=true:=by kernel_rfl
theorem R6 {W:World} (h:laidMetH Tryz.prog laidL W):AJ W:=by
 rw[MakeChecks.laidMetH_plain _ _ _ Jd] at h
 exact Lib.tabIs_of_head (g:=3) (t:=322) (e:=194) (n:=20) (by kernel_rfl) (by kernel_rfl) (by kernel_rfl) (by kernel_rfl) (by kernel_rfl) (by kernel_rfl) h.tail.tail
theorem Zl {W:World} (hS:W.ShapedOpen Tryz.prog):BP W:=
 cell_of_shapedOpen_int (g:=4) (t:=3) (zero:= #[.int .i64 0]) hS (of_decide_eq_true (by kernel_rfl)) (by kernel_rfl) rfl (by kernel_rfl) (by kernel_rfl) Tryz.underlying3
noncomputable def witW (os:Os):World:=World.laidAll Tryz.prog os laidL
theorem Xz (os:Os) (args:Array Value):laidMetH Tryz.prog laidL ((witW os).forCall (fun _ _=>0) ⟨#[],args,[]⟩).memory:=by
 rw[MakeChecks.laidMetH_plain _ _ _ Jd]
 exact laidMet_laidAll _ (by kernel_rfl) (by kernel_rfl)
theorem SN (os:Os) (args:Array Value):((witW os).forCall (fun _ _=>0) ⟨#[],args,[]⟩).Shaped Tryz.prog:=
 World.shaped_of_ZipB (by kernel_rfl) (by kernel_rfl)
theorem Yi {H:Type} {enc:TypeId×Value→H} (os:Os) {f:FuncId} {fn:Func} {s:OpenSpec} {conds:List PathCond} (args:Array Value)
  (hok:Input.okWideB Tryz.prog ((witW os).forCall (fun _ _=>0) ⟨#[],args,[]⟩) f ⟨#[],args,[]⟩=true)
  (hrow:s.preRow enc Tryz.prog fn conds false laidL ((witW os).forCall (fun _ _=>0) ⟨#[],args,[]⟩).memory args):
  ∃(w:World) (tape:Tape) (i:Input),w.os=os∧(w.forCall tape i).Shaped Tryz.prog∧i.vars=[]∧Input.okWide Tryz.prog (w.forCall tape i) .any w.heap.size f i∧
   s.preRow enc Tryz.prog fn conds false laidL (w.forCall tape i).memory i.args∧({}:Assume).holds Tryz.prog (lone (Frame.enter Tryz.prog f i.args .normal) [] (w.forCall tape i)):=
 ⟨witW os,fun _ _=>0,⟨#[],args,[]⟩,World.laidAll_os _ _ _,SN os args,(Input.okWide_of_okWideB (base:=0) hok).1,(Input.okWide_of_okWideB hok).2,hrow,by
  simp only[Assume.holds]
  exact⟨by simp,by simp,by simp,by simp,by simp,by simp⟩⟩
theorem ZR:Tryz.prog.cellsOf 149=2:=by kernel_rfl
theorem ZX:Tryz.prog.cellsOf 150=8:=by kernel_rfl
theorem aI:Tryz.prog.cellsOf 4=1:=by kernel_rfl
theorem aS:Tryz.prog.cellsOf 3=1:=by kernel_rfl
section
variable {H:Type} {enc:TypeId×Value→H} {w:World} {base:Nat} {spare:Nat→Bool} {held:Bool} {fuel:Nat} {cs:List Value} {x:DataW H×List MemPlace}
theorem Kk (h:DataW.trod enc Tryz.prog w base spare held fuel 149 cs=some x): ∃(b:Bool) (z:Int),cs=[.bool b, .int .i64 z]∧x.1= .agg [.lit (.bool b), .lit (.int .i64 z)]:=by
 obtain⟨xs,m,rfl,rfl,hl,hn,hg⟩:=DataW.trod_struct Tryz.underlying149 h
 rw[ZR] at hl
 match cs,hl with
 |[u,v],_=>
  match xs,hn with
  |[y0,y1],_=>
   have h0:DataW.trod enc Tryz.prog w base spare held m 4 (([u,v].drop 0).take (Tryz.prog.cellsOf 4))=some y0:=hg 0 _ rfl
   have h1:DataW.trod enc Tryz.prog w base spare held m 3 (([u,v].drop 1).take (Tryz.prog.cellsOf 3))=some y1:=hg 1 _ rfl
   rw[aI] at h0
   rw[aS] at h1
   obtain⟨b,e0,f0⟩:=DataW.trod_bool Tryz.underlying4 h0
   obtain⟨z,e1,f1,_⟩:=DataW.trod_int Tryz.underlying3 h1
   refine⟨b,z, ?_, ?_⟩
   ·have a0:u= .bool b:=by simpa using e0
    have a1:v= .int .i64 z:=by simpa using e1
    rw[a0,a1]
   ·simp[f0,f1]
theorem Vp (h:DataW.trod enc Tryz.prog w base spare held fuel 150 cs=some x) (hx:x.1= .agg [.agg [.lit (.bool false), .lit (.int .i64 1)], .agg [.lit (.bool true), .lit (.int .i64 (-1))], .agg [.lit (.bool false), .lit (.int .i64 (-1))], .agg [.lit (.bool true), .lit (.int .i64 1)]]):cs=ZG:=by
 obtain⟨xs,m,rfl,rfl,hl,hn,hg⟩:=DataW.trod_array Tryz.underlying150 h
 rw[ZX] at hl
 match cs,hl with
 |[a0,a1,a2,a3,a4,a5,a6,a7],_=>
  match xs,hn with
  |[y0,y1,y2,y3],_=>
   have h0:=hg 0 (by decide)
   have h1:=hg 1 (by decide)
   have h2:=hg 2 (by decide)
   have h3:=hg 3 (by decide)
   rw[ZR] at h0 h1 h2 h3
   obtain⟨b0,z0,e0,f0⟩:=Kk (x:=y0) h0
   obtain⟨b1,z1,e1,f1⟩:=Kk (x:=y1) h1
   obtain⟨b2,z2,e2,f2⟩:=Kk (x:=y2) h2
   obtain⟨b3,z3,e3,f3⟩:=Kk (x:=y3) h3
   simp only[List.map_cons,List.map_nil,f0,f1,f2,f3,DataW.agg.injEq,List.cons.injEq,DataW.lit.injEq,Lit.bool.injEq,Lit.int.injEq,true_and,and_true] at hx
   obtain⟨⟨rfl,rfl⟩,⟨rfl,rfl⟩,⟨rfl,rfl⟩,⟨rfl,rfl⟩⟩:=hx
   simp at e0 e1 e2 e3
   obtain⟨rfl,rfl⟩:=e0
   obtain⟨rfl,rfl⟩:=e1
   obtain⟨rfl,rfl⟩:=e2
   obtain⟨rfl,rfl⟩:=e3
   rfl
end
theorem RA {W:World} (h:laidMetH Tryz.prog laidL W):Kz W:=by
 rw[MakeChecks.laidMetH_plain _ _ _ Jd] at h
 obtain⟨ps,⟨g',t',cs,fuel,p,q,hg',ht',hvar,hd,_,_⟩,_⟩:=h.tail.tail.tail.tail.tail.tail
 obtain rfl := Option.some.inj ((show Tryz.prog.globalNamed "kingpost/front.directions" = some 0 by kernel_rfl).symm.trans hg')
 obtain rfl:=Option.some.inj ((show(Tryz.prog.globals[0]?).map (·.type)=some 150 by kernel_rfl).symm.trans ht')
 have e:=Vp hd rfl
 have hc: ∀i u,ZG[i]? =some u→W.cell? ⟨0,i,none⟩=some u:=fun i u hu=>by
  rw[World.var?_cell hg' hvar i]
  rw[←e] at hu
  simpa using hu
 refine⟨?_,fun m u hu=> ?_⟩
 ·obtain⟨c,ty,fr,h1,_⟩:=Sort.cells_of_cell? (hc 0 _ rfl)
  exact(Array.getElem?_eq_some_iff.1 h1).1
 ·rw[Nat.zero_add]
  exact hc m u hu
end
end Go.Proofs.YtmblgcglonikiaaGreatDoor
