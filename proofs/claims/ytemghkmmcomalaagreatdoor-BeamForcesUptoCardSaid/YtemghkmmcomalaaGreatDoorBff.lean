/-
  Lemmas that the theorem beamForces_upto_card needs (part 6 of 6).
-/
import Derived.Test.YtemghkmmcomalaaGreatDoorBfe
import Derived.Shelf.SlicesG.CompactS
import Derived.Test.YtemghkmmcomalaaGreatDoorRows
import Derived.Test.YtemghkmmcomalaaGreatDoorCards
import Derived.Test.YtemghkmmcomalaaGreatDoorTie
import Derived.Deep.Slices
import Derived.ChangeArms
import Derived.ChangeShapes
import Derived.WideShapes
import Derived.Carry
import Derived.ProofKit
import Derived.OpenShut
import Derived.Deep.DeepHandedRow
import Derived.Lib.LaidTab
import Derived.Stop.LaidErr
import Derived.Lay
import Derived.SevenTiedAt
import Derived.Shelf.Vars
import Derived.ChangeMaps5
set_option maxHeartbeats 64000000
namespace Go.Proofs.YtemghkmmcomalaaGreatDoor
section
open Go Go.RowKit Go.Am Go.Lib
set_option maxRecDepth 10000
-- BOXES 4
-- CODE2
theorem Ps {b:BmP} (hL:b.Lies) {x:Rat} {s:Rat×Rat×Rat} (hs:s∈b.ss) (h:s.1<x):F1 x s=some ((s.1+Dd x s)/2,s.2.2*(Dd x s-s.1)):=by
 rw[Kp,if_pos]
 have:=hL.s1 s hs
 unfold Dd
 split<;>assumption
theorem Ph {b:BmP} (hL:b.Lies) {x:Rat} {s:Rat×Rat×Rat} (hs:s∈b.ss) (h: ¬s.1<x):F1 x s=none:=by
 rw[Kp,if_neg]
 have:=hL.s1 s hs
 unfold Dd
 split
 ·exact h
 ·grind
structure PlX (b:BmP) (x:Rat):Prop where
 bb:BmX b
 e:F2 b.w (Ac x)=0
 l:(Ac x).length≤24
 z:szQ x 24
 zl:szQ b.left 100
 zr:szQ b.right 100
theorem QR {b:BmP} (h:BmX b) {x:Rat} (hx:szQ x 24) {s:Rat×Rat×Rat} (hs:s∈b.ss):szQ (Dd x s) 24:=by
 unfold Dd
 split
 ·exact hx
 ·exact(h.c.s s hs).2.1.sz.mono (by decide)
theorem PlX.place {b:BmP} {x:Rat} (h:PlX b x) (p q:Option Addr) (m n:Nat) (W:World) (hM:BwM W b.w p q):
  Ad Tryz.prog 44 #[bmV b p m q n,str (Ac x)] W (fun _:Unit=> .int .i64 0) (fun _=>True) (fun _=>[]):=by
 have:=Ek b.w h.bb.sh (Ac x) h.l p q m n W hM
 rwa [GD,h.e] at this
theorem KB (b:BmP) (x:Rat) (h:PlX b x) (hz:ShZ b x) (p q:Option Addr) (m n:Nat) (W:World) (hM:BwM W b.w p q):
  Ad Tryz.prog 12 #[bmV b p m q n,str (Ac x)] W (fun _:Unit=> .tuple #[str (Ac (b.shear x)), .int .i64 0]) (fun _=>True) (fun _=>[]):=by
 have hL:=h.bb.c.lies
 have hm:=hM.m
 have hlf:=h.bb.c.lf
 have hls:=h.bb.c.ls
 refine Ab (args:=[bmV b p m q n,str (Ac x)]) Tryz.func12 I I I ?_
 refine zA (zB ?_)
 (refine Az rfl rfl rfl rfl ?_;intro)
 refine wP I (wP I (Aa ?_))
 rename_i b2
 refine zE (zA (zA (zB (wB 0 I I I (wP I (wC I I (fun W hp=>h.place p q m n W (hM.hp hp)) (wP I (Aa (zE (zA (zB (wP I (wP I ?_)))))))))))))
 refine Aa (zE (zS I (zI (zE (zA (zB (wB 0 I I I (wC I I (fun W hp=>CF b h.bb hz.rc p q m n W (hM.hp hp)) ?_))))))))
 iterate 7 refine wP I ?_
 refine Aa (zE (zA (zA (zB (wP I (wP I (Aa (zE (zS I (zI (zE (zA (zB ?_)))))))))))))
 refine Au Tryz.hZ tH I I I I I I I I ?_
 (refine Ae Tryz.hZ rfl rfl rfl rfl ?_;intro)
 refine wS 1 I I I (Aa ?_)
 rename_i b10
 refine Gk (bxs':=[bmB b2 b p m q n,sqB b10 0]) (by show _=[bmB b2 b p m q n,(⟨b10,63,[str (Ac 0), .int .i64 0],true,none⟩:Bx)];rw[B0];rfl) ?_
 refine zE (zA (zA (zB ?_)))
 obtain⟨s0,hs0⟩: ∃s,s=(if b.l≤x then b.left else 0):=⟨_,rfl⟩
 refine wP I (wP I (wB 0 I I I (wC I I (fun W hp=>AL x b.l (sz2 h.z h.bb.c.l.sz (by decide)) W (hM.t.hp hp)) (wP I (wU 34 (decide (b.l≤x)) I (Gx x b.l) (Aa (A4 ?_)))))))
 refine A3 (X:=Unit) (fun _=>[(1,str (Ac x)),(2,Al b2),(8,str (Ac b.right)),(10,Al b10)]) (fun _=>[bmB b2 b p m q n,sqB b10 s0]) (fun _=>True) ?_ ?_
 ·refine Ai I (fun hc=> ?_) (fun hc=> ?_)
  ·have he:s0=0+b.left:=by rw[hs0,if_pos (of_decide_eq_true hc),Rat.zero_add]
   refine zB (wP I ?_)
   refine Ap Tryz.hZ tH I I I I I I I I I I I fun bS=> ?_
   refine AT (X:=Unit) (val:=fun _=> .tuple #[]) (Φ:=fun _=>True) (capt:=[]) 1 (B:=sqB b10 0) (L1:=[]) (L2:=[]) (b:=b10) (ob:=sqO 0) (fun _=>sqB b10 s0) (g':=fun _=>b10) (o':=fun _=>sqO s0) I I I I I I (by kernel_rfl) I I (fun _ _=>rfl) (fun W1 hp=>C6 hp 1 2 [b.left] I I I (by decide) hM.t false 1 _ (show 1≤4096 by decide) (pz1 h.zl (by decide)) (by rw[Do];exact hz.a1) (by rw[if_neg Bool.false_ne_true,Do];exact he)) (fun _ _=> ?_)
   exact Aa (Ah () O ⟨I,I,I,I,O⟩ [_] I)
  ·exact zI (Ah () O ⟨I,I,I,I,O⟩ [] (by rw[hs0,if_neg (of_decide_eq_false hc)];rfl))
 intro _ _
 refine zA (zA (zB (wP I (wP I (wB 0 I I I (wC I I (fun W hp=>AL x b.r (sz2 h.z h.bb.c.r.sz (by decide)) W (hM.t.hp hp)) (wP I (wU 42 (decide (b.r≤x)) I (Gx x b.r) (Aa (A4 ?_))))))))))
 refine A3 (X:=Unit) (fun _=>[(1,str (Ac x)),(2,Al b2),(10,Al b10)]) (fun _=>[bmB b2 b p m q n,sqB b10 (b.sup x)]) (fun _=>True) ?_ ?_
 ·refine Ai I (fun hc=> ?_) (fun hc=> ?_)
  ·have he:b.sup x=s0+b.right:=by unfold BmP.sup;rw[if_pos (of_decide_eq_true hc),hs0]
   refine zB (wP I ?_)
   refine Ap Tryz.hZ tH I I I I I I I I I I I fun bS=> ?_
   refine AT (X:=Unit) (val:=fun _=> .tuple #[]) (Φ:=fun _=>True) (capt:=[]) 1 (B:=sqB b10 s0) (L1:=[]) (L2:=[]) (b:=b10) (ob:=sqO s0) (fun _=>sqB b10 (b.sup x)) (g':=fun _=>b10) (o':=fun _=>sqO (b.sup x)) I I I I I I (by kernel_rfl) I I (fun _ _=>rfl) (fun W1 hp=>C6 hp 1 2 [b.right] I I I (by decide) hM.t false 1 _ (show 1≤4096 by decide) (pz1 h.zr (by decide)) (by rw[Do,hs0];exact hz.a2) (by rw[if_neg Bool.false_ne_true,Do];exact he)) (fun _ _=> ?_)
   exact Aa (Ah () O ⟨I,I,I,O⟩ [_] I)
  ·have he:b.sup x=s0:=by unfold BmP.sup;rw[if_neg (of_decide_eq_false hc),hs0,Rat.add_zero]
   exact zI (Ah () O ⟨I,I,I,O⟩ [] (by rw[he];rfl))
 intro _ _
 refine zA (zA (zB (wP I (Aa (zE (zH ?_))))))
 refine Aw (X:=Nat) (fun i=>[(1,str (Ac x)),(2,Al b2),(10,Al b10),(11, .int .i64 (i:Nat))]) (fun i=>[bmB b2 b p m q n,sqB b10 (AC tS (b.sup x) (Be b x i))]) (fun i=>i≤b.fs.length) (fun i=>b.fs.length-i) 0 (Nat.zero_le _) ⟨I,I,I,I,O⟩ [] I ?_
 intro i hi
 have hi:i≤b.fs.length:=hi
 refine zA (zA (zB (wP I (wP I (wB 0 I I I (wP I (wP I ?_)))))))
 by_cases hlt:i<b.fs.length
 ·refine wU 50 true I (dT (by omega)) (Aa (zE (zR I (zI (zE (zA (zH (zA (zB ?_)))))))))
  have he:=congrArg (AC tS (b.sup x)) (EY (b:=b) (x:=x) hlt)
  have hs1:=fun hc=>hz.t _ _ _ (Eb hlt hc)
  obtain⟨s,hs⟩: ∃s,s=AC tS (b.sup x) (Be b x i):=⟨_,rfl⟩
  obtain⟨f,hfe⟩: ∃f,f=b.fs[i]:=⟨_,rfl⟩
  have hfm:f∈b.fs:=hfe▸List.getElem_mem hlt
  obtain⟨n1,n2⟩:=h.bb.c.f f hfm
  obtain⟨g,off,hpe,hrow⟩:=hm.f.at_ hlt
  have hrow:=hrow i hlt
  rw[←hfe] at hrow hs1 he
  rw[←hs] at hs1
  rw[←hs]
  subst hpe
  refine wP I (wP I (wB 0 I I I (wP I ?_)))
  refine wJ ?_
  refine wP I (wL 0 I I (fun W1 hp=>hrow.hp hp) I (wC I I (fun W hp=>AL x f.1 (sz2 h.z n1.sz (by decide)) W (hM.t.hp hp)) (wP I (wU 61 (decide (f.1≤x)) I (Gx x f.1) (Aa (zE ?_))))))
  refine Ai I (fun hc=> ?_) (fun hc=> ?_)
  ·rw[if_pos (of_decide_eq_true hc),BU, ←hs] at he
   refine zB (wP I (wB 0 I I I (wP I ?_)))
   refine wJ ?_
   refine wP I (wL 1 I I (fun W1 hp=>hrow.hp hp) I ?_)
   refine Ap Tryz.hZ tH I I I I I I I I I I I fun bS=> ?_
   refine AT (X:=Unit) (val:=fun _=> .tuple #[]) (Φ:=fun _=>True) (capt:=[]) 1 (B:=sqB b10 s) (L1:=[]) (L2:=[]) (b:=b10) (ob:=sqO s) (fun _=>sqB b10 (AC tS (b.sup x) (Be b x (i+1)))) (g':=fun _=>b10) (o':=fun _=>sqO (AC tS (b.sup x) (Be b x (i+1)))) I I I I I I (by kernel_rfl) I I (fun _ _=>rfl) (fun W1 hp=>C6 hp 1 2 [f.2] I I I (by decide) hM.t true 1 _ (show 1≤4096 by decide) (pz1 n2.sz (by decide)) (by rw[Do];exact hs1 (of_decide_eq_true hc)) (by rw[if_pos I,Do,he];unfold tS;grind)) (fun _ _=> ?_)
   exact Aa (zN (zE (zB (wP I (wP I (wV 52 ((i+1:Nat):Int) I (An (by omega)) (wP I (Aa (Ak (i+1) hlt (by show b.fs.length-(i+1)<b.fs.length-i;omega) ⟨I,I,I,I,O⟩ [_] I)))))))))
  ·rw[if_neg (of_decide_eq_false hc),List.append_nil, ←hs] at he
   exact zI (zN (zE (zB (wP I (wP I (wV 52 ((i+1:Nat):Int) I (An (by omega)) (wP I (Aa (Ak (i+1) hlt (by show b.fs.length-(i+1)<b.fs.length-i;omega) ⟨I,I,I,I,O⟩ [] (by rw[he];rfl))))))))))
 obtain rfl:i=b.fs.length:=by omega
 refine wU 50 false I (dF (by omega)) (Aa (zE (zS I (zJ (zK (zK (zL (zE (zA (zA (zB (wP I (Aa ?_)))))))))))))
 refine zE (zH ?_)
 refine Aw (X:=Nat) (fun i=>[(1,str (Ac x)),(2,Al b2),(10,Al b10),(12, .int .i64 (i:Nat))]) (fun i=>[bmB b2 b p m q n,sqB b10 (AC tS (b.sup x) (Be b x b.fs.length++CD b x i))]) (fun i=>i≤b.ss.length) (fun i=>b.ss.length-i) 0 (Nat.zero_le _) ⟨I,I,I,I,O⟩ [] (by show _=[bmB b2 b p m q n,sqB b10 (AC tS (b.sup x) (Be b x b.fs.length++[]))];rw[List.append_nil]) ?_
 intro i hi
 have hi:i≤b.ss.length:=hi
 refine zA (zA (zB (wP I (wP I (wB 0 I I I (wP I (wP I ?_)))))))
 by_cases hlt:i<b.ss.length
 ·refine wU 74 true I (dT (by omega)) (Aa (zE (zR I (zI (zE (zA (zH (zA (zB ?_)))))))))
  have he:=congrArg (fun l=>AC tS (b.sup x) (Be b x b.fs.length++l)) (EH (b:=b) (x:=x) hlt)
  have hs1:=fun pt (hc:F1 x b.ss[i]=some pt)=>hz.t _ _ _ (Eh hlt hc)
  obtain⟨s,hs⟩: ∃s,s=AC tS (b.sup x) (Be b x b.fs.length++CD b x i):=⟨_,rfl⟩
  obtain⟨f,hfe⟩: ∃f,f=b.ss[i]:=⟨_,rfl⟩
  have hfm:f∈b.ss:=hfe▸List.getElem_mem hlt
  obtain⟨n1,n2,n3⟩:=h.bb.c.s f hfm
  obtain⟨g,off,hpe,hrow⟩:=hm.s.at_ hlt
  have hrow:=hrow i hlt
  rw[←hfe] at hrow hs1 he
  rw[←hs] at hs1
  rw[←hs]
  subst hpe
  have zc:=QR h.bb h.z hfm
  refine wP I (wB 0 I I I (wP I ?_))
  refine wJ ?_
  refine wL 0 I I (fun W1 hp=>hrow.hp hp) I ?_
  (refine Ae Tryz.hZ rfl rfl rfl rfl ?_;intro)
  refine wS 2 I I I (Aa ?_)
  rename_i b13
  refine zE (zA (zB (wP I (wB 2 I I I (wP I (wC I I (fun W hp=>AL f.1 x (sz2 n1.sz h.z (by decide)) W (hM.t.hp hp)) (Aa (zE ?_))))))))
  refine Ai I (fun hc=> ?_) (fun hc=> ?_)
  ·have hsp:=Ps hL hfm (of_decide_eq_true hc)
   rw[hsp, ←List.append_assoc] at he
   simp only[Option.toList_some] at he
   rw[BU, ←hs] at he
   have hs1:=hs1 _ hsp
   refine BA (X:=Unit) [true,true,true,true,true,true,true,true,true,false,false] (fun _=>[(1,str (Ac x)),(2,Al b2),(10,Al b10),(12, .int .i64 (i:Nat))]) (fun _=>[bmB b2 b p m (some ⟨g,off,none⟩) n,sqB b10 (AC tS (b.sup x) (Be b x b.fs.length++CD b x (i+1)))])
    2 [bmB b2 b p m (some ⟨g,off,none⟩) n,sqB b10 s,⟨b13,59,[str (Ac f.1),str (Ac f.2.1),str (Ac f.2.2)],true,none⟩] Tryz.mixed (by kernel_rfl) ?_ ?_
   ·refine qP I (qB 2 I I I (qP I (qB 2 I I I (qP I (qC I I (fun W1 hp=>(FI f.2.1 x (sz2 h.z n2.sz (by decide)) W1 (hM.t.hp hp)).cast (v':=str (Ac (Dd x f))) I) (qP I (qB 2 I I I (qC I I (fun W1 hp=>AV (Dd x f) f.1 (sz2 zc n1.sz (by decide)) W1 (hM.t.hp hp)) (Dr (wX (wZ ?_)))))))))))
    refine Ap Tryz.hZ tH I I I I I I I I I I I fun bS=> ?_
    refine Aa (At (wX (wZ ?_)))
    refine AT (X:=Unit) (val:=fun _=> .tuple #[]) (Φ:=fun _=>True) (capt:=[]) 1 (B:=sqB b10 s) (L1:=[]) (L2:=[]) (b:=b10) (ob:=sqO s) (fun _=>sqB b10 (AC tS (b.sup x) (Be b x b.fs.length++CD b x (i+1)))) (g':=fun _=>b10) (o':=fun _=>sqO (AC tS (b.sup x) (Be b x b.fs.length++CD b x (i+1)))) I I I I I I (by kernel_rfl) I I (fun _ _=>rfl) (fun W1 hp=>C6 hp 1 3 [f.2.2,Dd x f-f.1] I I I (by decide) hM.t true 2 _ (show 2≤4096 by decide) (pz2 n3.sz (by decide) (sz2 n3.sz (zc.sub n1.sz) (by decide))) (by rw[Cx];exact hs1) (by rw[if_pos I,Cx,he];unfold tS;grind)) (fun _ _=> ?_)
    refine Aa (At ?_)
    refine AO I (by kernel_rfl) ?_
    exact AI () ⟨I,I,I,I,O⟩ [0,1] (by decide) I
   intro _
   exact zN (zE (zB (wP I (wP I (wV 76 ((i+1:Nat):Int) I (An (by omega)) (wP I (Aa (Ak (i+1) hlt (by show b.ss.length-(i+1)<b.ss.length-i;omega) ⟨I,I,I,I,O⟩ [] I))))))))
  ·have hsp:=Ph hL hfm (of_decide_eq_false hc)
   rw[hsp] at he
   simp only[Option.toList_none,List.append_nil] at he
   rw[←hs] at he
   exact zI (zN (zE (zB (wP I (wP I (wV 76 ((i+1:Nat):Int) I (An (by omega)) (wP I (Aa (Ak (i+1) hlt (by show b.ss.length-(i+1)<b.ss.length-i;omega) ⟨I,I,I,I,O⟩ [_] (by rw[he];rfl))))))))))
 obtain rfl:i=b.ss.length:=by omega
 rw[FS]
 refine wU 74 false I (dF (by omega)) (Aa (zE (zS I (zJ (zK (zK (zL (zE (zA (zB (wC I I (fun W1 hp=>DF b10 (AC tS (b.sup x) (b.pts x)) W1 (Ao.of_bx hp 1 I I)) (wP I (wP I (wP I (wP I ?_)))))))))))))))
 exact Aa (zE (zO (wR2 I I (by rw[G2];rfl))))
-- BOXES 4
-- CODE2
theorem IK (b:BmP) (x:Rat) (h:PlX b x) (hz:MoZ b x) (p q:Option Addr) (m n:Nat) (W:World) (hM:BwM W b.w p q):
  Ad Tryz.prog 14 #[bmV b p m q n,str (Ac x)] W (fun _:Unit=> .tuple #[str (Ac (b.moment x)), .int .i64 0]) (fun _=>True) (fun _=>[]):=by
 have hL:=h.bb.c.lies
 have hm:=hM.m
 have hlf:=h.bb.c.lf
 have hls:=h.bb.c.ls
 refine Ab (args:=[bmV b p m q n,str (Ac x)]) Tryz.func14 I I I ?_
 refine zA (zB ?_)
 (refine Az rfl rfl rfl rfl ?_;intro)
 refine wP I (wP I (Aa ?_))
 rename_i b2
 refine zE (zA (zA (zB (wB 0 I I I (wP I (wC I I (fun W hp=>h.place p q m n W (hM.hp hp)) (wP I (Aa (zE (zA (zB (wP I (wP I ?_)))))))))))))
 refine Aa (zE (zS I (zI (zE (zA (zB (wB 0 I I I (wC I I (fun W hp=>CF b h.bb hz.rc p q m n W (hM.hp hp)) ?_))))))))
 iterate 7 refine wP I ?_
 refine Aa (zE (zA (zA (zB (wP I (wP I (Aa (zE (zS I (zI (zE (zA (zB ?_)))))))))))))
 refine Au Tryz.hZ tH I I I I I I I I ?_
 (refine Ae Tryz.hZ rfl rfl rfl rfl ?_;intro)
 refine wS 1 I I I (Aa ?_)
 rename_i b10
 refine Gk (bxs':=[bmB b2 b p m q n,sqB b10 0]) (by show _=[bmB b2 b p m q n,(⟨b10,63,[str (Ac 0), .int .i64 0],true,none⟩:Bx)];rw[B0];rfl) ?_
 refine zE (zA (zA (zB ?_)))
 obtain⟨s0,hs0⟩: ∃s,s=(if b.l<x then b.left*(x-b.l) else 0):=⟨_,rfl⟩
 refine wP I (wB 0 I I I (wP I (wC I I (fun W hp=>AL b.l x (sz2 h.bb.c.l.sz h.z (by decide)) W (hM.t.hp hp)) (Aa (A4 ?_)))))
 refine A3 (X:=Unit) (fun _=>[(1,str (Ac x)),(2,Al b2),(8,str (Ac b.right)),(10,Al b10)]) (fun _=>[bmB b2 b p m q n,sqB b10 s0]) (fun _=>True) ?_ ?_
 ·refine Ai I (fun hc=> ?_) (fun hc=> ?_)
  ·have he:s0=0+b.left*(x-b.l):=by rw[hs0,if_pos (of_decide_eq_true hc),Rat.zero_add]
   refine zB (wP I (wP I (wP I (wB 0 I I I (wC I I (fun W1 hp=>AV x b.l hz.s1 W1 (hM.t.hp hp)) ?_)))))
   refine Ap Tryz.hZ tH I I I I I I I I I I I fun bS=> ?_
   refine AT (X:=Unit) (val:=fun _=> .tuple #[]) (Φ:=fun _=>True) (capt:=[]) 1 (B:=sqB b10 0) (L1:=[]) (L2:=[]) (b:=b10) (ob:=sqO 0) (fun _=>sqB b10 s0) (g':=fun _=>b10) (o':=fun _=>sqO s0) I I I I I I (by kernel_rfl) I I (fun _ _=>rfl) (fun W1 hp=>C6 hp 1 2 [b.left,x-b.l] I I I (by decide) hM.t false 2 _ (show 2≤4096 by decide) (pz2 h.zl (by decide) hz.m1) (by rw[Cx];exact hz.a1) (by rw[if_neg Bool.false_ne_true,Cx];exact he)) (fun _ _=> ?_)
   exact Aa (Ah () O ⟨I,I,I,I,O⟩ [_] I)
  ·exact zI (Ah () O ⟨I,I,I,I,O⟩ [] (by rw[hs0,if_neg (of_decide_eq_false hc)];rfl))
 intro _ _
 refine zA (zA (zB (wP I (wB 0 I I I (wP I (wC I I (fun W hp=>AL b.r x (sz2 h.bb.c.r.sz h.z (by decide)) W (hM.t.hp hp)) (Aa (A4 ?_))))))))
 refine A3 (X:=Unit) (fun _=>[(1,str (Ac x)),(2,Al b2),(10,Al b10)]) (fun _=>[bmB b2 b p m q n,sqB b10 (b.supM x)]) (fun _=>True) ?_ ?_
 ·refine Ai I (fun hc=> ?_) (fun hc=> ?_)
  ·have he:b.supM x=s0+b.right*(x-b.r):=by unfold BmP.supM;rw[if_pos (of_decide_eq_true hc),hs0]
   refine zB (wP I (wP I (wP I (wB 0 I I I (wC I I (fun W1 hp=>AV x b.r hz.s2 W1 (hM.t.hp hp)) ?_)))))
   refine Ap Tryz.hZ tH I I I I I I I I I I I fun bS=> ?_
   refine AT (X:=Unit) (val:=fun _=> .tuple #[]) (Φ:=fun _=>True) (capt:=[]) 1 (B:=sqB b10 s0) (L1:=[]) (L2:=[]) (b:=b10) (ob:=sqO s0) (fun _=>sqB b10 (b.supM x)) (g':=fun _=>b10) (o':=fun _=>sqO (b.supM x)) I I I I I I (by kernel_rfl) I I (fun _ _=>rfl) (fun W1 hp=>C6 hp 1 2 [b.right,x-b.r] I I I (by decide) hM.t false 2 _ (show 2≤4096 by decide) (pz2 h.zr (by decide) hz.m2) (by rw[Cx,hs0];exact hz.a2) (by rw[if_neg Bool.false_ne_true,Cx];exact he)) (fun _ _=> ?_)
   exact Aa (Ah () O ⟨I,I,I,O⟩ [_] I)
  ·have he:b.supM x=s0:=by unfold BmP.supM;rw[if_neg (of_decide_eq_false hc),hs0,Rat.add_zero]
   exact zI (Ah () O ⟨I,I,I,O⟩ [] (by rw[he];rfl))
 intro _ _
 refine zA (zA (zB (wP I (Aa (zE (zH ?_))))))
 refine Aw (X:=Nat) (fun i=>[(1,str (Ac x)),(2,Al b2),(10,Al b10),(11, .int .i64 (i:Nat))]) (fun i=>[bmB b2 b p m q n,sqB b10 (AC (tM x) (b.supM x) (Be b x i))]) (fun i=>i≤b.fs.length) (fun i=>b.fs.length-i) 0 (Nat.zero_le _) ⟨I,I,I,I,O⟩ [] I ?_
 intro i hi
 have hi:i≤b.fs.length:=hi
 refine zA (zA (zB (wP I (wP I (wB 0 I I I (wP I (wP I ?_)))))))
 by_cases hlt:i<b.fs.length
 ·refine wU 58 true I (dT (by omega)) (Aa (zE (zR I (zI (zE (zA (zH (zA (zB ?_)))))))))
  have he:=congrArg (AC (tM x) (b.supM x)) (EY (b:=b) (x:=x) hlt)
  have hs1:=fun hc=>hz.t _ _ _ (Eb hlt hc)
  obtain⟨s,hs⟩: ∃s,s=AC (tM x) (b.supM x) (Be b x i):=⟨_,rfl⟩
  obtain⟨f,hfe⟩: ∃f,f=b.fs[i]:=⟨_,rfl⟩
  have hfm:f∈b.fs:=hfe▸List.getElem_mem hlt
  obtain⟨n1,n2⟩:=h.bb.c.f f hfm
  obtain⟨g,off,hpe,hrow⟩:=hm.f.at_ hlt
  have hrow:=hrow i hlt
  rw[←hfe] at hrow hs1 he
  rw[←hs] at hs1
  rw[←hs]
  subst hpe
  refine wP I (wB 0 I I I (wP I ?_))
  refine wJ ?_
  refine wL 0 I I (fun W1 hp=>hrow.hp hp) I ?_
  (refine Ae Tryz.hZ rfl rfl rfl rfl ?_;intro)
  refine wS 2 I I I (Aa ?_)
  rename_i b12
  refine zE (zA (zB (wP I (wB 2 I I I (wP I (wC I I (fun W hp=>AL f.1 x (sz2 n1.sz h.z (by decide)) W (hM.t.hp hp)) (Aa (zE ?_))))))))
  refine Ai I (fun hc=> ?_) (fun hc=> ?_)
  ·have hcl:=Rat.le_of_lt (of_decide_eq_true hc)
   rw[if_pos hcl,BU, ←hs] at he
   obtain⟨z1,z2,z3⟩:=hs1 hcl
   refine BA (X:=Unit) [true,true,true,true,true,true,false,false] (fun _=>[(1,str (Ac x)),(2,Al b2),(10,Al b10),(11, .int .i64 (i:Nat))]) (fun _=>[bmB b2 b (some ⟨g,off,none⟩) m q n,sqB b10 (AC (tM x) (b.supM x) (Be b x (i+1)))])
    2 [bmB b2 b (some ⟨g,off,none⟩) m q n,sqB b10 s,⟨b12,57,[str (Ac f.1),str (Ac f.2)],true,none⟩] Tryz.mixed (by kernel_rfl) ?_ ?_
   ·refine qP I (qB 2 I I I (qP I (qP I (qB 2 I I I (qC I I (fun W1 hp=>AV x f.1 z1 W1 (hM.t.hp hp)) (Dr (wX (wZ ?_))))))))
    refine Ap Tryz.hZ tH I I I I I I I I I I I fun bS=> ?_
    refine Aa (At (wX (wZ ?_)))
    refine AT (X:=Unit) (val:=fun _=> .tuple #[]) (Φ:=fun _=>True) (capt:=[]) 1 (B:=sqB b10 s) (L1:=[]) (L2:=[]) (b:=b10) (ob:=sqO s) (fun _=>sqB b10 (AC (tM x) (b.supM x) (Be b x (i+1)))) (g':=fun _=>b10) (o':=fun _=>sqO (AC (tM x) (b.supM x) (Be b x (i+1)))) I I I I I I (by kernel_rfl) I I (fun _ _=>rfl) (fun W1 hp=>C6 hp 1 3 [f.2,x-f.1] I I I (by decide) hM.t true 2 _ (show 2≤4096 by decide) (pz2 n2.sz (by decide) z2) (by rw[Cx];exact z3) (by rw[if_pos I,Cx,he];unfold tM;grind)) (fun _ _=> ?_)
    refine Aa (At ?_)
    refine AO I (by kernel_rfl) ?_
    exact AI () ⟨I,I,I,I,O⟩ [0,1] (by decide) I
   intro _
   exact zN (zE (zB (wP I (wP I (wV 60 ((i+1:Nat):Int) I (An (by omega)) (wP I (Aa (Ak (i+1) hlt (by show b.fs.length-(i+1)<b.fs.length-i;omega) ⟨I,I,I,I,O⟩ [] I))))))))
  ·have hcl:=Rat.not_lt.1 (of_decide_eq_false hc)
   have he2:AC (tM x) (b.supM x) (Be b x (i+1))=s:=by
    by_cases hq:f.1≤x
    ·rw[if_pos hq,BU, ←hs] at he
     have e0:f.1=x:=Rat.le_antisymm hq hcl
     have e1:tM x f=0:=by unfold tM;rw[e0];grind
     rw[he,e1,Rat.add_zero]
    ·rw[if_neg hq,List.append_nil, ←hs] at he
     exact he
   exact zI (zN (zE (zB (wP I (wP I (wV 60 ((i+1:Nat):Int) I (An (by omega)) (wP I (Aa (Ak (i+1) hlt (by show b.fs.length-(i+1)<b.fs.length-i;omega) ⟨I,I,I,I,O⟩ [_] (by rw[he2];rfl))))))))))
 obtain rfl:i=b.fs.length:=by omega
 refine wU 58 false I (dF (by omega)) (Aa (zE (zS I (zJ (zK (zK (zL (zE (zA (zA (zB (wP I (Aa ?_)))))))))))))
 refine zE (zH ?_)
 refine Aw (X:=Nat) (fun i=>[(1,str (Ac x)),(2,Al b2),(10,Al b10),(13, .int .i64 (i:Nat))]) (fun i=>[bmB b2 b p m q n,sqB b10 (AC (tM x) (b.supM x) (Be b x b.fs.length++CD b x i))]) (fun i=>i≤b.ss.length) (fun i=>b.ss.length-i) 0 (Nat.zero_le _) ⟨I,I,I,I,O⟩ [] (by show _=[bmB b2 b p m q n,sqB b10 (AC (tM x) (b.supM x) (Be b x b.fs.length++[]))];rw[List.append_nil]) ?_
 intro i hi
 have hi:i≤b.ss.length:=hi
 refine zA (zA (zB (wP I (wP I (wB 0 I I I (wP I (wP I ?_)))))))
 by_cases hlt:i<b.ss.length
 ·refine wU 82 true I (dT (by omega)) (Aa (zE (zR I (zI (zE (zA (zH (zA (zB ?_)))))))))
  have he:=congrArg (fun l=>AC (tM x) (b.supM x) (Be b x b.fs.length++l)) (EH (b:=b) (x:=x) hlt)
  have hs1:=fun pt (hc:F1 x b.ss[i]=some pt)=>hz.t _ _ _ (Eh hlt hc)
  obtain⟨s,hs⟩: ∃s,s=AC (tM x) (b.supM x) (Be b x b.fs.length++CD b x i):=⟨_,rfl⟩
  obtain⟨f,hfe⟩: ∃f,f=b.ss[i]:=⟨_,rfl⟩
  have hfm:f∈b.ss:=hfe▸List.getElem_mem hlt
  obtain⟨n1,n2,n3⟩:=h.bb.c.s f hfm
  obtain⟨g,off,hpe,hrow⟩:=hm.s.at_ hlt
  have hrow:=hrow i hlt
  rw[←hfe] at hrow hs1 he
  rw[←hs] at hs1
  rw[←hs]
  subst hpe
  have zc:=QR h.bb h.z hfm
  refine wP I (wB 0 I I I (wP I ?_))
  refine wJ ?_
  refine wL 0 I I (fun W1 hp=>hrow.hp hp) I ?_
  (refine Ae Tryz.hZ rfl rfl rfl rfl ?_;intro)
  refine wS 2 I I I (Aa ?_)
  rename_i b14
  refine zE (zA (zB (wP I (wB 2 I I I (wP I (wC I I (fun W hp=>AL f.1 x (sz2 n1.sz h.z (by decide)) W (hM.t.hp hp)) (Aa (zE ?_))))))))
  refine Ai I (fun hc=> ?_) (fun hc=> ?_)
  ·have hsp:=Ps hL hfm (of_decide_eq_true hc)
   rw[hsp, ←List.append_assoc] at he
   simp only[Option.toList_some] at he
   rw[BU, ←hs] at he
   obtain⟨z1,z2,z3⟩:=hs1 _ hsp
   simp only at z1 z2 z3
   refine zA (zB (wP I (wB 2 I I I (wP I (wC I I (fun W1 hp=>(FI f.2.1 x (sz2 h.z n2.sz (by decide)) W1 (hM.t.hp hp)).cast (v':=str (Ac (Dd x f))) I) (wP I (Aa (zE ?_))))))))
   refine BA (X:=Unit) [true,true,true,true,true,true,true,true,true,true,true,true,false,false] (fun _=>[(1,str (Ac x)),(2,Al b2),(10,Al b10),(13, .int .i64 (i:Nat))]) (fun _=>[bmB b2 b p m (some ⟨g,off,none⟩) n,sqB b10 (AC (tM x) (b.supM x) (Be b x b.fs.length++CD b x (i+1)))])
    2 [bmB b2 b p m (some ⟨g,off,none⟩) n,sqB b10 s,⟨b14,59,[str (Ac f.1),str (Ac f.2.1),str (Ac f.2.2)],true,none⟩] Tryz.mixed (by kernel_rfl) ?_ ?_
   ·refine qP I (qB 2 I I I (qP I (qP I (qB 2 I I I (qC I I (fun W1 hp=>AV (Dd x f) f.1 (sz2 zc n1.sz (by decide)) W1 (hM.t.hp hp)) (qP I (qP I (qB 2 I I I (qP I (qC I I (fun W1 hp=>GF f.1 (Dd x f) (sz2 n1.sz zc (by decide)) (sz2 (n1.sz.add zc) PS (by decide)) W1 (hM.t.hp hp)) (qC I I (fun W1 hp=>AV x ((f.1+Dd x f)/2) z1 W1 (hM.t.hp hp)) (Dr (wX ?_)))))))))))))
    refine wZ ?_
    refine Ap Tryz.hZ tH I I I I I I I I I I I fun bS=> ?_
    refine Aa (At (wX (wZ ?_)))
    refine AT (X:=Unit) (val:=fun _=> .tuple #[]) (Φ:=fun _=>True) (capt:=[]) 1 (B:=sqB b10 s) (L1:=[]) (L2:=[]) (b:=b10) (ob:=sqO s) (fun _=>sqB b10 (AC (tM x) (b.supM x) (Be b x b.fs.length++CD b x (i+1)))) (g':=fun _=>b10) (o':=fun _=>sqO (AC (tM x) (b.supM x) (Be b x b.fs.length++CD b x (i+1)))) I I I I I I (by kernel_rfl) I I (fun _ _=>rfl) (fun W1 hp=>C6 hp 1 3 [f.2.2,Dd x f-f.1,x-(f.1+Dd x f)/2] I I I (by decide) hM.t true 3 _ (show 3≤4096 by decide) (pz3 n3.sz (by decide) (sz2 n3.sz (zc.sub n1.sz) (by decide)) z2) (by rw[IV];exact z3) (by rw[if_pos I,IV,he];unfold tM;grind)) (fun _ _=> ?_)
    refine Aa (At ?_)
    refine AO I (by kernel_rfl) ?_
    exact AI () ⟨I,I,I,I,O⟩ [0,1] (by decide) I
   intro _
   exact zN (zE (zB (wP I (wP I (wV 84 ((i+1:Nat):Int) I (An (by omega)) (wP I (Aa (Ak (i+1) hlt (by show b.ss.length-(i+1)<b.ss.length-i;omega) ⟨I,I,I,I,O⟩ [] I))))))))
  ·have hsp:=Ph hL hfm (of_decide_eq_false hc)
   rw[hsp] at he
   simp only[Option.toList_none,List.append_nil] at he
   rw[←hs] at he
   exact zI (zN (zE (zB (wP I (wP I (wV 84 ((i+1:Nat):Int) I (An (by omega)) (wP I (Aa (Ak (i+1) hlt (by show b.ss.length-(i+1)<b.ss.length-i;omega) ⟨I,I,I,I,O⟩ [_] (by rw[he];rfl))))))))))
 obtain rfl:i=b.ss.length:=by omega
 rw[FS]
 refine wU 82 false I (dF (by omega)) (Aa (zE (zS I (zJ (zK (zK (zL (zE (zA (zB (wC I I (fun W1 hp=>DF b10 (AC (tM x) (b.supM x) (b.pts x)) W1 (Ao.of_bx hp 1 I I)) (wP I (wP I (wP I (wP I ?_)))))))))))))))
 exact Aa (zE (zO (wR2 I I (by rw[GP];rfl))))
end
section
set_option maxRecDepth 10000
theorem InD.upc {D M c C:Nat} {q:Rat} (h:InD D M q) (hD:0<D) (hc:0<c) (hC:c≤C):InD (D*c) (M*C) q:=(h.up hD c hc).mono (Nat.mul_le_mul_left _ hC)
theorem InD.btw {D M M':Nat} {p q:Rat} (hp:InD D M p) (hq:InD D M' q) (hD:0<D) (h0:0≤p) (h1:p≤q):InD D M' p:=by
 obtain⟨z,rfl,_⟩:=hp
 obtain⟨y,rfl,hy⟩:=hq
 have hn:=BQ hD
 have hDp:(0:Rat)<(D:Rat):=by
  have:((0:Int):Rat)<((D:Int):Rat):=Rat.intCast_lt_intCast.2 (by omega)
  exact this
 have e1:(z:Rat)/(D:Rat)*(D:Rat)=z:=Rat.div_mul_cancel hn
 have e2:(y:Rat)/(D:Rat)*(D:Rat)=y:=Rat.div_mul_cancel hn
 have a0:((0:Int):Rat)≤(z:Rat):=by rw[←e1];exact Rat.mul_nonneg h0 (Rat.le_of_lt hDp)
 have a1:(z:Rat)≤(y:Rat):=by rw[←e1, ←e2];exact Rat.mul_le_mul_of_nonneg_right h1 (Rat.le_of_lt hDp)
 have b0:=Rat.intCast_le_intCast.1 a0
 have b1:=Rat.intCast_le_intCast.1 a1
 exact⟨z,I,by omega⟩
theorem Iv (q:Rat):q=(q.num:Rat)/(q.den:Rat):=by
 rw[show(q.den:Rat)=((q.den:Int):Rat) from rfl, ←Rat.divInt_eq_div]
 exact(Rat.num_divInt_den q).symm
theorem BnQ.inD {q:Rat} (h:BnQ q):InD 27720 27720000000000000 q:=by
 have hd:=h.d
 have hp:=q.den_pos
 have hn:=h.n
 obtain⟨k,hk⟩: ∃k,q.den*k=27720:=by
  rcases(show q.den=1∨q.den=2∨q.den=3∨q.den=4∨q.den=5∨q.den=6∨q.den=7∨q.den=8∨q.den=9∨q.den=10∨q.den=11∨q.den=12 by omega) with e|e|e|e|e|e|e|e|e|e|e|e<;>rw[e]
  ·exact⟨27720,I⟩
  ·exact⟨13860,I⟩
  ·exact⟨9240,I⟩
  ·exact⟨6930,I⟩
  ·exact⟨5544,I⟩
  ·exact⟨4620,I⟩
  ·exact⟨3960,I⟩
  ·exact⟨3465,I⟩
  ·exact⟨3080,I⟩
  ·exact⟨2772,I⟩
  ·exact⟨2520,I⟩
  ·exact⟨2310,I⟩
 have hk0:0<k:=Nat.pos_of_ne_zero fun e=>by rw[e] at hk;omega
 have hk1:k≤27720:=by rw[←hk];exact Nat.le_mul_of_pos_left k hp
 have h1:InD q.den 1000000000000 q:=⟨q.num,Iv q,by omega⟩
 have h2:=h1.upc hp hk0 hk1
 rw[hk] at h2
 exact h2
structure BmP.Lf (b:BmP):Prop where
 len:InD 27720 27720000000000000 b.len
 l:InD 27720 27720000000000000 b.l
 r:InD 27720 27720000000000000 b.r
 f1: ∀f∈b.fs,InD 27720 27720000000000000 f.1
 f2: ∀f∈b.fs,InD 27720 27720000000000000 f.2
 s1: ∀s∈b.ss,InD 27720 27720000000000000 s.1
 s2: ∀s∈b.ss,InD 27720 27720000000000000 s.2.1
 s3: ∀s∈b.ss,InD 27720 27720000000000000 s.2.2
 fn:b.fs.length≤5
 sn:b.ss.length≤4
theorem BmC.lf' {b:BmP} (h:BmC b) (hf:b.fs.length≤5) (hs:b.ss.length≤4):b.Lf:=
 ⟨h.len.inD,h.l.inD,h.r.inD,fun f hm=>(h.f f hm).1.inD,fun f hm=>(h.f f hm).2.inD,fun s hm=>(h.s s hm).1.inD,fun s hm=>(h.s s hm).2.1.inD,fun s hm=>(h.s s hm).2.2.inD,hf,hs⟩
theorem Ip {b:BmP} (h:b.Lf) {x:Rat} {D C:Nat} (hD:0<D) (hC:D≤C) (hx:InD (27720*D) (27720000000000000*C) x):
  (∀p∈b.pts x,InD (55440*D) (55440000000000000*C) p.1∧InD (768398400*D) (1536796800000000000000000000000000*C) p.2)∧(b.pts x).length≤9:=by
 have hC0:0<C:=by omega
 constructor
 ·intro p hp
  unfold BmP.pts at hp
  rcases List.mem_append.1 hp with hp|hp
  ·have hp:=(List.mem_filter.1 hp).1
   have a:=(h.f1 p hp).upc (by decide) (c:=2*D) (C:=2*C) (by omega) (by omega)
   have c:=(h.f2 p hp).upc (by decide) (c:=27720*D) (C:=27720*C) (by omega) (by omega)
   rw[show 27720*(2*D)=55440*D by omega] at a
   rw[show 27720*(27720*D)=768398400*D by omega] at c
   exact⟨a.mono (by omega),c.mono (by omega)⟩
  ·obtain⟨s,hs,e⟩:=List.mem_filterMap.1 hp
   have a1:=(h.s1 s hs).upc (by decide) hD hC
   have a2:=(h.s2 s hs).upc (by decide) hD hC
   have a3:=h.s3 s hs
   unfold F1 at e
   obtain⟨t,ht⟩: ∃t,t=(if x<s.2.1 then x else s.2.1):=⟨_,rfl⟩
   have tz:InD (27720*D) (27720000000000000*C) t:=by
    rw[ht];split
    ·exact hx
    ·exact a2
   rw[←ht] at e
   split at e
   ·cases e
    have m:=(a1.add tz).mul (InD.half 1 (show(1:Int).natAbs≤1 by decide)) (by omega) (by decide)
    have w:=a3.mul (tz.sub a1) (by decide) (by omega)
    have e1:(s.1+t)*nrm 1 2=(s.1+t)/2:=by
     rw[Pq,show((1:Int):Rat)=1 from rfl];grind
    rw[e1,show 27720*D*2=55440*D by omega] at m
    rw[show 27720*(27720*D)=768398400*D by omega] at w
    exact⟨m.mono (by omega),w.mono (by omega)⟩
   ·cases e
 ·have h1:=List.length_filter_le (fun f:Rat×Rat=>decide (f.1≤x)) b.fs
  have h2:=List.length_filterMap_le (F1 x) b.ss
  have h3:=h.fn
  have h4:=h.sn
  unfold BmP.pts
  rw[List.length_append];omega
theorem OY {b:BmP} (h:b.Lf):InD (27720*1) (27720000000000000*1) b.len:=h.len
theorem Jw {b:BmP} (h:b.Lf):InD 768398400 (10^35) b.total∧ ∀l1 l2,b.pts b.len=l1++l2→InD 768398400 (10^35) (AC tW 0 l1):=by
 obtain⟨h1,h2⟩:=Ip h (D:=1) (C:=1) (by decide) (by decide) (OY h)
 have ht: ∀p∈b.pts b.len,InD 768398400 1536796800000000000000000000000000 (tW p):=fun p hp=>(h1 p hp).2
 constructor
 ·rw[G3]
  exact(DO (b.pts b.len) (InD.zero 768398400) ht).mono (by omega)
 ·intro l1 l2 e
  exact(Dz e (InD.zero 768398400) ht).mono (by omega)
theorem L5 {b:BmP} (h:b.Lf):InD (768398400*55440) (10^52) b.turn∧ ∀l1 l2,b.pts b.len=l1++l2→InD (768398400*55440) (10^52) (AC (tT b.l) 0 l1):=by
 obtain⟨h1,h2⟩:=Ip h (D:=1) (C:=1) (by decide) (by decide) (OY h)
 have ht: ∀p∈b.pts b.len,InD (768398400*55440) (10^51) (tT b.l p):=fun p hp=>by
  have a:=h1 p hp
  have c:=h.l.up (by decide) 2 (by decide)
  exact(a.2.mul (a.1.sub c) (by decide) (by decide)).mono (by decide)
 constructor
 ·rw[HJ]
  exact(DO (M:=10^51) (b.pts b.len) (InD.zero _) ht).mono (by omega)
 ·intro l1 l2 e
  exact(Dz e (InD.zero _) ht).mono (by omega)
theorem LA {b:BmP} (h:b.Lf) (hL:b.Lies): ∃c:Nat,0<c∧c≤10^17∧b.r-b.l=((c:Int):Rat)/((27720:Nat):Rat):=by
 obtain⟨z,e,hz⟩:=h.r.sub h.l
 have h0:=hL.lr
 have hp:(0:Rat)<((27720:Nat):Rat):=by
  have:((0:Int):Rat)<((27720:Int):Rat):=Rat.intCast_lt_intCast.2 (by decide)
  exact this
 have hzp:0<z:=by
  have h1:(0:Rat)<(z:Rat)/((27720:Nat):Rat):=by rw[←e];grind
  have e1:(z:Rat)/((27720:Nat):Rat)*((27720:Nat):Rat)=z:=Rat.div_mul_cancel (BQ (by decide))
  have h2:((0:Int):Rat)<(z:Rat):=by rw[←e1];exact Rat.mul_pos h1 hp
  exact Rat.intCast_lt_intCast.1 h2
 exact⟨z.natAbs,by omega,by omega,by rw[e,show((z.natAbs:Nat):Int)=z by omega]⟩
theorem HD {b:BmP} (h:b.Lf) {c:Nat} (hc:0<c) (e:b.r-b.l=((c:Int):Rat)/((27720:Nat):Rat)):InD (768398400*55440*c) (10^57) b.right:=by
 have:=(L5 h).1.div (D':=27720) (y:=(c:Int)) (by decide) (by decide) (by omega) (Int.natAbs_natCast c)
 rw[←e] at this
 exact this.mono (by decide)
theorem Mi {b:BmP} (h:b.Lf) {c:Nat} (hc:0<c) (hle:c≤10^17) (e:b.r-b.l=((c:Int):Rat)/((27720:Nat):Rat)):InD (768398400*55440*c) (10^58) b.left:=by
 have h1:=(Jw h).1.upc (by decide) (c:=55440*c) (C:=55440*10^17) (by omega) (by omega)
 rw[show 768398400*(55440*c)=768398400*55440*c by omega] at h1
 exact(h1.sub (HD h hc e)).mono (by decide)
structure PlD (b:BmP) (D:Nat) (x:Rat):Prop where
 pos:0<D
 le:D≤10^24
 x:InD (27720*D) (27720000000000000*10^24) x
theorem PlD.of {b:BmP} (h:b.Lf) {x:Rat} (hx:szQ x 24) (h0:0≤x) (h1:x≤b.len):PlD b x.den x:=by
 have hp:=x.den_pos
 have hd:=Nat.le_of_lt hx.2
 refine⟨hp,hd, ?_⟩
 have a:InD x.den (10^24) x:=⟨x.num,Iv x,Nat.le_of_lt hx.1⟩
 have a2:=a.up hp 27720 (by decide)
 rw[Nat.mul_comm x.den 27720] at a2
 exact a2.btw (h.len.upc (by decide) hp hd) (by omega) h0 h1
theorem Tv {b:BmP} (h:b.Lf) {c:Nat} (hc:0<c) (hle:c≤10^17) (hs:b.r-b.l=((c:Int):Rat)/((27720:Nat):Rat)) (x:Rat):InD (768398400*55440*c) (10^58) (if b.l≤x then b.left else 0)∧InD (768398400*55440*c) (10^59) (b.sup x):=by
 have h1:=Mi h hc hle hs
 have h2:=HD h hc hs
 have a:InD (768398400*55440*c) (10^58) (if b.l≤x then b.left else 0):=by
  split
  ·exact h1
  ·exact(InD.zero _).mono (Nat.zero_le _)
 have a2:InD (768398400*55440*c) (10^57) (if b.r≤x then b.right else 0):=by
  split
  ·exact h2
  ·exact(InD.zero _).mono (Nat.zero_le _)
 exact⟨a,(a.add a2).mono (by decide)⟩
theorem RD {b:BmP} (h:b.Lf) {c:Nat} (hc:0<c) (hle:c≤10^17) (hs:b.r-b.l=((c:Int):Rat)/((27720:Nat):Rat)) {x:Rat} {D:Nat} (hx:PlD b D x) {l1 l2:List (Rat×Rat)} (e:b.pts x=l1++l2):
  InD (768398400*55440*c*D) (10^84) (AC tS (b.sup x) l1):=by
 have hD:=hx.pos
 obtain⟨h1,h2⟩:=Ip h hD hx.le hx.x
 have hsu:=((Tv h hc hle hs x).2).upc (by omega) hD hx.le
 have ht: ∀p∈b.pts x,InD (768398400*55440*c*D) (10^80) (tS p):=fun p hp'=>by
  have a:=((h1 p hp').2).upc (by omega) (c:=55440*c) (C:=55440*10^17) (by omega) (by omega)
  have a2:=(InD.zero (768398400*D*(55440*c))).sub a
  have e1:768398400*D*(55440*c)=768398400*55440*c*D:=by grind
  rw[e1] at a2
  have e2:(0:Rat)-p.2=tS p:=by unfold tS;grind
  rw[e2] at a2
  exact a2.mono (by decide)
 have hq:=Dz e hsu ht
 exact hq.mono (Nat.le_trans (Nat.add_le_add_left (Nat.mul_le_mul_right _ h2) _) (by decide))
theorem Sq {b:BmP} (h:b.Lf) {c:Nat} (hc:0<c) (hle:c≤10^17) (hs:b.r-b.l=((c:Int):Rat)/((27720:Nat):Rat)) {x:Rat} {D:Nat} (hx:PlD b D x):
  InD (768398400*55440*c*(27720*D)) (10^100) (b.left*(x-b.l))∧InD (768398400*55440*c*(27720*D)) (10^100) (b.right*(x-b.r))∧InD (768398400*55440*c*(27720*D)) (10^101) (b.supM x)∧InD (768398400*55440*c*(27720*D)) (10^100) (if b.l<x then b.left*(x-b.l) else 0):=by
 have hD:=hx.pos
 have h1:=Mi h hc hle hs
 have h2:=HD h hc hs
 have xl:=hx.x.sub (h.l.upc (by decide) hD hx.le)
 have xr:=hx.x.sub (h.r.upc (by decide) hD hx.le)
 have a:=(h1.mul xl (by omega) (by omega)).mono (M':=10^100) (by decide)
 have c2:=(h2.mul xr (by omega) (by omega)).mono (M':=10^100) (by decide)
 have a':InD (768398400*55440*c*(27720*D)) (10^100) (if b.l<x then b.left*(x-b.l) else 0):=by
  split
  ·exact a
  ·exact(InD.zero _).mono (Nat.zero_le _)
 have c':InD (768398400*55440*c*(27720*D)) (10^100) (if b.r<x then b.right*(x-b.r) else 0):=by
  split
  ·exact c2
  ·exact(InD.zero _).mono (Nat.zero_le _)
 exact⟨a,c2,(a'.add c').mono (by decide),a'⟩
theorem PZ {b:BmP} (h:b.Lf) {c:Nat} (hc:0<c) (hle:c≤10^17) (hs:b.r-b.l=((c:Int):Rat)/((27720:Nat):Rat)) {x:Rat} {D:Nat} (hx:PlD b D x) {l1 l2:List (Rat×Rat)} (e:b.pts x=l1++l2):
  InD (768398400*55440*c*(27720*D)*D) (10^127) (AC (tM x) (b.supM x) l1):=by
 have hD:=hx.pos
 obtain⟨h1,h2⟩:=Ip h hD hx.le hx.x
 have hsu:=((Sq h hc hle hs hx).2.2.1).upc (Nat.mul_pos (by omega) (by omega)) hD hx.le
 have ht: ∀p∈b.pts x,InD (768398400*55440*c*(27720*D)*D) (10^125) (tM x p):=fun p hp'=>by
  obtain⟨p1,p2⟩:=h1 p hp'
  have x4:=hx.x.up (by omega) 2 (by decide)
  rw[show 27720*D*2=55440*D by omega] at x4
  have m:=p2.mul (x4.sub p1) (by omega) (by omega)
  have m2:=(InD.zero _).sub (m.upc (Nat.mul_pos (by omega) (by omega)) (c:=27720*c) (C:=27720*10^17) (by omega) (by omega))
  have e1:768398400*D*(55440*D)*(27720*c)=768398400*55440*c*(27720*D)*D:=by grind
  rw[e1] at m2
  have e2:(0:Rat)-p.2*(x-p.1)=tM x p:=by unfold tM;grind
  rw[e2] at m2
  exact m2.mono (by decide)
 have hq:=Dz e hsu ht
 exact hq.mono (Nat.le_trans (Nat.add_le_add_left (Nat.mul_le_mul_right _ h2) _) (by decide))
end
section
set_option maxRecDepth 10000
theorem Rk {b:BmP} (h:BmC b) {x:Rat} (hx:szQ x 24) {s:Rat×Rat×Rat} (hs:s∈b.ss):szQ (Dd x s) 24:=by
 unfold Dd
 split
 ·exact hx
 ·exact(h.s s hs).2.1.sz.mono (by decide)
theorem LH {b:BmP} (h:BmC b) {x:Rat} (hx:szQ x 24):Lu b x:=by
 refine⟨fun f hm=>sz2 (h.f f hm).1.sz hx (by decide),fun s hm=>sz2 (h.s s hm).2.1.sz hx (by decide),fun s hm=> ?_,fun s hm=>sz2 (h.s s hm).1.sz (Rk h hx hm) (by decide)⟩
 have a:=(h.s s hm).1.sz
 have c:=Rk h hx hm
 exact⟨sz2 a c (by decide),sz2 (a.add c) Te (by decide),sz2 c a (by decide),sz2 (h.s s hm).2.2.sz (c.sub a) (by decide)⟩
theorem PD {a b c A B C k:Nat} (h1:a≤A) (h2:b≤B) (h3:c≤C) (h:A*B*C<k):a*b*c<k:=Nat.lt_of_le_of_lt (Nat.mul_le_mul (Nat.mul_le_mul h1 h2) h3) h
theorem M9 {b:BmP} (h:BmC b) (hf:b.Lf):RcZ b∧szQ b.left 100∧szQ b.right 100:=by
 obtain⟨c,hc,hle,hs⟩:=LA hf h.lies
 obtain⟨hp,_⟩:=Ip hf (D:=1) (C:=1) (by decide) (by decide) (OY hf)
 have hlf:=h.lf
 have hls:=h.ls
 have p1: ∀p∈b.pts b.len,szQ p.1 17∧szQ p.2 34:=fun p hm=>⟨(hp p hm).1.sz (by decide) (by decide) (by decide),(hp p hm).2.sz (by decide) (by decide) (by decide)⟩
 have hmem: ∀ {l1 pt l2},b.pts b.len=l1++pt::l2→pt∈b.pts b.len:=fun e=>by rw[e];exact List.mem_append_right _ (List.mem_cons_self ..)
 have zt:szQ b.total 36:=(Jw hf).1.sz (by decide) (by decide) (by decide)
 have zu:szQ b.turn 53:=(L5 hf).1.sz (by decide) (by decide) (by decide)
 have hk:768398400*55440*c<10^58:=Nat.lt_of_le_of_lt (Nat.mul_le_mul_left _ hle) (by decide)
 have zr:szQ b.right 58:=(HD hf hc hs).sz (by omega) (by decide) hk
 have zl:szQ b.left 59:=(Mi hf hc hle hs).sz (by omega) (by decide) (Nat.lt_trans hk (by decide))
 refine⟨⟨LH h (h.len.sz.mono (by decide)),by omega,by omega,fun l1 pt l2 e=> ?_,fun l1 pt l2 e=> ?_,sz2 h.r.sz h.l.sz (by decide),sz2 zu (h.r.sz.sub h.l.sz) (by decide),Mv (by have:=h.lies.lr;grind),sz2 zt zr (by decide)⟩,zl.mono (by decide),zr.mono (by decide)⟩
 ·have ha:szQ (AC tW 0 l1) 36:=((Jw hf).2 l1 _ e).sz (by decide) (by decide) (by decide)
  exact sz2 ha (p1 pt (hmem e)).2 (by decide)
 ·obtain⟨z1,z2⟩:=p1 pt (hmem e)
  have zd:=z1.sub h.l.sz
  have ha:szQ (AC (tT b.l) 0 l1) 53:=((L5 hf).2 l1 _ e).sz (by decide) (by decide) (by decide)
  exact⟨sz2 z1 h.l.sz (by decide),sz2 z2 zd (by decide),sz2 ha (z2.mul zd) (by decide)⟩
theorem RM {b:BmP} (h:b.Lf) {x:Rat} {D:Nat} (hx:PlD b D x): ∀p∈b.pts x,szQ p.1 41∧szQ p.2 58:=fun p hm=>by
 obtain⟨hp,_⟩:=Ip h hx.pos hx.le hx.x
 have hD:=hx.pos
 have hle:=hx.le
 exact⟨(hp p hm).1.sz (by omega) (by decide) (Nat.lt_of_le_of_lt (Nat.mul_le_mul_left _ hle) (by decide)),(hp p hm).2.sz (by omega) (by decide) (Nat.lt_of_le_of_lt (Nat.mul_le_mul_left _ hle) (by decide))⟩
theorem TP {b:BmP} (h:BmC b) (hf:b.Lf) {x:Rat} (hx:szQ x 24) (h0:0≤x) (h1:x≤b.len):ShZ b x:=by
 obtain⟨hrc,zl,zr⟩:=M9 h hf
 obtain⟨c,hc,hle,hs⟩:=LA hf h.lies
 have hP:=PlD.of hf hx h0 h1
 have hD:=hP.pos
 have hDl:=hP.le
 have a2:szQ (if b.l≤x then b.left else 0) 100:=by
  split
  ·exact zl
  ·exact NP.mono (by decide)
 refine⟨hrc,LH h hx,sz2 h.l.sz hx (by decide),sz2 h.r.sz hx (by decide),sz2 NP zl (by decide),sz2 a2 zr (by decide),fun l1 pt l2 e=> ?_⟩
 have za:szQ (AC tS (b.sup x) l1) 85:=(RD hf hc hle hs hP e).sz (Nat.mul_pos (by omega) hD) (by decide) (PD (Nat.le_refl _) hle hDl (by decide))
 exact sz2 za (RM hf hP pt (by rw[e];exact List.mem_append_right _ (List.mem_cons_self ..))).2 (by decide)
theorem TJ {b:BmP} (h:BmC b) (hf:b.Lf) {x:Rat} (hx:szQ x 24) (h0:0≤x) (h1:x≤b.len):MoZ b x:=by
 obtain⟨hrc,zl,zr⟩:=M9 h hf
 obtain⟨c,hc,hle,hs⟩:=LA hf h.lies
 have hP:=PlD.of hf hx h0 h1
 have hD:=hP.pos
 have hDl:=hP.le
 have m1:=zl.mul (hx.sub h.l.sz)
 have m2:=zr.mul (hx.sub h.r.sz)
 have a2:szQ (if b.l<x then b.left*(x-b.l) else 0) (100+(24+12+1)):=by
  split
  ·exact m1
  ·exact NP.mono (by decide)
 refine⟨hrc,LH h hx,sz2 h.l.sz hx (by decide),sz2 h.r.sz hx (by decide),sz2 hx h.l.sz (by decide),sz2 hx h.r.sz (by decide),sz2 zl (hx.sub h.l.sz) (by decide),sz2 zr (hx.sub h.r.sz) (by decide),sz2 NP m1 (by decide),sz2 a2 m2 (by decide),fun l1 pt l2 e=> ?_⟩
 obtain⟨z1,z2⟩:=RM hf hP pt (by rw[e];exact List.mem_append_right _ (List.mem_cons_self ..))
 have hk:768398400*55440*c*(27720*x.den)*x.den<10^128:=by
  refine PD (A:=768398400*55440*10^17) (Nat.mul_le_mul_left _ hle) (Nat.mul_le_mul_left _ hDl) hDl (by decide)
 have za:szQ (AC (tM x) (b.supM x) l1) 128:=(PZ hf hc hle hs hP e).sz (Nat.mul_pos (Nat.mul_pos (by omega) (by omega)) hD) (by decide) hk
 exact⟨sz2 hx z1 (by decide),sz2 z2 (hx.sub z1) (by decide),sz2 za (z2.mul (hx.sub z1)) (by decide)⟩
end
section
open Go Go.RowKit Go.Am Go.Lib
set_option maxRecDepth 10000
-- BOXES 4
-- CODE2
def Mw (f:List UInt8×List UInt8):Bool:=decide (24<f.1.length)||decide (24<f.2.length)
def NQ (s:List UInt8×List UInt8×List UInt8):Bool:=(decide (24<s.1.length)||decide (24<s.2.1.length))||decide (24<s.2.2.length)
def Ge (w:BmW):Prop:=24<w.len.length∨24<w.l.length∨24<w.r.length∨70<w.fs.length∨70<w.ss.length∨(5<w.fs.length∧w.fs.length≤64)∨(4<w.ss.length∧w.ss.length≤64)
instance (w:BmW):Decidable (Ge w):=by unfold Ge;infer_instance
def KM (w:BmW):Bool:=decide (Ge w)||(w.fs.any Mw||w.ss.any NQ)
theorem MZ {α:Type} {p:α→Bool} {l:List α} {i:Nat} (hi:i<l.length):(l.drop i).any p=(p l[i]||(l.drop (i+1)).any p):=by
 rw[List.drop_eq_getElem_cons hi,List.any_cons]
theorem S5 {w:BmW} (h:KM w=false):w.Short∧(w.fs.length≤64→w.fs.length≤5)∧(w.ss.length≤64→w.ss.length≤4):=by
 unfold KM at h
 rw[Bool.or_eq_false_iff,Bool.or_eq_false_iff,decide_eq_false_iff_not] at h
 obtain⟨h1,h2,h3⟩:=h
 unfold Ge at h1
 refine⟨⟨by omega,by omega,by omega,fun f hf=> ?_,fun s hs=> ?_,by omega,by omega⟩,by omega,by omega⟩
 ·have:=List.any_eq_false.1 h2 f hf
  unfold Mw at this
  simp only[Bool.or_eq_true,decide_eq_true_eq] at this
  omega
 ·have:=List.any_eq_false.1 h3 s hs
  unfold NQ at this
  simp only[Bool.or_eq_true,decide_eq_true_eq] at this
  omega
theorem J4 (w:BmW) (p q:Option Addr) (m n:Nat) (hlf:w.fs.length≤4000000000) (hls:w.ss.length≤4000000000) (W:World) (hF:Mq W p w.fs) (hS:M2 W q w.ss):
  Ad Tryz.prog 7 #[bwV w p m q n] W (fun _:Unit=> .bool (KM w)) (fun _=>True) (fun _=>[]):=by
 refine Ab (args:=[bwV w p m q n]) Tryz.func7 I I I ?_
 refine zA (zB ?_)
 (refine Az rfl rfl rfl rfl ?_;intro)
 refine wP I (Aa ?_)
 rename_i b1
 refine A4 (Ax (Ax ?_))
 refine A3 (X:=Bool) (fun b=>[(1,Al b1),(56, .bool b)]) (fun _=>[bwX b1 w p m q n]) (fun b=>b=decide (Ge w)) ?_ ?_
 ·refine zB (wP I (wB 0 I I I (wP I ?_)))
  refine Ag 7 (.int .i64 (w.len.length:Nat)) I (congrArg (fun n:Nat=>Value.int .i64 (n:Int)) (As _)) ?_
  refine wP I ?_
  by_cases c0:24<w.len.length
  ·refine wU 8 true I (dT (by omega)) (wP I ?_)
   iterate 4 refine Af I I ?_
   refine wP I (wP I ?_)
   iterate 4 refine Af I I ?_
   refine wP I (wP I ?_)
   iterate 4 refine Af I I ?_
   refine wP I (wP I ?_)
   iterate 4 refine Af I I ?_
   refine wP I (wP I ?_)
   iterate 10 refine Af I I ?_
   refine wP I (wP I ?_)
   iterate 10 refine Af I I ?_
   exact wP I (Aa (Ah true (by unfold Ge;exact(dT (by omega)).symm) ⟨I,I,O⟩ [] I))
  refine wU 8 false I (dF (by omega)) (wP I (wP I (wB 0 I I I (wP I ?_))))
  refine Ag 12 (.int .i64 (w.l.length:Nat)) I (congrArg (fun n:Nat=>Value.int .i64 (n:Int)) (As _)) ?_
  refine wP I ?_
  by_cases c1:24<w.l.length
  ·refine wU 13 true I (dT (by omega)) (wP I (wP I ?_))
   iterate 4 refine Af I I ?_
   refine wP I (wP I ?_)
   iterate 4 refine Af I I ?_
   refine wP I (wP I ?_)
   iterate 4 refine Af I I ?_
   refine wP I (wP I ?_)
   iterate 10 refine Af I I ?_
   refine wP I (wP I ?_)
   iterate 10 refine Af I I ?_
   exact wP I (Aa (Ah true (by unfold Ge;exact(dT (by omega)).symm) ⟨I,I,O⟩ [] I))
  refine wU 13 false I (dF (by omega)) (wP I (wP I (wP I (wB 0 I I I (wP I ?_)))))
  refine Ag 18 (.int .i64 (w.r.length:Nat)) I (congrArg (fun n:Nat=>Value.int .i64 (n:Int)) (As _)) ?_
  refine wP I ?_
  by_cases c2:24<w.r.length
  ·refine wU 19 true I (dT (by omega)) (wP I (wP I ?_))
   iterate 4 refine Af I I ?_
   refine wP I (wP I ?_)
   iterate 4 refine Af I I ?_
   refine wP I (wP I ?_)
   iterate 10 refine Af I I ?_
   refine wP I (wP I ?_)
   iterate 10 refine Af I I ?_
   exact wP I (Aa (Ah true (by unfold Ge;exact(dT (by omega)).symm) ⟨I,I,O⟩ [] I))
  refine wU 19 false I (dF (by omega)) (wP I (wP I (wP I (wB 0 I I I (wP I (wP I ?_))))))
  by_cases c3:70<w.fs.length
  ·refine wU 25 true I (dT (by omega)) (wP I (wP I ?_))
   iterate 4 refine Af I I ?_
   refine wP I (wP I ?_)
   iterate 10 refine Af I I ?_
   refine wP I (wP I ?_)
   iterate 10 refine Af I I ?_
   exact wP I (Aa (Ah true (by unfold Ge;exact(dT (by omega)).symm) ⟨I,I,O⟩ [] I))
  refine wU 25 false I (dF (by omega)) (wP I (wP I (wP I (wB 0 I I I (wP I (wP I ?_))))))
  by_cases c4:70<w.ss.length
  ·refine wU 31 true I (dT (by omega)) (wP I (wP I ?_))
   iterate 10 refine Af I I ?_
   refine wP I (wP I ?_)
   iterate 10 refine Af I I ?_
   exact wP I (Aa (Ah true (by unfold Ge;exact(dT (by omega)).symm) ⟨I,I,O⟩ [] I))
  refine wU 31 false I (dF (by omega)) (wP I (wP I (wP I (wB 0 I I I (wP I (wP I ?_))))))
  by_cases c5:5<w.fs.length
  ·refine wU 37 true I (dT (by omega)) (wP I (wP I (wB 0 I I I (wP I (wP I ?_)))))
   by_cases c55:w.fs.length≤64
   ·refine wU 42 true I (dT (by omega)) (wP I (wP I (wP I ?_)))
    iterate 10 refine Af I I ?_
    exact wP I (Aa (Ah true (by unfold Ge;exact(dT (by omega)).symm) ⟨I,I,O⟩ [] I))
   ·refine wU 42 false I (dF (by omega)) (wP I (wP I (wP I (wP I (wB 0 I I I (wP I (wP I ?_)))))))
    by_cases c6:4<w.ss.length
    ·refine wU 49 true I (dT (by omega)) (wP I (wP I (wB 0 I I I (wP I (wP I ?_)))))
     by_cases c7:w.ss.length≤64
     ·exact wU 54 true I (dT (by omega)) (wP I (wP I (Aa (Ah true (by unfold Ge;exact(dT (by omega)).symm) ⟨I,I,O⟩ [] I))))
     ·exact wU 54 false I (dF (by omega)) (wP I (wP I (Aa (Ah false (by unfold Ge;exact(dF (by omega)).symm) ⟨I,I,O⟩ [] I))))
    ·refine wU 49 false I (dF (by omega)) (wP I ?_)
     iterate 4 refine Af I I ?_
     exact wP I (wP I (Aa (Ah false (by unfold Ge;exact(dF (by omega)).symm) ⟨I,I,O⟩ [] I)))
  ·refine wU 37 false I (dF (by omega)) (wP I ?_)
   iterate 4 refine Af I I ?_
   refine wP I (wP I (wP I (wP I (wB 0 I I I (wP I (wP I ?_))))))
   by_cases c6:4<w.ss.length
   ·refine wU 49 true I (dT (by omega)) (wP I (wP I (wB 0 I I I (wP I (wP I ?_)))))
    by_cases c7:w.ss.length≤64
    ·exact wU 54 true I (dT (by omega)) (wP I (wP I (Aa (Ah true (by unfold Ge;exact(dT (by omega)).symm) ⟨I,I,O⟩ [] I))))
    ·exact wU 54 false I (dF (by omega)) (wP I (wP I (Aa (Ah false (by unfold Ge;exact(dF (by omega)).symm) ⟨I,I,O⟩ [] I))))
   ·refine wU 49 false I (dF (by omega)) (wP I ?_)
    iterate 4 refine Af I I ?_
    exact wP I (wP I (Aa (Ah false (by unfold Ge;exact(dF (by omega)).symm) ⟨I,I,O⟩ [] I)))
 intro b hb
 have hG:KM w=(b||(w.fs.any Mw||w.ss.any NQ)):=by unfold KM;rw[hb]
 cases b with
 |true=>
  exact zR I (zA (zB (wP I (Aa (zE (zO (zP (wR1 I I (by rw[hG];rfl)))))))))
 |false=>
 have hG:KM w=(w.fs.any Mw||w.ss.any NQ):=hG
 refine zS I (zI (zE (zA (zA (zB (wP I (Aa (zE (zH ?_)))))))))
 refine Aw (X:=Nat) (fun i=>[(1,Al b1),(3, .int .i64 (i:Nat))]) (fun _=>[bwX b1 w p m q n]) (fun i=>i≤w.fs.length∧w.fs.any Mw=(w.fs.drop i).any Mw) (fun i=>w.fs.length-i) 0 ⟨Nat.zero_le _,by rw[List.drop_zero]⟩ ⟨I,I,O⟩ [] I ?_
 intro i hi
 obtain⟨hi,hE⟩:i≤w.fs.length∧w.fs.any Mw=(w.fs.drop i).any Mw:=hi
 refine zA (zA (zB (wP I (wP I (wB 0 I I I (wP I (wP I ?_)))))))
 by_cases hlt:i<w.fs.length
 ·refine wU 61 true I (dT (by omega)) (Aa (zE (zR I (zI (zE (zA (zH (zA (zB ?_)))))))))
  rw[MZ hlt] at hE
  obtain⟨g,off,hpe,hrow⟩:=hF.at_ hlt
  have hrow:=hrow i hlt
  obtain⟨⟨f1,f2⟩,hfe⟩: ∃f,f=w.fs[i]:=⟨_,rfl⟩
  rw[←hfe] at hrow hE
  rw[show Mw (f1,f2)=(decide (24<f1.length)||decide (24<f2.length)) from rfl] at hE
  subst hpe
  simp only at hrow
  refine wP I (wB 0 I I I (wP I ?_))
  refine wJ ?_
  refine wP I (wL 0 I I (fun W1 hp=>hrow.hp hp) I (wP I ?_))
  refine Ag 70 (.int .i64 (f1.length:Nat)) I (congrArg (fun n:Nat=>Value.int .i64 (n:Int)) (As _)) ?_
  refine wP I ?_
  by_cases c1:24<f1.length
  ·refine wU 71 true I (dT (by omega)) (wP I ?_)
   iterate 8 refine Af I I ?_
   refine wP I (Aa (zE (zR I (zA (zB (wP I (Aa (zE (zO (zQ (zP (zP (zQ ?_)))))))))))))
   exact zP (wR1 I I (by rw[hG,hE,dT c1];rfl))
  refine wU 71 false I (dF (by omega)) (wP I (wP I (wB 0 I I I (wP I ?_))))
  refine wJ ?_
  refine wP I (wL 1 I I (fun W1 hp=>hrow.hp hp) I (wP I ?_))
  refine Ag 79 (.int .i64 (f2.length:Nat)) I (congrArg (fun n:Nat=>Value.int .i64 (n:Int)) (As _)) ?_
  refine wP I ?_
  by_cases c2:24<f2.length
  ·refine wU 80 true I (dT (by omega)) (wP I (Aa (zE (zR I (zA (zB (wP I (Aa (zE (zO (zQ (zP (zP ?_)))))))))))))
   exact zQ (zP (wR1 I I (by rw[hG,hE,dT c2,Bool.or_true];rfl)))
  refine wU 80 false I (dF (by omega)) (wP I (Aa (zE (zS I (zI (zN (zE (zB ?_))))))))
  rw[dF c1,dF c2] at hE
  exact wP I (wP I (wV 63 ((i+1:Nat):Int) I (An (by omega)) (wP I (Aa (Ak (i+1) ⟨hlt,hE⟩ (by show w.fs.length-(i+1)<w.fs.length-i;omega) ⟨I,I,O⟩ [] I)))))
 rw[hE,List.drop_of_length_le (by omega)] at hG
 have hG:KM w=w.ss.any NQ:=hG
 refine wU 61 false I (dF (by omega)) (Aa (zE (zS I (zJ (zK (zK (zL (zE (zA (zA (zB (wP I (Aa ?_)))))))))))))
 refine zE (zH ?_)
 refine Aw (X:=Nat) (fun i=>[(1,Al b1),(4, .int .i64 (i:Nat))]) (fun _=>[bwX b1 w p m q n]) (fun i=>i≤w.ss.length∧KM w=(w.ss.drop i).any NQ) (fun i=>w.ss.length-i) 0 ⟨Nat.zero_le _,by rw[List.drop_zero];exact hG⟩ ⟨I,I,O⟩ [] I ?_
 clear hG hE
 intro i hi
 obtain⟨hi,hE⟩:i≤w.ss.length∧KM w=(w.ss.drop i).any NQ:=hi
 refine zA (zA (zB (wP I (wP I (wB 0 I I I (wP I (wP I ?_)))))))
 by_cases hlt:i<w.ss.length
 ·refine wU 86 true I (dT (by omega)) (Aa (zE (zR I (zI (zE (zA (zH (zA (zB ?_)))))))))
  rw[MZ hlt] at hE
  obtain⟨g,off,hpe,hrow⟩:=hS.at_ hlt
  have hrow:=hrow i hlt
  obtain⟨⟨f1,f2,f3⟩,hfe⟩: ∃f,f=w.ss[i]:=⟨_,rfl⟩
  rw[←hfe] at hrow hE
  rw[show NQ (f1,f2,f3)=((decide (24<f1.length)||decide (24<f2.length))||decide (24<f3.length)) from rfl] at hE
  subst hpe
  simp only at hrow
  refine wP I (wB 0 I I I (wP I ?_))
  refine wJ ?_
  refine wP I (wL 0 I I (fun W1 hp=>hrow.hp hp) I (wP I ?_))
  refine Ag 95 (.int .i64 (f1.length:Nat)) I (congrArg (fun n:Nat=>Value.int .i64 (n:Int)) (As _)) ?_
  refine wP I ?_
  by_cases c1:24<f1.length
  ·refine wU 96 true I (dT (by omega)) (wP I ?_)
   iterate 8 refine Af I I ?_
   refine wP I (wP I ?_)
   iterate 8 refine Af I I ?_
   refine wP I (Aa (zE (zR I (zA (zB (wP I (Aa (zE (zO (zQ (zP (zP (zQ ?_)))))))))))))
   exact zP (wR1 I I (by rw[hE,dT c1];rfl))
  refine wU 96 false I (dF (by omega)) (wP I (wP I (wB 0 I I I (wP I ?_))))
  refine wJ ?_
  refine wP I (wL 1 I I (fun W1 hp=>hrow.hp hp) I (wP I ?_))
  refine Ag 104 (.int .i64 (f2.length:Nat)) I (congrArg (fun n:Nat=>Value.int .i64 (n:Int)) (As _)) ?_
  refine wP I ?_
  by_cases c2:24<f2.length
  ·refine wU 105 true I (dT (by omega)) (wP I (wP I ?_))
   iterate 8 refine Af I I ?_
   refine wP I (Aa (zE (zR I (zA (zB (wP I (Aa (zE (zO (zQ (zP (zP (zQ ?_)))))))))))))
   exact zP (wR1 I I (by rw[hE,dT c2,Bool.or_true];rfl))
  refine wU 105 false I (dF (by omega)) (wP I (wP I (wP I (wB 0 I I I (wP I ?_)))))
  refine wJ ?_
  refine wP I (wL 2 I I (fun W1 hp=>hrow.hp hp) I (wP I ?_))
  refine Ag 114 (.int .i64 (f3.length:Nat)) I (congrArg (fun n:Nat=>Value.int .i64 (n:Int)) (As _)) ?_
  refine wP I ?_
  by_cases c3:24<f3.length
  ·refine wU 115 true I (dT (by omega)) (wP I (Aa (zE (zR I (zA (zB (wP I (Aa (zE (zO (zQ (zP (zP ?_)))))))))))))
   exact zQ (zP (wR1 I I (by rw[hE,dT c3,Bool.or_true];rfl)))
  refine wU 115 false I (dF (by omega)) (wP I (Aa (zE (zS I (zI (zN (zE (zB ?_))))))))
  rw[dF c1,dF c2,dF c3] at hE
  exact wP I (wP I (wV 88 ((i+1:Nat):Int) I (An (by omega)) (wP I (Aa (Ak (i+1) ⟨hlt,hE⟩ (by show w.ss.length-(i+1)<w.ss.length-i;omega) ⟨I,I,O⟩ [] I)))))
 rw[List.drop_of_length_le (by omega)] at hE
 refine wU 86 false I (dF (by omega)) (Aa (zE (zS I (zJ (zK (zK (zL (zE (zA (zB (wP I (Aa (zE ?_)))))))))))))
 exact zO (wR1 I I (by rw[hE];rfl))
section
variable {r:Option Nat} {n:Nat} {P:Program} {N:Nat} {D:List Deferred} {ops:List Oper} {Q:Exit→Act→World→Prop} {o:Oper} {rest:List Oper} {env:Env} {A:World→Prop}
theorem JN {W:World} {t ty e:TypeId} {size bytes:Nat} {z:Value} (hty:VecTy P t e size bytes z) {b:Option Addr} {k c c':Nat} (hk:k≤c):
  (Builtin.append_ #[t,t] ty #[.slice b k c, .slice none 0 c']).run P W= .ok (.slice b k c) W:=by
 obtain⟨i,hi,hz,hsz,hby⟩:=hty.hi
 have hs:(Go.sizeOf e).run P W= .ok i.size W:=by simp[sizeOf,typeInfo,hi]
 cases b<;>simp[Builtin.append_,run_underlying hty.ht,hs,hk,Builtin.lenOf,Builtin.firstCells,storeCells]
theorem HN {d:Nat} {t e:TypeId} {size bytes:Nat} {z:Value} (hty:VecTy P t e size bytes z) {c:Call} {s x:Operand} {b:Option Addr} {k cp cp':Nat}
  (hg:Ay ops N env o=some true) (hd:o.dst=some d) (ho:o.op= .call c) (hc:c.callee= .builtin .append) (ha:c.args= #[s,x]) (hat:c.argTypes= #[t,t])
  (hs:evO N env s=some (.slice b k cp)) (hx:evO N env x=some (.slice none 0 cp')) (hk:k≤cp)
  (h:WL r n P N D ops Q rest ((d, .slice b k cp)::env) A):WL r n P N D ops Q (o::rest) env A:= .mk fun act W h2 h3 hp=>by
 refine BO hg h2 (fun c e=>by rw[ho] at e;cases e) ?_
 have hr:=JN (P:=P) (W:=W) (ty:=o.type) hty (b:=b) (c':=cp') hk
 have e1:c.args.map (ov env act).eval= #[.slice b k cp, .slice none 0 cp']:=by rw[ha];simp[A8 h2 _ _ hs,A8 h2 _ _ hx]
 have:(execOp (ov env act).eval o).run P W= .ok (.value (.slice b k cp)) W:=by
  simp only[execOp,ho,resolve,hc,invoke,builtin,e1,hat,Sem.run_bind,Sem.run_pure,Result.andThen_ok,hr]
 rw[this]
 simp only[Oper.uponIn,hd]
 exact h.out act W h2 h3 hp
end
def IM (V:Vec):Option Addr:=V.p.map fun g=>⟨g,0,none⟩
def IH (V:Vec):Nat:=match V.p with
 |none=>0
 |some _=>V.cap
theorem Hv {V:Vec} {size n:Nat} {xs:List Value} (h:V.OK size n xs):V.val n= .slice (IM V) n (IH V):=by
 obtain⟨p,cap,junk⟩:=V
 cases p with
 |none=>rw[h.nil rfl];rfl
 |some g=>rfl
theorem QT {V:Vec} {size n:Nat} {xs:List Value} (h:V.OK size n xs):n≤IH V:=by
 obtain⟨p,cap,junk⟩:=V
 cases p with
 |none=>rw[h.nil rfl];exact Nat.le_refl _
 |some g=>exact(h.cap (by simp)).1
def FY (W:World) (p:Option Addr) (cs:List Value):Prop:=cs=[]∨ ∃b off,p=some ⟨b,off,none⟩∧Ao W b off cs
theorem FY.of_vec {V:Vec} {size n:Nat} {xs:List Value} {e:TypeId} {W0 W:World} {bxs:List Bx} (hV:V.OK size n xs) (k:Nat) (hk:nth bxs k=some (V.bx e xs)) (hp:Hp W0 bxs W):FY W (IM V) xs:=by
 obtain⟨p,cap,junk⟩:=V
 cases p with
 |none=>
  have h1:=hV.len
  rw[hV.nil rfl,Nat.zero_mul] at h1
  exact .inl (List.length_eq_zero_iff.1 h1)
 |some g=>exact .inr ⟨g,0,rfl,Ia hp k (A:=[]) (C:=junk) hk rfl rfl⟩
theorem FY.none {W:World} {l:List Value} (h:FY W none l):l=[]:=by
 rcases h with h|⟨b,off,e,_⟩
 ·exact h
 ·cases e
-- BOXES 3
def T2 (n0 n1:Nat):Nat→Nat
 |0=>0
 |1=>n0
 |_=>n0+n1
def C2 (c0 c1:List Value):Nat→List Value
 |0=>[]
 |1=>c0
 |_=>c0++c1
theorem Nn (W:World) (m:Nat) (hm:m≤1000000):Ad Tryz.prog 159 #[.slice none 0 0, .int .i64 (m:Nat)] W (fun V:Vec=>V.val 0) (fun V=>V.OK 1 0 []∧(0<m→V.p≠none)) (fun V=>[V.bx 22 []]):=by
 refine Ab (args:=[.slice none 0 0, .int .i64 (m:Nat)]) Tryz.func159 I I I ?_
 refine zA (zB (wP I (Aa (zE (zA (zA (zB (wP I (wP I (Aa (zE (zS I (zI ?_)))))))))))))
 refine zE (zA (zA (zB ?_)))
 iterate 8 refine wP I ?_
 refine Aa (zE (zA (zB (wP I (wP I (Aa (zE ?_)))))))
 have e14:w64 ((m:Int)-w64 (0-0))=m:=by
  have:w64 (0-0)=0:=rfl
  rw[this];exact(Aj (by omega) (by omega)).trans (by omega)
 refine AK 16 _ I (show Value.bool (decide (w64 ((m:Int)-w64 (0-0))>0))= .bool (decide (0<m)) by rw[e14];congr 1;simp) ?_
 refine Ai I (fun h=> ?_) (fun h=> ?_)
 ·have h:0<m:=by simpa using h
  refine zB (wP I (wP I (wP I ?_)))
  refine Ec 0 tH I I I I I I I I (Nat.le_refl _) ?_
  refine wP I ?_
  refine Kc Tryz.vec108 (ku:= .i64) (by kernel_rfl) m I I I I I I I I e14 h (by simp only[maxLen];omega) (by omega) ?_
  intro V hV hp hj
  refine wP I (wP I ?_)
  obtain⟨p,cap,junk⟩:=V
  cases p with
  |none=>exact absurd rfl hp
  |some g=>
  refine Ec (a:=some ⟨g,0,none⟩) (len:=m) (cap:=cap) 0 tH I I I I I I I I (Nat.zero_le _) ?_
  refine wP I (Aa (zE (zA (zB (wP I (wP I (Aa (zE (zO ?_)))))))))
  obtain⟨h1,h2,h3⟩:=hV.cap (by simp)
  refine AE tH rfl (.tmp rfl) (⟨some g,cap,Ck [.string ⟨#[]⟩] m++junk⟩:Vec) rfl ⟨⟨rfl,(fun h=>by cases h),fun _=>⟨Nat.zero_le _,h2, ?_⟩⟩,fun _=>by simp⟩ fun W hp=>A0.of_hp1 hp 0 rfl
  show 0+(Ck _ m++junk).length=cap*1
  rw[List.length_append,Nat.zero_add]
  exact h3
 ·have h:m=0:=by simp at h;omega
  subst h
  exact zI (zE (zA (zB (wP rfl (wP rfl (Aa (zE (zO (AE tH rfl (.tmp rfl) Vec.empty rfl ⟨Vec.OK.empty 1,fun h=>absurd h (Nat.lt_irrefl _)⟩ fun W hp=>Own.one (fun p hp=>by cases hp) List.nodup_nil)))))))))
theorem KF (W:World) (b cap:Nat) (p0 p1:Option Addr) (n0 n1 k0 k1:Nat) (c0 c1:List Value) (hrow:Ao W b 0 [.slice p0 n0 k0, .slice p1 n1 k1]) (h0:FY W p0 c0) (h1:FY W p1 c1) (l0:c0.length=n0*1) (l1:c1.length=n1*1)
  (o0: ∀u∈c0,u.oneCell'=true) (o1: ∀u∈c1,u.oneCell'=true) (b0:n0≤100000) (b1:n1≤100000):
  Ad Tryz.prog 86 #[.slice (some ⟨b,0,none⟩) 2 cap] W (fun V:Vec=>V.val (n0+n1)) (fun V=>V.OK 1 (n0+n1) (c0++c1)) (fun V=>[V.bx 22 (c0++c1)]):=by
 refine Ab (args:=[.slice (some ⟨b,0,none⟩) 2 cap]) Tryz.func86 I I I ?_
 refine zA (zB (wP I (Aa (zE (zA (zB (wP I (Aa (zE (zA (zA (zB (wP I (wP I (wP I ?_)))))))))))))))
 refine Aa (zE (zH ?_))
 refine Aw (X:=Nat) (fun k=>[(0, .slice (some ⟨b,0,none⟩) 2 cap),(3, .int .i64 (T2 n0 n1 k:Nat)),(9, .slice (some ⟨b,0,none⟩) 2 cap),(10, .int .i64 2),(11, .int .i64 (k:Nat))]) (fun _=>[])
  (fun k=>k≤2) (fun k=>2-k) 0 (Nat.zero_le _) ⟨rfl,rfl,rfl,rfl,rfl,trivial⟩ [] rfl ?_
 intro i hi
 have hi:i=0∨i=1∨i=2:=by have:i≤2:=hi;omega
 rcases hi with rfl|rfl|rfl
 ·refine zA (zB (wP I (Aa (zE (zA (zR I (zI (zE (zA (zH (zA (zB ?_))))))))))))
  refine wJ ?_
  refine wL 0 I I (fun W hp=>hrow.hp hp) I (wP I (Aa (zE (zA (zB (wP I (wP I (wP I (wP I (wV 18 (T2 n0 n1 1:Nat) I (show w64 ((T2 n0 n1 0:Nat)+(n0:Nat))=(T2 n0 n1 1:Nat) by have hT0:T2 n0 n1 0=0:=I;have hT1:T2 n0 n1 1=n0:=I;rw[Aj (by omega) (by omega)];omega) (wP I (Aa (zE ?_)))))))))))))
  exact zA (zB (wP I (wP I (Aa (zE (zS I (zI (zN (zE (zB (wP I (wP I (Aa (Ak 1 (by decide) (by decide) ⟨I,I,I,I,I,O⟩ [] I))))))))))))))
 ·refine zA (zB (wP I (Aa (zE (zA (zR I (zI (zE (zA (zH (zA (zB ?_))))))))))))
  refine wJ ?_
  refine wL 1 I I (fun W hp=>hrow.hp hp) I (wP I (Aa (zE (zA (zB (wP I (wP I (wP I (wP I (wV 18 (T2 n0 n1 2:Nat) I (show w64 ((T2 n0 n1 1:Nat)+(n1:Nat))=(T2 n0 n1 2:Nat) by have hT0:T2 n0 n1 1=n0:=I;have hT1:T2 n0 n1 2=n0+n1:=I;rw[Aj (by omega) (by omega)];omega) (wP I (Aa (zE ?_)))))))))))))
  exact zA (zB (wP I (wP I (Aa (zE (zS I (zI (zN (zE (zB (wP I (wP I (Aa (Ak 2 (by decide) (by decide) ⟨I,I,I,I,I,O⟩ [] I))))))))))))))
 refine zA (zB (wP I (Aa (zE (zA (zS I (zJ (zK (zK (zL (zE (zA (zB ?_)))))))))))))
 refine wP I ?_
 refine wD (X:=Vec) I I (fun W _=>Nn W (n0+n1) (by omega)) ?_
 rintro V0 ⟨hV0,hV0p⟩
 refine wP I (Aa (zE (zA (zA (zB (wP I (wP I (wP I (Aa (zE (zH ?_)))))))))))
 refine Aw (X:=Nat×Vec) (fun x=>[(6,x.2.val (T2 n0 n1 x.1)),(25, .slice (some ⟨b,0,none⟩) 2 cap),(26, .int .i64 2),(27, .int .i64 (x.1:Nat))]) (fun x=>[x.2.bx 22 (C2 c0 c1 x.1)])
  (fun x=>x.1≤2∧x.2.OK 1 (T2 n0 n1 x.1) (C2 c0 c1 x.1)) (fun x=>2-x.1) (0,V0) ⟨Nat.zero_le _,hV0⟩ ⟨rfl,rfl,rfl,rfl,trivial⟩ [] rfl ?_
 rintro⟨i,V⟩ ⟨hi,hV⟩
 have hi:i=0∨i=1∨i=2:=by have:i≤2:=hi;omega
 rcases hi with rfl|rfl|rfl
 ·have hV:V.OK 1 (T2 n0 n1 0) (C2 c0 c1 0):=hV
  have hT0:T2 n0 n1 0=0:=rfl
  have hT1:T2 n0 n1 1=n0:=rfl
  refine zA (zB (wP I (Aa (zE (zA (zR I (zI (zE (zA (zH (zA (zB ?_))))))))))))
  refine wJ ?_
  refine wL 0 I I (fun W hp=>hrow.hp hp) I (wP I (Aa (zE (zB (wP I (wP I ?_))))))
  cases p0 with
  |none=>
   have hc:=h0.none
   have hn0:n0=0:=by rw[hc,List.length_nil] at l0;omega
   refine Ag 31 (.slice (IM V) (T2 n0 n1 0) (IH V)) I (Hv hV) ?_
   refine Ag 32 (.slice none 0 k0) I (by rw[hn0]) ?_
   refine HN Tryz.vec108 I I I I I I I I (QT hV) ?_
   refine Ag 33 (V.val (T2 n0 n1 0)) I (Hv hV).symm ?_
   have eT:T2 n0 n1 0=T2 n0 n1 1:=by omega
   have eC:C2 c0 c1 0=C2 c0 c1 1:=by show[]=c0;rw[hc]
   rw[eT,eC] at hV
   rw[eT,eC]
   exact wP I (Aa (zN (zE (zB (wP I (wP I (Aa (Ak (1,V) ⟨by show 1≤2;decide,hV⟩ (by show 2-1<2-0;decide) ⟨I,I,I,I,O⟩ [] I))))))))
  |some a=>
   refine Gr (len:=T2 n0 n1 0) (V:=V) 0 Tryz.vec108 I I I I I I I I I hV l0 (fun W hp j u hj=> ?_) o0 (by simp only[maxLen];omega) (by omega) ?_
   ·obtain⟨ab,ao,asp⟩:=a
    rcases h0 with h|⟨b',off',e,h⟩
    ·rw[h] at hj;simp at hj
    ·cases e
     rw[Addr.add_none]
     exact(h.hp hp).get j u hj
   intro V' hV' _
   have eT:T2 n0 n1 0+n0=T2 n0 n1 1:=by omega
   have eC:C2 c0 c1 0++c0=C2 c0 c1 1:=rfl
   rw[eT,eC] at hV'
   rw[eT,eC]
   exact wP I (Aa (zN (zE (zB (wP I (wP I (Aa (Ak (1,V') ⟨by show 1≤2;decide,hV'⟩ (by show 2-1<2-0;decide) ⟨I,I,I,I,O⟩ [] I))))))))
 ·have hV:V.OK 1 (T2 n0 n1 1) (C2 c0 c1 1):=hV
  have hT0:T2 n0 n1 1=n0:=rfl
  have hT1:T2 n0 n1 2=n0+n1:=rfl
  refine zA (zB (wP I (Aa (zE (zA (zR I (zI (zE (zA (zH (zA (zB ?_))))))))))))
  refine wJ ?_
  refine wL 1 I I (fun W hp=>hrow.hp hp) I (wP I (Aa (zE (zB (wP I (wP I ?_))))))
  cases p1 with
  |none=>
   have hc:=h1.none
   have hn0:n1=0:=by rw[hc,List.length_nil] at l1;omega
   refine Ag 31 (.slice (IM V) (T2 n0 n1 1) (IH V)) I (Hv hV) ?_
   refine Ag 32 (.slice none 0 k1) I (by rw[hn0]) ?_
   refine HN Tryz.vec108 I I I I I I I I (QT hV) ?_
   refine Ag 33 (V.val (T2 n0 n1 1)) I (Hv hV).symm ?_
   have eT:T2 n0 n1 1=T2 n0 n1 2:=by omega
   have eC:C2 c0 c1 1=C2 c0 c1 2:=by show c0=c0++c1;rw[hc];simp
   rw[eT,eC] at hV
   rw[eT,eC]
   exact wP I (Aa (zN (zE (zB (wP I (wP I (Aa (Ak (2,V) ⟨by show 2≤2;decide,hV⟩ (by show 2-2<2-1;decide) ⟨I,I,I,I,O⟩ [] I))))))))
  |some a=>
   refine Gr (len:=T2 n0 n1 1) (V:=V) 0 Tryz.vec108 I I I I I I I I I hV l1 (fun W hp j u hj=> ?_) o1 (by simp only[maxLen];omega) (by omega) ?_
   ·obtain⟨ab,ao,asp⟩:=a
    rcases h1 with h|⟨b',off',e,h⟩
    ·rw[h] at hj;simp at hj
    ·cases e
     rw[Addr.add_none]
     exact(h.hp hp).get j u hj
   intro V' hV' _
   have eT:T2 n0 n1 1+n1=T2 n0 n1 2:=by omega
   have eC:C2 c0 c1 1++c1=C2 c0 c1 2:=rfl
   rw[eT,eC] at hV'
   rw[eT,eC]
   exact wP I (Aa (zN (zE (zB (wP I (wP I (Aa (Ak (2,V') ⟨by show 2≤2;decide,hV'⟩ (by show 2-2<2-1;decide) ⟨I,I,I,I,O⟩ [] I))))))))
 refine zA (zB (wP I (Aa (zE (zA (zS I (zJ (zK (zK (zL (zE (zA (zB ?_)))))))))))))
 exact wP I (wP I (Aa (zE (zO (AE tH I (.tmp I) V I hV fun W hp=>A0.of_hp1 hp 0 I)))))
end
section
def Fe (p q:Rat):List (Rat×Rat×Rat)→Rat
 |[]=>0
 |s::l=>(if s.1≤p∧q≤s.2.1 then s.2.2 else 0)+Fe p q l
end
section
def BmP.chg (b:BmP):List Rat:=AR (AW ([0,b.len,b.l,b.r]++b.fs.map (fun f=>f.1)++b.ss.flatMap fun s=>[s.1,s.2.1]))
def BmP.zero1 (b:BmP) (p q:Rat):List Rat:=if Fe p q b.ss=0 then[] else if p<p+b.shear p/Fe p q b.ss∧p+b.shear p/Fe p q b.ss<q then[p+b.shear p/Fe p q b.ss] else[]
def BmP.zeros (b:BmP):List Rat→List Rat
 |p::q::l=>b.zero1 p q++b.zeros (q::l)
 |_=>[]
def El (m:Rat→Rat):Rat→List Rat→Rat
 |w,[]=>w
 |w,x::l=>El m (if m w<m x then x else w) l
def BmP.places (b:BmP):List Rat:=AW (b.chg++b.zeros b.chg)
def BmP.where_ (b:BmP):Rat:=match b.places with
 |[]=>0
 |a::l=>El b.moment a l
theorem M6 {b:BmP} {y:Rat}:y∈b.chg↔y=0∨y=b.len∨y=b.l∨y=b.r∨(∃f∈b.fs,y=f.1)∨(∃s∈b.ss,y=s.1∨y=s.2.1):=by
 unfold BmP.chg
 rw[HY,EU]
 simp only[List.mem_append,List.mem_cons,List.not_mem_nil,or_false,List.mem_map,List.mem_flatMap,or_assoc]
 constructor
 ·rintro(h|h|h|h|⟨f,hf,rfl⟩|⟨s,hs,h⟩)
  ·exact .inl h
  ·exact .inr (.inl h)
  ·exact .inr (.inr (.inl h))
  ·exact .inr (.inr (.inr (.inl h)))
  ·exact .inr (.inr (.inr (.inr (.inl ⟨f,hf,I⟩))))
  ·exact .inr (.inr (.inr (.inr (.inr ⟨s,hs,h⟩))))
 ·rintro(h|h|h|h|⟨f,hf,rfl⟩|⟨s,hs,h⟩)
  ·exact .inl h
  ·exact .inr (.inl h)
  ·exact .inr (.inr (.inl h))
  ·exact .inr (.inr (.inr (.inl h)))
  ·exact .inr (.inr (.inr (.inr (.inl ⟨f,hf,I⟩))))
  ·exact .inr (.inr (.inr (.inr (.inr ⟨s,hs,h⟩))))
end
section
theorem ND (b:BmP) {z:Rat}: ∀(c:List Rat),z∈b.zeros c→ ∃p∈c, ∃q∈c,p<z∧z<q
 |[],h=>by cases h
 |[a],h=>by cases h
 |p::q::l,h=>by
  have h:z∈b.zero1 p q++b.zeros (q::l):=h
  rcases List.mem_append.1 h with h|h
  ·unfold BmP.zero1 at h
   split at h
   ·cases h
   ·split at h
    ·rename_i hk
     obtain rfl:=List.mem_singleton.1 h
     exact⟨p,List.mem_cons_self ..,q,List.mem_cons_of_mem _ (List.mem_cons_self ..),hk.1,hk.2⟩
    ·cases h
  ·obtain⟨u,hu,v,hv,h1⟩:=ND b (q::l) h
   exact⟨u,List.mem_cons_of_mem _ hu,v,List.mem_cons_of_mem _ hv,h1⟩
theorem RJ {b:BmP} (h:b.Lies) {y:Rat} (hy:y∈b.chg):0≤y∧y≤b.len:=by
 have a1:=h.len;have a2:=h.l0;have a3:=h.lr;have a4:=h.r1
 rcases M6.1 hy with rfl|rfl|rfl|rfl|⟨f,hf,rfl⟩|⟨s,hs,rfl|rfl⟩
 ·exact⟨Rat.le_refl,Rat.le_of_lt a1⟩
 ·exact⟨Rat.le_of_lt a1,Rat.le_refl⟩
 ·exact⟨a2,by grind⟩
 ·exact⟨by grind,a4⟩
 ·exact⟨h.f0 f hf,h.f1 f hf⟩
 ·have b1:=h.s0 s hs;have b2:=h.s1 s hs;have b3:=h.s2 s hs
  exact⟨b1,by grind⟩
 ·have b1:=h.s0 s hs;have b2:=h.s1 s hs;have b3:=h.s2 s hs
  exact⟨by grind,b3⟩
end
section
open Go Go.RowKit Go.Am Go.Lib
set_option maxRecDepth 10000
-- BOXES 3
abbrev cs (l:List (List UInt8)):List Value:=l.map Go.Proofs.encStr
theorem NZ {l:List (List UInt8)} {j:Nat} (h:j<l.length) (junk:List Value):(cs l++junk)[j]? =some (Go.Proofs.encStr l.toArray[j]!):=by
 rw[List.getElem?_append_left (by simpa using h),List.getElem?_map,List.getElem?_eq_getElem h,getElem!_pos l.toArray j (by simpa using h)];simp
theorem R0 {W:World} {g:Nat} {zs:List (List UInt8)} {junk:List Value} {ty:TypeId} (h:W.heap[g]? =some (.cells (cs zs++junk).toArray ty (0,0))):Sort.Holds Go.Proofs.encStr W g 0 zs.toArray:=fun j hj=>by
 have hj':j<zs.length:=by simpa using hj
 have h1:=NZ hj' junk
 constructor
 ·simp only[World.cell?,h,Nat.zero_add]
  rw[List.getElem?_toArray];exact h1
 ·simp[World.frozen?,h]
theorem NW {zs zs':List (List UInt8)} (hl:zs'.length=zs.length) (junk:List Value):Sort.putCells Go.Proofs.encStr 0 zs'.toArray (cs zs++junk).toArray=(cs zs'++junk).toArray:=by
 apply Array.ext_getElem?
 intro k
 simp only[Sort.putCells,Array.getElem?_mapIdx,List.getElem?_toArray,List.size_toArray,Nat.zero_add,Nat.sub_zero,Nat.zero_le,true_and]
 by_cases hk:k<zs.length
 ·rw[NZ hk,NZ (show k<zs'.length by omega),Option.map_some,if_pos (by omega)]
 ·rw[List.getElem?_append_right (by simp;omega),List.getElem?_append_right (by simp;omega)]
  simp only[List.length_map,hl]
  cases junk[k-zs.length]? with
  |none=>rfl
  |some y=>rw[Option.map_some,if_neg (by omega)]
theorem Ob {W:World} {g:Nat} {zs zs':List (List UInt8)} {junk:List Value} {ty:TypeId} (h:W.heap[g]? =some (.cells (cs zs++junk).toArray ty (0,0))) (hl:zs'.length=zs.length) (n:Nat):
  II W (Sort.putRow Go.Proofs.encStr (Sort.ahead W n) g 0 zs'.toArray) g g (.cells (cs zs'++junk).toArray ty (0,0)):=by
 have hlt:g<W.heap.size:=(Array.getElem?_eq_some_iff.1 h).1
 have hs: ∀x,x<W.heap.size→(Sort.putRow Go.Proofs.encStr (Sort.ahead W n) g 0 zs'.toArray).heap[x]? =(W.heap.modify g (Sort.onCells (Sort.putCells Go.Proofs.encStr 0 zs'.toArray)))[x]? :=fun x hx=>rfl
 refine⟨I,I,I, ?_, ?_, .inl I,fun x hx hlt'=> ?_⟩
 ·show W.heap.size≤(W.heap.modify g _).size
  simp
 ·rw[hs g hlt,Array.getElem?_modify,if_pos rfl,h,Option.map_some]
  show some (Obj.cells (Sort.putCells _ _ _ _) _ _)=_
  rw[NW hl]
 ·rw[hs x hlt',Array.getElem?_modify,if_neg (fun e=>hx e.symm)]
theorem Gp (l:List Rat):(AR l).length≤l.length:=by
 fun_induction AR l with
 |case1=>exact Nat.le_refl _
 |case2 x=>exact Nat.le_refl _
 |case3 x l ih=>simp only[List.length_cons] at ih⊢;omega
 |case4 x y l h ih=>simp only[List.length_cons] at ih⊢;omega
theorem Tf (l:List Rat):cs (l.map Ac)=nS l:=by simp[nS,cs]
abbrev JM (l:List Rat) (junk:List Value):List Value:=cs (List.replicate (l.length-(AR l).length) [])++junk
theorem Na {W:World} {g cap:Nat} {l:List Rat} {junk:List Value} {ty:TypeId} (h:W.heap[g]? =some (.cells (nS l++junk).toArray ty (0,0))) (hn:l.length≤9223372036854775807) (hcap:l.length≤cap):
  Calls Tryz.prog 158 #[.slice (some ⟨g,0,none⟩) l.length cap] W fun e W'=> ∃x:Unit,e= .returned ((fun _=> .slice (some ⟨g,0,none⟩) (AR l).length cap) x)∧True∧
   II W W' g ((fun _=>g) x) ((fun _=> .cells (nS (AR l)++JM l junk).toArray ty (0,0)) x):=by
 have hl:=Gp l
 rw[←Tf] at h
 have h1:=Go.Proofs.AnyG.slices_Compact_string (P:=Tryz.prog) (ρ:=Tryz.laysN44_ren) Tryz.laysN44 g 0 cap (l.map Ac) W (R0 h) (by rw[List.length_map];exact hn) (by rw[List.length_map];exact hcap)
 rw[LT,List.length_map,List.length_map] at h1
 refine h1.mono ?_
 rintro e W' ⟨rfl,n,rfl⟩
 refine⟨(),I,O, ?_⟩
 have h2:=Ob (zs':=(AR l).map Ac++List.replicate (l.length-(AR l).length) []) h (by rw[List.length_append,List.length_replicate,List.length_map,List.length_map];omega) n
 have e:cs ((AR l).map Ac++List.replicate (l.length-(AR l).length) [])++junk=nS (AR l)++JM l junk:=by
  rw[←Tf, ←List.append_assoc];congr 1;exact List.map_append
 rw[e] at h2
 exact h2
theorem N4 (cf:Nat) (W:World) (p:Option Addr) (cap:Nat):Ad Tryz.prog 87 #[.slice p 0 cap, .func (.func cf) #[] #[]] W (fun _:Unit=> .tuple #[]) (fun _=>True) (fun _=>[]):=by
 refine Ab (args:=[.slice p 0 cap, .func (.func cf) #[] #[]]) Tryz.func87 I I I ?_
 refine zA (zB (wP I (wP I (wP I (Aa (zE (zB (wP I (wP I (wP I ?_))))))))))
 refine GJ (k:= .u64) (kt:= .i64) (by kernel_rfl) (by kernel_rfl) I I I I ?_
 refine Ag 10 (.int .u64 ((0:Nat):Int)) I I ?_
 refine BY (capt:=[]) I I I I I I (by kernel_rfl) (fun W _=>Hg 0 (by omega) W) ?_
 refine wP I ?_
 refine BY (capt:=[]) I I I I I I (by kernel_rfl) (fun W _=>Oc cf W p cap _) ?_
 exact Aa (Da (X:=Unit) (val:=fun _=> .tuple #[]) (Φ:=fun _=>True) (nb:=fun _=>[]) (fn:=Tryz.f87) tH I () I O fun W _=>A0.nil _ _)
theorem MI (W:World) (p:Option Addr) (cap:Nat):Ad Tryz.prog 158 #[.slice p 0 cap] W (fun _:Unit=> .slice p 0 cap) (fun _=>True) (fun _=>[]):=by
 refine Ab (args:=[.slice p 0 cap]) Tryz.func158 I I I ?_
 refine zA (zB (wP I (Aa (zE (zA (zA (zB (wP I (wP I (wP I (Aa (zE (zR I ?_)))))))))))))
 exact zA (zB (wP I (wP I (Aa (zE (zO (zP (wR1 I I I))))))))
theorem Hu {α:Type} {l:List α} {k:Nat} {x:α} (h:l[k]? =some x):l.set k x=l:=by
 obtain⟨h1,rfl⟩:=List.getElem?_eq_some_iff.1 h
 exact List.set_getElem_self h1
section
variable {r:Option Nat} {n:Nat} {W0:World} {N:Nat} {D:List Deferred} {ops:List Oper} {Q:Exit→Act→World→Prop} {o:Oper} {rest:List Oper} {env:Env} {bxs:List Bx}
theorem N9 (k:Nat) (cf:Nat) (hcf:N3 cf) (hv0:Br W0) (ht0:AB W0) {c:Call} {f:Operand} {d:Nat} {V:Vec} {l:List Rat} {len:Nat}
  (hg:Ay ops N env o=some true) (hd:o.dst=some d) (ho:o.op= .call c) (hc:c.callee= .value f) (hf:evO N env f=some (.func (.func 87) #[] #[])) (ha:BR (evO N env) c.args.toList=some [V.val len, .func (.func cf) #[] #[]])
  (hk:nth bxs k=some (V.bx 22 (nS l))) (hlen:len=l.length) (hV:V.OK 1 len (nS l)) (hn:l.length≤12) (hz: ∀p∈l, ∀q∈l,Sz2 p q)
  (h:WL r n Tryz.prog N D ops Q rest ((d, .tuple #[])::env) (Hp W0 (bxs.set k (V.bx 22 (nS (AW l)))))):WL r n Tryz.prog N D ops Q (o::rest) env (Hp W0 bxs):=by
 subst hlen
 obtain⟨p,cap,junk⟩:=V
 cases p with
 |none=>
  have hz0:=hV.nil rfl
  have e:bxs.set k ((⟨none,cap,junk⟩:Vec).bx 22 (nS (AW l)))=bxs:=by
   have h1:bxs[k]? =some ((⟨none,cap,junk⟩:Vec).bx 22 (nS l)):=by rw[←AX];exact hk
   exact Hu h1
  rw[e] at h
  refine BY (capt:=[]) hg hd ho hc hf ha (by kernel_rfl) (fun W _=> ?_) h
  exact N4 cf W none 0
 |some g=>
  have hk':bxs[k]? =some (De g l junk):=by rw[←AX];exact hk
  refine AT (X:=Unit) (val:=fun _=> .tuple #[]) (Φ:=fun _=>True) (capt:=[]) k (B:=De g l junk) (L1:=[]) (L2:=[]) (b:=g) (ob:= .cells (nS l++junk).toArray 22 (0,0)) (fun _=>De g (AW l) junk) (g':=fun _=>g) (o':=fun _=> .cells (nS (AW l)++junk).toArray 22 (0,0))
   hg hd ho hc hf ha (by kernel_rfl) hk rfl (fun _ _=>rfl) (fun W hp=> ?_) (fun _ _=>h)
  have hcell:=hp.own.cell k _ hk' (g, .cells (nS l++junk).toArray 22 (0,0)) (List.mem_cons_self ..)
  exact Me cf hcf W g cap l junk hn hcell.1 (fun W' hK=>⟨hv0.below (hK.below hp.below hcell.2),ht0.below (hK.below hp.below hcell.2)⟩) hz
theorem RV (k:Nat) {c:Call} {f:Operand} {d:Nat} {V:Vec} {l:List Rat} {len:Nat}
  (hg:Ay ops N env o=some true) (hd:o.dst=some d) (ho:o.op= .call c) (hc:c.callee= .value f) (hf:evO N env f=some (.func (.func 158) #[] #[])) (ha:BR (evO N env) c.args.toList=some [V.val len])
  (hk:nth bxs k=some (V.bx 22 (nS l))) (hlen:len=l.length) (hV:V.OK 1 len (nS l)) (hn:l.length≤9223372036854775807)
  (h: ∀V':Vec,V'.OK 1 (AR l).length (nS (AR l))→WL r n Tryz.prog N D ops Q rest ((d,V'.val (AR l).length)::env) (Hp W0 (bxs.set k (V'.bx 22 (nS (AR l)))))):WL r n Tryz.prog N D ops Q (o::rest) env (Hp W0 bxs):=by
 subst hlen
 have hl:=Gp l
 obtain⟨p,cap,junk⟩:=V
 cases p with
 |none=>
  have hz0:=hV.nil rfl
  have hl0:l=[]:=List.length_eq_zero_iff.1 hz0
  subst hl0
  have h:=h ⟨none,cap,junk⟩ ⟨by rw[Im];rfl,fun _=>by rw[Im];rfl,fun h=>absurd rfl h⟩
  have e:bxs.set k ((⟨none,cap,junk⟩:Vec).bx 22 (nS (AR [])))=bxs:=by
   have h1:bxs[k]? =some ((⟨none,cap,junk⟩:Vec).bx 22 (nS [])):=by rw[←AX];exact hk
   exact Hu h1
  rw[e] at h
  refine BY (capt:=[]) hg hd ho hc hf ha (by kernel_rfl) (fun W _=> ?_) h
  exact MI W none 0
 |some g=>
  obtain⟨c1,c2,c3⟩:=hV.cap (by simp)
  have c1:l.length≤cap:=c1
  have c2:cap≤maxLen:=c2
  have hk':bxs[k]? =some (De g l junk):=by rw[←AX];exact hk
  have h:=h ⟨some g,cap,JM l junk⟩ ⟨by simp[nS],fun h=>by simp at h,fun _=>⟨by show(AR l).length≤cap;omega,c2,by
   show(nS (AR l)).length+(JM l junk).length=cap*1
   simp only[nS,JM,cs,List.length_append,List.length_map,List.length_replicate] at c3⊢
   have c3:l.length+junk.length=cap*1:=c3
   omega⟩⟩
  refine AT (X:=Unit) (val:=fun _=> .slice (some ⟨g,0,none⟩) (AR l).length cap) (Φ:=fun _=>True) (capt:=[]) k (B:=De g l junk) (L1:=[]) (L2:=[]) (b:=g) (ob:= .cells (nS l++junk).toArray 22 (0,0)) (fun _=>⟨g,22,nS (AR l)++JM l junk,true,none⟩) (g':=fun _=>g) (o':=fun _=> .cells (nS (AR l)++JM l junk).toArray 22 (0,0))
   hg hd ho hc hf ha (by kernel_rfl) hk rfl (fun _ _=>rfl) (fun W hp=> ?_) (fun _ _=>h)
  exact Na (hp.own.cell k _ hk' (g, .cells (nS l++junk).toArray 22 (0,0)) (List.mem_cons_self ..)).1 hn c1
end
-- BOXES 6
theorem RK:N3 52:=⟨by kernel_rfl,fun p q W h hv ht=>A7 p q h W hv ht⟩
theorem JI (a b:List Rat):nS (a++b)=nS a++nS b:=List.map_append
theorem J6 (a:List Rat):(nS a).length=a.length:=List.length_map _
theorem RW (l:List Rat): ∀u∈nS l,u.oneCell'=true:=fun u hu=>by
 obtain⟨q,_,rfl⟩:=List.mem_map.1 hu;rfl
theorem MS {W0 W:World} {bxs:List Bx} (hp:Hp W0 bxs W) (k:Nat) {g:Nat} {l:List Rat} {junk:List Value} {i:Nat} (hk:nth bxs k=some ⟨g,22,nS l++junk,true,none⟩) (hi:i<l.length):Ao W g (0+i*1) [str (Ac l[i])]:=by
 refine Ia hp k (A:=nS (l.take i)) (C:=nS (l.drop (i+1))++junk) hk ?_ (by rw[J6,List.length_take];omega)
 have e:nS l=nS (l.take i)++([str (Ac l[i])]++nS (l.drop (i+1))):=by
  conv=>lhs;rw[←List.take_append_drop i l,List.drop_eq_getElem_cons hi,JI]
  rfl
 rw[e,List.append_assoc,List.append_assoc]
def chC (b:BmP):List Rat:=[0,b.len,b.l,b.r]
def chF (b:BmP) (i:Nat):List Rat:=chC b++(b.fs.take i).map fun f=>f.1
def chS (b:BmP) (j:Nat):List Rat:=chF b b.fs.length++(b.ss.take j).flatMap fun s=>[s.1,s.2.1]
theorem Ri {b:BmP} {i:Nat} (hi:i<b.fs.length):chF b (i+1)=chF b i++[b.fs[i].1]:=by
 unfold chF
 rw[List.take_add_one,List.getElem?_eq_getElem hi,List.map_append, ←List.append_assoc]
 rfl
theorem Rc {b:BmP} {j:Nat} (hj:j<b.ss.length):chS b (j+1)=chS b j++[b.ss[j].1,b.ss[j].2.1]:=by
 unfold chS
 rw[List.take_add_one,List.getElem?_eq_getElem hj,List.flatMap_append, ←List.append_assoc]
 rfl
theorem Hy (b:BmP):b.chg=AR (AW (chS b b.ss.length)):=by
 unfold BmP.chg chS chF chC
 rw[List.take_length,List.take_length]
theorem P9 (b:BmP):(chS b b.ss.length).length=4+b.fs.length+2*b.ss.length:=by
 have h: ∀l:List (Rat×Rat×Rat),(l.flatMap fun s=>[s.1,s.2.1]).length=2*l.length:=fun l=>by
  induction l with
  |nil=>rfl
  |cons s l ih=>show(List.flatMap _ l).length+1+1=2*(l.length+1);omega
 unfold chS chF chC
 rw[List.length_append,List.length_append,List.length_map,List.take_length,List.take_length,h]
 rfl
theorem RG (b:BmP):0<b.chg.length:=by
 have h:(0:Rat)∈b.chg:=M6.2 (.inl rfl)
 exact List.length_pos_of_mem h
def zsT (b:BmP) (i:Nat):List Rat:=b.zeros (b.chg.take (i+1))
theorem JU (b:BmP) (x y:Rat): ∀l:List Rat,b.zeros (l++[x,y])=b.zeros (l++[x])++b.zero1 x y
 |[]=>by show b.zero1 x y++[]=[]++_;simp
 |[p]=>by show b.zero1 p x++(b.zero1 x y++[])=(b.zero1 p x++[])++_;simp
 |p::q::l=>by
  have ih:=JU b x y (q::l)
  show b.zero1 p q++b.zeros (q::l++[x,y])=(b.zero1 p q++b.zeros (q::l++[x]))++_
  rw[ih,List.append_assoc]
theorem Ry {b:BmP} {i:Nat} (hi:i+1<b.chg.length):zsT b (i+1)=zsT b i++b.zero1 b.chg[i] b.chg[i+1]:=by
 unfold zsT
 have e1:b.chg.take (i+1)=b.chg.take i++[b.chg[i]]:=by rw[List.take_add_one,List.getElem?_eq_getElem (show i<b.chg.length by omega)];rfl
 have e2:b.chg.take (i+1+1)=b.chg.take i++[b.chg[i],b.chg[i+1]]:=by rw[List.take_add_one,List.getElem?_eq_getElem hi,e1,List.append_assoc];rfl
 rw[e2,e1,JU]
theorem PW (b:BmP) (p q:Rat):(b.zero1 p q).length≤1:=by
 unfold BmP.zero1
 split
 ·exact Nat.zero_le _
 ·split
  ·exact Nat.le_refl _
  ·exact Nat.zero_le _
theorem Gy (b:BmP): ∀l:List Rat,(b.zeros l).length≤l.length
 |[]=>Nat.le_refl _
 |[p]=>Nat.zero_le _
 |p::q::l=>by
  have ih:=Gy b (q::l)
  have h1:=PW b p q
  show(b.zero1 p q++b.zeros (q::l)).length≤(q::l).length+1
  rw[List.length_append];omega
theorem SS (b:BmP) (i:Nat):(zsT b i).length≤b.chg.length:=by
 refine Nat.le_trans (Gy b _) ?_
 rw[List.length_take];omega
theorem L0 (p q:Rat) (s:Rat×Rat×Rat): ∀l:List (Rat×Rat×Rat),Fe p q (l++[s])=Fe p q l+(if s.1≤p∧q≤s.2.1 then s.2.2 else 0)
 |[]=>by show _+(0:Rat)=0+_;rw[Rat.add_zero,Rat.zero_add]
 |t::l=>by
  have ih:=L0 p q s l
  show(if t.1≤p∧q≤t.2.1 then t.2.2 else 0)+Fe p q (l++[s])=((if t.1≤p∧q≤t.2.1 then t.2.2 else 0)+Fe p q l)+_
  rw[ih,Rat.add_assoc]
theorem Q0 {b:BmP} (p q:Rat) {j:Nat} (hj:j<b.ss.length):Fe p q (b.ss.take (j+1))=Fe p q (b.ss.take j)+(if b.ss[j].1≤p∧q≤b.ss[j].2.1 then b.ss[j].2.2 else 0):=by
 rw[List.take_add_one,List.getElem?_eq_getElem hj]
 exact L0 p q _ _
structure OfZ (b:BmP):Prop where
 len:4+b.fs.length+2*b.ss.length≤12
 sh: ∀p∈b.chg,ShZ b p∧szQ (b.shear p) 90
 ch: ∀p∈chS b b.ss.length,szQ p 40
 ss: ∀s∈b.ss,szQ s.1 40∧szQ s.2.1 40∧szQ s.2.2 40
 ld: ∀p q j,szQ (Fe p q (b.ss.take j)) 40
theorem Pv {b:BmP} {p:Rat} (h:p∈b.chg):p∈chS b b.ss.length:=by
 rw[Hy] at h
 exact EU.1 ((HY _).1 h)
abbrev plB (g:Nat) (u v:Value):Bx:=⟨g,110,[u,v],true,none⟩
structure PlV (b:BmP) where
 g:Nat
 cap:Nat
 junk:List Value
 z:Vec
 hc:(⟨some g,cap,junk⟩:Vec).OK 1 b.chg.length (nS b.chg)
 hz:z.OK 1 (b.zeros b.chg).length (nS (b.zeros b.chg))
abbrev PlV.bc {b:BmP} (V:PlV b):Bx:=⟨V.g,22,nS b.chg++V.junk,true,none⟩
abbrev PlV.bz {b:BmP} (V:PlV b):Bx:=V.z.bx 22 (nS (b.zeros b.chg))
abbrev PlV.val {b:BmP} (V:PlV b):Value:= .agg #[.slice (some ⟨V.g,0,none⟩) b.chg.length V.cap, .slice (IM V.z) (b.zeros b.chg).length (IH V.z)]
theorem Sa (b:BmP) (hz:OfZ b) (p q:Option Addr) (m n:Nat) (W:World) (hM:BmM W b p q):
  Ad Tryz.prog 85 #[bmV b p m q n] W (fun V:PlV b=>V.val) (fun _=>True) (fun V=>[V.bc,V.bz]):=by
 have hv:=hM.v
 have ht:=hM.t
 have hlen:=hz.len
 refine Ab (args:=[bmV b p m q n]) Tryz.func85 I I I ?_
 refine zA (zB ?_)
 (refine Az rfl rfl rfl rfl ?_;intro)
 (refine Ae Tryz.hZ rfl rfl rfl rfl ?_;intro)
 refine Aa ?_
 rename_i b1 b2
 refine zE (zA (zB ?_))
 (refine Ae Tryz.hZ rfl rfl rfl rfl ?_;intro)
 refine Aa ?_
 rename_i b3
 refine zE (zA (zB (wP I (wB 0 I I I (wP I (wB 0 I I I (wP I (wB 0 I I I ?_))))))))
 (refine Ap Tryz.hZ tH rfl rfl rfl rfl rfl rfl rfl rfl rfl rfl rfl ?_;intro)
 refine wP I (wS 2 I I I (Aa ?_))
 rename_i bS
 refine Gk (bxs':=[bmB b1 b p m q n,plB b2 (.slice none 0 0) (.slice none 0 0),plB b3 ((⟨some bS,4,[]⟩:Vec).val 4) (.slice none 0 0),(⟨some bS,4,[]⟩:Vec).bx 22 (nS (chF b 0))]) (by
  show _=[bmB b1 b p m q n,plB b2 (.slice none 0 0) (.slice none 0 0),plB b3 (.slice (some ⟨bS,0,none⟩) 4 4) (.slice none 0 0),(⟨bS,22,[str (Ac 0),str (Ac b.len),str (Ac b.l),str (Ac b.r)]++[],true,none⟩:Bx)]
  rw[B0];rfl) ?_
 refine zE (zA (zA (zB (wP I (wB 0 I I I (wP I (wP I (Aa (zE (zH ?_))))))))))
 refine Aw (X:=Nat×Vec) (fun s=>[(1,Al b1),(2,Al b2),(3,Al b3),(24, .slice p b.fs.length m),(25, .int .i64 (b.fs.length:Nat)),(26, .int .i64 (s.1:Nat))]) (fun s=>[bmB b1 b p m q n,plB b2 (.slice none 0 0) (.slice none 0 0),plB b3 (s.2.val (4+s.1)) (.slice none 0 0),s.2.bx 22 (nS (chF b s.1))])
  (fun s=>s.1≤b.fs.length∧s.2.OK 1 (4+s.1) (nS (chF b s.1))) (fun s=>b.fs.length-s.1) (0,⟨some bS,4,[]⟩) ⟨Nat.zero_le _,rfl,(fun h=>by cases h),fun _=>⟨Nat.le_refl _,by show 4≤maxLen;decide,rfl⟩⟩ ⟨rfl,rfl,rfl,rfl,rfl,rfl,trivial⟩ [] rfl ?_
 rintro⟨i,V⟩ ⟨hi,hV⟩
 have hi:i≤b.fs.length:=hi
 have hV:V.OK 1 (4+i) (nS (chF b i)):=hV
 refine zA (zB (wP I ?_))
 by_cases hlt:i<b.fs.length
 ·refine wU 27 true I (dT (by omega)) (Aa (zE (zA (zR I (zI (zE (zA (zH (zA (zB ?_))))))))))
  obtain⟨f,hfe⟩: ∃f,f=b.fs[i]:=⟨_,rfl⟩
  have hsuc:=Ri hlt
  rw[←hfe] at hsuc
  obtain⟨g,off,hpe,hrow⟩:=hM.f.at_ hlt
  have hrow:=hrow i hlt
  rw[←hfe] at hrow
  subst hpe
  refine wJ ?_
  refine wL 0 I I (fun W1 hp=>hrow.hp hp) I ?_
  (refine Ae Tryz.hZ rfl rfl rfl rfl ?_;intro)
  refine wS 4 I I I (Aa ?_)
  rename_i b5
  refine zE (zB (wP I (wB 2 I I I (wP I (wB 4 I I I ?_)))))
  (refine Ap Tryz.hZ tH rfl rfl rfl rfl rfl rfl rfl rfl rfl rfl rfl ?_;intro)
  refine Cc (V:=V) (len:=4+i) (xs:=nS (chF b i)) 3 5 Tryz.vec108 (4+(i+1)) (nS (chF b (i+1))) I I I I I I I I I I I hV I I I (by rw[hsuc,JI];rfl) (by simp only[maxLen];omega) (by omega) I ?_
  intro gV cV jV hV1
  exact wP I (wS 2 I I I (Aa (zN (zE (zB (wP I (wV 37 ((i+1:Nat):Int) I (An (by omega)) (wP I (Aa (Ak (i+1,⟨some gV,cV,jV⟩) ⟨hlt,hV1⟩ (by show b.fs.length-(i+1)<b.fs.length-i;omega) ⟨I,I,I,I,I,I,O⟩ [_,_] I))))))))))
 have e:i=b.fs.length:=by omega
 subst e
 refine wU 27 false I (dF (by omega)) (Aa (zE (zA (zS I (zJ (zK (zK (zL (zE (zA (zA (zB (wP I ?_)))))))))))))
 refine wB 0 I I I (wP I (wP I (Aa (zE (zH ?_)))))
 refine Aw (X:=Nat×Vec) (fun s=>[(1,Al b1),(2,Al b2),(3,Al b3),(39, .slice q b.ss.length n),(40, .int .i64 (b.ss.length:Nat)),(41, .int .i64 (s.1:Nat))]) (fun s=>[bmB b1 b p m q n,plB b2 (.slice none 0 0) (.slice none 0 0),plB b3 (s.2.val (4+b.fs.length+2*s.1)) (.slice none 0 0),s.2.bx 22 (nS (chS b s.1))])
  (fun s=>s.1≤b.ss.length∧s.2.OK 1 (4+b.fs.length+2*s.1) (nS (chS b s.1))) (fun s=>b.ss.length-s.1) (0,V) ⟨Nat.zero_le _,by
   have e0:chS b 0=chF b b.fs.length:=by unfold chS;simp
   rw[e0];exact hV⟩ ⟨rfl,rfl,rfl,rfl,rfl,rfl,trivial⟩ [] (by
   have e0:chS b 0=chF b b.fs.length:=by unfold chS;simp
   rw[e0];rfl) ?_
 rintro⟨j,U⟩ ⟨hj,hU⟩
 have hj:j≤b.ss.length:=hj
 have hU:U.OK 1 (4+b.fs.length+2*j) (nS (chS b j)):=hU
 refine zA (zB (wP I ?_))
 by_cases hlt:j<b.ss.length
 ·refine wU 42 true I (dT (by omega)) (Aa (zE (zA (zR I (zI (zE (zA (zH (zA (zB ?_))))))))))
  obtain⟨f,hfe⟩: ∃f,f=b.ss[j]:=⟨_,rfl⟩
  have hsuc:=Rc hlt
  rw[←hfe] at hsuc
  obtain⟨g,off,hpe,hrow⟩:=hM.s.at_ hlt
  have hrow:=hrow j hlt
  rw[←hfe] at hrow
  subst hpe
  refine wJ ?_
  refine wL 0 I I (fun W1 hp=>hrow.hp hp) I ?_
  (refine Ae Tryz.hZ rfl rfl rfl rfl ?_;intro)
  refine wS 4 I I I (Aa ?_)
  rename_i b7
  refine zE (zB (wP I (wB 2 I I I (wP I (wB 4 I I I (wP I (wB 4 I I I ?_)))))))
  (refine Ap Tryz.hZ tH rfl rfl rfl rfl rfl rfl rfl rfl rfl rfl rfl ?_;intro)
  refine Cc (V:=U) (len:=4+b.fs.length+2*j) (xs:=nS (chS b j)) 3 5 Tryz.vec108 (4+b.fs.length+2*(j+1)) (nS (chS b (j+1))) I I I I I I I I I I I hU I I I (by rw[hsuc,JI];rfl) (by simp only[maxLen];omega) (by omega) I ?_
  intro gV cV jV hV1
  exact wP I (wS 2 I I I (Aa (zN (zE (zB (wP I (wV 54 ((j+1:Nat):Int) I (An (by omega)) (wP I (Aa (Ak (j+1,⟨some gV,cV,jV⟩) ⟨hlt,hV1⟩ (by show b.ss.length-(j+1)<b.ss.length-j;omega) ⟨I,I,I,I,I,I,O⟩ [_,_] I))))))))))
 have e:j=b.ss.length:=by omega
 subst e
 refine wU 42 false I (dF (by omega)) (Aa (zE (zA (zS I (zJ (zK (zK (zL (zE (zA (zB ?_)))))))))))
 have hsl:=Gu (chS b b.ss.length)
 have hcl:=P9 b
 refine wP I (wB 2 I I I ?_)
 refine N9 3 52 RK hv ht (V:=U) (l:=chS b b.ss.length) (len:=4+b.fs.length+2*b.ss.length) I I I I I I I hcl.symm hU (by omega) (fun x hx y hy=>sz2 (hz.ch x hx) (hz.ch y hy) (by decide)) ?_
 refine Aa (zE (zA (zB (wP I (wB 2 I I I ?_)))))
 refine RV 3 (V:=U) (l:=AW (chS b b.ss.length)) (len:=4+b.fs.length+2*b.ss.length) I I I I I I I (by rw[hsl,hcl]) ⟨by rw[J6,hsl,hcl,Nat.mul_one],hU.nil,fun h=>by
  have h2:=hU.cap h
  refine⟨h2.1,h2.2.1, ?_⟩
  have h3:=h2.2.2
  rw[J6] at h3⊢
  rw[hsl]
  exact h3⟩ (by omega) ?_
 intro V2 hV2
 rw[←Hy] at hV2⊢
 have hcn:=RG b
 obtain⟨pc,cap,junk⟩:=V2
 cases pc with
 |none=>have:=hV2.nil rfl;omega
 |some gC=>
 have hlc:b.chg.length≤12:=by
  have:=Gp (AW (chS b b.ss.length))
  rw[←Hy,hsl,hcl] at this;omega
 refine wP I (wS 2 I I I (Aa (zE (zA (zA (zB (wP I (Aa (zE (zH ?_))))))))))
 refine J8 ?_
 refine Aw (X:=Nat×Vec) (fun s=>[(1,Al b1),(2,Al b2),(3,Al b3),(8, .int .i64 (s.1:Nat))]) (fun s=>[bmB b1 b p m q n,plB b2 (.slice none 0 0) (.slice none 0 0),plB b3 (.slice (some ⟨gC,0,none⟩) b.chg.length cap) (s.2.val (zsT b s.1).length),⟨gC,22,nS b.chg++junk,true,none⟩,s.2.bx 22 (nS (zsT b s.1))])
  (fun s=>s.1<b.chg.length∧s.2.OK 1 (zsT b s.1).length (nS (zsT b s.1))) (fun s=>b.chg.length-s.1) (0,Vec.empty) (by
   have e0:zsT b 0=[]:=by
    unfold zsT
    cases h:b.chg with
    |nil=>rfl
    |cons x l=>rfl
   rw[e0];exact⟨hcn,Vec.OK.empty 1⟩) ⟨rfl,rfl,rfl,rfl,trivial⟩ [] (by
   have e0:zsT b 0=[]:=by
    unfold zsT
    cases h:b.chg with
    |nil=>rfl
    |cons x l=>rfl
   rw[e0];rfl) ?_
 rintro⟨i,Z⟩ ⟨hi,hZ⟩
 have hi:i<b.chg.length:=hi
 have hZ:Z.OK 1 (zsT b i).length (nS (zsT b i)):=hZ
 refine zA (zA (zB (wP I (wP I (wV 63 ((i+1:Nat):Int) I (An (by omega)) (wP I (wB 2 I I I (wP I (wP I ?_)))))))))
 by_cases hlt:i+1<b.chg.length
 rotate_left
 ·have e:b.chg.take (i+1)=b.chg:=List.take_of_length_le (by omega)
  have ez:zsT b i=b.zeros b.chg:=by unfold zsT;rw[e]
  refine wU 67 false I (dF (by omega)) (Aa ?_)
  rw[ez] at hZ
  refine Gk (bxs':=[bmB b1 b p m q n,plB b2 (.slice none 0 0) (.slice none 0 0),plB b3 (.slice (some ⟨gC,0,none⟩) b.chg.length cap) (.slice (IM Z) (b.zeros b.chg).length (IH Z)),⟨gC,22,nS b.chg++junk,true,none⟩,Z.bx 22 (nS (b.zeros b.chg))]) (by rw[←Hv hZ, ←ez]) ?_
  exact zE (zS I (zJ (zK (zK (zL (zE (zA (zB (wB 2 I I I (wS 1 I I I (Aa (zE (zO (AE tH I (.cell 1 I I I I I) (⟨gC,cap,junk,Z,hV2,hZ⟩:PlV b) I O fun W1 hp=>A0.of_hp (hp.pick (l:=[⟨gC,22,nS b.chg++junk,true,none⟩,Z.bx 22 (nS (b.zeros b.chg))]) [3,4] (by decide) I)))))))))))))))
 refine wU 67 true I (dT (by omega)) (Aa (zE (zR I (zI (zE (zA (zH (zA (zU ?_)))))))))
 obtain⟨x,hx⟩: ∃x,x=b.chg[i]:=⟨_,rfl⟩
 obtain⟨y,hy⟩: ∃y,y=b.chg[i+1]:=⟨_,rfl⟩
 have hxm:x∈b.chg:=hx▸List.getElem_mem _
 have hym:y∈b.chg:=hy▸List.getElem_mem _
 have zx:=hz.ch x (Pv hxm)
 have zy:=hz.ch y (Pv hym)
 obtain⟨hsh,hss⟩:=hz.sh x hxm
 have hsuc:=Ry hlt
 rw[←hx, ←hy] at hsuc
 refine qP I (qB 2 I I I (qP I ?_))
 refine qJ ?_
 refine qL 0 I I (fun W1 hp=>show Ao W1 gC (0+i*1) [str (Ac x)] by rw[hx];exact MS hp 3 I hi) I (qP I (qB 2 I I I (qP I (qP I (qV 78 ((i+1:Nat):Int) I (An (by omega)) ?_)))))
 refine qJ ?_
 refine qL 0 I I (fun W1 hp=>show Ao W1 gC (0+(i+1)*1) [str (Ac y)] by rw[hy];exact MS hp 3 I hlt) I (qP I (qP I (AM (Aa (zE (zA (zB (wP I (Aa (zE (zA (zA (zB ?_)))))))))))))
 refine wP I (wB 0 I I I (wP I (wP I (Aa (zE (zH ?_))))))
 refine Aw (X:=Nat) (fun j=>[(1,Al b1),(2,Al b2),(3,Al b3),(8, .int .i64 (i:Nat)),(9,str (Ac x)),(10,str (Ac y)),(11,str (Ac (Fe x y (b.ss.take j)))),(82, .slice q b.ss.length n),(83, .int .i64 (b.ss.length:Nat)),(84, .int .i64 (j:Nat))]) (fun _=>[bmB b1 b p m q n,plB b2 (.slice none 0 0) (.slice none 0 0),plB b3 (.slice (some ⟨gC,0,none⟩) b.chg.length cap) (Z.val (zsT b i).length),⟨gC,22,nS b.chg++junk,true,none⟩,Z.bx 22 (nS (zsT b i))])
  (fun j=>j≤b.ss.length) (fun j=>b.ss.length-j) 0 (Nat.zero_le _) ⟨rfl,rfl,rfl,rfl,rfl,rfl,by rw[show Fe x y (b.ss.take 0)=0 by rw[List.take_zero];rfl,B0];rfl,rfl,rfl,rfl,trivial⟩ [] rfl ?_
 intro j hj
 have hj:j≤b.ss.length:=hj
 refine zA (zB (wP I ?_))
 by_cases hjl:j<b.ss.length
 ·refine wU 85 true I (dT (by omega)) (Aa (zE (zA (zR I (zI (zE (zA (zH (zA (zB ?_))))))))))
  obtain⟨f,hfe⟩: ∃f,f=b.ss[j]:=⟨_,rfl⟩
  have hls:=Q0 x y hjl
  rw[←hfe] at hls
  obtain⟨z1,z2,z3⟩:=hz.ss f (hfe▸List.getElem_mem hjl)
  have zl:=hz.ld x y j
  obtain⟨g,off,hpe,hrow⟩:=hM.s.at_ hjl
  have hrow:=hrow j hjl
  rw[←hfe] at hrow
  subst hpe
  refine wJ ?_
  refine wL 0 I I (fun W1 hp=>hrow.hp hp) I ?_
  (refine Ae Tryz.hZ rfl rfl rfl rfl ?_;intro)
  refine wS 5 I I I (Aa ?_)
  rename_i b13
  refine zE (zA (zB (wP I (wB 5 I I I (wP I (wC I I (fun W1 hp=>A7 f.1 x (sz2 z1 zx (by decide)) W1 (hv.hp hp) (ht.hp hp)) (wP I (wU 92 (decide (f.1≤x)) I (D2 f.1 x) ?_))))))))
  by_cases c1:f.1≤x
  ·refine wU 92 true I (dT c1) (wP I (wP I (wB 5 I I I (wP I (wC I I (fun W1 hp=>A7 f.2.1 y (sz2 z2 zy (by decide)) W1 (hv.hp hp) (ht.hp hp)) (wP I (wU 98 (decide (y≤f.2.1)) I (DR f.2.1 y) (wP I (Aa (zE ?_))))))))))
   refine Ai I (fun h=> ?_) (fun h=> ?_)
   ·have c2:y≤f.2.1:=of_decide_eq_true h
    clear h
    rw[if_pos ⟨c1,c2⟩] at hls
    exact zB (wP I (wP I (wB 5 I I I (wC I I (fun W1 hp=>Cg (Fe x y (b.ss.take j)) f.2.2 (sz2 zl z3 (by decide)) W1 (hv.hp hp) (ht.hp hp)) (wP I (Aa (zN (zE (zB (wP I (wV 104 ((j+1:Nat):Int) I (An (by omega)) (wP I (Aa (Ak (j+1) hjl (by show b.ss.length-(j+1)<b.ss.length-j;omega) ⟨I,I,I,I,I,I,by rw[hls];rfl,I,I,I,O⟩ [_] I))))))))))))))
   ·have c2: ¬y≤f.2.1:=of_decide_eq_false h
    clear h
    rw[if_neg (fun h=>c2 h.2),Rat.add_zero] at hls
    exact zI (zN (zE (zB (wP I (wV 104 ((j+1:Nat):Int) I (An (by omega)) (wP I (Aa (Ak (j+1) hjl (by show b.ss.length-(j+1)<b.ss.length-j;omega) ⟨I,I,I,I,I,I,by rw[hls];rfl,I,I,I,O⟩ [_] I))))))))
  ·refine wU 92 false I (dF c1) ?_
   rw[if_neg (fun h=>c1 h.1),Rat.add_zero] at hls
   refine wP I ?_
   iterate 5 refine Af I I ?_
   exact wP I (Aa (zE (zS I (zI (zN (zE (zB (wP I (wV 104 ((j+1:Nat):Int) I (An (by omega)) (wP I (Aa (Ak (j+1) hjl (by show b.ss.length-(j+1)<b.ss.length-j;omega) ⟨I,I,I,I,I,I,by rw[hls];rfl,I,I,I,O⟩ [_] I))))))))))))
 have e:j=b.ss.length:=by omega
 subst e
 obtain⟨K,hK⟩: ∃K,K=Fe x y b.ss:=⟨_,rfl⟩
 have hKe:Fe x y (b.ss.take b.ss.length)=K:=by rw[List.take_length,hK]
 have szK:szQ K 40:=hKe▸hz.ld x y b.ss.length
 refine wU 85 false I (dF (by omega)) (Aa (zE (zA (zS I (zJ (zK (zK (zL (zE (zA (zA (zB (wP I ?_)))))))))))))
 refine Ag 105 (str (Ac K)) I (by rw[hKe]) ?_
 refine wP I (wU 106 (decide (K=0)) I (by rw[AQ,Rv]) (Aa (zE ?_)))
 refine Ai I (fun h=> ?_) (fun h=> ?_)
 ·have hK0:K=0:=of_decide_eq_true h
  clear h
  have e1:zsT b (i+1)=zsT b i:=by rw[hsuc,BmP.zero1,if_pos (by rw[←hK];exact hK0),List.append_nil]
  exact zJ (zK (zL (zE (zB (wP I (wP I (wV 69 ((i+1:Nat):Int) I (An (by omega)) (wP I (Aa (Ak (i+1,Z) ⟨hlt,by show Z.OK 1 (zsT b (i+1)).length (nS (zsT b (i+1)));rw[e1];exact hZ⟩ (by show b.chg.length-(i+1)<b.chg.length-i;omega) ⟨I,I,I,I,O⟩ [] (by show _=[_,_,plB b3 _ (Z.val (zsT b (i+1)).length),_,Z.bx 22 (nS (zsT b (i+1)))]++[];rw[e1];rfl)))))))))))
 have hK0: ¬K=0:=of_decide_eq_false h
 clear h
 refine zI (zE (zA (zB ?_)))
 obtain⟨w,hw⟩: ∃w,w=x+b.shear x/K:=⟨_,rfl⟩
 have zd:=hss.div szK (Mv hK0)
 have zw:szQ w 180:=by rw[hw];exact(zx.add zd).mono (by decide)
 have hz1:b.zero1 x y=if x<w∧w<y then[w] else[]:=by rw[BmP.zero1, ←hK,if_neg hK0,hw]
 refine wP I (wB 0 I I I (wP I (wC I I (fun W1 hp=>Iw b x p q m n W1 (hM.hp hp) hsh) (wP I ?_))))
 refine Ag 111 (str (Ac K)) I (by rw[hKe]) ?_
 refine wC I I (fun W1 hp=>GW (b.shear x) K (sz2 hss szK (by decide)) (Mv hK0) W1 (hv.hp hp) (ht.hp hp)) (wC I I (fun W1 hp=>(Cg x (b.shear x/K) (sz2 zx zd (by decide)) W1 (hv.hp hp) (ht.hp hp)).cast (by rw[←hw])) (wP I (Aa (A4 ?_))))
 try refine Ax ?_
 refine A3 (X:=Unit) (fun _=>[(1,Al b1),(2,Al b2),(3,Al b3),(8, .int .i64 (i:Nat)),(14,str (Ac w)),(123, .bool (decide (x<w∧w<y)))]) (fun _=>[bmB b1 b p m q n,plB b2 (.slice none 0 0) (.slice none 0 0),plB b3 (.slice (some ⟨gC,0,none⟩) b.chg.length cap) (Z.val (zsT b i).length),⟨gC,22,nS b.chg++junk,true,none⟩,Z.bx 22 (nS (zsT b i))]) (fun _=>True) ?_ ?_
 ·refine zB (wP I (wP I (wC I I (fun W1 hp=>A7 w x (sz2 zw zx (by decide)) W1 (hv.hp hp) (ht.hp hp)) (wP I (wU 117 (decide (x<w)) I (EP w x) ?_)))))
  by_cases c1:x<w
  ·exact wU 117 true I (dT c1) (wP I (wP I (wP I (wC I I (fun W1 hp=>A7 w y (sz2 zw zy (by decide)) W1 (hv.hp hp) (ht.hp hp)) (wP I (wU 122 (decide (w<y)) I (C3 w y) (wP I (Aa (Ah () O ⟨I,I,I,I,I,by rw[show decide (x<w∧w<y)=decide (w<y) by rw[decide_eq_decide];exact⟨fun h=>h.2,fun h=>⟨c1,h⟩⟩];rfl,O⟩ [] I)))))))))
  ·refine wU 117 false I (dF c1) (wP I ?_)
   iterate 4 refine Af I I ?_
   exact wP I (Aa (Ah () O ⟨I,I,I,I,I,by rw[show decide (x<w∧w<y)=false from dF (fun h=>c1 h.1)];rfl,O⟩ [] I))
 intro _ _
 refine Ai I (fun h=> ?_) (fun h=> ?_)
 ·have hc:x<w∧w<y:=of_decide_eq_true h
  clear h
  have e1:zsT b (i+1)=zsT b i++[w]:=by rw[hsuc,hz1,if_pos hc]
  have hzl:=SS b i
  refine zB (wP I (wB 2 I I I (wP I ?_)))
  (refine Ap Tryz.hZ tH rfl rfl rfl rfl rfl rfl rfl rfl rfl rfl rfl ?_;intro)
  refine Cc (V:=Z) (len:=(zsT b i).length) (xs:=nS (zsT b i)) 4 5 Tryz.vec108 (zsT b (i+1)).length (nS (zsT b (i+1))) I I I I I I I I I I I hZ I I (by rw[e1];simp) (by rw[e1,JI];rfl) (by simp only[maxLen];rw[e1,List.length_append];show _+1≤_;omega) (by rw[e1,List.length_append];show(_+1)*_≤_;omega) I ?_
  intro gV cV jV hV1
  exact wP I (wS 2 I I I (Aa (zN (zE (zB (wP I (wP I (wV 69 ((i+1:Nat):Int) I (An (by omega)) (wP I (Aa (Ak (i+1,⟨some gV,cV,jV⟩) ⟨hlt,hV1⟩ (by show b.chg.length-(i+1)<b.chg.length-i;omega) ⟨I,I,I,I,O⟩ [_] I)))))))))))
 ·have hc: ¬(x<w∧w<y):=of_decide_eq_false h
  clear h
  have e1:zsT b (i+1)=zsT b i:=by rw[hsuc,hz1,if_neg hc,List.append_nil]
  exact zI (zN (zE (zB (wP I (wP I (wV 69 ((i+1:Nat):Int) I (An (by omega)) (wP I (Aa (Ak (i+1,Z) ⟨hlt,by show Z.OK 1 (zsT b (i+1)).length (nS (zsT b (i+1)));rw[e1];exact hZ⟩ (by show b.chg.length-(i+1)<b.chg.length-i;omega) ⟨I,I,I,I,O⟩ [] (by show _=[_,_,plB b3 _ (Z.val (zsT b (i+1)).length),_,Z.bx 22 (nS (zsT b (i+1)))]++[];rw[e1];rfl))))))))))
-- BOXES 5
structure GrZ (b:BmP):Prop where
 rc:BmC b
 of:OfZ b
 mo: ∀x∈b.chg++b.zeros b.chg,MoZ b x∧szQ x 130∧szQ (b.moment x) 140
 len:(b.chg++b.zeros b.chg).length≤12
theorem JQ (m:Rat→Rat) (x:Rat): ∀(l:List Rat) (w:Rat),El m w (l++[x])=if m (El m w l)<m x then x else El m w l
 |[],w=>rfl
 |y::l,w=>by
  show El m (if m w<m y then y else w) (l++[x])=_
  rw[JQ m x l]
  rfl
theorem Ly (m:Rat→Rat): ∀(l:List Rat) (w:Rat),El m w l∈w::l
 |[],w=>List.mem_cons_self ..
 |y::l,w=>by
  show El m (if m w<m y then y else w) l∈_
  rcases List.mem_cons.1 (Ly m l (if m w<m y then y else w)) with h|h
  ·rw[h]
   split
   ·exact List.mem_cons_of_mem _ (List.mem_cons_self ..)
   ·exact List.mem_cons_self ..
  ·exact List.mem_cons_of_mem _ (List.mem_cons_of_mem _ h)
theorem Of {m:Rat→Rat} {w:Rat} {l:List Rat} {i:Nat} (hi:i<l.length):El m w (l.take (i+1))=if m (El m w (l.take i))<m l[i] then l[i] else El m w (l.take i):=by
 rw[List.take_add_one,List.getElem?_eq_getElem hi]
 exact JQ m _ _ _
theorem S0 {W0 W:World} {bxs:List Bx} (hp:Hp W0 bxs W) (k:Nat) {g:Nat} {a:Rat} {l:List Rat} {junk:List Value} {i:Nat} {off:Nat} (hoff:off=1*1) (hk:nth bxs k=some ⟨g,22,nS (a::l)++junk,true,none⟩) (hi:i<l.length):Ao W g (off+i*1) [str (Ac l[i])]:=by
 have h:=MS hp k (i:=i+1) hk (by show i+1<l.length+1;omega)
 rw[hoff,show 1*1+i*1=0+(i+1)*1 by omega]
 exact h
theorem F4 (b:BmP) (hz:GrZ b) (p q:Option Addr) (m n:Nat) (W:World) (hM:BmM W b p q):
  Ad Tryz.prog 34 #[bmV b p m q n] W (fun _:Unit=> .tuple #[str (Ac (b.moment b.where_)),str (Ac b.where_), .int .i64 0]) (fun _=>True) (fun _=>[]):=by
 have hv:=hM.v
 have ht:=hM.t
 have hzl:=Gy b b.chg
 have hll:=hz.len
 have hne:=RG b
 rw[List.length_append] at hll
 refine Ab (args:=[bmV b p m q n]) Tryz.func34 I I I ?_
 refine zA (zB ?_)
 (refine Az rfl rfl rfl rfl ?_;intro)
 refine wP I (wP I (wP I (Aa ?_)))
 rename_i b1
 refine zE (zA (zA (zB (wB 0 I I I (wC I I (fun W hp=>DC b hz.rc p q m n W (hM.hp hp)) (wP I (Aa (zE (zS I (zI (zE (zA (zB ?_)))))))))))))
 refine wB 0 I I I ?_
 refine wD (X:=PlV b) I I (fun W hp=>Sa b hz.of p q m n W (hM.hp hp)) ?_
 intro P _
 (refine Ae Tryz.hZ rfl rfl rfl rfl ?_;intro)
 refine wS 3 I I I (Aa ?_)
 rename_i b5
 refine zE (zA (zB (wP I (wB 3 I I I (wP I (wB 3 I I I ?_))))))
 (refine Ap Tryz.hZ tH rfl rfl rfl rfl rfl rfl rfl rfl rfl rfl rfl ?_;intro)
 rename_i bL
 refine wD (X:=Vec) I I (fun W1 hp=>by
  have hrow:Ao W1 bL 0 [.slice (some ⟨P.g,0,none⟩) b.chg.length P.cap, .slice (IM P.z) (b.zeros b.chg).length (IH P.z)]:=by
   exact Ao.of_bx hp 4 I I
  exact KF W1 bL 2 (some ⟨P.g,0,none⟩) (IM P.z) b.chg.length (b.zeros b.chg).length P.cap (IH P.z) (nS b.chg) (nS (b.zeros b.chg)) hrow
   (FY.of_vec P.hc 1 rfl hp) (FY.of_vec P.hz 2 rfl hp) (by rw[J6,Nat.mul_one]) (by rw[J6,Nat.mul_one]) (RW _) (RW _) (by omega) (by omega)) ?_
 intro A hA
 have hA:A.OK 1 (b.chg.length+(b.zeros b.chg).length) (nS b.chg++nS (b.zeros b.chg)):=hA
 rw[←JI] at hA⊢
 refine wP I (Aa ?_)
 have hsl:=Gu (b.chg++b.zeros b.chg)
 rw[List.length_append] at hsl
 refine zE (zA (zB (wP I ?_)))
 refine N9 5 52 RK hv ht (V:=A) (l:=b.chg++b.zeros b.chg) (len:=b.chg.length+(b.zeros b.chg).length) I I I I I I I (by rw[List.length_append]) hA hz.len (fun x hx y hy=>sz2 (hz.mo x hx).2.1 (hz.mo y hy).2.1 (by decide)) ?_
 refine Aa ?_
 obtain⟨pa,cap,junk⟩:=A
 cases pa with
 |none=>have:=hA.nil rfl;omega
 |some gA=>
 obtain⟨a,l,hal⟩: ∃a l,b.places=a::l:=by
  unfold BmP.places
  cases h:AW (b.chg++b.zeros b.chg) with
  |nil=>rw[h] at hsl;simp at hsl;omega
  |cons a l=>exact⟨a,l,rfl⟩
 have hal':AW (b.chg++b.zeros b.chg)=a::l:=hal
 have hwh:b.where_=El b.moment a l:=by unfold BmP.where_;rw[hal]
 have hmem: ∀x∈a::l,x∈b.chg++b.zeros b.chg:=fun x hx=>by rw[←hal'] at hx;exact EU.1 hx
 have hl:b.chg.length+(b.zeros b.chg).length=l.length+1:=by rw[hal'] at hsl;simpa using hsl.symm
 obtain⟨c1,c2,c3⟩:=hA.cap (by simp)
 have c1:b.chg.length+(b.zeros b.chg).length≤cap:=c1
 rw[hl] at c1
 refine Gk (bxs':=[bmB b1 b p m q n,P.bc,P.bz,plB b5 (.slice (some ⟨P.g,0,none⟩) b.chg.length P.cap) ((.slice (IM P.z) (b.zeros b.chg).length (IH P.z))),⟨bL,108,[.slice (some ⟨P.g,0,none⟩) b.chg.length P.cap,(.slice (IM P.z) (b.zeros b.chg).length (IH P.z))],true,none⟩,⟨gA,22,nS (a::l)++junk,true,none⟩]) (by rw[←hal'];rfl) ?_
 have hma:=hz.mo a (hmem a (List.mem_cons_self ..))
 refine zE (zA (zU (qB 0 I I I (qP I ?_))))
 refine GX 26 (.slice (some ⟨gA,0,none⟩) (l.length+1) cap) I (by rw[←hl];rfl) ?_
 refine qJ ?_
 refine qL 0 I I (fun W1 hp=>show Ao W1 gA (0+0*1) [str (Ac a)] from MS (l:=a::l) (i:=0) hp 5 I (Nat.succ_pos _)) I (qC I I (fun W1 hp=>Fv b a p q m n W1 (hM.hp hp) hma.1) (qP I ?_))
 refine GX 30 (.slice (some ⟨gA,0,none⟩) (l.length+1) cap) I (by rw[←hl];rfl) ?_
 refine qJ ?_
 refine qL 0 I I (fun W1 hp=>show Ao W1 gA (0+0*1) [str (Ac a)] from MS (l:=a::l) (i:=0) hp 5 I (Nat.succ_pos _)) I (qP I (qP I (AM (Aa (zE (zA (zA (zB (wP I ?_)))))))))
 refine Ag 33 (.slice (some ⟨gA,0,none⟩) (l.length+1) cap) I (by rw[←hl];rfl) ?_
 refine GM 1 tH I I I I I I I I (by omega) c1 ?_
 obtain⟨off,hoff⟩: ∃off,off=(if cap=1 then 0 else 0+1*1):=⟨_,rfl⟩
 refine Ag 34 (.slice (some ⟨gA,off,none⟩) l.length (cap-1)) I (by rw[hoff];rfl) ?_
 refine wP I (wP I (Aa (zE (zH ?_))))
 refine Aw (X:=Nat) (fun i=>[(1,Al b1),(7,str (Ac (b.moment (El b.moment a (l.take i))))),(8,str (Ac (El b.moment a (l.take i)))),(34, .slice (some ⟨gA,off,none⟩) l.length (cap-1)),(35, .int .i64 (l.length:Nat)),(36, .int .i64 (i:Nat))]) (fun _=>[bmB b1 b p m q n,P.bc,P.bz,plB b5 (.slice (some ⟨P.g,0,none⟩) b.chg.length P.cap) (.slice (IM P.z) (b.zeros b.chg).length (IH P.z)),⟨bL,108,[.slice (some ⟨P.g,0,none⟩) b.chg.length P.cap, .slice (IM P.z) (b.zeros b.chg).length (IH P.z)],true,none⟩,⟨gA,22,nS (a::l)++junk,true,none⟩])
  (fun i=>i≤l.length) (fun i=>l.length-i) 0 (Nat.zero_le _) ⟨rfl,rfl,rfl,rfl,rfl,rfl,trivial⟩ [] rfl ?_
 intro i hi
 have hi:i≤l.length:=hi
 refine zA (zB (wP I ?_))
 by_cases hlt:i<l.length
 ·refine wU 37 true I (dT (by omega)) (Aa (zE (zA (zR I (zI (zE (zA (zH (zA (zB ?_))))))))))
  have hoff1:off=1*1:=by rw[hoff,if_neg (by omega)]
  obtain⟨x,hx⟩: ∃x,x=l[i]:=⟨_,rfl⟩
  obtain⟨w,hw⟩: ∃w,w=El b.moment a (l.take i):=⟨_,rfl⟩
  have hsuc:=Of (m:=b.moment) (w:=a) hlt
  rw[←hx, ←hw] at hsuc
  rw[←hw]
  have hmx:=hz.mo x (hmem x (List.mem_cons_of_mem _ (hx▸List.getElem_mem hlt)))
  have hmw:=hz.mo w (hmem w (by
   rw[hw]
   rcases List.mem_cons.1 (Ly b.moment (l.take i) a) with h|h
   ·rw[h];exact List.mem_cons_self ..
   ·exact List.mem_cons_of_mem _ (List.mem_of_mem_take h)))
  refine wJ ?_
  refine wL 0 I I (fun W1 hp=>show Ao W1 gA (off+i*1) [str (Ac x)] by rw[hx];exact S0 hp 5 hoff1 I hlt) I (wP I (Aa (zE (zA (zB (wB 0 I I I (wP I (wC I I (fun W1 hp=>Fv b x p q m n W1 (hM.hp hp) hmx.1) (wP I (Aa (zE (zA (zB ?_)))))))))))))
  refine wP I (wP I (wC I I (fun W1 hp=>A7 (b.moment x) (b.moment w) (sz2 hmx.2.2 hmw.2.2 (by decide)) W1 (hv.hp hp) (ht.hp hp)) (wP I (wU 46 (decide (b.moment w<b.moment x)) I (EP (b.moment x) (b.moment w)) (Aa (zE ?_))))))
  refine Ai I (fun h=> ?_) (fun h=> ?_)
  ·have hc:b.moment w<b.moment x:=of_decide_eq_true h
   clear h
   rw[if_pos hc] at hsuc
   exact zB (wP I (wP I (wP I (wP I (Aa (zN (zE (zB (wP I (wV 49 ((i+1:Nat):Int) I (An (by omega)) (wP I (Aa (Ak (i+1) hlt (by show l.length-(i+1)<l.length-i;omega) ⟨I,by rw[hsuc];rfl,by rw[hsuc];rfl,I,I,I,O⟩ [] I)))))))))))))
  ·have hc: ¬b.moment w<b.moment x:=of_decide_eq_false h
   clear h
   rw[if_neg hc] at hsuc
   exact zI (zN (zE (zB (wP I (wV 49 ((i+1:Nat):Int) I (An (by omega)) (wP I (Aa (Ak (i+1) hlt (by show l.length-(i+1)<l.length-i;omega) ⟨I,by rw[hsuc];rfl,by rw[hsuc];rfl,I,I,I,O⟩ [] I))))))))
 have e:i=l.length:=by omega
 subst e
 rw[List.take_length, ←hwh]
 refine wU 37 false I (dF (by omega)) (Aa (zE (zA (zS I (zJ (zK (zK (zL (zE (zA (zB ?_)))))))))))
 iterate 5 refine wP I ?_
 exact Aa (zE (zO (wR3 I I I)))
end
section
set_option maxRecDepth 10000
structure BmG (b:BmP):Prop where
 hf:b.Hf
 lies:b.Lies
 span: ∃c,b.Span c
theorem BmG.chk {b:BmP} (h:BmG b):BmC b:=Qe h.hf h.lies
theorem BmG.rc {b:BmP} (h:BmG b):RcZ b:=by
 obtain⟨c,hc⟩:=h.span
 exact OC h.hf h.lies hc
theorem BmG.sh {b:BmP} (h:BmG b) {x:Rat} (D:Nat) (h0:0<D) (hD:D≤IF) (hx:InD (2*D) (100*D) x):ShZ b x∧szQ (b.shear x) 40:=by
 obtain⟨c,hc⟩:=h.span
 have hc1:=hc.pos
 have hc2:=hc.le
 refine⟨Tk h.hf h.lies hc h0 hD hx, ?_⟩
 rw[G2]
 exact(Kv h.hf hc h0 hx (List.append_nil (b.pts x)).symm).z40 (DE (by omega) h0) (Nat.lt_of_le_of_lt (TL hc2 hD) (by decide)) (Nat.lt_of_le_of_lt (Nat.mul_le_mul_left _ hD) (by decide))
theorem BmG.mo {b:BmP} (h:BmG b) {x:Rat} (D:Nat) (h0:0<D) (hD:D≤IF) (hx:InD (2*D) (100*D) x):MoZ b x∧szQ (b.moment x) 40:=by
 obtain⟨c,hc⟩:=h.span
 have hc1:=hc.pos
 have hc2:=hc.le
 refine⟨T4 h.hf h.lies hc h0 hD hx, ?_⟩
 rw[GP]
 exact(Lx h.hf hc h0 hx (List.append_nil (b.pts x)).symm).z40 (DE (DE (by omega) (by omega)) h0) (Nat.lt_of_le_of_lt (Nat.mul_le_mul (TK hc2 hD) hD) (by decide)) (Nat.lt_of_le_of_lt (Nat.mul_le_mul_left _ (Nat.mul_le_mul hD hD)) (by decide))
theorem InD.half1 {q:Rat} (h:InD 2 50 q):InD (2*1) (100*1) q:=h.mono (by decide)
theorem InD.le {D M M':Nat} {p q:Rat} (hp:InD D M p) (hq:InD D M' q) (hD:0<D) (h0:0≤p) (h1:p≤q):InD D M' p:=by
 obtain⟨z,rfl,_⟩:=hp
 obtain⟨y,rfl,hy⟩:=hq
 have hn:=BQ hD
 have hDp:(0:Rat)<(D:Rat):=by
  have:((0:Int):Rat)<((D:Int):Rat):=Rat.intCast_lt_intCast.2 (by omega)
  exact this
 have e1:(z:Rat)/(D:Rat)*(D:Rat)=z:=Rat.div_mul_cancel hn
 have e2:(y:Rat)/(D:Rat)*(D:Rat)=y:=Rat.div_mul_cancel hn
 have a0:((0:Int):Rat)≤(z:Rat):=by rw[←e1];exact Rat.mul_nonneg h0 (Rat.le_of_lt hDp)
 have a1:(z:Rat)≤(y:Rat):=by rw[←e1, ←e2];exact Rat.mul_le_mul_of_nonneg_right h1 (Rat.le_of_lt hDp)
 have b0:=Rat.intCast_le_intCast.1 a0
 have b1:=Rat.intCast_le_intCast.1 a1
 exact⟨z,I,by omega⟩
theorem Mr (p q:Rat): ∀l:List (Rat×Rat×Rat),(∀s∈l,InD 2 128 s.2.2)→InD 2 (128*l.length) (Fe p q l)
 |[],_=>InD.zero 2
 |s::l,h=>by
  have h1:InD 2 128 (if s.1≤p∧q≤s.2.1 then s.2.2 else 0):=by
   split
   ·exact h s (List.mem_cons_self ..)
   ·exact(InD.zero 2).mono (Nat.zero_le _)
  have h2:=Mr p q l fun t ht=>h t (List.mem_cons_of_mem _ ht)
  exact(h1.add h2).mono (by rw[List.length_cons];omega)
theorem MR (b:BmP) {z:Rat}: ∀c:List Rat,z∈b.zeros c→ ∃p∈c, ∃q∈c,z∈b.zero1 p q
 |[],h=>absurd h List.not_mem_nil
 |[p],h=>absurd h List.not_mem_nil
 |p::q::l,h=>by
  rcases List.mem_append.1 h with h|h
  ·exact⟨p,List.mem_cons_self ..,q,List.mem_cons_of_mem _ (List.mem_cons_self ..),h⟩
  ·obtain⟨x,hx,y,hy,hz⟩:=MR b (q::l) h
   exact⟨x,List.mem_cons_of_mem _ hx,y,List.mem_cons_of_mem _ hy,hz⟩
theorem BmG.ch {b:BmP} (h:BmG b) {p:Rat} (hp:p∈b.chg):InD 2 50 p:=by
 have hf:=h.hf
 rcases M6.1 hp with rfl|rfl|rfl|rfl|⟨f,hm,rfl⟩|⟨s,hm,rfl|rfl⟩
 ·exact(InD.zero 2).mono (Nat.zero_le _)
 ·exact hf.len
 ·exact hf.l
 ·exact hf.r
 ·exact hf.f1 f hm
 ·exact hf.s1 s hm
 ·exact hf.s2 s hm
theorem BmG.zeroD {b:BmP} (h:BmG b) {z:Rat} (hz:z∈b.zeros b.chg): ∃D,0<D∧D≤IF∧InD (2*D) (100*D) z:=by
 obtain⟨p,hp,q,hq,hm⟩:=MR b b.chg hz
 obtain⟨x,hx,y,hy,h1,h2⟩:=ND b b.chg hz
 have z0:0≤z:=Rat.le_trans (RJ h.lies hx).1 (Rat.le_of_lt h1)
 have z1:z≤b.len:=Rat.le_trans (Rat.le_of_lt h2) (RJ h.lies hy).2
 have hf:=h.hf
 unfold BmP.zero1 at hm
 by_cases hK:Fe p q b.ss=0
 ·rw[if_pos hK] at hm;exact absurd hm List.not_mem_nil
 rw[if_neg hK] at hm
 have hzz:z=p+b.shear p/Fe p q b.ss:=by
  split at hm
  ·exact List.mem_singleton.1 hm
  ·exact absurd hm List.not_mem_nil
 have hn:=hf.sn
 obtain⟨k,hk,hk1⟩:=Mr p q b.ss hf.s3
 have hk0:k≠0:=fun e=>hK (by rw[hk,e,Rat.div_def];exact Rat.zero_mul _)
 obtain⟨c,hc⟩:=h.span
 have hc1:=hc.pos
 have hc2:=hc.le
 have hs:InD (16*c*1) (20000000000*1) (b.shear p):=by
  rw[G2]
  exact Kv hf hc (by decide) (h.ch hp).half1 (List.append_nil (b.pts p)).symm
 have hd:=hs.div (D':=2) (y:=k) (by omega) (by decide) hk0 rfl
 rw[←hk] at hd
 have hkp:0<k.natAbs:=by omega
 obtain⟨D,hD⟩: ∃D,D=8*c*k.natAbs:=⟨_,rfl⟩
 have hD0:0<D:=by rw[hD];exact DE (by omega) hkp
 have hD1:D≤400*1024:=by rw[hD];exact Nat.mul_le_mul (by omega) (by omega)
 have e:16*c*1*k.natAbs=2*D:=by rw[hD,Nat.mul_one, ←Nat.mul_assoc, ←Nat.mul_assoc]
 rw[e] at hd
 have hw:=((h.ch hp).up (by decide) D hD0).add hd
 rw[←hzz] at hw
 exact⟨D,hD0,Nat.le_trans hD1 (by decide),(hw.le (hf.len.up (by decide) D hD0) (by omega) z0 z1).mono (Nat.mul_le_mul_right _ (by decide))⟩
theorem BmG.of {b:BmP} (h:BmG b) (hl:4+b.fs.length+2*b.ss.length≤12):OfZ b:=by
 have hf:=h.hf
 obtain⟨_,_,_,_,zs⟩:=Rl hf
 have hn:=hf.sn
 refine⟨hl,fun p hp=> ?_,fun p hp=> ?_,zs,fun p q j=> ?_⟩
 ·obtain⟨h1,h2⟩:=h.sh 1 (by decide) (by decide) (h.ch hp).half1
  exact⟨h1,h2.mono (by decide)⟩
 ·have hp':p∈b.chg:=by rw[Hy];exact(HY _).2 (EU.2 hp)
  exact(h.ch hp').z40 (by decide) (by decide) (by decide)
 ·have h1:=Mr p q (b.ss.take j) fun s hs=>hf.s3 s (List.mem_of_mem_take hs)
  have h2:(b.ss.take j).length≤b.ss.length:=by rw[List.length_take];omega
  exact h1.z40 (by decide) (by decide) (Nat.lt_of_le_of_lt (show 128*(b.ss.take j).length≤1024 by omega) (by decide))
theorem BmG.gr {b:BmP} (h:BmG b) (hl:4+b.fs.length+2*b.ss.length≤6):GrZ b:=by
 have h1:=Gy b b.chg
 have h2:b.chg.length≤6:=by
  have:=Gp (AW (chS b b.ss.length))
  rw[←Hy,Gu,P9] at this;omega
 refine⟨h.chk,h.of (by omega),fun x hx=> ?_,by rw[List.length_append];omega⟩
 obtain⟨D,h0,hD,hi⟩: ∃D,0<D∧D≤IF∧InD (2*D) (100*D) x:=by
  rcases List.mem_append.1 hx with hx|hx
  ·exact⟨1,by decide,by decide,(h.ch hx).half1⟩
  ·exact h.zeroD hx
 obtain⟨a1,a2⟩:=h.mo D h0 hD hi
 exact⟨a1,(QI h0 hD hi).mono (by decide),a2.mono (by decide)⟩
end
section
open Go Go.RowKit Go.Am Go.Lib
set_option maxRecDepth 10000
-- BOXES 4
def awA:BmP:=⟨q2 4 1,q2 0 1,q2 4 1,[(q2 1 1,q2 8 1)],[]⟩
def awB:BmP:=⟨q2 4 1,q2 0 1,q2 4 1,[],[(q2 0 1,q2 4 1,q2 2 1)]⟩
theorem ns4:Ac (q2 4 1)=[52]:=by rw[Ac,CS,if_pos rfl];exact(Ch 4).trans (dd1 4 (by decide))
theorem OE {q:Rat} {M:Nat} (z:Int) (e:q=(z:Rat)/((2:Nat):Rat)) (h:z.natAbs≤M):InD 2 M q:=⟨z,e,h⟩
theorem Jj:BmG awA:=by
 have h4:InD 2 50 (q2 4 1):=OE 8 (by decide+kernel) (by decide)
 have h0:InD 2 50 (q2 0 1):=OE 0 (by decide+kernel) (by decide)
 have h1:InD 2 50 (q2 1 1):=OE 2 (by decide+kernel) (by decide)
 have h8:InD 2 128 (q2 8 1):=OE 16 (by decide+kernel) (by decide)
 have f1: ∀ {P:Rat×Rat→Prop},P (q2 1 1,q2 8 1)→ ∀f∈awA.fs,P f:=fun h f hm=>by
  obtain rfl:=List.mem_singleton.1 hm;exact h
 have s1: ∀ {P:Rat×Rat×Rat→Prop}, ∀f∈awA.ss,P f:=fun f hm=>absurd hm List.not_mem_nil
 exact⟨⟨h4,h0,h4,f1 h1,f1 h8,s1,s1,s1,by decide,by decide⟩,⟨by decide+kernel,by decide+kernel,by decide+kernel,by decide+kernel,f1 (by decide+kernel),f1 (by decide+kernel),s1,s1,s1⟩,8,by decide,by decide,by decide+kernel⟩
theorem RB:BmG awB:=by
 have h4:InD 2 50 (q2 4 1):=OE 8 (by decide+kernel) (by decide)
 have h0:InD 2 50 (q2 0 1):=OE 0 (by decide+kernel) (by decide)
 have h2:InD 2 128 (q2 2 1):=OE 4 (by decide+kernel) (by decide)
 have s1: ∀ {P:Rat×Rat×Rat→Prop},P (q2 0 1,q2 4 1,q2 2 1)→ ∀f∈awB.ss,P f:=fun h f hm=>by
  obtain rfl:=List.mem_singleton.1 hm;exact h
 have f1: ∀ {P:Rat×Rat→Prop}, ∀f∈awB.fs,P f:=fun f hm=>absurd hm List.not_mem_nil
 exact⟨⟨h4,h0,h4,f1,f1,s1 h0,s1 h4,s1 h2,by decide,by decide⟩,⟨by decide+kernel,by decide+kernel,by decide+kernel,by decide+kernel,f1,f1,s1 (by decide+kernel),s1 (by decide+kernel),s1 (by decide+kernel)⟩,8,by decide,by decide,by decide+kernel⟩
theorem Tb (p q:Option Addr) (m n:Nat):bmV awA p m q n= .agg #[str [52],str [48],str [52], .slice p 1 m, .slice q 0 n]:=by
 show Value.agg #[str (Ac (q2 4 1)),str (Ac (q2 0 1)),str (Ac (q2 4 1)), .slice p 1 m, .slice q 0 n]=_
 rw[ns4,ns0]
theorem TT (p q:Option Addr) (m n:Nat):bmV awB p m q n= .agg #[str [52],str [48],str [52], .slice p 0 m, .slice q 1 n]:=by
 show Value.agg #[str (Ac (q2 4 1)),str (Ac (q2 0 1)),str (Ac (q2 4 1)), .slice p 0 m, .slice q 1 n]=_
 rw[ns4,ns0]
theorem Td {W:World} {g:Nat} (h:Ao W g 0 [str [49],str [56]]) (hv:Br W) (ht:AB W):BmM W awA (some ⟨g,0,none⟩) none:=by
 refine⟨.inr ⟨g,0,I,fun i hi=> ?_⟩, .inl I,hv,ht⟩
 have hi:i<1:=hi
 obtain rfl:i=0:=by omega
 show Ao W g 0 [str (Ac (q2 1 1)),str (Ac (q2 8 1))]
 rw[ns1,ns8];exact h
theorem T9 {W:World} {g:Nat} (h:Ao W g 0 [str [48],str [52],str [50]]) (hv:Br W) (ht:AB W):BmM W awB none (some ⟨g,0,none⟩):=by
 refine⟨.inl I, .inr ⟨g,0,I,fun i hi=> ?_⟩,hv,ht⟩
 have hi:i<1:=hi
 obtain rfl:i=0:=by omega
 show Ao W g 0 [str (Ac (q2 0 1)),str (Ac (q2 4 1)),str (Ac (q2 2 1))]
 rw[ns0,ns4,ns2];exact h
theorem TX (W:World) (g n:Nat) (h:Ao W g 0 [str [49],str [56]]) (hv:Br W) (ht:AB W):
  Ad Tryz.prog 9 #[.agg #[str [52],str [48],str [52], .slice (some ⟨g,0,none⟩) 1 n, .slice none 0 0]] W (fun _:Unit=> .tuple #[str [54],str [50], .int .i64 0]) (fun _=>True) (fun _=>[]):=by
 have h:=ED awA Jj.chk Jj.rc (some ⟨g,0,none⟩) none n 0 W (Td h hv ht)
 rw[Tb,show awA.left=q2 6 1 by decide+kernel,show awA.right=q2 2 1 by decide+kernel,ns6,ns2] at h
 exact h
theorem TW (W:World) (g n:Nat) (h:Ao W g 0 [str [49],str [56]]) (hv:Br W) (ht:AB W):
  Ad Tryz.prog 34 #[.agg #[str [52],str [48],str [52], .slice (some ⟨g,0,none⟩) 1 n, .slice none 0 0]] W (fun _:Unit=> .tuple #[str [54],str [49], .int .i64 0]) (fun _=>True) (fun _=>[]):=by
 have h:=F4 awA (Jj.gr (by decide)) (some ⟨g,0,none⟩) none n 0 W (Td h hv ht)
 rw[Tb,show awA.where_=q2 1 1 by decide+kernel,show awA.moment (q2 1 1)=q2 6 1 by decide+kernel,ns6,ns1] at h
 exact h
theorem TN (W:World) (g n:Nat) (h:Ao W g 0 [str [48],str [52],str [50]]) (hv:Br W) (ht:AB W):
  Ad Tryz.prog 34 #[.agg #[str [52],str [48],str [52], .slice none 0 0, .slice (some ⟨g,0,none⟩) 1 n]] W (fun _:Unit=> .tuple #[str [52],str [50], .int .i64 0]) (fun _=>True) (fun _=>[]):=by
 have h:=F4 awB (RB.gr (by decide)) none (some ⟨g,0,none⟩) 0 n W (T9 h hv ht)
 rw[TT,show awB.where_=q2 2 1 by decide+kernel,show awB.moment (q2 2 1)=q2 4 1 by decide+kernel,ns4,ns2] at h
 exact h
theorem HV (a b:List UInt8) (h:a=b):(((⟨a.toArray⟩:ByteArray).toList==(⟨b.toArray⟩:ByteArray).toList))=true:=(AQ a b).trans (dT h)
theorem F0 (W:World) (hv:Br W) (ht:AB W):Ad Tryz.prog 8 #[] W (fun _:Unit=> .bool true) (fun _=>True) (fun _=>[]):=by
 refine Ab (args:=[]) Tryz.func8 I I I ?_
 refine zA (zB (wP I (Aa (zE (zA (zB ?_))))))
 refine Au Tryz.hZ tH I I I I I I I I ?_
 (refine Ap Tryz.hZ tH rfl rfl rfl rfl rfl rfl rfl rfl rfl rfl rfl ?_;intro)
 refine Au Tryz.hZ tH I I I I I I I I ?_
 (refine Ae Tryz.hZ rfl rfl rfl rfl ?_;intro)
 refine wS 1 I I I (Aa ?_)
 rename_i bF b1
 refine zE (zA (zB (wB 1 I I I (wC I I (fun W hp=>TX W bF 1 (Ao.of_bx hp 0 I I) (hv.hp hp) (ht.hp hp)) ?_))))
 iterate 7 refine wP I ?_
 refine Aa (zE (zA (zB (wB 1 I I I (wC I I (fun W hp=>TW W bF 1 (Ao.of_bx hp 0 I I) (hv.hp hp) (ht.hp hp)) ?_)))))
 iterate 7 refine wP I ?_
 refine Aa (zE (zA (zB ?_)))
 refine Au Tryz.hZ tH I I I I I I I I ?_
 (refine Ap Tryz.hZ tH rfl rfl rfl rfl rfl rfl rfl rfl rfl rfl rfl ?_;intro)
 refine wP I (wS 1 I I I (wP I (wS 1 I I I (Aa ?_))))
 rename_i bS
 refine zE (zA (zB (wB 1 I I I (wC I I (fun W hp=>TN W bS 1 (Ao.of_bx hp 2 I I) (hv.hp hp) (ht.hp hp)) ?_))))
 iterate 7 refine wP I ?_
 refine Aa (zE (zA (zB ?_)))
 iterate 8 refine wP I ?_
 refine wU 43 true I (HV _ _ I) (wP I (wP I (wP I (wP I (wU 47 true I (HV _ _ I) (wP I (wP I (wP I (wP I (wU 51 true I (HV _ _ I) (wP I (wP I (wP I (wP I ?_))))))))))))))
 refine wU 55 true I (HV _ _ I) (wP I (wP I (wP I (wP I (wU 59 true I (HV _ _ I) (wP I (wP I (wP I (wP I (wU 63 true I (HV _ _ I) (wP I (wP I (Aa ?_)))))))))))))
 exact zE (zO (wR1 I I I))
-- BOXES 4
-- CODE2
structure BmW.Fit (w:BmW):Prop where
 s:w.Short
 f:w.fs.length≤64→w.fs.length≤5
 g:w.ss.length≤64→w.ss.length≤4
theorem K5 {w:BmW} (h:w.Fit) (he:CC w=0): ∃b,w=b.w∧BmX b∧b.Lf:=by
 obtain⟨b,hb,rfl⟩:=Ii he
 have e1:b.w.fs.length=b.fs.length:=List.length_map _
 have e2:b.w.ss.length=b.ss.length:=List.length_map _
 have h1:=h.f (by rw[e1];exact hb.lf)
 have h2:=h.g (by rw[e2];exact hb.ls)
 exact⟨b,I,⟨he,hb,h.s⟩,hb.lf' (by omega) (by omega)⟩
abbrev LE (F:Nat) (w:BmW) (v:Value):Prop:= ∀(p q:Option Addr) (m n:Nat) (W:World),BwM W w p q→Ad Tryz.prog F #[bwV w p m q n] W (fun _:Unit=>v) (fun _=>True) (fun _=>[])
abbrev IT (F:Nat) (w:BmW) (a:List UInt8) (v:Value):Prop:= ∀(p q:Option Addr) (m n:Nat) (W:World),BwM W w p q→Ad Tryz.prog F #[bwV w p m q n,str a] W (fun _:Unit=>v) (fun _=>True) (fun _=>[])
theorem Q6 (w:BmW) (h:w.Fit): ∃s t e,LE 9 w (.tuple #[str s,str t, .int .i64 e])∧LE 10 w (.tuple #[str s,str t, .int .i64 e]):=by
 by_cases he:CC w=0
 ·obtain⟨b,rfl,hx,hf⟩:=K5 h he
  have hz:=(M9 hx.c hf).1
  refine⟨Ac b.left,Ac b.right,0,fun p q m n W hM=> ?_,fun p q m n W hM=> ?_⟩
  ·rw[GD];exact ED b hx.c hz p q m n W hM.m
  ·rw[GD];exact CF b hx hz p q m n W hM
 ·exact⟨[],[],1,fun p q m n W hM=>KO w h.s he p q m n W hM,fun p q m n W hM=>IJ w h.s he p q m n W hM⟩
theorem Qh (w:BmW) (h:w.Fit): ∃s e,LE 15 w (.tuple #[str s, .int .i64 e])∧LE 16 w (.tuple #[str s, .int .i64 e]):=by
 by_cases he:CC w=0
 ·obtain⟨b,rfl,hx,hf⟩:=K5 h he
  have hz:=(M9 hx.c hf).1
  refine⟨Ac b.total,0,fun p q m n W hM=> ?_,fun p q m n W hM=> ?_⟩
  ·rw[GD];exact LU b hx.c hz p q m n W hM.m
  ·rw[GD];exact FO b hx hz p q m n W hM
 ·exact⟨[],1,fun p q m n W hM=>Qo w h.s he p q m n W hM,fun p q m n W hM=>IA w h.s he p q m n W hM⟩
theorem Nv {w:BmW} (h:w.Fit) {a:List UInt8} (ha:a.length≤24) (he:F2 w a=0): ∃b x,w=b.w∧a=Ac x∧PlX b x∧b.Lf∧0≤x∧x≤b.len:=by
 have hp:=he
 unfold F2 at he
 by_cases h1:CC w=0
 rotate_left
 ·rw[if_pos h1] at he;exact absurd he (by decide)
 rw[if_neg (fun h=>h h1)] at he
 by_cases h2:(rdR a).2=0
 rotate_left
 ·rw[if_pos h2] at he;exact absurd he h2
 rw[if_neg (fun h=>h h2)] at he
 obtain⟨b,rfl,hx,hf⟩:=K5 h h1
 obtain⟨x,hk,rfl⟩:=Gz h2
 cases ho:Cl b.w.len (Ac x) with
 |true=>rw[if_pos ho] at he;exact absurd he (by decide)
 |false=>
  obtain⟨x0,x1⟩:=Gs (show Cl (Ac b.len) (Ac x)=false from ho)
  obtain⟨_,zl,zr⟩:=M9 hx.c hf
  exact⟨b,x,I,I,⟨hx,hp,ha,IU ha,zl,zr⟩,hf,x0,x1⟩
theorem Qq (w:BmW) (h:w.Fit) (a:List UInt8) (ha:a.length≤24): ∃s e,IT 11 w a (.tuple #[str s, .int .i64 e])∧IT 12 w a (.tuple #[str s, .int .i64 e]):=by
 by_cases he:F2 w a=0
 ·obtain⟨b,x,rfl,rfl,hx,hf,x0,x1⟩:=Nv h ha he
  have hz:=TP hx.bb.c hf hx.z x0 x1
  refine⟨Ac (b.shear x),0,fun p q m n W hM=> ?_,fun p q m n W hM=> ?_⟩
  ·rw[GD];exact LK b hx.bb.c x ⟨hx.z.mono (by decide),x0,x1⟩ hz p q m n W hM.m
  ·rw[GD];exact KB b x hx hz p q m n W hM
 ·exact⟨[],F2 w a,fun p q m n W hM=>Qg w h.s a ha he p q m n W hM,fun p q m n W hM=>Nf w h.s a ha he p q m n W hM⟩
theorem Om (w:BmW) (h:w.Fit) (a:List UInt8) (ha:a.length≤24): ∃s e,IT 13 w a (.tuple #[str s, .int .i64 e])∧IT 14 w a (.tuple #[str s, .int .i64 e]):=by
 by_cases he:F2 w a=0
 ·obtain⟨b,x,rfl,rfl,hx,hf,x0,x1⟩:=Nv h ha he
  have hz:=TJ hx.bb.c hf hx.z x0 x1
  refine⟨Ac (b.moment x),0,fun p q m n W hM=> ?_,fun p q m n W hM=> ?_⟩
  ·rw[GD];exact KN b hx.bb.c x ⟨hx.z.mono (by decide),x0,x1⟩ hz p q m n W hM.m
  ·rw[GD];exact IK b x hx hz p q m n W hM
 ·exact⟨[],F2 w a,fun p q m n W hM=>OU w h.s a ha he p q m n W hM,fun p q m n W hM=>LY w h.s a ha he p q m n W hM⟩
theorem Mt (w:BmW) (a:List UInt8) (hla:a.length≤4000000000) (hlf:w.fs.length≤4000000000) (hls:w.ss.length≤4000000000) (p q:Option Addr) (m n:Nat) (W:World) (hM:BwM W w p q):
  Ad Tryz.prog 3 #[bwV w p m q n,str a] W (fun _:Unit=> .bool true) (fun _=>True) (fun _=>[]):=by
 have hv:=hM.v
 have ht:=hM.t
 refine Ab (args:=[bwV w p m q n,str a]) Tryz.func3 I I I ?_
 refine zA (zB ?_)
 (refine Az rfl rfl rfl rfl ?_;intro)
 refine wP I (Aa ?_)
 rename_i b2
 refine zE (zA (zA (zB (wB 0 I I I (wC I I (fun W1 hp=>J4 w p q m n hlf hls W1 (hM.hp hp).f (hM.hp hp).s) ?_)))))
 cases hG:KM w with
 |true=>
  refine wP I ?_
  iterate 3 refine Af I I ?_
  exact wP I (Aa (zE (zR I (zA (zB (wC I I (fun W1 hp=>F0 W1 (hv.hp hp) (ht.hp hp)) (wP I (Aa (zE (zO (zP (wR1 I I I))))))))))))
 |false=>
 refine wP I (wP I (wP I ?_))
 refine Ag 27 (.int .i64 (a.length:Nat)) I (congrArg (fun n:Nat=>Value.int .i64 (n:Int)) (As _)) ?_
 refine wP I ?_
 by_cases hA:24<a.length
 ·exact wU 28 true I (dT (by omega)) (wP I (Aa (zE (zR I (zA (zB (wC I I (fun W1 hp=>F0 W1 (hv.hp hp) (ht.hp hp)) (wP I (Aa (zE (zO (zP (wR1 I I I)))))))))))))
 obtain⟨g1,g2,g3⟩:=S5 hG
 have hF:w.Fit:=⟨g1,g2,g3⟩
 have ha:a.length≤24:=by omega
 obtain⟨r1,r2,e1,hR,hR'⟩:=Q6 w hF
 obtain⟨r3,e3,hS,hS'⟩:=Qq w hF a ha
 obtain⟨r4,e4,hO,hO'⟩:=Om w hF a ha
 obtain⟨r5,e5,hT,hT'⟩:=Qh w hF
 refine wU 28 false I (dF (by omega)) (wP I (Aa (zE (zS I (zI (zE (zA (zB (wB 0 I I I (wC I I (fun W1 hp=>hR p q m n W1 (hM.hp hp)) ?_))))))))))
 iterate 7 refine wP I ?_
 refine Aa (zE (zA (zB (wB 0 I I I (wC I I (fun W1 hp=>hR' p q m n W1 (hM.hp hp)) ?_)))))
 iterate 7 refine wP I ?_
 refine Aa (zE (zA (zB (wB 0 I I I (wP I (wC I I (fun W1 hp=>hS p q m n W1 (hM.hp hp)) ?_))))))
 iterate 5 refine wP I ?_
 refine Aa (zE (zA (zB (wB 0 I I I (wP I (wC I I (fun W1 hp=>hS' p q m n W1 (hM.hp hp)) ?_))))))
 iterate 5 refine wP I ?_
 refine Aa (zE (zA (zB (wB 0 I I I (wP I (wC I I (fun W1 hp=>hO p q m n W1 (hM.hp hp)) ?_))))))
 iterate 5 refine wP I ?_
 refine Aa (zE (zA (zB (wB 0 I I I (wP I (wC I I (fun W1 hp=>hO' p q m n W1 (hM.hp hp)) ?_))))))
 iterate 5 refine wP I ?_
 refine Aa (zE (zA (zB (wB 0 I I I (wC I I (fun W1 hp=>hT p q m n W1 (hM.hp hp)) ?_)))))
 iterate 5 refine wP I ?_
 refine Aa (zE (zA (zB (wB 0 I I I (wC I I (fun W1 hp=>hT' p q m n W1 (hM.hp hp)) ?_)))))
 iterate 5 refine wP I ?_
 refine Aa (zE (zA (zU (qB 0 I I I (qC I I (fun W1 hp=>Dp w hF.s p q m n W1 (hM.hp hp)) (qB 0 I I I (qC I I (fun W1 hp=>CU w hF.s p q m n W1 (hM.hp hp)) (qP I (qU 81 true I (beq_self_eq_true (CC w)) (qP I (qP I (qP I (qP I ?_)))))))))))))
 refine qU 85 true I (by rw[AQ];exact dT I) ?_
 iterate 5 refine qP I ?_
 refine qU 90 true I (by rw[AQ];exact dT I) ?_
 iterate 5 refine qP I ?_
 refine qU 95 true I (beq_self_eq_true e1) ?_
 iterate 5 refine qP I ?_
 refine qU 100 true I (by rw[AQ];exact dT I) ?_
 iterate 5 refine qP I ?_
 refine qU 105 true I (beq_self_eq_true e3) ?_
 iterate 5 refine qP I ?_
 refine qU 110 true I (by rw[AQ];exact dT I) ?_
 iterate 5 refine qP I ?_
 refine qU 115 true I (beq_self_eq_true e4) ?_
 iterate 5 refine qP I ?_
 refine qU 120 true I (by rw[AQ];exact dT I) ?_
 iterate 5 refine qP I ?_
 exact qU 125 true I (beq_self_eq_true e5) (qP I (qP I (qC I I (fun W1 hp=>F0 W1 (hv.hp hp) (ht.hp hp)) (qP I (qP I (AM (Aa (zE (zO (wR1 I I I))))))))))
end
section
open Go
noncomputable abbrev laidL:List (String×DataW Unit):=Rows.beamForcesRow.laid
end
section
open Go Go.RowKit Go.Am Go.ChangeShapes Go.WideShapes Go.Deep Go.ChangeAt
set_option maxRecDepth 100000
section
variable {H:Type} {enc:TypeId×Value→H} {w:World} {base:Nat} {spare:Nat→Bool} {held:Bool} {v:Value} {d:DataW H} {ps:List MemPlace}
end
theorem own:ownKnob Tryz.prog.godebug=none:=by kernel_rfl
theorem PC:laidOutB Tryz.prog=true:=by kernel_rfl
theorem Kk:(laidL.all fun x=>x.2.handleName?.isNone)=true:=by kernel_rfl
theorem Nu {W:World} (h:laidMetH Tryz.prog laidL W):AB W:=by
 rw[MakeChecks.laidMetH_plain _ _ _ Kk] at h
 exact Lib.tabIs_of_head (g:=2) (t:=306) (e:=232) (n:=20) (by kernel_rfl) (by kernel_rfl) (by kernel_rfl) (by kernel_rfl) (by kernel_rfl) (by kernel_rfl) h.tail.tail
theorem Tn {W:World} (hS:W.ShapedOpen Tryz.prog):Br W:=
 cell_of_shapedOpen_int (g:=3) (t:=3) (zero:= #[.int .i64 0]) hS (of_decide_eq_true (by kernel_rfl)) (by kernel_rfl) rfl (by kernel_rfl) (by kernel_rfl) Tryz.underlying3
noncomputable def witW (os:Os):World:=World.laidAll Tryz.prog os laidL
theorem QH (os:Os) (args:Array Value):laidMetH Tryz.prog laidL ((witW os).forCall (fun _ _=>0) ⟨#[],args,[]⟩).memory:=by
 rw[MakeChecks.laidMetH_plain _ _ _ Kk]
 exact laidMet_laidAll _ (by kernel_rfl) (by kernel_rfl)
theorem OL (os:Os) (args:Array Value):((witW os).forCall (fun _ _=>0) ⟨#[],args,[]⟩).Shaped Tryz.prog:=
 World.shaped_of_ZipB (by kernel_rfl) (by kernel_rfl)
theorem SE {H:Type} {enc:TypeId×Value→H} (os:Os) {f:FuncId} {fn:Func} {s:OpenSpec} {conds:List PathCond} (args:Array Value)
  (hok:Input.okWideB Tryz.prog ((witW os).forCall (fun _ _=>0) ⟨#[],args,[]⟩) f ⟨#[],args,[]⟩=true)
  (hrow:s.preRow enc Tryz.prog fn conds false laidL ((witW os).forCall (fun _ _=>0) ⟨#[],args,[]⟩).memory args):
  ∃(w:World) (tape:Tape) (i:Input),w.os=os∧(w.forCall tape i).Shaped Tryz.prog∧i.vars=[]∧Input.okWide Tryz.prog (w.forCall tape i) .any w.heap.size f i∧
   s.preRow enc Tryz.prog fn conds false laidL (w.forCall tape i).memory i.args∧({}:Assume).holds Tryz.prog (lone (Frame.enter Tryz.prog f i.args .normal) [] (w.forCall tape i)):=
 ⟨witW os,fun _ _=>0,⟨#[],args,[]⟩,World.laidAll_os _ _ _,OL os args,(Input.okWide_of_okWideB (base:=0) hok).1,(Input.okWide_of_okWideB hok).2,hrow,by
  simp only[Assume.holds]
  exact⟨by simp,by simp,by simp,by simp,by simp,by simp⟩⟩
end
section
open Go Go.RowKit Go.Am Go.ChangeShapes Go.WideShapes Go.Deep
set_option maxRecDepth 10000
theorem R8:Tryz.prog.cellsOf 22=1:=by kernel_rfl
theorem Jt {H:Type} (d:DataW H):1≤Rows.uptoBulk d:=by
 cases d with
 |lit l=>cases l<;>simp[Rows.uptoBulk]
 |nil=>simp[Rows.uptoBulk]
 |ptr d=>simp[Rows.uptoBulk]
 |slice elems spare=>simp[Rows.uptoBulk]
 |agg parts=>simp[Rows.uptoBulk]
 |iface t d=>simp[Rows.uptoBulk]
 |map entries=>simp[Rows.uptoBulk]
 |held h=>simp[Rows.uptoBulk]
theorem Nl {H:Type} (l:List (DataW H)):l.length≤Rows.uptoBulkAll l:=by
 induction l with
 |nil=>simp[Rows.uptoBulkAll]
 |cons x r ih=>have:=Jt x;simp only[Rows.uptoBulkAll,List.length_cons];omega
theorem JZ {H:Type} (e s:List (DataW H)):Rows.uptoBulkAll e+1≤Rows.uptoBulk (.slice e s):=by
 simp only[Rows.uptoBulk];omega
theorem OJ {w:World} {a:Addr} {v:Value} (h:w.cell? a=some v):a.spot=none∧a.block<w.heap.size:=by
 unfold World.cell? at h
 split at h
 ·rename_i hb
  refine⟨?_, ?_⟩
  ·cases hs:a.spot with
   |none=>rfl
   |some k=>simp[hs] at h
  ·exact(Array.getElem?_eq_some_iff.1 hb).1
 ·cases h
theorem Hr {w:World} {base n:Nat} {a:Addr} {cs:List Value} (h:w.cells? base a n=some cs) (hn:0<n):a.spot=none∧Ao w a.block a.off cs:=by
 obtain⟨_,hl,hg⟩:=World.cells?_some h
 have h0:=hg 0 hn
 have hv:cs[0]? =some cs[0]:=List.getElem?_eq_getElem (by omega)
 rw[hv] at h0
 have hp:=OJ h0
 have hs:a.spot=none:=by simpa[Addr.add] using hp.1
 refine⟨hs,⟨by simpa[Addr.add] using hp.2,fun j x hx=> ?_⟩⟩
 have hj:j<n:=by rw[←hl];exact(List.getElem?_eq_some_iff.1 hx).1
 rw[←hx, ←hg j hj]
 congr 1
 unfold Addr.add
 split
 ·subst_vars;cases a;simp_all
 ·rfl
theorem PE {a:Addr} (hs:a.spot=none) (n:Nat):a.add n=⟨a.block,a.off+n,none⟩:=by
 unfold Addr.add
 split
 ·subst_vars;cases a;simp_all
 ·rfl
section
variable {H:Type} {enc:TypeId×Value→H} {w:World} {base:Nat} {spare:Nat→Bool} {held:Bool} {fuel:Nat}
theorem Ep {u:Value} {x:DataW H×List MemPlace} (h:DataW.trod enc Tryz.prog w base spare held fuel 22 [u]=some x): ∃b:List UInt8,u=str b∧Rows.uptoBulk x.1=b.length+1:=by
 obtain⟨s,e,hx,_⟩:=DataW.trod_string Tryz.underlying22 h
 refine⟨s.data.toList, ?_, ?_⟩
 ·have:u= .string s:=by simpa using e
  rw[this]
 ·rw[hx];simp[Rows.uptoBulk]
end
theorem cFo:Tryz.prog.cellsOf 57=2:=by kernel_rfl
theorem cSp:Tryz.prog.cellsOf 59=3:=by kernel_rfl
theorem Ub:Tryz.prog.cellsOf 23=1:=by kernel_rfl
theorem Ue:Tryz.prog.cellsOf 24=1:=by kernel_rfl
theorem cBm:Tryz.prog.cellsOf 26=5:=by kernel_rfl
section
variable {H:Type} {enc:TypeId×Value→H} {w:World} {base:Nat} {spare:Nat→Bool} {held:Bool} {fuel:Nat} {cs:List Value} {x:DataW H×List MemPlace}
theorem SA (h:DataW.trod enc Tryz.prog w base spare held fuel 57 cs=some x): ∃f:List UInt8×List UInt8,cs=[str f.1,str f.2]:=by
 obtain⟨xs,m,rfl,hx,hl,hn,hg⟩:=DataW.trod_struct Tryz.underlying57 h
 rw[cFo] at hl
 obtain⟨x0,x1,rfl⟩: ∃x0 x1,xs=[x0,x1]:=by
  match xs,hn with
  |[a,b],_=>exact⟨a,b,rfl⟩
 match cs,hl with
 |[v0,v1],_=>
  have h0:DataW.trod enc Tryz.prog w base spare held m 22 (List.take (Tryz.prog.cellsOf 22) [v0,v1])=some x0:=hg 0 _ rfl
  have h1:DataW.trod enc Tryz.prog w base spare held m 22 (List.take (Tryz.prog.cellsOf 22) [v1])=some x1:=hg 1 _ rfl
  rw[R8] at h0 h1
  obtain⟨s,rfl,_⟩:=Ep h0
  obtain⟨t,rfl,_⟩:=Ep h1
  exact⟨(s,t),I⟩
theorem SP (h:DataW.trod enc Tryz.prog w base spare held fuel 59 cs=some x): ∃f:List UInt8×List UInt8×List UInt8,cs=[str f.1,str f.2.1,str f.2.2]:=by
 obtain⟨xs,m,rfl,hx,hl,hn,hg⟩:=DataW.trod_struct Tryz.underlying59 h
 rw[cSp] at hl
 obtain⟨x0,x1,x2,rfl⟩: ∃x0 x1 x2,xs=[x0,x1,x2]:=by
  match xs,hn with
  |[a,b,c],_=>exact⟨a,b,c,rfl⟩
 match cs,hl with
 |[v0,v1,v2],_=>
  have h0:DataW.trod enc Tryz.prog w base spare held m 22 (List.take (Tryz.prog.cellsOf 22) [v0,v1,v2])=some x0:=hg 0 _ rfl
  have h1:DataW.trod enc Tryz.prog w base spare held m 22 (List.take (Tryz.prog.cellsOf 22) [v1,v2])=some x1:=hg 1 _ rfl
  have h2:DataW.trod enc Tryz.prog w base spare held m 22 (List.take (Tryz.prog.cellsOf 22) [v2])=some x2:=hg 2 _ rfl
  rw[R8] at h0 h1 h2
  obtain⟨s,rfl,_⟩:=Ep h0
  obtain⟨t,rfl,_⟩:=Ep h1
  obtain⟨u,rfl,_⟩:=Ep h2
  exact⟨(s,t,u),I⟩
theorem Q3 (h:DataW.trod enc Tryz.prog w base spare held fuel 23 cs=some x):
  ∃(p:Option Addr) (cap:Nat) (l:List (List UInt8×List UInt8)),cs=[.slice p l.length cap]∧Mq w p l∧l.length+1≤Rows.uptoBulk x.1:=by
 rcases open_slice Tryz.underlying23 h with⟨rfl,rfl⟩|⟨a,len,cap,m,n,D,Pl,rfl,_,hl,_,hm,rfl,hx⟩
 ·exact⟨none,0,[],I, .inl I,Jt _⟩
 have hlm:len≤m:=by rw[hm];split<;>omega
 obtain⟨S,hS⟩:=choose_lt (α:=List UInt8×List UInt8) (n:=len) (p:=fun i s=>w.cells? base (a.add (i*2)) 2=some [str s.1,str s.2]) fun i hi=>by
  obtain⟨cs',h1,h2⟩:=hx i (by omega)
  rw[cFo] at h1
  obtain⟨f,rfl⟩:=SA h2
  exact⟨f,h1⟩
 refine⟨some a,cap,(List.range len).map S,by simp, ?_, ?_⟩
 ·by_cases h0:len=0
  ·subst h0;exact .inl rfl
  ·have hs:a.spot=none:=by simpa[Addr.add] using(Hr (hS 0 (by omega)) (by decide)).1
   refine .inr ⟨a.block,a.off,by cases a;simp_all,fun i hi=> ?_⟩
   have h1:i<len:=by simpa using hi
   have:=(Hr (hS i h1) (by decide)).2
   rw[PE hs] at this
   simpa using this
 ·have h1:=Nl ((List.range len).map D)
  have h2:=JZ ((List.range len).map D) ((List.range (m-len)).map fun j=>D (len+j))
  simp only[List.length_map,List.length_range] at h1⊢
  omega
theorem Qn (h:DataW.trod enc Tryz.prog w base spare held fuel 24 cs=some x):
  ∃(p:Option Addr) (cap:Nat) (l:List (List UInt8×List UInt8×List UInt8)),cs=[.slice p l.length cap]∧M2 w p l∧l.length+1≤Rows.uptoBulk x.1:=by
 rcases open_slice Tryz.underlying24 h with⟨rfl,rfl⟩|⟨a,len,cap,m,n,D,Pl,rfl,_,hl,_,hm,rfl,hx⟩
 ·exact⟨none,0,[],I, .inl I,Jt _⟩
 have hlm:len≤m:=by rw[hm];split<;>omega
 obtain⟨S,hS⟩:=choose_lt (α:=List UInt8×List UInt8×List UInt8) (n:=len) (p:=fun i s=>w.cells? base (a.add (i*3)) 3=some [str s.1,str s.2.1,str s.2.2]) fun i hi=>by
  obtain⟨cs',h1,h2⟩:=hx i (by omega)
  rw[cSp] at h1
  obtain⟨f,rfl⟩:=SP h2
  exact⟨f,h1⟩
 refine⟨some a,cap,(List.range len).map S,by simp, ?_, ?_⟩
 ·by_cases h0:len=0
  ·subst h0;exact .inl rfl
  ·have hs:a.spot=none:=by simpa[Addr.add] using(Hr (hS 0 (by omega)) (by decide)).1
   refine .inr ⟨a.block,a.off,by cases a;simp_all,fun i hi=> ?_⟩
   have h1:i<len:=by simpa using hi
   have:=(Hr (hS i h1) (by decide)).2
   rw[PE hs] at this
   simpa using this
 ·have h1:=Nl ((List.range len).map D)
  have h2:=JZ ((List.range len).map D) ((List.range (m-len)).map fun j=>D (len+j))
  simp only[List.length_map,List.length_range] at h1⊢
  omega
end
section
variable {H:Type} {enc:TypeId×Value→H} {w:World} {base:Nat} {spare:Nat→Bool} {held:Bool} {v:Value} {d:DataW H} {ps:List MemPlace}
theorem Qs {r:Reach} {b0:Nat} (hv:Value.okWide Tryz.prog w r b0 26 v) (h:DataW.Trod enc Tryz.prog w base spare held 26 v d ps):
  ∃(b:BmW) (p q:Option Addr) (m n:Nat),v=bwV b p m q n∧Mq w p b.fs∧M2 w q b.ss∧b.fs.length+b.ss.length≤Rows.uptoBulk d:=by
 obtain⟨cs,rfl,hc⟩:=okWide_struct Tryz.underlying26 hv
 obtain⟨fuel,hf⟩:=h
 obtain⟨xs,m,rfl,hx,hl,hn,hg⟩:=DataW.trod_struct Tryz.underlying26 hf
 rw[cBm] at hc
 obtain⟨x0,x1,x2,x3,x4,rfl⟩: ∃x0 x1 x2 x3 x4,xs=[x0,x1,x2,x3,x4]:=by
  match xs,hn with
  |[a,b,c,d,e],_=>exact⟨a,b,c,d,e,rfl⟩
 obtain⟨l⟩:=cs
 match l,hc with
 |[v0,v1,v2,v3,v4],_=>
  have h0:DataW.trod enc Tryz.prog w base spare held m 22 (List.take (Tryz.prog.cellsOf 22) [v0,v1,v2,v3,v4])=some x0:=hg 0 _ rfl
  have h1:DataW.trod enc Tryz.prog w base spare held m 22 (List.take (Tryz.prog.cellsOf 22) [v1,v2,v3,v4])=some x1:=hg 1 _ rfl
  have h2:DataW.trod enc Tryz.prog w base spare held m 22 (List.take (Tryz.prog.cellsOf 22) [v2,v3,v4])=some x2:=hg 2 _ rfl
  have h3:DataW.trod enc Tryz.prog w base spare held m 23 (List.take (Tryz.prog.cellsOf 23) [v3,v4])=some x3:=hg 3 _ rfl
  have h4:DataW.trod enc Tryz.prog w base spare held m 24 (List.take (Tryz.prog.cellsOf 24) [v4])=some x4:=hg 4 _ rfl
  rw[R8] at h0 h1 h2
  rw[Ub] at h3
  rw[Ue] at h4
  obtain⟨a,rfl,_⟩:=Ep h0
  obtain⟨b,rfl,_⟩:=Ep h1
  obtain⟨c,rfl,_⟩:=Ep h2
  obtain⟨p,cp,fs,e3,hfs,k3⟩:=Q3 h3
  obtain⟨q,cq,ss,e4,hss,k4⟩:=Qn h4
  have e3:v3= .slice p fs.length cp:=by simpa using e3
  have e4:v4= .slice q ss.length cq:=by simpa using e4
  subst e3 e4
  refine⟨⟨a,b,c,fs,ss⟩,p,q,cp,cq,I,hfs,hss, ?_⟩
  have hd:d= .agg [x0.1,x1.1,x2.1,x3.1,x4.1]:=(congrArg (·.1) hx)
  rw[hd]
  simp only[Rows.uptoBulk,Rows.uptoBulkAll]
  show fs.length+ss.length≤_
  omega
end
end
end Go.Proofs.YtemghkmmcomalaaGreatDoor
