/-
  Lemmas that the theorem openingDormers_upto_card needs (part 4 of 8).
-/
import Derived.Test.YtlnjmcchddbogaaGreatDoorOdc
import Derived.Shelf.Lays
import Derived.Shelf.SlLaysN
import Derived.Shelf.Small.Bits
import Derived.Laws.StructEq
set_option maxHeartbeats 64000000
namespace Go.Proofs.YtlnjmcchddbogaaGreatDoor
section
open Go Go.RowKit Go.Am Go.Lib
set_option maxRecDepth 10000
theorem JC (z:Int):Be Tryz.prog 293 [str (itoa z)] (.int .i64 ((decDigits z.natAbs).length:Nat)):=by
 intro W
 exact Ab Tryz.func293 I I I<|xb<|wP I<|xf<|wP I<|wC I I (fun W _=>(BH (itoa z) [45] W).cast (by rw[Bf]))<|wP I<|Ap 5 (.int .i64 ((decDigits z.natAbs).length:Nat)) I (congrArg (fun n:Nat=>Value.int .i64 (n:Int)) (A5 _))<|wP I<|xc<|wR1 I I I
theorem GX (q:Rat) (h:szQ q 36) (W:World) (hv:AH W) (ht:A9 W):
  Ae Tryz.prog 228 #[str (Ac q)] W (fun _:Unit=> .int .i64 0) (fun _=>True) (fun _=>[]):=by
 have hk:=h.ok (by decide)
 have hl:=AX hk
 have l1:=Cy 36 q.num.natAbs (by decide) h.1
 have l2:=Cy 36 ((q.den:Nat):Int).natAbs (by decide) (by rw[Int.natAbs_natCast];exact h.2)
 refine Ab Tryz.func228 I I I<|xb<|wP I<|xk<|wP I<|wC I I (fun W hp=>(BE (Ac q) (by omega) W (hv.hp hp) (ht.hp hp)).cast (by rw[Dt hk]))<|wP I<|xf<|Aa I<|xa<|zS I<|xe<|zA<|zA<|?_
 refine zB<|wP I<|wC I I (fun W hp=>EI q hk W (hv.hp hp) (ht.hp hp))<|AE I<|wP I<|xf<|wP I<|wC I I (fun W _=>JC q.num W)<|wP I<|wC I I (fun W _=>JC (q.den:Nat) W)<|Aa I<|?_
 refine Ap 23 (.bool false) I (congrArg Value.bool (dF (by
  show¬((if _>_ then _ else _)>_)
  split<;>omega))) ?_
 exact xa<|zS I<|xm<|wP I<|xc<|wR1 I I I
theorem N4 (q:Rat):hasPrefix (Ac q) [45]=decide (q.num<0):=by
 have h:=E9 q.num
 unfold Ac F1
 split
 ·exact h
 ·rw[Bj] at h⊢
  rw[<-h]
  have hne:(itoa q.num)≠[]:=by
   unfold itoa
   split
   ·intro h;cases h
   ·exact F5 _
  rw[List.getElem?_append_left (List.length_pos_iff.2 hne)]
structure FrP where
 ax:Bool
 pos:Int
 hd:Int
 sp:Rat
 st:Rat
abbrev frV (f:FrP):Value:= .agg #[.bool f.ax, .int .i64 f.pos, .int .i64 f.hd,str (Ac f.sp),str (Ac f.st)]
structure FrP.OK (f:FrP):Prop where
 p0:0<=f.pos
 p1:f.pos<=65536
 hd:f.hd=1\/f.hd= -1
 sp:szQ f.sp 36
 st:szQ f.st 36
 sp0:0<=f.sp.num
theorem HI (f:FrP) (h:f.OK) (W:World) (hv:AH W) (ht:A9 W):
  Ae Tryz.prog 148 #[frV f] W (fun _:Unit=> .int .i64 0) (fun _=>True) (fun _=>[]):=by
 obtain⟨p0,p1,hhd,hsp,hst,hsp0⟩:=h
 have l1:=AX (hsp.ok (by decide))
 have l2:=AX (hst.ok (by decide))
 refine Ab Tryz.func148 I I I<|xb<|wF I I fun _=>wP I<|zC<|?_
 rename_i b1
 refine zE<|zA<|zA<|AA (X:=Unit) (fun _=>[(1,Ai b1),(2, .int .i64 0),(26, .bool false)]) (fun _=>[⟨b1,59,[.bool f.ax, .int .i64 f.pos, .int .i64 f.hd,str (Ac f.sp),str (Ac f.st)],true,none⟩]) (fun _=>True) ?_ ?_
 ·refine zB<|wP I<|wB 0 I I I<|wP I<|wU 11 false I (dF (by omega))<|Aa I<|wB 0 I I I<|wP I<|wU 15 false I (dF (by omega))<|Ad I<|wB 0 I I I<|wP I<|?_
  rcases hhd with e|e
  ·refine wU 20 false I (by rw[e];rfl)<|wP I<|?_
   iterate 3 refine Af I I ?_
   exact Aa I<|zC<|Ao () tO ⟨I,I,I,tO⟩ [] I
  ·exact wU 20 true I (by rw[e];rfl)<|Aa I<|wB 0 I I I<|wP I<|wU 24 false I (by rw[e];rfl)<|Aa I<|zC<|Ao () tO ⟨I,I,I,tO⟩ [] I
 ·intro _ _
  refine zS I<|xe<|xd<|wP I<|wB 0 I I I<|wP I<|wB 0 I I I<|As Tryz.hZ tH I I I I I I I I I I I fun bS=> ?_
  refine Aa I<|xa<|AA (X:=Unit) (fun _=>[(1,Ai b1),(2, .int .i64 0)]) (fun _=>[⟨b1,59,[.bool f.ax, .int .i64 f.pos, .int .i64 f.hd,str (Ac f.sp),str (Ac f.st)],true,none⟩]) (fun _=>True) ?_ ?_
  ·refine zH<|Av (X:=Nat) (fun i=>[(1,Ai b1),(2, .int .i64 0),(31, .slice (some ⟨bS,0,none⟩) 2 2),(32, .int .i64 2),(33, .int .i64 (i:Nat))]) (fun _=>[⟨b1,59,[.bool f.ax, .int .i64 f.pos, .int .i64 f.hd,str (Ac f.sp),str (Ac f.st)],true,none⟩,⟨bS,25,[str (Ac f.sp),str (Ac f.st)],true,none⟩]) (fun i=>i<=2) (fun i=>2-i) 0 (Nat.zero_le _) ⟨I,I,I,I,I,tO⟩ [] I ?_
   intro i hi
   have hi:i=0\/i=1\/i=2:=by have:i<=2:=hi;omega
   rcases hi with rfl|rfl|rfl
   ·refine xb<|wP I<|xl<|zR I<|xh<|wJ ?_
    refine wB 1 I I I<|wP I<|xf<|wP I<|wC I I (fun W hp=>(BE (Ac f.sp) (by omega) W (hv.hp hp) (ht.hp hp)).cast (by rw[Dt (hsp.ok (by decide))]))<|wP I<|xf<|Aa I<|xa<|zS I<|zI<|xi<|Aa I<|?_
    exact zC<|Al 1 (by decide) (by decide) ⟨I,I,I,I,I,tO⟩ [] I
   ·refine xb<|wP I<|xl<|zR I<|xh<|wJ ?_
    refine wB 1 I I I<|wP I<|xf<|wP I<|wC I I (fun W hp=>(BE (Ac f.st) (by omega) W (hv.hp hp) (ht.hp hp)).cast (by rw[Dt (hst.ok (by decide))]))<|wP I<|xf<|Aa I<|xa<|zS I<|zI<|xi<|Aa I<|?_
    exact zC<|Al 2 (by decide) (by decide) ⟨I,I,I,I,I,tO⟩ [] I
   ·exact xb<|wP I<|xl<|zS I<|xg<|Ao () tO ⟨I,I,tO⟩ _ I
  ·intro _ _
   refine xd<|wP I<|wB 0 I I I<|wP I<|wB 0 I I I<|As Tryz.hZ tH I I I I I I I I I I I fun bT=> ?_
   refine Aa I<|xa<|AA (X:=Unit) (fun _=>[(1,Ai b1),(2, .int .i64 0)]) (fun _=>[⟨b1,59,[.bool f.ax, .int .i64 f.pos, .int .i64 f.hd,str (Ac f.sp),str (Ac f.st)],true,none⟩]) (fun _=>True) ?_ ?_
   ·refine zH<|Av (X:=Nat) (fun i=>[(1,Ai b1),(2, .int .i64 0),(47, .slice (some ⟨bT,0,none⟩) 2 2),(48, .int .i64 2),(49, .int .i64 (i:Nat))]) (fun _=>[⟨b1,59,[.bool f.ax, .int .i64 f.pos, .int .i64 f.hd,str (Ac f.sp),str (Ac f.st)],true,none⟩,⟨bT,25,[str (Ac f.sp),str (Ac f.st)],true,none⟩]) (fun i=>i<=2) (fun i=>2-i) 0 (Nat.zero_le _) ⟨I,I,I,I,I,tO⟩ [] I ?_
    intro i hi
    have hi:i=0\/i=1\/i=2:=by have:i<=2:=hi;omega
    rcases hi with rfl|rfl|rfl
    ·refine xb<|wP I<|xl<|zR I<|xh<|wJ ?_
     refine wB 1 I I I<|wP I<|xf<|wP I<|wC I I (fun W hp=>GX f.sp hsp W (hv.hp hp) (ht.hp hp))<|wP I<|xf<|Aa I<|xa<|zS I<|zI<|xi<|Aa I<|?_
     exact zC<|Al 1 (by decide) (by decide) ⟨I,I,I,I,I,tO⟩ [] I
    ·refine xb<|wP I<|xl<|zR I<|xh<|wJ ?_
     refine wB 1 I I I<|wP I<|xf<|wP I<|wC I I (fun W hp=>GX f.st hst W (hv.hp hp) (ht.hp hp))<|wP I<|xf<|Aa I<|xa<|zS I<|zI<|xi<|Aa I<|?_
     exact zC<|Al 2 (by decide) (by decide) ⟨I,I,I,I,I,tO⟩ [] I
    ·exact xb<|wP I<|xl<|zS I<|xg<|Ao () tO ⟨I,I,tO⟩ _ I
   ·intro _ _
    exact xd<|wP I<|wB 0 I I I<|wC I I (fun W _=>(KR (Ac f.sp) [45] W).cast (by rw[N4,dF (by omega)]))<|xa<|zS I<|xm<|wP I<|xc<|wR1 I I I
theorem QP (f:FrP) (h:f.OK) (q:Rat) (hq:szQ q 36) (b:Nat) (W:World) (hv:AH W) (ht:A9 W) (hrow:Aj W b 0 [str (Ac q)]):
  Ae Tryz.prog 272 #[frV f, .slice (some ⟨b,0,none⟩) 1 1] W (fun _:Unit=> .int .i64 0) (fun _=>True) (fun _=>[]):=by
 refine Ab Tryz.func272 I I I<|xb<|wF I I fun _=>wP I<|zC<|?_
 rename_i b2
 refine zE<|xd<|wB 0 I I I<|wC I I (fun W hp=>HI f h W (hv.hp hp) (ht.hp hp))<|wP I<|xa<|zS I<|xe<|xd<|Ad I<|xa<|AA (X:=Unit) (fun _=>[(4, .int .i64 0)]) (fun _=>[]) (fun _=>True) ?_ ?_
 ·refine zH<|Av (X:=Nat) (fun i=>[(4, .int .i64 0),(11, .slice (some ⟨b,0,none⟩) 1 1),(12, .int .i64 1),(13, .int .i64 (i:Nat))]) (fun _=>[]) (fun i=>i<=1) (fun i=>1-i) 0 (Nat.zero_le _) ⟨I,I,I,I,tO⟩ _ I ?_
  intro i hi
  have hi:i=0\/i=1:=by have:i<=1:=hi;omega
  rcases hi with rfl|rfl
  ·refine xb<|wP I<|xl<|zR I<|xh<|wJ ?_
   refine wL 0 I I (fun W hp=>hrow.hp hp) I<|wP I<|xf<|wP I<|wC I I (fun W hp=>GX q hq W (hv.hp hp) (ht.hp hp))<|wP I<|xf<|Aa I<|xa<|zS I<|zI<|xi<|Aa I<|?_
   exact zC<|Al 1 (by decide) (by decide) ⟨I,I,I,I,tO⟩ [] I
  ·exact xb<|wP I<|xl<|zS I<|xg<|Ao () tO ⟨I,tO⟩ _ I
 ·intro _ _
  exact xb<|wP I<|xc<|wR1 I I I
def FrP.vel (f:FrP):Rat:=(f.hd:Rat)*f.sp
def FrP.at (f:FrP) (t:Rat):Rat:=if t<=f.st then(f.pos:Rat) else(f.pos:Rat)+f.vel*(t-f.st)
theorem FrP.OK.hdz {f:FrP} (h:f.OK):szQ (f.hd:Rat) 1:=HS (by rcases h.hd with e|e<;>rw[e]<;>decide) (by decide)
theorem FrP.OK.posz {f:FrP} (h:f.OK):szQ (f.pos:Rat) 5:=HS (by have:=h.p0;have:=h.p1;show f.pos.natAbs<100000;omega) (by decide)
theorem FrP.OK.pos64 {f:FrP} (h:f.OK): -9223372036854775808<=f.pos/\f.pos<=9223372036854775807:=by have:=h.p0;have:=h.p1;omega
theorem FrP.OK.hd64 {f:FrP} (h:f.OK): -9223372036854775808<=f.hd/\f.hd<=9223372036854775807:=by rcases h.hd with e|e<;>omega
theorem MS (f:FrP) (h:f.OK) (W:World) (hv:AH W) (ht:A9 W):
  Ae Tryz.prog 324 #[frV f] W (fun _:Unit=>str (Ac f.vel)) (fun _=>True) (fun _=>[]):=by
 have hz:=sz2 h.hdz h.sp (by decide)
 refine Ab Tryz.func324 I I I<|xb<|wF I I fun _=>wP I<|zC<|?_
 rename_i b1
 exact zE<|zA<|zU<|qP I<|qB 0 I I I<|qC I I (fun W hp=>EN f.hd h.hd64 W (ht.hp hp))<|qP I<|qB 0 I I I<|qC I I (fun W hp=>Kg (f.hd:Rat) f.sp hz W (hv.hp hp) (ht.hp hp))<|qP I<|zD<|xc<|wR1 I I I
theorem Mq (f:FrP) (h:f.OK) (t:Rat) (a b k:Nat) (hs:szQ f.sp a) (hb:szQ f.st b) (hz:szQ t k) (hk:a+b+k+9<=300) (W:World) (hv:AH W) (ht:A9 W):
  Ae Tryz.prog 273 #[frV f,str (Ac t)] W (fun _:Unit=>str (Ac (f.at t))) (fun _=>True) (fun _=>[]):=by
 have z1:=sz2 hz hb (by omega)
 have z2:=hz.sub hb
 have zv:szQ f.vel (1+a):=h.hdz.mul hs
 have z3:=sz2 zv z2 (by omega)
 have z4:=zv.mul z2
 have z5:=sz2 h.posz z4 (by omega)
 refine Ab Tryz.func273 I I I<|xb<|wF I I fun _=>wP I<|zC<|?_
 rename_i b2
 refine zE<|xd<|Aa I<|wB 0 I I I<|wC I I (fun W hp=>O6 t f.st z1 W (hv.hp hp) (ht.hp hp))<|wP I<|wU 9 (decide (t<=f.st)) I (Ro t f.st)<|xa<|Ag I (fun hc=> ?_) (fun hc=> ?_)
 ·have hc:=of_decide_eq_true hc
  exact xb<|wP I<|wB 0 I I I<|wC I I (fun W hp=>EN f.pos h.pos64 W (ht.hp hp))<|wP I<|xo<|wR1 I I (by rw[FrP.at,if_pos hc])
 ·have hc:=of_decide_eq_false hc
  exact xe<|zA<|zU<|qP I<|qB 0 I I I<|qC I I (fun W hp=>EN f.pos h.pos64 W (ht.hp hp))<|qB 0 I I I<|qC I I (fun W hp=>MS f h W (hv.hp hp) (ht.hp hp))<|Ay I<|qB 0 I I I<|qC I I (fun W hp=>Pa t f.st z1 W (hv.hp hp) (ht.hp hp))<|qC I I (fun W hp=>Kg f.vel (t-f.st) z3 W (hv.hp hp) (ht.hp hp))<|qC I I (fun W hp=>Vb (f.pos:Rat) (f.vel*(t-f.st)) z5 W (hv.hp hp) (ht.hp hp))<|qP I<|zD<|xc<|wR1 I I (by rw[FrP.at,if_neg hc])
theorem MR (f:FrP) (h:f.OK) (t:Rat) (hz:szQ t 36) (W:World) (hv:AH W) (ht:A9 W):
  Ae Tryz.prog 273 #[frV f,str (Ac t)] W (fun _:Unit=>str (Ac (f.at t))) (fun _=>True) (fun _=>[]):=Mq f h t 36 36 36 h.sp h.st hz (by decide) W hv ht
theorem NS (f:FrP) (h:f.OK) (t:Rat) (hz:szQ t 36) (W:World) (hv:AH W) (ht:A9 W):
  Ae Tryz.prog 208 #[frV f,str (Ac t)] W (fun _:Unit=> .tuple #[str (Ac (f.at t)), .int .i64 0]) (fun _=>True) (fun _=>[]):=by
 refine Ab Tryz.func208 I I I<|xb<|wF I I fun _=>Aa I<|zC<|?_
 rename_i b2
 refine zE<|xd<|wB 0 I I I<|wP I<|As Tryz.hZ tH I I I I I I I I I I I fun bS=> ?_
 exact wC I I (fun W hp=>QP f h t hz bS W (hv.hp hp) (ht.hp hp) (Aj.of_bx hp 1 I I))<|wP I<|xf<|Aa I<|xa<|zS I<|xm<|wB 0 I I I<|wP I<|wC I I (fun W hp=>MR f h t hz W (hv.hp hp) (ht.hp hp))<|Aa I<|xc<|wR2 I I I
def FrP.slope (f:FrP):Rat:=(f.hd:Rat)/f.sp
def FrP.base (f:FrP):Rat:=f.st-f.slope*(f.pos:Rat)
def FrP.plane (f:FrP):Value:=if f.sp.num=0 then .tuple #[.agg #[str [],str [],str []], .int .i64 8] else
 .tuple #[if f.ax then .agg #[str (Ac f.slope),str [48],str (Ac f.base)] else .agg #[str [48],str (Ac f.slope),str (Ac f.base)], .int .i64 0]
theorem KG (f:FrP) (h:f.OK) (W:World) (hv:AH W) (ht:A9 W):
  Ae Tryz.prog 99 #[frV f] W (fun _:Unit=>f.plane) (fun _=>True) (fun _=>[]):=by
 have z1:=sz2 h.hdz h.sp (by decide)
 refine Ab Tryz.func99 I I I<|xb<|wF I I fun _=>wG I I fun _=>wP I<|zC<|?_
 rename_i b1 b2
 refine zE<|xd<|wB 0 I I I<|wC I I (fun W hp=>HI f h W (hv.hp hp) (ht.hp hp))<|wP I<|xa<|zS I<|xe<|xd<|wP I<|wB 0 I I I<|wP I<|?_
 by_cases h0:f.sp.num=0
 ·refine wU 12 true I ((AW _ [48]).trans (dT (Fc.2 h0)))<|xa<|zR I<|xb<|An Tryz.hZ tH I I I I I I I I ?_
  exact wS 1 I I I<|wP I<|xo<|A4 tH I (.cell 1 I I I I I) (.tmp I) () (by rw[FrP.plane,if_pos h0];rfl) tO fun W _=>Au.nil _ _
 ·have z2:=h.hdz.div h.sp h0
  have z3:=sz2 z2 h.posz (by decide)
  have z4:=z2.mul h.posz
  have z5:=sz2 h.st z4 (by decide)
  have hval:f.plane= .tuple #[if f.ax then .agg #[str (Ac f.slope),str [48],str (Ac f.base)] else .agg #[str [48],str (Ac f.slope),str (Ac f.base)], .int .i64 0]:=if_neg h0
  refine wU 12 false I ((AW _ [48]).trans (dF fun e=>h0 (Fc.1 e)))<|xa<|zS I<|xe<|zA<|zU<|qP I<|qB 0 I I I<|qC I I (fun W hp=>EN f.hd h.hd64 W (ht.hp hp))<|qP I<|qB 0 I I I<|qC I I (fun W hp=>Uk (f.hd:Rat) f.sp z1 h0 W (hv.hp hp) (ht.hp hp))<|qP I<|zD<|xl<|?_
  refine AV (X:=Nat) [true,true,true,true,true,true,true,true,true,true,false,false] (fun b=>[(1,Ai b1),(2,Ai b2),(3, .int .i64 0),(5,Ai b)]) (fun b=>[⟨b1,59,[.bool f.ax, .int .i64 f.pos, .int .i64 f.hd,str (Ac f.sp),str (Ac f.st)],true,none⟩,⟨b2,144,[str [],str [],str []],true,none⟩,⟨b,144,[str [48],str (Ac f.slope),str (Ac f.base)],true,none⟩])
   2 [⟨b1,59,[.bool f.ax, .int .i64 f.pos, .int .i64 f.hd,str (Ac f.sp),str (Ac f.st)],true,none⟩,⟨b2,144,[str [],str [],str []],true,none⟩] Tryz.mixed (by kernel_rfl) ?_ ?_
  ·refine Ay I<|qB 0 I I I<|Ay I<|qB 0 I I I<|qC I I (fun W hp=>EN f.pos h.pos64 W (ht.hp hp))<|qC I I (fun W hp=>Kg f.slope (f.pos:Rat) z3 W (hv.hp hp) (ht.hp hp))<|qC I I (fun W hp=>Pa f.st (f.slope*(f.pos:Rat)) z5 W (hv.hp hp) (ht.hp hp))<|LO Tryz.hZ tH I I I I I I I I ?_
   refine BR<|wX<|wZ<|?_
   refine B5 Tryz.hZ rfl rfl rfl rfl ?_;intro b
   refine zC<|Ah<|wX<|wZ<|wS 2 I I I<|zC<|Ah<|?_
   refine AF I (by((repeat (first|refine AK.same ?_|refine AK.off I ?_));exact tO)) ?_
   exact A7 b ⟨I,I,I,I,tO⟩ [0,1,2] (by decide) I
  intro b5
  refine zE<|xd<|wP I<|wB 0 I I I<|xa<|Ag I (fun hax=> ?_) (fun hax=> ?_)
  ·rw[if_pos hax] at hval
   exact zB<|wP I<|wB 2 I I I<|wP I<|wB 2 I I I<|wP I<|wS 2 I I I<|wP I<|wS 2 I I I<|xf<|wB 2 I I I<|wS 1 I I I<|wP I<|xc<|A4 tH I (.cell 1 I I I I I) (.tmp I) () hval.symm tO fun W _=>Au.nil _ _
  ·rw[if_neg (by rw[hax];decide)] at hval
   exact xm<|wB 2 I I I<|wS 1 I I I<|wP I<|xc<|A4 tH I (.cell 1 I I I I I) (.tmp I) () hval.symm tO fun W _=>Au.nil _ _
end
section
theorem FrP.OK.hd2 {f:FrP} (h:f.OK):(f.hd:Rat)=1\/(f.hd:Rat)= -1:=by
 rcases h.hd with e|e
 ·exact .inl (by rw[e];rfl)
 ·exact .inr (by rw[e];rfl)
end
section
open Go Go.RowKit Go.Am Go.Lib
set_option maxRecDepth 10000
abbrev ptV (x y:Rat):Value:= .agg #[str (Ac x),str (Ac y)]
end
end Go.Proofs.YtlnjmcchddbogaaGreatDoor
namespace Go.Proofs
open Go.Shelf
def Tryz.lays125_ren:Go.Shelf.Ren:=⟨fun|125=>329|128=>360|129=>334|n=>n,fun|3=>3|4=>4|5=>5|9=>9|46=>343|51=>357|53=>321|n=>n,fun n=>n⟩
theorem Tryz.lays125:Go.Proofs.Lays.n125 Tryz.prog Tryz.lays125_ren:= {
 mixed:=by kernel_rfl
 f125:=fTr Tryz.func329 (by kernel_rfl)
 f128:=fTr Tryz.func360 (by kernel_rfl)
 f129:=fTr Tryz.func334 (by kernel_rfl)
 t3:=Tryz.underlying3
 a3:=Tryz.isAgg3
 z3:=Tryz.sizeOf3
 v3:=Tryz.zeroValue3
 t4:=Tryz.underlying4
 a4:=Tryz.isAgg4
 z4:=Tryz.sizeOf4
 v4:=Tryz.zeroValue4
 t5:=Tryz.underlying5
 a5:=Tryz.isAgg5
 z5:=Tryz.sizeOf5
 v5:=Tryz.zeroValue5
 t9:=Tryz.underlying9
 a9:=Tryz.isAgg9
 z9:=Tryz.sizeOf9
 v9:=Tryz.zeroValue9
 t46:=Tryz.underlying343
 a46:=Tryz.isAgg343
 z46:=Tryz.sizeOf343
 v46:=Tryz.zeroValue343
 t51:=Tryz.underlying357
 a51:=Tryz.isAgg357
 z51:=Tryz.sizeOf357
 v51:=Tryz.zeroValue357
 t53:=Tryz.underlying321
 a53:=Tryz.isAgg321
 z53:=Tryz.sizeOf321
 v53:=Tryz.zeroValue321 }
end Go.Proofs
namespace Go.Proofs.YtlnjmcchddbogaaGreatDoor
section
open Go Go.RowKit Go.Am Go.Lib
set_option maxRecDepth 10000
structure Ij (W W':World) (g:Nat):Prop where
 os:W'.os=W.os
 tape:W'.tape=W.tape
 output:W'.output=W.output
 size:W.heap.size<=W'.heap.size
 at_: ∀x,x≠g->x<W.heap.size->W'.heap[x]? =W.heap[x]?
theorem KZ {W W':World} {g:Nat} {B:Bx} {o:Obj} (hg:W.heap[g]? =some o) (hB: ∃o',(g,o')∈B.blk) (hp:Hp (Bn W) [Bd (A8 W g),B] W'):Ij W W' g:=by
 have c0: ∀p∈A8 W g,W'.heap[p.1]? =some p.2:=fun p hq=>(hp.own.cell 0 _ rfl p hq).1
 have old: ∀x,x≠g->x<W.heap.size->W'.heap[x]? =W.heap[x]? :=fun x hx hlt=>by
  have h1:W.heap[x]? =some W.heap[x]:=Array.getElem?_eq_getElem hlt
  rw[h1]
  exact c0 (x,W.heap[x]) (Ee.2 ⟨hx,h1⟩)
 refine⟨hp.below.os,hp.below.tape,hp.below.output, ?_,old⟩
 have hlt:=(Array.getElem?_eq_some_iff.1 hg).1
 by_cases e:W.heap.size-1=g
 ·obtain⟨o',ho⟩:=hB
  have:=(Array.getElem?_eq_some_iff.1 (hp.own.cell 1 B rfl _ ho).1).1
  have h2:g<W'.heap.size:=this
  omega
 ·have h1:=old (W.heap.size-1) e (by omega)
  rw[Array.getElem?_eq_getElem (show W.heap.size-1<W.heap.size by omega)] at h1
  have:=(Array.getElem?_eq_some_iff.1 h1).1
  omega
theorem Ij.trans {W W1 W2:World} {g:Nat} (h:Ij W W1 g) (h':Ij W1 W2 g):Ij W W2 g:=
 ⟨h'.os.trans h.os,h'.tape.trans h.tape,h'.output.trans h.output,Nat.le_trans h.size h'.size,fun x hx hlt=>(h'.at_ x hx (Nat.lt_of_lt_of_le hlt h.size)).trans (h.at_ x hx hlt)⟩
theorem Ij.below {W0 W W':World} {g:Nat} (hk:Ij W W' g) (hb:Below W0.heap.size W0 W) (hg:W0.heap.size<=g):Below W0.heap.size W0 W':=
 ⟨hk.os.trans hb.os,hk.tape.trans hb.tape,hk.output.trans hb.output,Nat.le_trans hb.size hk.size,fun i hi=>(hk.at_ i (by omega) (Nat.lt_of_lt_of_le hi hb.size)).trans (hb.block i hi)⟩
theorem H4 {W0 W:World} {bxs:List Bx} (hp:Hp W0 bxs W) (k:Nat) {g:Nat} {e:TypeId} {xs A B C:List Value} {off:Nat} (hk:nth bxs k=some ⟨g,e,xs,true,none⟩) (hxs:xs=A++(B++C)) (hoff:off=A.length):Aj W g off B:=by
 have h:=Aj.of_bx hp k hk rfl
 refine⟨h.lt,fun m u hu=> ?_⟩
 have:=h.get (A.length+m) u (by
  show xs[A.length+m]? =some u
  rw[hxs,List.getElem?_append_right (by omega),Nat.add_sub_cancel_left,List.getElem?_append_left (List.getElem?_eq_some_iff.1 hu).1]
  exact hu)
 rw[Nat.zero_add, <-hoff] at this
 exact this
theorem f7 {r:Option Nat} {n:Nat} {P:Program} {W0:World} {N:Nat} {D:List Deferred} {c:Code} {Q:Exit->Act->World->Prop} {env:Env} {bxs bxs':List Bx} (e:bxs=bxs') (h:WC r n P N D c Q env (Hp W0 bxs')):WC r n P N D c Q env (Hp W0 bxs):=e▸h
theorem fH (a b:List UInt8) (h:a=b):(((⟨a.toArray⟩:ByteArray).toList==(⟨b.toArray⟩:ByteArray).toList))=true:=(AW a b).trans (dT h)
section
variable {r:Option Nat} {n:Nat} {N:Nat} {D:List Deferred} {ops:List Oper} {Q:Exit->Act->World->Prop} {o:Oper} {rest:List Oper} {env:Env} {A:World->Prop}
end
def Ye (g:Nat) (capt:List Value) (f:Rat->Bool) (l:List Rat) (W:World):Prop:= ∀t∈l, ∀W',Below W.heap.size W W'->Ae Tryz.prog g ([str (Ac t)]++capt).toArray W' (fun _:Unit=> .bool (f t)) (fun _=>True) (fun _=>[])
theorem Ye.below {g:Nat} {capt:List Value} {f:Rat->Bool} {l:List Rat} {W W':World} (h:Ye g capt f l W) (hb:Below W.heap.size W W'):Ye g capt f l W':=
 fun t ht W2 hb2=>h t ht W2 (hb.trans ⟨hb2.os,hb2.tape,hb2.output,hb2.size,fun i hi=>hb2.block i (Nat.lt_of_lt_of_le hi hb.size)⟩)
theorem Re (g:Nat) (capt:List Value) (hE:AS Tryz.prog g=true) (f:Rat->Bool) (l:List Rat) (W:World) (p:Option Addr) (cap:Nat) (hn:l.length<4611686018427387904) (hS:EJ W p (l.map Ac)) (hF:Ye g capt f l W):
  Ae Tryz.prog 299 #[slv p l.length cap, .func (.func g) #[] capt.toArray] W (fun k:Int=> .int .i64 k) (fun k=>(0<=k↔l.any f=true)) (fun _=>[]):=by
 refine Ab Tryz.func299 I I I<|xb<|wP I<|xk<|Ad I<|xa<|zH<|Av (X:=Nat) (fun i=>[(0,slv p l.length cap),(1, .func (.func g) #[] capt.toArray),(7, .int .i64 (l.length:Nat)),(8, .int .i64 (i:Nat))]) (fun _=>[]) (fun i=>i<=l.length/\ ∀k (hk:k<l.length),k<i->f l[k]=false) (fun i=>l.length-i) 0 ⟨Nat.zero_le _,fun k _ h=>absurd h (Nat.not_lt_zero _)⟩ ⟨I,I,I,I,tO⟩ [] I ?_
 rintro i ⟨hi,hno⟩
 have hi:i<=l.length:=hi
 refine xb<|wP I<|?_
 by_cases hlt:i<l.length
 ·refine wU 9 true I (dT (by omega))<|xl<|zR I<|xh<|?_
  obtain⟨b,off,rfl,hrow⟩:=hS.row (i:=i) (by rw[List.length_map];exact hlt)
  refine Aa I<|xf<|Ad I<|wJ ?_
  have hrow1:Aj W b (off+i*1) [str (Ac l[i])]:=by have:=hrow i (by rw[List.length_map];exact hlt);rwa [List.getElem_map] at this
  refine wL 0 I I (fun W hp=>hrow1.hp hp) I<|Bz (capt:=capt) I I I I I I hE (fun W1 hp=>hF l[i] (List.getElem_mem hlt) W1 hp.below)<|xa<|Ag I (fun hc=> ?_) (fun hc=> ?_)
  ·have hc:f l[i]=true:=hc
   exact xb<|Aa I<|xc<|xj<|zP<|A3 tH I (.tmp I) ((i:Nat):Int) I ⟨fun _=>List.any_eq_true.2 ⟨l[i],List.getElem_mem hlt,hc⟩,fun _=>by omega⟩ fun W _=>Au.nil _ _
  ·have hc:f l[i]=false:=hc
   refine zI<|xi<|wP I<|wV 18 ((i+1:Nat):Int) I (A0 (by omega))<|wP I<|zC<|?_
   refine Al (i+1) ⟨hlt,fun k hk h=> ?_⟩ (by show l.length-(i+1)<l.length-i;omega) ⟨I,I,I,I,tO⟩ [] I
   by_cases e:k=i
   ·subst e;exact hc
   ·exact hno k hk (by show k<i;omega)
 ·refine wU 9 false I (dF (by omega))<|xl<|zS I<|xg<|xn<|wP I<|xc<|A3 tH I (.tmp I) (-1:Int) I ⟨fun h=>absurd h (by decide),fun h=> ?_⟩ fun W _=>Au.nil _ _
  obtain⟨t,ht,hft⟩:=List.any_eq_true.1 h
  obtain⟨k,hk,rfl⟩:=List.getElem_of_mem ht
  rw[hno k hk (by show k<i;omega)] at hft
  cases hft
theorem MQ (g:Nat) (capt:List Value) (hE:AS Tryz.prog g=true) (f:Rat->Bool) (l:List Rat) (W:World) (p:Option Addr) (cap:Nat) (hn:l.length<4611686018427387904) (hS:EJ W p (l.map Ac)) (hF:Ye g capt f l W):
  Ae Tryz.prog 234 #[slv p l.length cap, .func (.func g) #[] capt.toArray] W (fun _:Unit=> .bool (l.any f)) (fun _=>True) (fun _=>[]):=by
 refine Ab Tryz.func234 I I I<|xb<|wP I<|xf<|Aa I<|wD (X:=Int) I I (fun W hp=>Re g capt hE f l W p cap hn (hS.hp hp) (hF.below hp.below)) ?_
 intro k hk
 refine wP I ?_
 refine Ap 8 (.bool (l.any f)) I (congrArg Value.bool (by
  cases h:l.any f
  ·exact dF fun e=>by rw[hk.1 e] at h;cases h
  ·exact dT (hk.2 h))) ?_
 exact wP I<|xc<|wR1 I I I
def IM (l:List Rat) (k:Nat):Rat:=(l.take k).foldl (fun s x=>s+x) 0
theorem Xy {l:List Rat} {k:Nat} (hk:k<l.length):IM l (k+1)=IM l k+l[k]:=by
 rw[IM,List.take_add_one,List.getElem?_eq_getElem hk,List.foldl_append];rfl
theorem bY (l:List Rat):Ac (IM l 0)=[48]:=BV
theorem US (p:Option Addr) (n cap:Nat) (W:World):Ae Tryz.prog 338 #[slv p n cap] W (fun b:Nat=> .func (.func 363) #[] #[Ai b]) (fun _=>True) (fun b=>[⟨b,75,[slv p n cap],true,none⟩]):=by
 refine Ab Tryz.func338 I I I<|xb<|wF I I fun _=>wP I<|zC<|?_
 rename_i b1
 exact xn<|Aa I<|xc<|A3 tH I (.tmp I) b1 I tO fun W hp=>Au.of_hp hp
structure gN (b:Nat) (p:Option Addr) (cap:Nat) (l:List Rat) (W:World):Prop where
 var:Aj W b 0 [slv p l.length cap]
 row:EJ W p (l.map Ac)
 v:AH W
 t:A9 W
theorem X2 (b:Nat) (p:Option Addr) (cap:Nat) (l:List Rat) (hn:l.length<4611686018427387904) (hz: ∀k (hk:k<l.length),Sz2 (IM l k) l[k]):
  Zn Tryz.prog 363 [Ai b] l.length (fun k=>[str (Ac (IM l (k+1))), .int .i64 0]) (fun _=>gN b p cap l):=by
 refine⟨fun y J Jx hN hB hY W hJ=> ?_⟩
 have hG: ∀k,cB (J k):=fun k W W' h hb=>hB k W W' h hb
 refine Da (args:=[.func (.yield y) #[] #[],Ai b]) (J0:=J 0) Tryz.func363 I I I hJ ?_
 refine xb<|wP I<|xf<|wL 0 I I (fun W hp=>(hN 0 W hp).var) I<|Aa I<|xa<|zH<|?_
 refine Di (X:=Nat) (fun k=>[(0, .func (.yield y) #[] #[]),(3,str (Ac (IM l k))),(7,slv p l.length cap),(8, .int .i64 (l.length:Nat)),(9, .int .i64 (k:Nat))]) J (fun k=>k<=l.length) (fun k=>l.length-k) 0 (Nat.zero_le _) ⟨I,(by show some (str [48])=some (str (Ac (IM l 0)));rw[bY]),I,I,I,tO⟩ (fun W h=>h) ?_
 intro k hk
 have hk:k<=l.length:=hk
 refine xb<|wP I<|?_
 by_cases hlt:k<l.length
 ·refine wU 10 true I (dT (by omega))<|xl<|zR I<|xh<|?_
  obtain⟨g,off,rfl,hrow⟩: ∃g off,p=some ⟨g,off,none⟩/\ ∀W,J k W->Aj W g (off+k*1) [str (Ac l[k])]:=by
   obtain⟨g,off,e,_⟩:=(hN 0 W hJ).row.row (i:=k) (by rw[List.length_map];exact hlt)
   refine⟨g,off,e,fun W hW=> ?_⟩
   obtain⟨g',off',e',h⟩:=(hN k W hW).row.row (i:=k) (by rw[List.length_map];exact hlt)
   rw[e] at e'
   cases e'
   have:=h k (by rw[List.length_map];exact hlt)
   rwa [List.getElem_map] at this
  refine wJ ?_
  refine wL 0 I I (fun W hp=>hrow W hp) I<|wP I<|xf<|wP I<|xf<|Aa I<|Y8 (hG k) I I I I I I (by kernel_rfl) (fun W hp=>(C7 (IM l k) l[k] (hz k hlt) W (hN k W hp).v (hN k W hp).t).cast (by rw[<-Xy hlt])) ?_
  refine Ak I<|xf<|Ad I<|E7 (A1:=J (k+1)) (A2:=Jx) I I I I I I (fun W hp=>hY k W hlt hp) ?_ ?_
  ·exact Ak I<|xa<|zS I<|zI<|xi<|wP I<|wV 28 ((k+1:Nat):Int) I (A0 (by omega))<|wP I<|zC<|Dh (k+1) hlt (by omega) ⟨I,I,I,I,I,tO⟩ (fun W h=>h)
  ·refine Aa I<|?_
   iterate 2 refine Af I I ?_
   exact wP I<|xa<|zR I<|zO<|xj<|Cp I (fun W h=>h)
 ·have e:k=l.length:=by omega
  subst e
  exact wU 10 false I (dF (by omega))<|xl<|zS I<|xg<|FK I fun W h=>h
theorem U8 (l:List Rat) (p:Option Addr) (cap:Nat) (hn:l.length<=4096) (hk: ∀q∈l,okQ q) (hz: ∀k (hk:k<l.length),Sz2 (IM l k) l[k]) (W:World) (hS:EJ W p (l.map Ac)) (hv:AH W) (ht:A9 W):
  Ae Tryz.prog 301 #[slv p l.length cap] W (fun _:Unit=> .tuple #[str (Ac (IM l l.length)), .int .i64 0]) (fun _=>True) (fun _=>[]):=by
 refine Ab Tryz.func301 I I I<|xb<|wG I I fun _=>wG I I fun _=>zC<|?_
 rename_i b2 b3
 refine zE<|xd<|Ad I<|wU 12 false I (dF (by omega))<|xa<|zS I<|xe<|xd<|Ad I<|xa<|zH<|Av (X:=Nat) (fun i=>[(0,slv p l.length cap),(2,Ai b2),(3,Ai b3),(13,slv p l.length cap),(14, .int .i64 (l.length:Nat)),(15, .int .i64 (i:Nat))]) (fun _=>[⟨b2,25,[str []],true,none⟩,⟨b3,34,[.int .i64 0],true,none⟩]) (fun i=>i<=l.length) (fun i=>l.length-i) 0 (Nat.zero_le _) ⟨I,I,I,I,I,I,tO⟩ [] I ?_
 intro i hi
 have hi:i<=l.length:=hi
 refine xb<|wP I<|?_
 by_cases hlt:i<l.length
 ·refine wU 16 true I (dT (by omega))<|xl<|zR I<|xh<|?_
  obtain⟨g,off,rfl,hrow⟩:=hS.row (i:=i) (by rw[List.length_map];exact hlt)
  have hrow1:Aj W g (off+i*1) [str (Ac l[i])]:=by have:=hrow i (by rw[List.length_map];exact hlt);rwa [List.getElem_map] at this
  have ho:=hk l[i] (List.getElem_mem hlt)
  have hle:=AX ho
  refine wJ ?_
  refine wL 0 I I (fun W hp=>hrow1.hp hp) I<|wP I<|xf<|wP I<|wC I I (fun W hp=>(BE (Ac l[i]) (by omega) W (hv.hp hp) (ht.hp hp)).cast (by rw[Dt ho]))<|wP I<|xf<|Aa I<|xa<|zS I<|zI<|xi<|wP I<|wV 24 ((i+1:Nat):Int) I (A0 (by omega))<|?_
  exact wP I<|zC<|Al (i+1) hlt (by show l.length-(i+1)<l.length-i;omega) ⟨I,I,I,I,I,I,tO⟩ [] I
 ·refine wU 16 false I (dF (by omega))<|xl<|zS I<|xg<|xn<|wG I I fun _=>wS 2 I I I<|zC<|?_
  rename_i b7
  refine zE<|xd<|wP I<|wD (X:=Nat) I I (fun W _=>US p l.length cap W) ?_
  intro bS _
  refine xa<|zH<|?_
  refine Qg (X:=Nat) (fun k=>[⟨b2,25,[str []],true,none⟩,⟨b3,34,[.int .i64 0],true,none⟩,⟨b7,25,[str (Ac (IM l k))],true,none⟩,⟨bS,75,[slv p l.length cap],true,none⟩])
   (fun j x=>x=j) (fun _ _=>False) 0 rfl (by kernel_rfl) (X2 bS p cap l (by omega) hz) (fun _=>rfl) rfl [] (by show _=[(⟨b2,25,[str []],true,none⟩:Bx),⟨b3,34,[.int .i64 0],true,none⟩,⟨b7,25,[str (Ac (IM l 0))],true,none⟩,⟨bS,75,[slv p l.length cap],true,none⟩]++[];rw[bY];rfl)
   (fun k x W _ hp=>⟨Aj.of_bx hp 3 rfl rfl,hS.hp hp,hv.hp hp,ht.hp hp⟩) ?_ ?_ (fun _ _ _ _ _ h=>h.elim)
  ·intro k x d L rec hk hx hrec
   obtain rfl:x=k:=hx
   refine xb<|wP I<|xa<|zB<|wP I<|zC<|BU 5 hrec I ?_
   exact zH<|xd<|Aa I<|xa<|zS I<|xe<|zB<|wP I<|wS 2 I I I<|zC<|zN<|By 5 (x+1) hrec I I [] I
  ·intro x d L rec hx
   obtain rfl:x=l.length:=hx
   refine zN<|xn<|wB 2 I I I<|wS 0 I I I<|wS 1 I I I<|xc<|Co 4 I ?_
   exact A4 tH I (.cell 0 I I I I I) (.cell 1 I I I I I) () I tO fun W _=>Au.nil _ _
section
variable {r:Option Nat} {n:Nat} {P:Program} {W0:World} {N:Nat} {D:List Deferred} {ops:List Oper} {Q:Exit->Act->World->Prop} {o:Oper} {rest:List Oper} {env:Env} {bxs:List Bx} {A:World->Prop}
theorem Hi {d:Nat} {t e:TypeId} {x y:Operand} {m:Nat} {cs:Array Value} {k:IntKind} {i:Int} {v:Value} (ht:P.underlying t=some (.array m e)) (he: ∀W,(isAgg e).run P W= .ok false W) (hz: ∀W,(Go.sizeOf e).run P W= .ok 1 W)
  (hg:Aw ops N env o=some true) (hd:o.dst=some d) (ho:o.op= .index t x y) (hx:evO N env x=some (.agg cs)) (hy:evO N env y=some (.int k i)) (h0:0<=i/\i<m) (hv:cs[i.toNat]? =some v)
  (h:WL r n P N D ops Q rest ((d,v)::env) A):WL r n P N D ops Q (o::rest) env A:=
 CP hg hd (fun c e=>by rw[ho] at e;cases e) (fun _ W hρ _=>by
  simp[execOp,ho,hρ _ _ hx,hρ _ _ hy,Instr.index,asIntOf,run_underlying ht,h0,hz,part,he,hv]) h
theorem FT {d:Nat} {t e:TypeId} {m:Nat} {parts:Array (Nat×Operand)} {vs:List (Nat×Value)} (z:Value) {c:List Value} (ht:P.underlying t=some (.array m e)) (hz: ∀W,(zeroValue t).run P W= .ok z W) (hs: ∀W,(Go.sizeOf e).run P W= .ok 1 W)
  (hg:Aw ops N env o=some true) (hd:o.dst=some d) (ho:o.op= .build t parts) (hp:DV (evO N env) parts.toList=some vs) (hc:GD (Kc 1) z.cells.toList vs=some c)
  (h:WL r n P N D ops Q rest ((d, .agg c.toArray)::env) A):WL r n P N D ops Q (o::rest) env A:=
 CP hg hd (fun c e=>by rw[ho] at e;cases e) (fun ρ W hρ _=>by
  have hparts:(parts.map fun(i,x)=>(i,ρ x)).toList=vs:=by rw[<-Ej hρ hp];simp
  have hfill:=Lk hc
  simp only[Array.toArray_toList] at hfill
  have hfill':Instr.fill (fun i=>some (i*1,1)) z.cells (parts.map fun(i,x)=>(i,ρ x)).toList=some c.toArray:=by rw[hparts];exact hfill
  simp only[execOp,ho,Instr.build,Sem.run_bind,hz,Result.andThen_ok,run_underlying ht,hs,Sem.run_pure]
  rw[hfill']
  simp) h
end
theorem FQ (q:Rat) (h:szQ q 36) (W:World) (hv:AH W) (ht:A9 W):
  Ae Tryz.prog 233 #[str (Ac q)] W (fun _:Unit=> .int .i64 0) (fun _=>True) (fun _=>[]):=by
 have hk:=h.ok (by decide)
 have l1:=Cy 36 q.num.natAbs (by decide) h.1
 have l2:=Cy 36 q.den (by decide) h.2
 refine Ab Tryz.func233 I I I<|xb<|wP I<|xf<|wP I<|wC I I (fun W hp=>EI q hk W (hv.hp hp) (ht.hp hp))<|AE I<|wP I<|xk<|Aa I<|?_
 refine xa<|zS I<|xe<|xd<|wP I<|wC I I (fun W _=>(BH (itoa q.num) [45] W).cast (by rw[Bf]))<|wP I<|Ap 17 (.int .i64 ((decDigits q.num.natAbs).length:Nat)) I (congrArg (fun n:Nat=>Value.int .i64 (n:Int)) (A5 _))<|Aa I<|Ap 19 (.int .i64 ((decDigits q.den).length:Nat)) I (congrArg (fun n:Nat=>Value.int .i64 (n:Int)) ((A5 _).trans (by rw[Ff])))<|Aa I<|?_
 refine Ap 21 (.bool false) I (congrArg Value.bool (dF (by
  show¬((if _>_ then _ else _)>_)
  split<;>omega))) ?_
 exact xa<|zS I<|xm<|wP I<|xc<|wR1 I I I
theorem PQ (q:Rat) (h:szQ q 36) (W:World) (hv:AH W) (ht:A9 W):
  Ae Tryz.prog 235 #[str (Ac q)] W (fun _:Unit=> .bool false) (fun _=>True) (fun _=>[]):=by
 exact Ab Tryz.func235 I I I<|xb<|wP I<|xf<|wP I<|wC I I (fun W hp=>FQ q h W (hv.hp hp) (ht.hp hp))<|Aa I<|xc<|wR1 I I I
theorem Rl (x y:Rat) (hx:szQ x 36) (hy:szQ y 36) (b:Nat) (W:World) (hr:Aj W b 0 [str (Ac x),str (Ac y)]) (hv:AH W) (ht:A9 W):
  Ae Tryz.prog 161 #[.slice (some ⟨b,0,none⟩) 2 2] W (fun _:Unit=> .bool false) (fun _=>True) (fun _=>[]):=by
 refine Ab Tryz.func161 I I I<|xb<|wP I<|xf<|wP I<|?_
 refine wC I I (fun W hp=>MQ 235 [] (by kernel_rfl) (fun _=>false) [x,y] W (some ⟨b,0,none⟩) 2 (show 2<4611686018427387904 by decide) (.inr ⟨b,0,I,hr.hp hp⟩)
  (fun t h1 W' hb=>by
   have hz:szQ t 36:=by
    rcases List.mem_cons.1 h1 with rfl|h1
    ·exact hx
    ·obtain rfl:=List.mem_singleton.1 h1;exact hy
   exact PQ t hz W' ((hv.hp hp).below hb) ((ht.hp hp).below hb))) ?_
 exact wP I<|xc<|wR1 I I I
abbrev plV (a b c:Rat):Value:= .agg #[str (Ac a),str (Ac b),str (Ac c)]
theorem RI (a b c:Rat) (ha:szQ a 36) (hb:szQ b 36) (hc:szQ c 36) (W:World) (hv:AH W) (ht:A9 W):
  Ae Tryz.prog 160 #[plV a b c] W (fun _:Unit=> .int .i64 0) (fun _=>True) (fun _=>[]):=by
 have oa:=ha.ok (by decide)
 have ob:=hb.ok (by decide)
 have oc:=hc.ok (by decide)
 have la:=AX oa
 have lb:=AX ob
 have lc:=AX oc
 refine Ab Tryz.func160 I I I<|xb<|wF I I fun _=>wP I<|zC<|?_
 rename_i b1
 refine zE<|xd<|wP I<|wB 0 I I I<|wP I<|wB 0 I I I<|wP I<|wB 0 I I I<|FT (.agg #[str [],str [],str []]) Tryz.underlying276 (fun W=>by kernel_rfl) Tryz.sizeOf25 I I I I I ?_
 refine wP I<|xa<|?_
 try refine Ba ?_
 refine AA (X:=Unit) (fun _=>[(1,Ai b1),(2, .int .i64 0)]) (fun _=>[⟨b1,144,(plV a b c).cells.toList,true,none⟩]) (fun _=>True) ?_ ?_
 ·refine zH<|Av (X:=Nat) (fun i=>[(1,Ai b1),(2, .int .i64 0),(15,plV a b c),(16, .int .i64 (i:Nat))]) (fun _=>[⟨b1,144,(plV a b c).cells.toList,true,none⟩]) (fun i=>i<=3) (fun i=>3-i) 0 (by decide) ⟨I,I,I,I,tO⟩ [] I ?_
  intro i hi
  have hi:i=0\/i=1\/i=2\/i=3:=by have:i<=3:=hi;omega
  rcases hi with rfl|rfl|rfl|rfl
  ·refine xb<|wP I<|xl<|zR I<|xh<|Hi Tryz.underlying276 Tryz.isAgg25 Tryz.sizeOf25 I I I I I (by decide) (v:=str (Ac a)) I<|wP I<|xf<|wP I<|wC I I (fun W hp=>(BE (Ac a) (by omega) W (hv.hp hp) (ht.hp hp)).cast (by rw[Dt oa]))<|wP I<|xa<|?_
   exact xb<|Aa I<|xa<|zS I<|zI<|xi<|Aa I<|zC<|Al 1 (by decide) (by decide) ⟨I,I,I,I,tO⟩ [] I
  ·refine xb<|wP I<|xl<|zR I<|xh<|Hi Tryz.underlying276 Tryz.isAgg25 Tryz.sizeOf25 I I I I I (by decide) (v:=str (Ac b)) I<|wP I<|xf<|wP I<|wC I I (fun W hp=>(BE (Ac b) (by omega) W (hv.hp hp) (ht.hp hp)).cast (by rw[Dt ob]))<|wP I<|xa<|?_
   exact xb<|Aa I<|xa<|zS I<|zI<|xi<|Aa I<|zC<|Al 2 (by decide) (by decide) ⟨I,I,I,I,tO⟩ [] I
  ·refine xb<|wP I<|xl<|zR I<|xh<|Hi Tryz.underlying276 Tryz.isAgg25 Tryz.sizeOf25 I I I I I (by decide) (v:=str (Ac c)) I<|wP I<|xf<|wP I<|wC I I (fun W hp=>(BE (Ac c) (by omega) W (hv.hp hp) (ht.hp hp)).cast (by rw[Dt oc]))<|wP I<|xa<|?_
   exact xb<|Aa I<|xa<|zS I<|zI<|xi<|Aa I<|zC<|Al 3 (by decide) (by decide) ⟨I,I,I,I,tO⟩ [] I
  ·exact xb<|wP I<|xl<|zS I<|xg<|Ao () tO ⟨I,I,tO⟩ [] I
 intro _ _
 refine xd<|wP I<|wB 0 I I I<|wP I<|wB 0 I I I<|wP I<|wB 0 I I I<|FT (.agg #[str [],str [],str []]) Tryz.underlying276 (fun W=>by kernel_rfl) Tryz.sizeOf25 I I I I I ?_
 refine wP I<|xa<|zH<|Av (X:=Nat) (fun i=>[(1,Ai b1),(2, .int .i64 0),(31,plV a b c),(32, .int .i64 (i:Nat))]) (fun _=>[⟨b1,144,(plV a b c).cells.toList,true,none⟩]) (fun i=>i<=3) (fun i=>3-i) 0 (by decide) ⟨I,I,I,I,tO⟩ [] I ?_
 intro i hi
 have hi:i=0\/i=1\/i=2\/i=3:=by have:i<=3:=hi;omega
 rcases hi with rfl|rfl|rfl|rfl
 ·refine xb<|wP I<|xl<|zR I<|xh<|Hi Tryz.underlying276 Tryz.isAgg25 Tryz.sizeOf25 I I I I I (by decide) (v:=str (Ac a)) I<|wP I<|xf<|wP I<|wC I I (fun W hp=>FQ a ha W (hv.hp hp) (ht.hp hp))<|wP I<|xa<|?_
  exact xb<|Aa I<|xa<|zS I<|zI<|xi<|Aa I<|zC<|Al 1 (by decide) (by decide) ⟨I,I,I,I,tO⟩ [] I
 ·refine xb<|wP I<|xl<|zR I<|xh<|Hi Tryz.underlying276 Tryz.isAgg25 Tryz.sizeOf25 I I I I I (by decide) (v:=str (Ac b)) I<|wP I<|xf<|wP I<|wC I I (fun W hp=>FQ b hb W (hv.hp hp) (ht.hp hp))<|wP I<|xa<|?_
  exact xb<|Aa I<|xa<|zS I<|zI<|xi<|Aa I<|zC<|Al 2 (by decide) (by decide) ⟨I,I,I,I,tO⟩ [] I
 ·refine xb<|wP I<|xl<|zR I<|xh<|Hi Tryz.underlying276 Tryz.isAgg25 Tryz.sizeOf25 I I I I I (by decide) (v:=str (Ac c)) I<|wP I<|xf<|wP I<|wC I I (fun W hp=>FQ c hc W (hv.hp hp) (ht.hp hp))<|wP I<|xa<|?_
  exact xb<|Aa I<|xa<|zS I<|zI<|xi<|Aa I<|zC<|Al 3 (by decide) (by decide) ⟨I,I,I,I,tO⟩ [] I
 ·exact xb<|wP I<|xl<|zS I<|xg<|xn<|wP I<|xc<|wR1 I I I
def IG (W:World) (c:Nat):Prop:=W.heap[c]? =some (.cells #[.int .i64 0] 198 (0,0))
theorem IG.hp {W0 W:World} {bxs:List Bx} {c:Nat} (h:IG W0 c) (hp:Hp W0 bxs W):IG W c:=
 (hp.below.block c (Array.getElem?_eq_some_iff.1 h).1).trans h
theorem IG.row {W:World} {c:Nat} (h:IG W c):Aj W c 0 [.int .i64 0]:=Aj.of_block h
theorem KL (c:Nat) (s:List UInt8) (W:World) (hc:IG W c):
  Ae Tryz.prog 300 #[Ai c,str s, .int .i64 0] W (fun _:Unit=>str s) (fun _=>True) (fun _=>[]):=by
 refine Ab Tryz.func300 I I I<|xb<|wP I<|xk<|wP I<|AQ I I I I ?_
 refine wP I<|wL 0 I I (fun W hp=>(hc.hp hp).row) I<|wP I<|xa<|zR I<|zB<|Aa I<|AQ I I I I ?_
 refine wP I<|HM (c:=[.int .i64 0]) (ty:=198) tH I I I I I I I I I I (fun W hp=>hc.hp hp) ?_
 exact xf<|Aa I<|xc<|wR1 I I I
theorem JD (c:Nat) (p q:Rat) (hz:Sz2 p q) (W:World) (hc:IG W c) (hv:AH W) (ht:A9 W):
  Ae Tryz.prog 237 #[Ai c,str (Ac p),str (Ac q)] W (fun _:Unit=>str (Ac (p*q))) (fun _=>True) (fun _=>[]):=by
 exact Ab Tryz.func237 I I I<|xb<|wP I<|xf<|Ad I<|wC I I (fun W hp=>Db p q hz W (hv.hp hp) (ht.hp hp))<|Aa I<|wC I I (fun W hp=>KL c (Ac (p*q)) W (hc.hp hp))<|wP I<|xc<|wR1 I I I
theorem P9 (c:Nat) (l:List Rat) (p:Option Addr) (cap:Nat) (hn:l.length<=4096) (hk: ∀q∈l,okQ q) (hz: ∀k (hk:k<l.length),Sz2 (IM l k) l[k]) (W:World) (hc:IG W c) (hS:EJ W p (l.map Ac)) (hv:AH W) (ht:A9 W):
  Ae Tryz.prog 236 #[Ai c,slv p l.length cap] W (fun _:Unit=>str (Ac (IM l l.length))) (fun _=>True) (fun _=>[]):=by
 exact Ab Tryz.func236 I I I<|xb<|wP I<|xf<|Aa I<|wC I I (fun W hp=>U8 l p cap hn hk hz W (hS.hp hp) (hv.hp hp) (ht.hp hp))<|Aa I<|wC I I (fun W hp=>KL c (Ac (IM l l.length)) W (hc.hp hp))<|wP I<|xc<|wR1 I I I
theorem Oh (c:Nat) (s:List UInt8) (W:World) (hc:IG W c):
  Ae Tryz.prog 162 #[Ai c,str s] W (fun _:Unit=> .tuple #[str s, .int .i64 0]) (fun _=>True) (fun _=>[]):=by
 refine Ab Tryz.func162 I I I<|xb<|Aa I<|xk<|wP I<|AQ I I I I ?_
 exact wP I<|wL 0 I I (fun W hp=>(hc.hp hp).row) I<|wP I<|xa<|zS I<|xm<|Ad I<|xc<|wR2 I I I
structure HtZ (a b c x y:Rat):Prop where
 m1:Sz2 a x
 m2:Sz2 b y
 ok: ∀q∈[a*x,b*y,c],okQ q
 s: ∀k (hk:k<[a*x,b*y,c].length),Sz2 (IM [a*x,b*y,c] k) [a*x,b*y,c][k]
theorem RQ (c:Nat) (a b d x y:Rat) (hz:HtZ a b d x y) (W:World) (hc:IG W c) (hv:AH W) (ht:A9 W):
  Ae Tryz.prog 163 #[Ai c,plV a b d,ptV x y] W (fun _:Unit=>str (Ac (0+a*x+b*y+d))) (fun _=>True) (fun _=>[]):=by
 refine Ab Tryz.func163 I I I<|xb<|wF I I fun _=>wF I I fun _=>wP I<|zC<|?_
 rename_i b4 b5
 refine zE<|zA<|?_
 refine AV (X:=Nat) [true,true,true,true,true,true,true,true,true,true,true,true,true,true,true,false,false,false] (fun bS=>[(6,str (Ac (0+a*x+b*y+d)))]) (fun bS=>[⟨b4,144,(plV a b d).cells.toList,true,none⟩,⟨b5,105,(ptV x y).cells.toList,true,none⟩,⟨bS,25,[str (Ac (a*x)),str (Ac (b*y)),str (Ac d)],true,none⟩])
   3 [⟨b4,144,(plV a b d).cells.toList,true,none⟩,⟨b5,105,(ptV x y).cells.toList,true,none⟩] Tryz.mixed (by kernel_rfl) ?_ ?_
 ·refine AY I<|qB 0 I I I<|qP I<|qB 1 I I I<|qC I I (fun W hp=>JD c a x hz.m1 W (hc.hp hp) (hv.hp hp) (ht.hp hp))<|Ay I<|qB 0 I I I<|qP I<|qB 1 I I I<|qC I I (fun W hp=>JD c b y hz.m2 W (hc.hp hp) (hv.hp hp) (ht.hp hp))<|qP I<|qB 0 I I I<|BR<|wX<|wZ<|As Tryz.hZ tH I I I I I I I I I I I fun bS=> ?_
  refine zC<|Ah<|wX<|wZ<|wC I I (fun W hp=>P9 c [a*x,b*y,d] (some ⟨bS,0,none⟩) 3 (show 3<=4096 by decide) hz.ok hz.s W (hc.hp hp) (.inr ⟨bS,0,I,Aj.of_bx hp 2 I I⟩) (hv.hp hp) (ht.hp hp))<|zC<|Ah<|wX<|wZ<|wP I<|zC<|Ah<|?_
  refine AF I (by((repeat (first|refine AK.same ?_|refine AK.off I ?_));exact tO)) ?_
  exact A7 bS ⟨I,tO⟩ [0,1,2] (by decide) I
 intro bS
 exact zE<|zO<|wR1 I I I
theorem JT (a b c x y:Rat) (ha:szQ a 36) (hb:szQ b 36) (hc:szQ c 36) (hx:szQ x 36) (hy:szQ y 36) (hz:HtZ a b c x y) (W:World) (hv:AH W) (ht:A9 W):
  Ae Tryz.prog 100 #[plV a b c,ptV x y] W (fun _:Unit=> .tuple #[str (Ac (0+a*x+b*y+c)), .int .i64 0]) (fun _=>True) (fun _=>[]):=by
 refine Ab Tryz.func100 I I I<|xb<|wF I I fun _=>wF I I fun _=>Aa I<|zC<|?_
 rename_i b2 b3
 refine zE<|xd<|wB 0 I I I<|wC I I (fun W hp=>RI a b c ha hb hc W (hv.hp hp) (ht.hp hp))<|Ad I<|wB 1 I I I<|wP I<|wB 1 I I I<|As Tryz.hZ tH I I I I I I I I I I I fun bS=> ?_
 refine wC I I (fun W hp=>Rl x y hx hy bS W (Aj.of_bx hp 2 I I) (hv.hp hp) (ht.hp hp))<|wP I<|xa<|zS I<|xm<|wG I I fun _=>zC<|?_
 rename_i b6
 have hcal: ∀W1,Hp W [⟨b2,144,(plV a b c).cells.toList,true,none⟩,⟨b3,105,(ptV x y).cells.toList,true,none⟩,⟨bS,25,[str (Ac x),str (Ac y)],true,none⟩,⟨b6,198,[.int .i64 0],true,none⟩] W1->IG W1 b6:=fun W1 hp=>(hp.at_ 3 _ rfl rfl).1
 exact xn<|wB 0 I I I<|wB 1 I I I<|wC I I (fun W hp=>RQ b6 a b c x y hz W (hcal W hp) (hv.hp hp) (ht.hp hp))<|wC I I (fun W hp=>Oh b6 (Ac (0+a*x+b*y+c)) W (hcal W hp))<|At I<|xc<|wR2 I I I
end
section
open Go Go.RowKit Go.Am
set_option maxRecDepth 10000
structure Sd where
 x:Int
 y:Int
 rise:Int
 run:Int
 gable:Bool
 plate:Int
 over:Int
 deriving DecidableEq,Inhabited
abbrev Sd.cells (s:Sd):List Value:=[.int .i64 s.x, .int .i64 s.y, .int .i64 s.rise, .int .i64 s.run, .bool s.gable, .int .i64 s.plate, .int .i64 s.over]
abbrev Sd.val (s:Sd):Value:= .agg #[.int .i64 s.x, .int .i64 s.y, .int .i64 s.rise, .int .i64 s.run, .bool s.gable, .int .i64 s.plate, .int .i64 s.over]
abbrev spot (x y:Int):Value:= .agg #[.int .i64 x, .int .i64 y]
abbrev Ig (s t u:Sd):Value:= .agg #[.int .i64 s.x, .int .i64 s.y, .int .i64 s.rise, .int .i64 s.run, .bool s.gable, .int .i64 s.plate, .int .i64 s.over, .int .i64 t.x, .int .i64 t.y, .int .i64 t.rise, .int .i64 t.run, .bool t.gable, .int .i64 t.plate, .int .i64 t.over, .int .i64 u.x, .int .i64 u.y, .int .i64 u.rise, .int .i64 u.run, .bool u.gable, .int .i64 u.plate, .int .i64 u.over]
theorem BD (s:Sd):Be Tryz.prog 200 [s.val] (spot s.x s.y):=by
 intro W
 refine Ab Tryz.func200 I I I<|xb<|wF I I fun _=>B6 (z:=spot 0 0) I I I (fun W=>by kernel_rfl) fun b3=> ?_
 refine xf<|wP I<|wB 0 I I I<|wP I<|wB 0 I I I<|Hu (spot 0 0) tH I I I I I (fun W=>by kernel_rfl) I I ?_
 exact wS 1 I I I<|xc<|A3 tH I (.cell 1 I I I I I) () I tO fun W _=>Au.nil _ _
theorem Ow (x y u v:Int):Be Tryz.prog 201 [spot x y,spot u v] (spot (w64 (u-x)) (w64 (v-y))):=by
 intro W
 refine Ab Tryz.func201 I I I<|xb<|wF I I fun _=>wF I I fun _=>B6 (z:=spot 0 0) I I I (fun W=>by kernel_rfl) fun b3=> ?_
 refine xf<|wP I<|wB 1 I I I<|wP I<|wB 0 I I I<|Aa I<|wB 1 I I I<|wP I<|wB 0 I I I<|wP I<|Hu (spot 0 0) tH I I I I I (fun W=>by kernel_rfl) I I ?_
 exact wS 2 I I I<|xc<|A3 tH I (.cell 2 I I I I I) () I tO fun W _=>Au.nil _ _
theorem MJ (x y u v:Int):Be Tryz.prog 271 [spot x y,spot u v] (.int .i64 (w64 (w64 (x*v)-w64 (y*u)))):=by
 intro W
 refine Ab Tryz.func271 I I I<|xb<|wF I I fun _=>wF I I fun _=>wP I<|xf<|wP I<|wB 0 I I I<|wP I<|wB 1 I I I<|Aa I<|wB 0 I I I<|wP I<|wB 1 I I I<|Ad I<|xa<|?_
 exact zO<|wR1 I I I
theorem LM (s t u:Sd):Be Tryz.prog 202 [Ig s t u] (spot (w64 (u.x-t.x)) (w64 (u.y-t.y))):=by
 intro W
 refine Ab Tryz.func202 I I I<|xb<|wF I I fun _=>B6 (z:=spot 0 0) I I I (fun W=>by kernel_rfl) fun b3=> ?_
 exact xl<|zU<|qP I<|qB 0 I I I<|qC I I (fun W _=>BD t W)<|qP I<|qB 0 I I I<|qC I I (fun W _=>BD u W)<|qC I I (fun W _=>Ow t.x t.y u.x u.y W)<|zD<|wS 1 I I I<|xc<|A3 tH I (.cell 1 I I I I I) () I tO fun W _=>Au.nil _ _
theorem UF (s t u:Sd):Be Tryz.prog 207 [Ig s t u] (.bool (decide (w64 (w64 (w64 (t.x-s.x)*w64 (u.y-t.y))-w64 (w64 (t.y-s.y)*w64 (u.x-t.x)))>0))):=by
 intro W
 refine Ab Tryz.func207 I I I<|xb<|wF I I fun _=>wP I<|xl<|zU<|qP I<|qB 0 I I I<|qC I I (fun W _=>BD s W)<|qP I<|qB 0 I I I<|qC I I (fun W _=>BD t W)<|qC I I (fun W _=>Ow s.x s.y t.x t.y W)<|qB 0 I I I<|qC I I (fun W _=>LM s t u W)<|qC I I (fun W _=>MJ _ _ _ _ W)<|Ay I<|zD<|xa<|?_
 exact zO<|wR1 I I I
structure Gg (W:World) (b off:Nat) (l:List Sd):Prop where
 get: ∀(i:Nat) (s:Sd),l[i]? =some s->Aj W b (off+i*7) s.cells
def Cg (W:World) (p:Option Addr) (l:List Sd):Prop:=l=[]\/ ∃b off,p=some ⟨b,off,none⟩/\Gg W b off l
theorem Cg.below {W W':World} {p:Option Addr} {l:List Sd} {n:Nat} (h:Cg W p l) (hn:W.heap.size<=n) (hb:Below n W W'):Cg W' p l:=by
 rcases h with h|⟨b,off,h1,h2⟩
 ·exact .inl h
 ·exact .inr ⟨b,off,h1,⟨fun i s hs=>(h2.get i s hs).below hn hb⟩⟩
theorem Cg.hp {W0 W:World} {bxs:List Bx} {p:Option Addr} {l:List Sd} (h:Cg W0 p l) (hp:Hp W0 bxs W):Cg W p l:=h.below (Nat.le_refl _) hp.below
def sd (l:List Sd) (i:Nat):Sd:=l.getD i default
theorem GL {l:List Sd} {i:Nat} (h:i<l.length):l[i]? =some (sd l i):=by simp[sd,h]
theorem Cg.row {W:World} {p:Option Addr} {l:List Sd} (h:Cg W p l) {i:Nat} (hi:i<l.length): ∃b off,p=some ⟨b,off,none⟩/\ ∀k,k<l.length->Aj W b (off+k*7) (sd l k).cells:=by
 rcases h with rfl|⟨b,off,h1,h2⟩
 ·simp at hi
 ·exact⟨b,off,h1,fun k hk=>h2.get k _ (GL hk)⟩
theorem F3 (p:Option Addr) (n cap:Nat) (W:World):Ae Tryz.prog 199 #[slv p n cap] W (fun b:Nat=> .func (.func 270) #[] #[.pointer (some ⟨b,0,none⟩)]) (fun _=>True) (fun b=>[⟨b,48,[slv p n cap],true,none⟩]):=by
 refine Ab Tryz.func199 I I I<|xb<|?_
 refine Ov rfl rfl rfl rfl ?_;intro b
 exact wP I<|xf<|Aa I<|xc<|A3 tH I (.tmp I) b I tO fun W hp=>Au.of_hp hp
def prv (n i:Nat):Nat:=(i+n-1)%n
def nxt (n i:Nat):Nat:=(i+1)%n
abbrev Zw (l:List Sd) (k:Nat):List Value:=[.int .i64 k,Ig (sd l (prv l.length k)) (sd l k) (sd l (nxt l.length k))]
structure Eu (b:Nat) (p:Option Addr) (cap:Nat) (l:List Sd) (W:World):Prop where
 var:Aj W b 0 [slv p l.length cap]
 ring:Cg W p l
theorem Gj (b:Nat) (p:Option Addr) (cap:Nat) (l:List Sd) (hn:l.length<4611686018427387904):
  Wx Tryz.prog 270 [.pointer (some ⟨b,0,none⟩)] l.length (Zw l) (Eu b p cap l):=by
 refine⟨fun y J Jx hNeed hdr hY W hJ=> ?_⟩
 refine Da (args:=[.func (.yield y) #[] #[], .pointer (some ⟨b,0,none⟩)]) (J0:=J 0) Tryz.func270 I I I hJ ?_
 refine xb<|wL 0 I I (fun W hp=>(hNeed 0 W hp).var) I<|Aa I<|xf<|wL 0 I I (fun W hp=>(hNeed 0 W hp).var) I<|Aa I<|xa<|zH<|Di (X:=Nat) (fun k=>[(0, .func (.yield y) #[] #[]),(1, .pointer (some ⟨b,0,none⟩)),(3, .int .i64 (l.length:Nat)),(8, .int .i64 (l.length:Nat)),(9, .int .i64 (k:Nat))]) J (fun k=>k<=l.length) (fun k=>l.length-k) 0 (Nat.zero_le _) ⟨I,I,I,I,I,tO⟩ (fun W h=>h) ?_
 intro k hk
 refine xb<|wP I<|xl<|Ag I ?_ ?_
 rotate_left
 ·intro h
  refine xg<|?_
  have:k=l.length:=by simp at h;omega
  subst this
  exact FK I fun W h=>h
 intro h
 have hk:k<l.length:=by simp at h;omega
 clear h
 refine xh<|Aa I<|xl<|?_
 have hz:(l.length:Int)≠0:=by omega
 have e1:(w64 (w64 ((k:Int)+(l.length:Int))-1)).tmod (l.length:Int)=((prv l.length k:Nat):Int):=by
  rw[Ar (x:=(k:Int)+l.length) (by omega) (by omega),Ar (by omega) (by omega)]
  have:(k:Int)+l.length-1=((k+l.length-1:Nat):Int):=by omega
  rw[this];rfl
 have e2:(w64 ((k:Int)+1)).tmod (l.length:Int)=((nxt l.length k:Nat):Int):=by
  rw[Ar (x:=(k:Int)+1) (by omega) (by omega)]
  rfl
 have l1:prv l.length k<l.length:=Nat.mod_lt _ (by omega)
 have l2:nxt l.length k<l.length:=Nat.mod_lt _ (by omega)
 refine Rb 23 (hdr k) Tryz.mixed (by kernel_rfl) I ?_
 refine Ay I<|qL 0 I I (fun W hp=>(hNeed k W hp).var) I<|GM I<|DO I I I I I hz ?_
 refine Fa 20 _ I (congrArg (Value.int .i64) e1) ?_
 obtain⟨b2,off,rfl,hrow⟩: ∃b2 off,p=some ⟨b2,off,none⟩/\ ∀i,i<l.length-> ∀W,J k W->Aj W b2 (off+i*7) (sd l i).cells:=by
  obtain⟨b2,off,e,_⟩:=(hNeed 0 W hJ).ring.row hk
  refine⟨b2,off,e,fun i hi W hW=> ?_⟩
  obtain⟨b3,off3,e',h⟩:=(hNeed k W hW).ring.row hk
  rw[e] at e'
  cases e'
  exact h i hi
 refine qJ ?_
 refine KC I I I I (fun W hp=>Aj.load 0 tH I ((hrow _ l1) W hp) I)<|qL 0 I I (fun W hp=>(hNeed k W hp).var) I<|qP I<|qJ ?_
 refine KC I I I I (fun W hp=>Aj.load 0 tH I ((hrow _ hk) W hp) I)<|qL 0 I I (fun W hp=>(hNeed k W hp).var) I<|AY I<|DO I I I I I hz ?_
 refine Fa 31 _ I (congrArg (Value.int .i64) e2)<|qJ ?_
 refine KC I I I I (fun W hp=>Aj.load 0 tH I ((hrow _ l2) W hp) I)<|Uf (Ig default default default) tH I I I I I (fun W=>by kernel_rfl) I I ?_
 refine zD<|E7 (A1:=J (k+1)) (A2:=Jx) I I I I I I (fun W hp=>hY k W hk hp) ?_ ?_
 ·exact wP I<|xa<|zS I<|zI<|xi<|Aa I<|zC<|Dh (k+1) hk (by omega) ⟨I,I,I,I,congrArg (fun z=>some (Value.int .i64 z)) (AM (x:=(k:Int)+1) (by omega) (by omega)),tO⟩ (fun W h=>h)
 ·exact wP I<|xa<|zR I<|zO<|xj<|Cp I (fun W h=>h)
abbrev W9 (a b c d:Int):Value:= .agg #[.int .i64 a, .int .i64 b, .int .i64 c, .int .i64 d]
theorem Tx (s t u:Sd):Be Tryz.prog 203 [Ig s t u] (W9 (if u.x<t.x then u.x else t.x) (if u.y<t.y then u.y else t.y) (if u.x>t.x then u.x else t.x) (if u.y>t.y then u.y else t.y)):=by
 intro W
 refine Ab Tryz.func203 I I I<|xb<|wF I I fun _=>B6 (z:=W9 0 0 0 0) I I I (fun W=>by kernel_rfl) fun b2=> ?_
 refine xl<|?_
 refine NI (X:=Nat×Nat) (fun x=>[(2, .pointer (some ⟨b2,0,none⟩)),(3, .pointer (some ⟨x.1,0,none⟩)),(4, .pointer (some ⟨x.2,0,none⟩))])
  (fun x=>[⟨b2,247,(W9 0 0 0 0).cells.toList,true,none⟩,⟨x.1,240,(spot t.x t.y).cells.toList,true,none⟩,⟨x.2,240,(spot u.x u.y).cells.toList,true,none⟩]) 4 Tryz.mixed (by kernel_rfl) ?_ ?_
 ·refine qP I<|qB 0 I I I<|qC I I (fun W _=>BD t W)<|qP I<|qB 0 I I I<|qC I I (fun W _=>BD u W)<|zG<|wX<|RS.cons ?_ (RS.cons ?_ RS.nil)
  ·refine B6 (z:=spot 0 0) I I I (fun W=>by kernel_rfl) fun b3=> ?_
   refine zC<|zF<|wX<|RS.cons ?_ RS.nil
   refine B6 (z:=spot 0 0) I I I (fun W=>by kernel_rfl) fun b4=> ?_
   refine zC<|zF<|wX<|RS.cons ?_ RS.nil
   refine wS 2 I I I<|zC<|zF<|wX<|RS.cons ?_ RS.nil
   refine wS 3 I I I<|zC<|zF<|?_
   refine AF I (by((repeat (first|refine AK.same ?_|refine AK.off I ?_));exact tO)) ?_
   exact A7 (b3,b4) ⟨I,I,I,tO⟩ [1,2,3] (by decide) I
  ·refine B6 (z:=spot 0 0) I I I (fun W=>by kernel_rfl) fun b4=> ?_
   refine zC<|zF<|wX<|RS.cons ?_ RS.nil
   refine B6 (z:=spot 0 0) I I I (fun W=>by kernel_rfl) fun b3=> ?_
   refine zC<|zF<|wX<|RS.cons ?_ RS.nil
   refine wS 3 I I I<|zC<|zF<|wX<|RS.cons ?_ RS.nil
   refine wS 2 I I I<|zC<|zF<|?_
   refine AF I (by((repeat (first|refine AK.same ?_|refine AK.off I ?_));exact tO)) ?_
   exact A7 (b3,b4) ⟨I,I,I,tO⟩ [1,3,2] (by decide) I
 ·rintro⟨b3,b4⟩
  refine xn<|wP I<|wB 1 I I I<|wP I<|wB 2 I I I<|Aa I<|wB 1 I I I<|wP I<|wB 2 I I I<|wP I<|Hu (spot 0 0) tH I I I I I (fun W=>by kernel_rfl) I I ?_
  refine wP I<|wB 1 I I I<|wP I<|wB 2 I I I<|Aa I<|wB 1 I I I<|wP I<|wB 2 I I I<|wP I<|Hu (spot 0 0) tH I I I I I (fun W=>by kernel_rfl) I I ?_
  refine Hu (W9 0 0 0 0) tH I I I I I (fun W=>by kernel_rfl) I I ?_
  exact wS 0 I I I<|xc<|A3 tH I (.cell 0 I I I I I) () I tO fun W _=>Au.nil _ _
theorem S9 (a b c d a' b' c' d':Int):Be Tryz.prog 204 [W9 a b c d,W9 a' b' c' d'] (.bool (decide (a<=c')&&decide (a'<=c)&&decide (b<=d')&&decide (b'<=d))):=by
 intro W
 refine Ab Tryz.func204 I I I<|xb<|wF I I fun _=>wF I I fun _=>wP I<|xf<|Aa I<|wB 0 I I I<|Aa I<|wB 1 I I I<|Aa I<|AI 12 I (fun h12=> ?_) (fun h12=> ?_)
 ·refine Aa I<|wB 1 I I I<|Aa I<|wB 0 I I I<|Ad I<|AI 21 I (fun h21=> ?_) (fun h21=> ?_)
  ·refine Aa I<|wB 0 I I I<|Aa I<|wB 1 I I I<|Ad I<|AI 30 I (fun h30=> ?_) (fun h30=> ?_)
   ·exact Aa I<|wB 1 I I I<|Aa I<|wB 0 I I I<|Ad I<|xc<|wR1 I I (by simp_all<;>(intros;omega))
   ·refine Af I I ?_
    iterate 6 refine Af I I ?_
    exact Aa I<|xc<|wR1 I I (by simp_all<;>(intros;omega))
  ·refine Af I I ?_
   iterate 6 refine Af I I ?_
   refine Aa I<|?_
   iterate 7 refine Af I I ?_
   exact Aa I<|xc<|wR1 I I (by simp_all<;>(intros;omega))
 ·refine Af I I ?_
  iterate 6 refine Af I I ?_
  refine Aa I<|?_
  iterate 7 refine Af I I ?_
  refine Aa I<|?_
  iterate 7 refine Af I I ?_
  exact Aa I<|xc<|wR1 I I (by simp_all<;>(intros;omega))
theorem Eu.mk' {W0 W:World} {bxs:List Bx} {b:Nat} {p:Option Addr} {cap:Nat} {l:List Sd} (h:Cg W0 p l) (hp:Hp W0 bxs W) (k:Nat) (hk:nth bxs k=some ⟨b,48,[slv p l.length cap],true,none⟩):Eu b p cap l W:=
 ⟨Aj.of_bx hp k hk rfl,h.hp hp⟩
def Dc (l:List Sd):Nat->Int
 |0=>0
 |k+1=>w64 (Dc l k+w64 (w64 ((sd l k).x*(sd l (nxt l.length k)).y)-w64 ((sd l k).y*(sd l (nxt l.length k)).x)))
theorem UT (W:World) (p:Option Addr) (cap:Nat) (l:List Sd) (hn:l.length<4611686018427387904) (hR:Cg W p l):
  Ae Tryz.prog 205 #[slv p l.length cap] W (fun _:Unit=> .int .i64 (Dc l l.length)) (fun _=>True) (fun _=>[]):=by
 refine Ab Tryz.func205 I I I<|xb<|wP I<|xf<|B6 (z:= .int .i64 0) I I I (fun W=>by kernel_rfl) fun b3=> ?_
 refine wS 0 I I I<|xk<|wP I<|wD (X:=Nat) I I (fun W _=>F3 p l.length cap W) ?_
 intro b _
 refine xa<|zH<|EQ (X:=Nat) (fun k=>[⟨b3,3,[.int .i64 (Dc l k)],true,none⟩,⟨b,48,[slv p l.length cap],true,none⟩]) (fun k x=>x=k) (fun _ _=>False) 0 I (by kernel_rfl) (Gj b p cap l hn) (fun _=>rfl) I [] I (fun k x W _ hp=>Eu.mk' hR hp 1 I) ?_ ?_ (fun _ _ _ _ _ h=>h.elim)
 ·intro k x d L rec hk hx hrec
  subst hx
  refine zB<|B6 (z:=Ig default default default) I I I (fun W=>by kernel_rfl) fun b5=> ?_
  refine wS 4 I I I<|zC<|BU 3 hrec I ?_
  exact zH<|zU<|qB 0 I I I<|qP I<|qB 4 I I I<|qC I I (fun W _=>BD (sd l x) W)<|qP I<|qB 4 I I I<|qC I I (fun W _=>BD (sd l (nxt l.length x)) W)<|qC I I (fun W _=>MJ _ _ _ _ W)<|qP I<|zD<|wS 0 I I I<|zC<|zN<|By 3 (x+1) hrec I I [_] I
 ·intro x d L rec hx
  subst hx
  refine zN<|xn<|wB 0 I I I<|wP I<|xc<|Co 2 I ?_
  exact wR1 I I I
structure bK (W:World) (b off:Nat) (rs:List (List Sd)):Prop where
 get: ∀(i:Nat) (l:List Sd),rs[i]? =some l-> ∃p cap,Aj W b (off+i*1) [slv p l.length cap]/\Cg W p l
def AL (W:World) (p:Option Addr) (rs:List (List Sd)):Prop:=rs=[]\/ ∃b off,p=some ⟨b,off,none⟩/\bK W b off rs
def rg (rs:List (List Sd)) (i:Nat):List Sd:=rs.getD i []
theorem Bm {rs:List (List Sd)} {i:Nat} (h:i<rs.length):rs[i]? =some (rg rs i):=by simp[rg,h]
theorem AL.row {W:World} {p:Option Addr} {rs:List (List Sd)} (h:AL W p rs) {i:Nat} (hi:i<rs.length):
  ∃b off,p=some ⟨b,off,none⟩/\ ∀k,k<rs.length-> ∃q cap,Aj W b (off+k*1) [slv q (rg rs k).length cap]/\Cg W q (rg rs k):=by
 rcases h with rfl|⟨b,off,h1,h2⟩
 ·simp at hi
 ·exact⟨b,off,h1,fun k hk=>h2.get k _ (Bm hk)⟩
theorem AL.below {W W':World} {p:Option Addr} {rs:List (List Sd)} {n:Nat} (h:AL W p rs) (hn:W.heap.size<=n) (hb:Below n W W'):AL W' p rs:=by
 rcases h with h|⟨b,off,h1,h2⟩
 ·exact .inl h
 ·refine .inr ⟨b,off,h1,⟨fun i l hl=> ?_⟩⟩
  obtain⟨q,cap,h3,h4⟩:=h2.get i l hl
  exact⟨q,cap,h3.below hn hb,h4.below hn hb⟩
theorem Ul (W:World) (m:Nat) (hm:m<1099511627776):Ae Tryz.prog 151 #[.slice none 0 0, .int .i64 (m:Nat)] W (fun V:Vec=>V.val 0) (fun V=>V.OK 7 0 []/\(0<m->V.p≠none)) (fun V=>[V.bx 82 []]):=by
 refine Ab Tryz.func151 I I I<|xb<|wP I<|xk<|Aa I<|xa<|zS I<|xe<|xd<|?_
 iterate 8 refine wP I ?_
 refine xf<|Aa I<|xa<|?_
 have e14:w64 ((m:Int)-w64 (0-0))=m:=by
  have:w64 (0-0)=0:=rfl
  rw[this];exact(Ar (by omega) (by omega)).trans (by omega)
 refine Bh 16 _ I (show Value.bool (decide (w64 ((m:Int)-w64 (0-0))>0))= .bool (decide (0<m)) by rw[e14];congr 1;simp) ?_
 refine Ag I (fun h=> ?_) (fun h=> ?_)
 ·have h:0<m:=by simpa using h
  refine zB<|Ad I<|BG 0 tH I I I I I I I I (Nat.le_refl _) ?_
  refine wP I ?_
  refine I3 Tryz.vec48 (ku:= .i64) (by kernel_rfl) m I I I I I I I I e14 h (by simp only[maxLen];omega) (by omega) ?_
  intro V hV hp hj
  refine Aa I<|?_
  obtain⟨p,cap,junk⟩:=V
  cases p with
  |none=>exact absurd rfl hp
  |some g=>
  refine BG (a:=some ⟨g,0,none⟩) (len:=m) (cap:=cap) 0 tH I I I I I I I I (Nat.zero_le _) ?_
  refine wP I<|xf<|Aa I<|xc<|?_
  obtain⟨h1,h2,h3⟩:=hV.cap (by simp)
  refine A3 tH rfl (.tmp rfl) (⟨some g,cap,Cf [.int .i64 0, .int .i64 0, .int .i64 0, .int .i64 0, .bool false, .int .i64 0, .int .i64 0] m++junk⟩:Vec) rfl ⟨⟨rfl,(fun h=>by cases h),fun _=>⟨Nat.zero_le _,h2, ?_⟩⟩,fun _=>by simp⟩ fun W hp=>Au.of_hp1 hp 0 rfl
  show 0+(Cf _ m++junk).length=cap*7
  rw[List.length_append,Nat.zero_add]
  exact h3
 ·have h:m=0:=by simp at h;omega
  subst h
  exact xm<|wP rfl<|wP rfl<|xc<|A3 tH rfl (.tmp rfl) Vec.empty rfl ⟨Vec.OK.empty 7,fun h=>absurd h (Nat.lt_irrefl _)⟩ fun W hp=>Own.one (fun p hp=>by cases hp) List.nodup_nil
def cellsOf (l:List Sd):List Value:=l.flatMap Sd.cells
theorem IE (l m:List Sd):cellsOf (l++m)=cellsOf l++cellsOf m:=List.flatMap_append
theorem E3: ∀l:List Sd,(cellsOf l).length=l.length*7
 |[]=>rfl
 |s::l=>by
  show(s.cells++cellsOf l).length=_
  rw[List.length_append,E3 l,List.length_cons]
  show 7+l.length*7=(l.length+1)*7
  omega
theorem Jk: ∀(l:List Sd) (i:Nat) (s:Sd),l[i]? =some s-> ∀j,j<7->(cellsOf l)[i*7+j]? =s.cells[j]?
 |[],i,s,h,_,_=>by simp at h
 |t::l,0,s,h,j,hj=>by
  obtain rfl:t=s:=by simpa using h
  show(t.cells++cellsOf l)[0*7+j]? =_
  rw[Nat.zero_mul,Nat.zero_add,List.getElem?_append_left (show j<t.cells.length from hj)]
 |t::l,i+1,s,h,j,hj=>by
  show(t.cells++cellsOf l)[(i+1)*7+j]? =_
  rw[List.getElem?_append_right (show t.cells.length<=(i+1)*7+j by show 7<=_;omega)]
  show(cellsOf l)[(i+1)*7+j-7]? =_
  rw[show(i+1)*7+j-7=i*7+j by omega]
  exact Jk l i s (by simpa using h) j hj
theorem M3: ∀l:List Sd, ∀u∈cellsOf l,u.oneCell'=true:=fun l u hu=>by
 obtain⟨s,_,h⟩:=List.mem_flatMap.1 hu
 simp at h
 rcases h with rfl|rfl|rfl|rfl|rfl|rfl|rfl<;>rfl
theorem Gg.of_cells {W:World} {b off:Nat} {l:List Sd} (hlt:b<W.heap.size) (h: ∀j u,(cellsOf l)[j]? =some u->W.cell? ⟨b,off+j,none⟩=some u):Gg W b off l:=by
 refine⟨fun i s hs=>⟨hlt,fun j u hj=> ?_⟩⟩
 have hj':j<7:=(List.getElem?_eq_some_iff.1 hj).1
 have h1:=Jk l i s hs j hj'
 rw[hj] at h1
 rw[Nat.add_assoc]
 exact h _ _ h1
theorem Gg.cells {W:World} {b off:Nat} {l:List Sd} (h:Gg W b off l): ∀j u,(cellsOf l)[j]? =some u->W.cell? ⟨b,off+j,none⟩=some u:=by
 intro j u hj
 have hlt:j<l.length*7:=by rw[<-E3];exact(List.getElem?_eq_some_iff.1 hj).1
 have hi:j/7<l.length:=by omega
 have h1:=Jk l (j/7) _ (List.getElem?_eq_getElem hi) (j%7) (Nat.mod_lt _ (by omega))
 have e:j/7*7+j%7=j:=by omega
 rw[e,hj] at h1
 have h2:=(h.get (j/7) _ (List.getElem?_eq_getElem hi)).get (j%7) u h1.symm
 rw[Nat.add_assoc,e] at h2
 exact h2
theorem Vec.ring {V:Vec} {l:List Sd} (hV:V.OK 7 l.length (cellsOf l)): ∃p cap,V.val l.length=slv p l.length cap/\ ∀ {W0 W:World} {bxs:List Bx},Hp W0 bxs W-> ∀k,nth bxs k=some (V.bx 82 (cellsOf l))->Cg W p l:=by
 obtain⟨p,cap,junk⟩:=V
 cases p with
 |none=>
  have h0:=hV.nil rfl
  refine⟨none,0,by rw[h0];rfl,fun _ _ _=> .inl (List.length_eq_zero_iff.1 h0)⟩
 |some g=>
  refine⟨some ⟨g,0,none⟩,cap,I,fun hp k hk=> .inr ⟨g,0,I,Gg.of_cells (Aj.of_bx hp k hk I).lt fun j u hj=> ?_⟩⟩
  refine(Aj.of_bx hp k hk I).get j u ?_
  show(cellsOf l++junk)[j]? =some u
  rw[List.getElem?_append_left (List.getElem?_eq_some_iff.1 hj).1]
  exact hj
def tot (rs:List (List Sd)):Nat:=(rs.map List.length).sum
theorem Gm (rs:List (List Sd)):rs.flatten.length=tot rs:=by simp[tot,List.length_flatten]
theorem LR {rs:List (List Sd)} {k:Nat} (hk:k<rs.length):(rs.take (k+1)).flatten=(rs.take k).flatten++rg rs k:=by
 rw[List.take_add_one,Bm hk];simp
theorem Cs (rs:List (List Sd)) (k:Nat):tot (rs.take k)<=tot rs:=by
 conv=>rhs;rw[<-List.take_append_drop k rs]
 unfold tot
 rw[List.map_append,List.sum_append];omega
theorem Bq {rs:List (List Sd)} {k:Nat} (hk:k<rs.length):tot (rs.take (k+1))=tot (rs.take k)+(rg rs k).length:=by
 rw[<-Gm, <-Gm,LR hk,List.length_append]
theorem K5 (W:World) (p:Option Addr) (cap:Nat) (rs:List (List Sd)) (hn:rs.length<4611686018427387904) (hT:tot rs<1099511627776) (hR:AL W p rs) (hne: ∀l∈rs,l≠[]):
  Ae Tryz.prog 92 #[slv p rs.length cap] W (fun V:Vec=>V.val rs.flatten.length) (fun V=>V.OK 7 rs.flatten.length (cellsOf rs.flatten)) (fun V=>[V.bx 82 (cellsOf rs.flatten)]):=by
 refine Ab Tryz.func92 I I I<|xb<|wP I<|xf<|wP I<|xk<|Ad I<|xa<|zH<|?_
 refine Av (X:=Nat) (fun k=>[(0,slv p rs.length cap),(3, .int .i64 (tot (rs.take k):Nat)),(9,slv p rs.length cap),(10, .int .i64 (rs.length:Nat)),(11, .int .i64 (k:Nat))]) (fun _=>[])
  (fun k=>k<=rs.length) (fun k=>rs.length-k) 0 (Nat.zero_le _) ⟨rfl,rfl,rfl,rfl,rfl,trivial⟩ [] rfl ?_
 intro k hk
 refine xb<|wP I<|xl<|Ag I (fun h=> ?_) (fun h=> ?_)
 ·have hk:k<rs.length:=by simp at h;omega
  clear h
  obtain⟨b,off,rfl,hrow⟩:=hR.row hk
  obtain⟨q,cap2,hq1,hq2⟩:=hrow k hk
  refine xh<|wJ ?_
  refine wL 0 I I (fun W hp=>hq1.hp hp) I<|wP I<|xf<|Ak I<|zC<|?_
  have hs:w64 ((tot (rs.take k):Nat)+((rg rs k).length:Nat))=(tot (rs.take (k+1)):Nat):=by
   have h1:=Bq hk
   have h2:=Cs rs (k+1)
   rw[Ar (by omega) (by omega)];omega
  exact xn<|Ap 3 _ I (congrArg (Value.int .i64) hs)<|Aa I<|xa<|zS I<|zI<|xi<|Aa I<|zC<|Al (k+1) hk (by omega) ⟨I,I,I,I,congrArg (fun z=>some (Value.int .i64 z)) (AM (x:=(k:Int)+1) (by omega) (by omega)),tO⟩ [] I
 ·have e:k=rs.length:=by simp at h;omega
  subst e
  clear h
  rw[List.take_length]
  refine xg<|xn<|wP I<|wD (X:=Vec) I I (fun W _=>Ul W (tot rs) hT) ?_
  rintro V0 ⟨hV0,hV0p⟩
  refine wP I<|xk<|Ad I<|xa<|zH<|?_
  refine Av (X:=Nat×Vec) (fun x=>[(6,x.2.val (tot (rs.take x.1))),(25,slv p rs.length cap),(26, .int .i64 (rs.length:Nat)),(27, .int .i64 (x.1:Nat))]) (fun x=>[x.2.bx 82 (cellsOf (rs.take x.1).flatten)])
   (fun x=>x.1<=rs.length/\x.2.OK 7 (tot (rs.take x.1)) (cellsOf (rs.take x.1).flatten)) (fun x=>rs.length-x.1) (0,V0) ⟨Nat.zero_le _,hV0⟩ ⟨rfl,rfl,rfl,rfl,trivial⟩ [] rfl ?_
  rintro⟨k,V⟩ ⟨hk,hV⟩
  refine xb<|wP I<|xl<|Ag I (fun h=> ?_) (fun h=> ?_)
  ·have hk:k<rs.length:=by simp at h;omega
   clear h
   obtain⟨b,off,rfl,hrow⟩:=hR.row hk
   obtain⟨q,cap2,hq1,hq2⟩:=hrow k hk
   refine xh<|wJ ?_
   refine wL 0 I I (fun W hp=>hq1.hp hp) I<|wP I<|xa<|zB<|Aa I<|?_
   obtain⟨b2,off2,rfl,hRk⟩: ∃b off,q=some ⟨b,off,none⟩/\Gg W b off (rg rs k):=by
    rcases hq2 with h|h
    ·exact absurd h (hne _ (List.mem_of_getElem? (Bm hk)))
    ·exact h
   have h1:=Bq hk
   have h2:=Cs rs (k+1)
   refine EW (len:=tot (rs.take k)) 0 Tryz.vec48 I I I I I I I I I hV (E3 (rg rs k)) (fun W hp j u hj=> ?_) (M3 _) (by simp only[maxLen];omega) (by omega) ?_
   ·have hR':Cg W (some ⟨b2,off2,none⟩) (rg rs k):=Cg.hp (.inr ⟨b2,off2,rfl,hRk⟩) hp
    rcases hR' with h|⟨b3,off3,e,hR'⟩
    ·exact absurd h (hne _ (List.mem_of_getElem? (Bm hk)))
    ·cases e
     rw[Addr.add_none]
     exact hR'.cells j u hj
   intro V' hV' _
   have e3:cellsOf (rs.take k).flatten++cellsOf (rg rs k)=cellsOf (rs.take (k+1)).flatten:=by rw[LR hk,IE]
   rw[e3, <-h1] at hV'
   rw[e3, <-h1]
   exact wP I<|zC<|xi<|Aa I<|zC<|Al (k+1,V') ⟨hk,hV'⟩ (by show rs.length-(k+1)<rs.length-k;omega) ⟨I,I,I,congrArg (fun z=>some (Value.int .i64 z)) (AM (x:=(k:Int)+1) (by omega) (by omega)),tO⟩ [] I
  ·have e:k=rs.length:=by simp at h;omega
   subst e
   rw[List.take_length] at hV
   rw[List.take_length]
   refine xg<|xn<|Aa I<|xc<|?_
   refine A3 tH I (.tmp I) V (by rw[Gm]) (by rw[Gm];exact hV) fun W hp=>Au.of_hp1 hp 0 I
def lox (t u:Sd):Int:=if u.x<t.x then u.x else t.x
def loy (t u:Sd):Int:=if u.y<t.y then u.y else t.y
def hix (t u:Sd):Int:=if u.x>t.x then u.x else t.x
def hiy (t u:Sd):Int:=if u.y>t.y then u.y else t.y
def bsd (rs:List (List Sd)) (q:Nat×Nat):Sd:=sd (rg rs q.1) q.2
def esd (rs:List (List Sd)) (q:Nat×Nat):Sd:=sd (rg rs q.1) (nxt (rg rs q.1).length q.2)
def CA (rs:List (List Sd)) (q:Nat×Nat):List Value:=[.int .i64 (lox (bsd rs q) (esd rs q)), .int .i64 (loy (bsd rs q) (esd rs q)), .int .i64 (hix (bsd rs q) (esd rs q)), .int .i64 (hiy (bsd rs q) (esd rs q))]
def Cj (q:Nat×Nat):List Value:=[.int .i64 (q.1:Nat), .int .i64 (q.2:Nat)]
def Bu (k j:Nat):List (Nat×Nat):=(List.range j).map fun i=>(k,i)
def AD (rs:List (List Sd)):Nat->List (Nat×Nat)
 |0=>[]
 |k+1=>AD rs k++Bu k (rg rs k).length
theorem WU (k j:Nat):Bu k (j+1)=Bu k j++[(k,j)]:=by simp[Bu,List.range_succ]
theorem N8 (k j:Nat):(Bu k j).length=j:=by simp[Bu]
theorem Jt (rs:List (List Sd)): ∀k,k<=rs.length->(AD rs k).length=tot (rs.take k)
 |0,_=>rfl
 |k+1,h=>by
  rw[Bq (by omega)]
  show(AD rs k++Bu k _).length=_
  rw[List.length_append,Jt rs k (by omega),N8]
theorem Q6 (rs:List (List Sd)): ∀k, ∀q∈AD rs k,q.1<k/\q.2<(rg rs q.1).length
 |0,q,h=>by cases h
 |k+1,q,h=>by
  rcases List.mem_append.1 h with h|h
  ·have:=Q6 rs k q h
   exact⟨by omega,this.2⟩
  ·obtain⟨i,hi,rfl⟩:=List.mem_map.1 h
   exact⟨Nat.lt_succ_self k,List.mem_range.1 hi⟩
def nbB (n:Nat) (q q':Nat×Nat):Bool:=(q.1==q'.1)&&(((q.2:Int)-q'.2==1)||((q.2:Int)-q'.2==(n:Int)-1))
def EV (t u t' u':Sd):Bool:=decide (lox t u<=hix t' u')&&decide (lox t' u'<=hix t u)&&decide (loy t u<=hiy t' u')&&decide (loy t' u'<=hiy t u)
def Do (rs:List (List Sd)) (q q':Nat×Nat):Bool:= !nbB (rg rs q.1).length q q'&&EV (bsd rs q) (esd rs q) (bsd rs q') (esd rs q')
def pl (rs:List (List Sd)) (i:Nat):Nat×Nat:=(AD rs rs.length).getD i (0,0)
def crs (rs:List (List Sd)):Bool:=(List.range (tot rs)).any fun i=>(List.range i).any fun k=>Do rs (pl rs i) (pl rs k)
theorem Ta {α:Type} (f:α->List Value) (n:Nat) (hf: ∀x,(f x).length=n): ∀(l:List α) (i:Nat) (x:α),l[i]? =some x-> ∀(j:Nat) (u:Value),(f x)[j]? =some u->(l.flatMap f)[i*n+j]? =some u
 |[],i,x,h,_,_,_=>by simp at h
 |y::l,0,x,h,j,u,hu=>by
  obtain rfl:y=x:=by simpa using h
  rw[List.flatMap_cons,Nat.zero_mul,Nat.zero_add,List.getElem?_append_left (List.getElem?_eq_some_iff.1 hu).1]
  exact hu
 |y::l,i+1,x,h,j,u,hu=>by
  rw[List.flatMap_cons,List.getElem?_append_right (by rw[hf];rw[Nat.add_mul];omega),hf]
  rw[show(i+1)*n+j-n=i*n+j by rw[Nat.add_mul];omega]
  exact Ta f n hf l i x (by simpa using h) j u hu
theorem Vec.rowAt {α:Type} {f:α->List Value} {n:Nat} (hf: ∀x,(f x).length=n) {l:List α} {g cap:Nat} {junk:List Value} {e:TypeId} {W0 W:World} {bxs:List Bx} (hp:Hp W0 bxs W) (k:Nat) (hk:nth bxs k=some ((⟨some g,cap,junk⟩:Vec).bx e (l.flatMap f))) {i:Nat} {x:α} (hi:l[i]? =some x):
  Aj W g (0+i*n) (f x):=by
 have h:=Aj.of_bx hp k hk rfl
 refine⟨h.lt,fun j u hu=> ?_⟩
 have h1:=Ta f n hf l i x hi j u hu
 have:=h.get (i*n+j) u (by
  show(l.flatMap f++junk)[i*n+j]? =some u
  rw[List.getElem?_append_left (List.getElem?_eq_some_iff.1 h1).1]
  exact h1)
 rw[Nat.zero_add] at this⊢
 exact this
theorem Vec.val_eq {V:Vec} {size n:Nat} {xs:List Value} (h:V.OK size n xs):V.val n= .slice (V.p.map fun g=>⟨g,0,none⟩) n (match V.p with|none=>0|some _=>V.cap):=by
 obtain⟨p,cap,junk⟩:=V
 cases p with
 |none=>have:=h.nil rfl;subst this;rfl
 |some g=>rfl
theorem IB {n:Nat} {f:Nat->Bool} {k:Nat} (hk:k<n) (h:f k=true):(List.range n).any f=true:=List.any_eq_true.2 ⟨k,List.mem_range.2 hk,h⟩
theorem Ea {n:Nat} {f:Nat->Bool} (h: ∀k,k<n->f k=false):(List.range n).any f=false:=Bool.eq_false_iff.2 fun h2=>by
 obtain⟨k,hk,h3⟩:=List.any_eq_true.1 h2
 rw[h k (List.mem_range.1 hk)] at h3;cases h3
theorem NW (W:World) (p:Option Addr) (cap:Nat) (rs:List (List Sd)) (hn:rs.length<4611686018427387904) (hT:tot rs<1099511627776) (hl: ∀l∈rs,l.length<4611686018427387904) (hR:AL W p rs):
  Ae Tryz.prog 140 #[slv p rs.length cap] W (fun _:Unit=> .bool (crs rs)) (fun _=>True) (fun _=>[]):=by
 refine Ab Tryz.func140 I I I<|xb<|wP I<|xf<|wG I I fun _=>zC<|?_
 rename_i b3
 refine xn<|wG I I fun _=>zC<|?_
 rename_i b4
 refine zE<|xd<|Ad I<|xa<|zH<|?_
 iterate 2 refine C9 ?_
 refine QM ?_
 refine NR (X:=Nat×Vec×Vec×List Nat) (fun x=>x.2.2.2.map Dz) (fun x=>[(0,slv p rs.length cap),(3, .pointer (some ⟨b3,0,none⟩)),(4, .pointer (some ⟨b4,0,none⟩)),(14,slv p rs.length cap),(15, .int .i64 (rs.length:Nat)),(16, .int .i64 (x.1:Nat))])
  (fun x=>[⟨b3,244,[x.2.1.val (AD rs x.1).length],true,none⟩,⟨b4,245,[x.2.2.1.val (AD rs x.1).length],true,none⟩,x.2.1.bx 247 ((AD rs x.1).flatMap (CA rs)),x.2.2.1.bx 250 ((AD rs x.1).flatMap Cj),bag x.2.2.2])
  (fun x=>x.1<=rs.length/\x.2.1.OK 4 (AD rs x.1).length ((AD rs x.1).flatMap (CA rs))/\x.2.2.1.OK 2 (AD rs x.1).length ((AD rs x.1).flatMap Cj)) (fun x=>rs.length-x.1) (0,Vec.empty,Vec.empty,[])
  ⟨Nat.zero_le _,Vec.OK.empty 4,Vec.OK.empty 2⟩ rfl ⟨rfl,rfl,rfl,rfl,rfl,rfl,trivial⟩ [] rfl ?_
 rintro⟨k,V1,V2,ds⟩ ⟨hk0,hV10,hV20⟩
 have hk:k<=rs.length:=hk0
 have hV1:V1.OK 4 (AD rs k).length ((AD rs k).flatMap (CA rs)):=hV10
 have hV2:V2.OK 2 (AD rs k).length ((AD rs k).flatMap Cj):=hV20
 clear hk0 hV10 hV20
 refine xb<|wP I<|xl<|Ag I (fun h=> ?_) (fun h=> ?_)
 ·have hk:k<rs.length:=by simp at h;omega
  clear h
  obtain⟨b',off,rfl,hrow⟩:=hR.row hk
  obtain⟨q,cap2,hq1,hq2⟩:=hrow k hk
  have hlk:(rg rs k).length<4611686018427387904:=hl _ (List.mem_of_getElem? (Bm hk))
  refine xh<|wP I<|wJ ?_
  refine wL 0 I I (fun W hp=>hq1.hp hp) I<|wG I I fun _=>?_
  rename_i b5
  refine wS 5 I I I<|wP I<|xf<|wP I<|wD (X:=Nat) I I (fun W _=>F3 q (rg rs k).length cap2 W) ?_
  intro b _
  refine xa<|zH<|?_
  refine EQ (X:=Vec×Vec×Nat) (fun x=>[⟨b3,244,[x.1.val (AD rs k++Bu k x.2.2).length],true,none⟩,⟨b4,245,[x.2.1.val (AD rs k++Bu k x.2.2).length],true,none⟩,x.1.bx 247 ((AD rs k++Bu k x.2.2).flatMap (CA rs)),x.2.1.bx 250 ((AD rs k++Bu k x.2.2).flatMap Cj),bag ds,⟨b5,3,[.int .i64 (k:Nat)],true,none⟩,⟨b,48,[slv q (rg rs k).length cap2],true,none⟩])
   (fun j x=>x.2.2=j/\x.1.OK 4 (AD rs k++Bu k x.2.2).length ((AD rs k++Bu k x.2.2).flatMap (CA rs))/\x.2.1.OK 2 (AD rs k++Bu k x.2.2).length ((AD rs k++Bu k x.2.2).flatMap Cj)) (fun _ _=>False) (V1,V2,0) rfl (by kernel_rfl) (Gj b q cap2 (rg rs k) hlk) (fun _=>rfl)
   ⟨rfl,by show V1.OK 4 (AD rs k++Bu k 0).length _;rw[show AD rs k++Bu k 0=AD rs k by simp[Bu]];exact hV1,by show V2.OK 2 (AD rs k++Bu k 0).length _;rw[show AD rs k++Bu k 0=AD rs k by simp[Bu]];exact hV2⟩ []
   (by show _=_++[];rw[show AD rs k++Bu k (V1,V2,0).2.2=AD rs k by simp[Bu]];rfl) (fun j x W _ hp=>Eu.mk' hq2 hp 6 rfl) ?_ ?_ (fun _ _ _ _ _ h=>h.elim)
  ·rintro j' ⟨U1,U2,j⟩ d L rec hj ⟨e1,hU1,hU2⟩ hrec
   obtain rfl:j=j':=e1
   have hU1:U1.OK 4 (AD rs k++Bu k j).length ((AD rs k++Bu k j).flatMap (CA rs)):=hU1
   have hU2:U2.OK 2 (AD rs k++Bu k j).length ((AD rs k++Bu k j).flatMap Cj):=hU2
   have hlen:(AD rs k++Bu k (j+1)).length<=tot rs:=by
    rw[List.length_append,N8,Jt rs k (by omega)]
    have h1:=Bq hk
    have h2:=Cs rs (k+1)
    omega
   have hlen1:(AD rs k++Bu k (j+1)).length=(AD rs k++Bu k j).length+1:=by
    simp only[List.length_append,N8];omega
   have es:AD rs k++Bu k (j+1)=(AD rs k++Bu k j)++[(k,j)]:=by rw[WU,List.append_assoc]
   have eb1:(AD rs k++Bu k (j+1)).flatMap (CA rs)=(AD rs k++Bu k j).flatMap (CA rs)++CA rs (k,j):=by rw[es,List.flatMap_append];simp
   have eb2:(AD rs k++Bu k (j+1)).flatMap Cj=(AD rs k++Bu k j).flatMap Cj++Cj (k,j):=by rw[es,List.flatMap_append];simp
   refine xb<|wP I<|xa<|zB<|wG I I fun _=>wS 9 I I I<|zC<|?_
   rename_i b8
   refine BU 8 hrec I ?_
   refine ID ?_
   refine Lz (X:= {x:Vec×Vec//x.1.OK 4 (AD rs k++Bu k (j+1)).length ((AD rs k++Bu k (j+1)).flatMap (CA rs))/\x.2.OK 2 (AD rs k++Bu k (j+1)).length ((AD rs k++Bu k (j+1)).flatMap Cj)}) (fun _=>[(3, .pointer (some ⟨b3,0,none⟩)),(4, .pointer (some ⟨b4,0,none⟩))])
    (fun x=>[⟨b3,244,[x.1.1.val (AD rs k++Bu k (j+1)).length],true,none⟩,⟨b4,245,[x.1.2.val (AD rs k++Bu k (j+1)).length],true,none⟩,x.1.1.bx 247 ((AD rs k++Bu k (j+1)).flatMap (CA rs)),x.1.2.bx 250 ((AD rs k++Bu k (j+1)).flatMap Cj),bag ds,⟨b5,3,[.int .i64 (k:Nat)],true,none⟩,⟨b,48,[slv q (rg rs k).length cap2],true,none⟩,BL d,Bp L rec .busy none]) 6 [⟨b3,244,[U1.val (AD rs k++Bu k j).length],true,none⟩,⟨b4,245,[U2.val (AD rs k++Bu k j).length],true,none⟩,Gf,Gf,bag ds,⟨b5,3,[.int .i64 (k:Nat)],true,none⟩,⟨b,48,[slv q (rg rs k).length cap2],true,none⟩,BL d,Bp L rec .busy none,⟨b8,238,(Ig (sd (rg rs k) (prv (rg rs k).length j)) (sd (rg rs k) j) (sd (rg rs k) (nxt (rg rs k).length j))).cells.toList,true,none⟩] Tryz.mixed (by kernel_rfl) ?_ ?_
   ·refine qB 0 I I I<|qB 9 I I I<|qC I I (fun W _=>(Tx ..))<|qB 1 I I I<|qB 5 I I I<|qP I<|LO Tryz.hZ tH I I I I I I I I ?_
    refine BR<|wX<|RS.cons ?_ (RS.cons ?_ (RS.nil))
    ·(refine As Tryz.hZ tH rfl rfl rfl rfl rfl rfl rfl rfl rfl rfl rfl ?_;intro)
     refine zC<|Ah<|wX<|RS.cons ?_ (RS.cons ?_ (RS.nil))
     ·(first|refine AN 2 10 Tryz.vec244 (AD rs k++Bu k (j+1)).length ((AD rs k++Bu k (j+1)).flatMap (CA rs)) rfl rfl rfl rfl rfl rfl rfl rfl rfl rfl rfl hU1 rfl rfl hlen1.symm (by rw[eb1];rfl) (by simp only[maxLen];omega) (by omega) rfl ?_|refine AN 2 11 Tryz.vec244 (AD rs k++Bu k (j+1)).length ((AD rs k++Bu k (j+1)).flatMap (CA rs)) rfl rfl rfl rfl rfl rfl rfl rfl rfl rfl rfl hU1 rfl rfl hlen1.symm (by rw[eb1];rfl) (by simp only[maxLen];omega) (by omega) rfl ?_);intro g1 c1 j1 hU1'
      refine zC<|Ah<|wX<|wZ<|?_
      (refine As Tryz.hZ tH rfl rfl rfl rfl rfl rfl rfl rfl rfl rfl rfl ?_;intro)
      refine zC<|Ah<|wX<|wZ<|?_
      (first|refine AN 3 10 Tryz.vec245 (AD rs k++Bu k (j+1)).length ((AD rs k++Bu k (j+1)).flatMap Cj) rfl rfl rfl rfl rfl rfl rfl rfl rfl rfl rfl hU2 rfl rfl hlen1.symm (by rw[eb2];rfl) (by simp only[maxLen];omega) (by omega) rfl ?_|refine AN 3 11 Tryz.vec245 (AD rs k++Bu k (j+1)).length ((AD rs k++Bu k (j+1)).flatMap Cj) rfl rfl rfl rfl rfl rfl rfl rfl rfl rfl rfl hU2 rfl rfl hlen1.symm (by rw[eb2];rfl) (by simp only[maxLen];omega) (by omega) rfl ?_);intro g2 c2 j2 hU2'
      refine zC<|Ah<|wX<|wZ<|wS 0 I I I<|zC<|Ah<|wY<|wZ<|wS 1 I I I<|zC<|Ah<|AR I (by kernel_rfl) ?_
      exact A7 ⟨(⟨some g1,c1,j1⟩,⟨some g2,c2,j2⟩),hU1',hU2'⟩ ⟨I,I,tO⟩ [0,1,2,3,4,5,6,7,8] (by decide) I
     ·(refine As Tryz.hZ tH rfl rfl rfl rfl rfl rfl rfl rfl rfl rfl rfl ?_;intro)
      refine zC<|Ah<|wX<|wZ<|?_
      (first|refine AN 2 10 Tryz.vec244 (AD rs k++Bu k (j+1)).length ((AD rs k++Bu k (j+1)).flatMap (CA rs)) rfl rfl rfl rfl rfl rfl rfl rfl rfl rfl rfl hU1 rfl rfl hlen1.symm (by rw[eb1];rfl) (by simp only[maxLen];omega) (by omega) rfl ?_|refine AN 2 11 Tryz.vec244 (AD rs k++Bu k (j+1)).length ((AD rs k++Bu k (j+1)).flatMap (CA rs)) rfl rfl rfl rfl rfl rfl rfl rfl rfl rfl rfl hU1 rfl rfl hlen1.symm (by rw[eb1];rfl) (by simp only[maxLen];omega) (by omega) rfl ?_);intro g1 c1 j1 hU1'
      refine zC<|Ah<|wX<|wZ<|?_
      (first|refine AN 3 10 Tryz.vec245 (AD rs k++Bu k (j+1)).length ((AD rs k++Bu k (j+1)).flatMap Cj) rfl rfl rfl rfl rfl rfl rfl rfl rfl rfl rfl hU2 rfl rfl hlen1.symm (by rw[eb2];rfl) (by simp only[maxLen];omega) (by omega) rfl ?_|refine AN 3 11 Tryz.vec245 (AD rs k++Bu k (j+1)).length ((AD rs k++Bu k (j+1)).flatMap Cj) rfl rfl rfl rfl rfl rfl rfl rfl rfl rfl rfl hU2 rfl rfl hlen1.symm (by rw[eb2];rfl) (by simp only[maxLen];omega) (by omega) rfl ?_);intro g2 c2 j2 hU2'
      refine zC<|Ah<|wX<|wZ<|wS 0 I I I<|zC<|Ah<|wY<|wZ<|wS 1 I I I<|zC<|Ah<|AR I (by kernel_rfl) ?_
      exact A7 ⟨(⟨some g1,c1,j1⟩,⟨some g2,c2,j2⟩),hU1',hU2'⟩ ⟨I,I,tO⟩ [0,1,2,3,4,5,6,7,8] (by decide) I
    ·(refine As Tryz.hZ tH rfl rfl rfl rfl rfl rfl rfl rfl rfl rfl rfl ?_;intro)
     refine zC<|Ah<|wX<|wZ<|?_
     (refine As Tryz.hZ tH rfl rfl rfl rfl rfl rfl rfl rfl rfl rfl rfl ?_;intro)
     refine zC<|Ah<|wX<|wZ<|?_
     (first|refine AN 2 10 Tryz.vec244 (AD rs k++Bu k (j+1)).length ((AD rs k++Bu k (j+1)).flatMap (CA rs)) rfl rfl rfl rfl rfl rfl rfl rfl rfl rfl rfl hU1 rfl rfl hlen1.symm (by rw[eb1];rfl) (by simp only[maxLen];omega) (by omega) rfl ?_|refine AN 2 11 Tryz.vec244 (AD rs k++Bu k (j+1)).length ((AD rs k++Bu k (j+1)).flatMap (CA rs)) rfl rfl rfl rfl rfl rfl rfl rfl rfl rfl rfl hU1 rfl rfl hlen1.symm (by rw[eb1];rfl) (by simp only[maxLen];omega) (by omega) rfl ?_);intro g1 c1 j1 hU1'
     refine zC<|Ah<|wX<|wZ<|?_
     (first|refine AN 3 10 Tryz.vec245 (AD rs k++Bu k (j+1)).length ((AD rs k++Bu k (j+1)).flatMap Cj) rfl rfl rfl rfl rfl rfl rfl rfl rfl rfl rfl hU2 rfl rfl hlen1.symm (by rw[eb2];rfl) (by simp only[maxLen];omega) (by omega) rfl ?_|refine AN 3 11 Tryz.vec245 (AD rs k++Bu k (j+1)).length ((AD rs k++Bu k (j+1)).flatMap Cj) rfl rfl rfl rfl rfl rfl rfl rfl rfl rfl rfl hU2 rfl rfl hlen1.symm (by rw[eb2];rfl) (by simp only[maxLen];omega) (by omega) rfl ?_);intro g2 c2 j2 hU2'
     refine zC<|Ah<|wX<|wZ<|wS 0 I I I<|zC<|Ah<|wY<|wZ<|wS 1 I I I<|zC<|Ah<|AR I (by kernel_rfl) ?_
     exact A7 ⟨(⟨some g1,c1,j1⟩,⟨some g2,c2,j2⟩),hU1',hU2'⟩ ⟨I,I,tO⟩ [0,1,2,3,4,5,6,7,8] (by decide) I
   ·rintro⟨⟨U1',U2'⟩,hU1',hU2'⟩
    exact zN<|By 8 (U1',U2',j+1) hrec I ⟨I,hU1',hU2'⟩ [] I
  ·rintro⟨U1,U2,j⟩ d L rec ⟨e1,hU1,hU2⟩
   obtain rfl:j=(rg rs k).length:=e1
   refine zN<|xi<|Aa I<|zC<|UA 4 7 I I ?_
   exact Lg (X:=Nat×Vec×Vec×List Nat) (k+1,U1,U2,d::ds) ⟨hk,hU1,hU2⟩ (by show rs.length-(k+1)<rs.length-k;omega) I ⟨I,I,I,I,I,congrArg (fun z=>some (Value.int .i64 z)) (AM (x:=(k:Int)+1) (by omega) (by omega)),tO⟩ [0,1,2,3,4] (by decide) I
 ·have e:k=rs.length:=by simp at h;omega
  subst e
  clear h hk
  have hpl:(AD rs rs.length).length=tot rs:=by rw[Jt rs _ (Nat.le_refl _),List.take_length]
  have hget: ∀i,i<tot rs->(AD rs rs.length)[i]? =some (pl rs i):=fun i hi=>by
   rw[<-hpl] at hi
   simp[pl,hi]
  have hmem: ∀i,i<tot rs->(pl rs i).1<rs.length/\(pl rs i).2<(rg rs (pl rs i).1).length:=fun i hi=>Q6 rs _ _ (List.mem_of_getElem? (hget i hi))
  rw[hpl] at hV1 hV2
  have hR2:=hR
  have hm62:tot rs<1099511627776:=hT
  refine xg<|zE<|xd<|wB 0 I I I<|Ap 37 (.slice (V1.p.map fun g=>⟨g,0,none⟩) (tot rs) (match V1.p with|none=>0|some _=>V1.cap)) I (show V1.val (AD rs rs.length).length=_ by rw[hpl];exact Vec.val_eq hV1)<|Aa I<|xa<|zH<|?_
  refine Av (X:=Nat) (fun i=>[(0,slv p rs.length cap),(3, .pointer (some ⟨b3,0,none⟩)),(4, .pointer (some ⟨b4,0,none⟩)),(38, .int .i64 (tot rs:Nat)),(39, .int .i64 (i:Nat))])
   (fun _=>[⟨b3,244,[V1.val (tot rs)],true,none⟩,⟨b4,245,[V2.val (tot rs)],true,none⟩,V1.bx 247 ((AD rs rs.length).flatMap (CA rs)),V2.bx 250 ((AD rs rs.length).flatMap Cj),bag ds])
   (fun i=>i<=tot rs/\ ∀i',i'<i->((List.range i').any fun k=>Do rs (pl rs i') (pl rs k))=false) (fun i=>tot rs-i) 0 ⟨Nat.zero_le _,fun j hj=>absurd hj (Nat.not_lt_zero _)⟩ ⟨rfl,rfl,rfl,rfl,rfl,trivial⟩ []
   (by show _=_++[];rw[hpl];rfl) ?_
  rintro i ⟨hi,hno⟩
  refine xb<|wP I<|xl<|Ag I (fun h=> ?_) (fun h=> ?_)
  rotate_left
  ·have e:i=tot rs:=by simp at h;omega
   subst e
   refine xg<|xn<|wP I<|xc<|II 4 ds I ?_
   have hf:crs rs=false:=Ea hno
   exact wR1 I I (by rw[hf])
  have hi:i<tot rs:=by simp at h;omega
  clear h
  obtain⟨p1,cap1,junk1⟩:=V1
  obtain⟨p2,cap3,junk2⟩:=V2
  cases p1 with
  |none=>exact absurd (hV1.nil rfl) (Nat.ne_of_gt (Nat.lt_of_le_of_lt (Nat.zero_le i) hi))
  |some g1=>
  cases p2 with
  |none=>exact absurd (hV2.nil rfl) (Nat.ne_of_gt (Nat.lt_of_le_of_lt (Nat.zero_le i) hi))
  |some g2=>
  refine xh<|Aa I<|xf<|Aa I<|xa<|zH<|?_
  refine Av (X:=Nat) (fun k=>[(0,slv p rs.length cap),(3, .pointer (some ⟨b3,0,none⟩)),(4, .pointer (some ⟨b4,0,none⟩)),(38, .int .i64 (tot rs:Nat)),(39, .int .i64 (i:Nat)),(9, .int .i64 (i:Nat)),(42, .int .i64 (i:Nat)),(43, .int .i64 (k:Nat))])
   (fun _=>[⟨b3,244,[slv (some ⟨g1,0,none⟩) (tot rs) cap1],true,none⟩,⟨b4,245,[slv (some ⟨g2,0,none⟩) (tot rs) cap3],true,none⟩,(⟨some g1,cap1,junk1⟩:Vec).bx 247 ((AD rs rs.length).flatMap (CA rs)),(⟨some g2,cap3,junk2⟩:Vec).bx 250 ((AD rs rs.length).flatMap Cj),bag ds])
   (fun k=>k<=i/\ ∀k',k'<k->Do rs (pl rs i) (pl rs k')=false) (fun k=>i-k) 0 ⟨Nat.zero_le _,fun j hj=>absurd hj (Nat.not_lt_zero _)⟩ ⟨rfl,rfl,rfl,rfl,rfl,rfl,rfl,rfl,trivial⟩ [] rfl ?_
  rintro k ⟨hk,hnok⟩
  refine xb<|wP I<|xl<|Ag I (fun h=> ?_) (fun h=> ?_)
  rotate_left
  ·have e:k=i:=by simp at h;omega
   subst e
   refine xg<|xi<|Aa I<|zC<|Al (k+1) ⟨hi,fun i' hi'=> ?_⟩ (by omega) ⟨I,I,I,I,congrArg (fun z=>some (Value.int .i64 z)) (AM (x:=(k:Int)+1) (by omega) (by omega)),tO⟩ [] I
   by_cases e:i'=k
   ·subst e;exact Ea hnok
   ·exact hno i' (by omega)
  have hk:k<i:=by simp at h;omega
  clear h
  have hkt:k<tot rs:=by omega
  obtain⟨hi1,hi2⟩:=hmem i hi
  obtain⟨hk1,hk2⟩:=hmem k hkt
  obtain⟨b',off,rfl,hrow⟩:=hR.row hi1
  obtain⟨q,cap2,hq1,hq2⟩:=hrow _ hi1
  have hlk:(rg rs (pl rs i).1).length<4611686018427387904:=hl _ (List.mem_of_getElem? (Bm hi1))
  have hlk2:(rg rs (pl rs k).1).length<4611686018427387904:=hl _ (List.mem_of_getElem? (Bm hk1))
  refine xh<|Aa I<|xf<|wP I<|wB 1 I I I<|wP I<|wJ ?_
  refine wP I<|wL 0 I I (fun W hp=>Vec.rowAt (f:=Cj) (n:=2) (fun _=>rfl) hp 3 I (hget i hi)) I<|wJ ?_
  refine wL 0 I I (fun W hp=>hq1.hp hp) I<|Aa I<|xl<|zU<|qB 1 I I I<|qP I<|qJ ?_
  refine qP I<|qL 1 I I (fun W hp=>Vec.rowAt (f:=Cj) (n:=2) (fun _=>rfl) hp 3 I (hget i hi)) I<|qB 1 I I I<|qP I<|qJ ?_
  refine qP I<|qL 1 I I (fun W hp=>Vec.rowAt (f:=Cj) (n:=2) (fun _=>rfl) hp 3 I (hget k hkt)) I<|Ay I<|zD<|zC<|?_
  have egap:w64 (((pl rs i).2:Nat)-((pl rs k).2:Nat))=((pl rs i).2:Int)-(pl rs k).2:=Ar (by omega) (by omega)
  have en1:w64 (((rg rs (pl rs i).1).length:Nat)-1)=((rg rs (pl rs i).1).length:Int)-1:=Ar (by omega) (by omega)
  refine zE<|Bh 12 _ I (congrArg (Value.int .i64) egap) ?_
  refine GR (X:=Unit) (fun _=>[(0,slv (some ⟨b',off,none⟩) rs.length cap),(3, .pointer (some ⟨b3,0,none⟩)),(4, .pointer (some ⟨b4,0,none⟩)),(38, .int .i64 (tot rs:Nat)),(39, .int .i64 (i:Nat)),(9, .int .i64 (i:Nat)),(10, .int .i64 (k:Nat)),(42, .int .i64 (i:Nat)),(43, .int .i64 (k:Nat)),(13, .bool (nbB (rg rs (pl rs i).1).length (pl rs i) (pl rs k)))])
   (fun _=>[⟨b3,244,[slv (some ⟨g1,0,none⟩) (tot rs) cap1],true,none⟩,⟨b4,245,[slv (some ⟨g2,0,none⟩) (tot rs) cap3],true,none⟩,(⟨some g1,cap1,junk1⟩:Vec).bx 247 ((AD rs rs.length).flatMap (CA rs)),(⟨some g2,cap3,junk2⟩:Vec).bx 250 ((AD rs rs.length).flatMap Cj),bag ds]) (fun _=>True) ?_ ?_
  ·refine zU<|qB 1 I I I<|qP I<|qJ ?_
   refine qP I<|qL 0 I I (fun W hp=>Vec.rowAt (f:=Cj) (n:=2) (fun _=>rfl) hp 3 I (hget i hi)) I<|qB 1 I I I<|qP I<|qJ ?_
   refine qP I<|qL 0 I I (fun W hp=>Vec.rowAt (f:=Cj) (n:=2) (fun _=>rfl) hp 3 I (hget k hkt)) I<|Ay I<|?_
   have e1:((((pl rs i).1:Nat):Int)==(((pl rs k).1:Nat):Int))=((pl rs i).1==(pl rs k).1):=by
    by_cases h:(pl rs i).1=(pl rs k).1
    ·rw[h,beq_self_eq_true,beq_self_eq_true]
    ·have h1:(((pl rs i).1:Nat):Int)≠(pl rs k).1:=by omega
     rw[beq_eq_false_iff_ne.2 h1,beq_eq_false_iff_ne.2 h]
   refine HD 77 I (fun h77=> ?_) (fun h77=> ?_)
   ·have h77':((pl rs i).1==(pl rs k).1)=true:=e1.symm.trans h77
    refine AY I<|HD 80 I (fun h80=> ?_) (fun h80=> ?_)
    ·have e:nbB (rg rs (pl rs i).1).length (pl rs i) (pl rs k)=true:=by
      have h80':(((pl rs i).2:Int)-(pl rs k).2==1)=true:=h80
      unfold nbB;rw[h77',h80'];rfl
     iterate 4 refine Bi I I ?_
     exact AY I<|zD<|zC<|Ao () tO ⟨I,I,I,I,I,I,I,I,I,by rw[e];rfl,tO⟩ [] I
    ·have e:nbB (rg rs (pl rs i).1).length (pl rs i) (pl rs k)=(((pl rs i).2:Int)-(pl rs k).2==w64 (((rg rs (pl rs i).1).length:Nat)-1)):=by
      have h80':(((pl rs i).2:Int)-(pl rs k).2==1)=false:=h80
      unfold nbB;rw[h77',h80',en1];rfl
     exact Mc I<|qP I<|zD<|zC<|Ao () tO ⟨I,I,I,I,I,I,I,I,I,by rw[e];rfl,tO⟩ [] I
   ·have h77':((pl rs i).1==(pl rs k).1)=false:=e1.symm.trans h77
    have e:nbB (rg rs (pl rs i).1).length (pl rs i) (pl rs k)=false:=by unfold nbB;rw[h77'];rfl
    iterate 8 refine Bi I I ?_
    exact Ay I<|zD<|zC<|Ao () tO ⟨I,I,I,I,I,I,I,I,I,by rw[e];rfl,tO⟩ [] I
  intro _ _
  have next:Do rs (pl rs i) (pl rs k)=false-> ∀k',k'<k+1->Do rs (pl rs i) (pl rs k')=false:=fun h k' hk'=>by
   by_cases e:k'=k
   ·subst e;exact h
   ·exact hnok k' (by omega)
  refine zA<|zU<|AY I<|HD 89 I (fun h89=> ?_) (fun h89=> ?_)
  ·have hnb:nbB (rg rs (pl rs i).1).length (pl rs i) (pl rs k)=false:=by simpa using h89
   refine qB 0 I I I<|qP I<|qJ ?_
   refine qL 0 I I (fun W hp=>Vec.rowAt (f:=CA rs) (n:=4) (fun _=>rfl) hp 2 I (hget i hi)) I<|qB 0 I I I<|qP I<|qJ ?_
   refine qL 0 I I (fun W hp=>Vec.rowAt (f:=CA rs) (n:=4) (fun _=>rfl) hp 2 I (hget k hkt)) I<|qC I I (fun W _=>(S9 ..))<|qP I<|zD<|xa<|Ag I (fun h=> ?_) (fun h=> ?_)
   ·refine xb<|wP I<|xc<|xj<|xj<|zP<|II 4 ds I ?_
    have hf:crs rs=true:=IB hi (IB hk (by unfold Do;rw[hnb];exact h))
    exact wR1 I I (by rw[hf])
   ·exact zI<|xi<|Aa I<|zC<|Al (k+1) ⟨hk,next (by unfold Do;rw[hnb];exact h)⟩ (by omega) ⟨I,I,I,I,I,I,I,congrArg (fun z=>some (Value.int .i64 z)) (AM (x:=(k:Int)+1) (by omega) (by omega)),tO⟩ [] I
  ·have hnb:nbB (rg rs (pl rs i).1).length (pl rs i) (pl rs k)=true:=by simpa using h89
   iterate 9 refine Bi I I ?_
   exact qP I<|zD<|xa<|zS I<|zI<|xi<|Aa I<|zC<|Al (k+1) ⟨hk,next (by unfold Do;rw[hnb];rfl)⟩ (by omega) ⟨I,I,I,I,I,I,I,congrArg (fun z=>some (Value.int .i64 z)) (AM (x:=(k:Int)+1) (by omega) (by omega)),tO⟩ [] I
def UZ (s t u:Sd):Bool:=
 !((w64 (u.x-t.x)==0)==(w64 (u.y-t.y)==0))&& !((w64 (t.x-s.x)==0)==(w64 (u.x-t.x)==0))
def HZ (l:List Sd) (k:Nat):Bool:=UZ (sd l (prv l.length k)) (sd l k) (sd l (nxt l.length k))
def shp (l:List Sd):Bool:=decide (4<=l.length)&&(List.range l.length).all (HZ l)
theorem Xf {l:List Sd} {k:Nat} (hk:k<l.length) (h:HZ l k=false):shp l=false:=by
 unfold shp
 have:(List.range l.length).all (HZ l)=false:=by
  apply Bool.eq_false_iff.2
  intro h2
  have:=List.all_eq_true.1 h2 k (List.mem_range.2 hk)
  rw[h] at this;cases this
 rw[this,Bool.and_false]
theorem QT (W:World) (p:Option Addr) (cap:Nat) (l:List Sd) (hn:l.length<4611686018427387904) (hR:Cg W p l):
  Ae Tryz.prog 139 #[slv p l.length cap] W (fun _:Unit=> .bool (shp l)) (fun _=>True) (fun _=>[]):=by
 refine Ab Tryz.func139 I I I<|xb<|B6 (z:= .bool false) I I I (fun W=>by kernel_rfl) fun b2=> ?_
 refine xa<|GR (X:=Unit) (fun _=>[(0,slv p l.length cap),(2, .pointer (some ⟨b2,0,none⟩))]) (fun _=>[⟨b2,4,[.bool false],true,none⟩]) (fun _=>4<=l.length) ?_ ?_
 ·(refine Ba ?_;refine Et ?_)
  refine Ad I<|xa<|Ag I (fun h=> ?_) (fun h=> ?_)
  ·refine xb<|wS 0 I I I<|xo<|?_
   have hs:shp l=false:=by simp at h;simp[shp];omega
   exact A3 tH I (.cell 0 I I I I I) () (by rw[hs]) tO fun W _=>Au.nil _ _
  ·exact zI<|Ao () (by simp at h;omega) ⟨I,I,tO⟩ [] I
 intro _ h4
 refine xd<|wP I<|wD (X:=Nat) I I (fun W _=>F3 p l.length cap W) ?_
 intro b _
 refine xa<|zH<|EQ (X:=Bool×Nat) (fun x=>[⟨b2,4,[.bool x.1],true,none⟩,⟨b,48,[slv p l.length cap],true,none⟩]) (fun k x=>x.1=false/\x.2=k/\ ∀i,i<k->HZ l i=true) (fun c x=>c= .ret/\x.1=false/\ ∃k,k<l.length/\HZ l k=false) (false,0) I (by kernel_rfl) (Gj b p cap l hn) (fun _=>rfl) ⟨I,I,fun i hi=>by omega⟩ [] I (fun k x W _ hp=>Eu.mk' hR hp 1 I) ?_ ?_ ?_
 ·rintro k ⟨_,_⟩ d L rec hk ⟨rfl,rfl,hok⟩ hrec
  rename_i k
  refine zB<|B6 (z:=Ig default default default) I I I (fun W=>by kernel_rfl) fun b4=> ?_
  refine wS 4 I I I<|zC<|BU 3 hrec I ?_
  refine zH<|zA<|?_
  refine NI (X:=Nat×Nat) (fun x=>[(2, .pointer (some ⟨b2,0,none⟩)),(5, .pointer (some ⟨x.1,0,none⟩)),(6, .pointer (some ⟨x.2,0,none⟩))])
   (fun x=>[⟨b2,4,[.bool false],true,none⟩,⟨b,48,[slv p l.length cap],true,none⟩,BL d,Bp L rec .busy none,⟨b4,238,(Ig (sd l (prv l.length k)) (sd l k) (sd l (nxt l.length k))).cells.toList,true,none⟩,
    ⟨x.1,240,(spot (w64 ((sd l k).x-(sd l (prv l.length k)).x)) (w64 ((sd l k).y-(sd l (prv l.length k)).y))).cells.toList,true,none⟩,
    ⟨x.2,240,(spot (w64 ((sd l (nxt l.length k)).x-(sd l k).x)) (w64 ((sd l (nxt l.length k)).y-(sd l k).y))).cells.toList,true,none⟩]) 4 Tryz.mixed (by kernel_rfl) ?_ ?_
  ·refine qP I<|qB 4 I I I<|qC I I (fun W _=>BD (sd l (prv l.length k)) W)<|qP I<|qB 4 I I I<|qC I I (fun W _=>BD (sd l k) W)<|qC I I (fun W _=>Ow _ _ _ _ W)<|qB 4 I I I<|qC I I (fun W _=>LM (sd l (prv l.length k)) (sd l k) (sd l (nxt l.length k)) W)<|zG<|wX<|RS.cons ?_ (RS.cons ?_ RS.nil)
   ·refine B6 (z:=spot 0 0) I I I (fun W=>by kernel_rfl) fun bA=> ?_
    refine zC<|zF<|wX<|RS.cons ?_ RS.nil
    refine B6 (z:=spot 0 0) I I I (fun W=>by kernel_rfl) fun bB=> ?_
    refine zC<|zF<|wX<|RS.cons ?_ RS.nil
    refine wS 5 I I I<|zC<|zF<|wX<|RS.cons ?_ RS.nil
    refine wS 6 I I I<|zC<|zF<|?_
    refine AF I (by((repeat (first|refine AK.same ?_|refine AK.off I ?_));exact tO)) ?_
    exact A7 (bA,bB) ⟨I,I,I,tO⟩ [0,1,2,3,4,5,6] (by decide) I
   ·refine B6 (z:=spot 0 0) I I I (fun W=>by kernel_rfl) fun bB=> ?_
    refine zC<|zF<|wX<|RS.cons ?_ RS.nil
    refine B6 (z:=spot 0 0) I I I (fun W=>by kernel_rfl) fun bA=> ?_
    refine zC<|zF<|wX<|RS.cons ?_ RS.nil
    refine wS 6 I I I<|zC<|zF<|wX<|RS.cons ?_ RS.nil
    refine wS 5 I I I<|zC<|zF<|?_
    refine AF I (by((repeat (first|refine AK.same ?_|refine AK.off I ?_));exact tO)) ?_
    exact A7 (bA,bB) ⟨I,I,I,tO⟩ [0,1,2,3,4,6,5] (by decide) I
  rintro⟨bA,bB⟩
  refine xn<|wP I<|wB 6 I I I<|Aa I<|wB 6 I I I<|wP I<|EE Tryz.underlying4 I I I I I I ?_
  refine wP I<|AI 30 I (fun h30=> ?_) (fun h30=> ?_)
  ·refine Af I I ?_
   iterate 6 refine Af I I ?_
   refine wP I<|xa<|zR I<|xb<|wS 0 I I I<|xc<|zQ<|DF 3 (false,k) hrec I ⟨I,I,k,hk, ?_⟩ [_,_,_] I
   simp[HZ,UZ] at h30⊢
   simp[h30]
  ·refine wP I<|wB 5 I I I<|Aa I<|wB 6 I I I<|wP I<|EE Tryz.underlying4 I I I I I I ?_
   refine wP I<|xa<|Ag I (fun h=> ?_) (fun h=> ?_)
   ·refine xb<|wS 0 I I I<|xc<|zQ<|DF 3 (false,k) hrec I ⟨I,I,k,hk, ?_⟩ [_,_,_] I
    simp[HZ,UZ] at h⊢
    intro _
    exact h
   ·refine zI<|zN<|By 3 (false,k+1) hrec I ⟨I,I,fun i hi=> ?_⟩ [_,_,_] I
    by_cases e:i=k
    ·subst e
     show UZ _ _ _=true
     unfold UZ
     rw[Bool.and_eq_true,Bool.not_eq_true',Bool.not_eq_true']
     exact⟨h30,h⟩
    ·exact hok i (by show i<k;have:i<k+1:=hi;omega)
 ·rintro⟨_,_⟩ d L rec ⟨rfl,rfl,hok⟩
  refine zN<|xn<|wS 0 I I I<|xc<|Co 2 I ?_
  have hs:shp l=true:=by simp only[shp,Bool.and_eq_true,decide_eq_true_eq,List.all_eq_true];exact⟨h4,fun i hi=>hok i (List.mem_range.1 hi)⟩
  exact A3 tH I (.cell 0 I I I I I) () (by rw[hs]) tO fun W _=>Au.nil _ _
 ·rintro⟨_,_⟩ d L rec c ⟨rfl,rfl,k,hk,hf⟩
  refine zO<|zQ<|zP<|Co 2 I ?_
  have hs:=Xf hk hf
  exact A3 tH I (.cell 0 I I I I I) () (by rw[hs]) tO fun W _=>Au.nil _ _
def btw (n a b:Int):Bool:=decide (a<=n)&&decide (n<=b)
theorem GT (n a b:Int):Be Tryz.prog 197 [.int .i64 n, .int .i64 a, .int .i64 b] (.bool (btw n a b)):=by
 intro W
 refine Ab Tryz.func197 I I I<|xb<|wP I<|xf<|At I<|AI 10 I (fun h10=> ?_) (fun h10=> ?_)
 ·exact Ak I<|xc<|wR1 I I (by simp_all [btw])
 ·refine Af I I ?_
  iterate 2 refine Af I I ?_
  exact Aa I<|xc<|wR1 I I (by simp_all [btw]<;>intros<;>omega)
def rgd (s:Sd):Bool:=(if s.gable then s.rise==0&&s.run==0 else btw s.rise 1 48&&btw s.run 1 48)&&(btw s.x 0 65536&&btw s.y 0 65536&&btw s.plate 0 65536&&btw s.over 0 65536)
def num (s:Sd):Nat->Int
 |0=>s.x
 |1=>s.y
 |2=>s.plate
 |_=>s.over
theorem Sk (s:Sd):Be Tryz.prog 136 [s.val] (.bool (rgd s)):=by
 intro W
 refine Ab Tryz.func136 I I I ?_
 (refine Ba ?_;refine Et ?_)
 refine wF I I fun _=>wP I<|xa<|?_
 rename_i b1
 refine GR (X:=Unit) (fun _=>[(1, .pointer (some ⟨b1,0,none⟩))]) (fun _=>[⟨b1,82,s.cells,true,none⟩]) (fun _=>(if s.gable then s.rise==0&&s.run==0 else btw s.rise 1 48&&btw s.run 1 48)=true) ?_ ?_
 ·(refine Ba ?_;refine Et ?_)
  refine wP I<|wB 0 I I I<|xa<|Ag I (fun hg=> ?_) (fun hg=> ?_)
  ·(refine Ba ?_;refine Et ?_)
   refine wP I<|wB 0 I I I<|Aa I<|AI 10 I (fun h10=> ?_) (fun h10=> ?_)
   ·refine Af I I ?_
    iterate 2 refine Af I I ?_
    exact wP I<|xa<|zR I<|xb<|wP I<|xo<|wR1 I I (by simp_all [rgd])
   ·refine wP I<|wB 0 I I I<|Aa I<|xa<|Ag I (fun h14=> ?_) (fun h14=> ?_)
    ·exact xb<|wP I<|xo<|wR1 I I (by simp_all [rgd])
    ·exact zI<|Ao () (by simp_all) ⟨I,tO⟩ [] I
  ·(refine Ba ?_;refine Et ?_)
   refine wP I<|wB 0 I I I<|wC I I (fun W _=>GT _ _ _ W)<|Aa I<|AI 19 I (fun h19=> ?_) (fun h19=> ?_)
   ·refine Af I I ?_
    iterate 3 refine Af I I ?_
    exact wP I<|xa<|zR I<|xb<|wP I<|xo<|wR1 I I (by simp_all [rgd])
   ·refine wP I<|wB 0 I I I<|wC I I (fun W _=>GT _ _ _ W)<|Aa I<|xa<|Ag I (fun h14=> ?_) (fun h14=> ?_)
    ·exact xb<|wP I<|xo<|wR1 I I (by simp_all [rgd])
    ·exact zI<|Ao () (by simp_all) ⟨I,tO⟩ [] I
 ·intro _ hg
  refine xd<|wP I<|wB 0 I I I<|wP I<|wB 0 I I I<|wP I<|wB 0 I I I<|wP I<|wB 0 I I I<|Jg (.int .i64 0) tH I I I I I (fun W=>by kernel_rfl) I I (by rfl) (by rfl) I fun b33=> ?_
  refine Aa I<|xa<|zH<|?_
  refine Av (X:=Nat) (fun k=>[(33, .slice (some ⟨b33,0,none⟩) 4 4),(34, .int .i64 4),(35, .int .i64 (k:Nat))]) (fun _=>[⟨b1,82,s.cells,true,none⟩,⟨b33,3,[.int .i64 s.x, .int .i64 s.y, .int .i64 s.plate, .int .i64 s.over],true,none⟩])
   (fun k=>k<=4/\ ∀i,i<k->btw (num s i) 0 65536=true) (fun k=>4-k) 0 ⟨by omega,fun i hi=>by omega⟩ ⟨rfl,rfl,rfl,trivial⟩ [] rfl ?_
  rintro k ⟨hk,hin⟩
  (refine Ba ?_;refine Et ?_)
  refine wP I<|xa<|GR (X:=Unit) (fun _=>[(33, .slice (some ⟨b33,0,none⟩) 4 4),(34, .int .i64 4),(35, .int .i64 (k:Nat))]) (fun _=>[⟨b1,82,s.cells,true,none⟩,⟨b33,3,[.int .i64 s.x, .int .i64 s.y, .int .i64 s.plate, .int .i64 s.over],true,none⟩]) (fun _=>k<4) ?_ ?_
  ·skip
   refine Ag I (fun h=> ?_) (fun h=> ?_)
   ·exact zI<|Ao () (by simp at h;omega) ⟨I,I,I,tO⟩ [] I
   ·refine xg<|xn<|wP I<|xc<|?_
    have:k=4:=by simp at h;omega
    subst this
    exact wR1 I I (by have h0:=hin 0 (by omega);have h1:=hin 1 (by omega);have h2:=hin 2 (by omega);have h3:=hin 3 (by omega);simp only[num] at h0 h1 h2 h3;simp[rgd,h0,h1,h2,h3,hg])
  ·intro _ hk
   refine zA<|zH<|xb<|wJ ?_
   refine QW (v:= .int .i64 (num s k)) I I I I (fun W hp=>No (k:=1) tH I I I (by
    match k,hk with
    |0,_=>rfl
    |1,_=>rfl
    |2,_=>rfl
    |3,_=>rfl) W hp) ?_
   refine wP I<|xf<|wP I<|wC I I (fun W _=>GT _ _ _ W)<|wP I<|xa<|Ag I (fun h=> ?_) (fun h=> ?_)
   ·refine xb<|wP I<|xc<|xj<|zP<|?_
    have h:btw (num s k) 0 65536=false:=by simpa using h
    have hr:rgd s=false:=by
     match k,hk with
     |0,_=>simp only[num] at h;simp[rgd,h]
     |1,_=>simp only[num] at h;simp[rgd,h]
     |2,_=>simp only[num] at h;simp[rgd,h]
     |3,_=>simp only[num] at h;simp[rgd,h]
    exact wR1 I I (by rw[hr])
   ·refine zI<|xi<|Aa I<|zC<|Al (k+1) ⟨hk,fun i hi=> ?_⟩ (by omega) ⟨I,I,congrArg (fun z=>some (Value.int .i64 z)) (AM (x:=(k:Int)+1) (by omega) (by omega)),tO⟩ [] I
    by_cases e:i=k
    ·subst e;simpa using h
    ·exact hin i (by omega)
def Ll {α:Type} (f:α->Bool):List α->Nat->Int
 |[],_=> -1
 |x::l,k=>if f x=true then(k:Int) else Ll f l (k+1)
theorem Ok {α:Type} (f:α->Bool): ∀(l:List α) (k:Nat),decide (Ll f l k≥0)=l.any f
 |[],k=>by simp[Ll]
 |x::l,k=>by
  unfold Ll
  by_cases h:f x=true
  ·rw[if_pos h,List.any_cons,h,Bool.true_or,decide_eq_true_iff];omega
  ·rw[if_neg h,Ok f l (k+1),List.any_cons]
   simp[h]
theorem Qe (g:Nat) (hE:AS Tryz.prog g=true) (f:Sd->Bool) (hf: ∀s,Be Tryz.prog g [s.val] (.bool (f s))) (W:World) (p:Option Addr) (cap:Nat) (l:List Sd) (hn:l.length<4611686018427387904) (hR:Cg W p l):
  Ae Tryz.prog 196 #[slv p l.length cap, .func (.func g) #[] #[]] W (fun _:Unit=> .int .i64 (Ll f l 0)) (fun _=>True) (fun _=>[]):=by
 refine Ab Tryz.func196 I I I<|xb<|wP I<|xk<|Ad I<|xa<|zH<|?_
 refine Av (X:=Nat) (fun k=>[(0,slv p l.length cap),(1, .func (.func g) #[] #[]),(7, .int .i64 (l.length:Nat)),(8, .int .i64 (k:Nat))]) (fun _=>[])
  (fun k=>k<=l.length/\Ll f l 0=Ll f (l.drop k) k) (fun k=>l.length-k) 0 ⟨Nat.zero_le _,rfl⟩ ⟨rfl,rfl,rfl,rfl,trivial⟩ [] rfl ?_
 rintro k ⟨hk,hi⟩
 refine xb<|wP I<|xl<|Ag I (fun h=> ?_) (fun h=> ?_)
 rotate_left
 ·refine xg<|xn<|wP I<|xc<|?_
  have e:k=l.length:=by simp at h;omega
  rw[e,List.drop_length] at hi
  exact wR1 I I (by rw[hi];rfl)
 ·have hk:k<l.length:=by simp at h;omega
  clear h
  obtain⟨b,off,rfl,hrow⟩:=hR.row hk
  refine xh<|Aa I<|xf<|Ad I<|wJ ?_
  refine wL 0 I I (fun W hp=>(hrow k hk).hp hp) I<|Bz (g:=g) (v:= .bool (f (sd l k))) I I I I I I hE (fun W _=>hf (sd l k) W)<|?_
  have hd:l.drop k=sd l k::l.drop (k+1):=by
   rw[List.drop_eq_getElem_cons hk];simp[sd,hk]
  have hstep:Ll f (l.drop k) k=if f (sd l k)=true then(k:Int) else Ll f (l.drop (k+1)) (k+1):=by rw[hd];rfl
  rw[hstep] at hi
  refine xa<|Ag I (fun h=> ?_) (fun h=> ?_)
  ·refine xb<|Aa I<|xc<|xj<|zP<|?_
   rw[if_pos h] at hi
   exact wR1 I I (by rw[hi])
  ·refine zI<|xi<|Aa I<|zC<|?_
   rw[if_neg (by rw[h];decide)] at hi
   exact Al (k+1) ⟨hk,hi⟩ (by omega) ⟨I,I,I,congrArg (fun z=>some (Value.int .i64 z)) (AM (x:=(k:Int)+1) (by omega) (by omega)),tO⟩ [] I
theorem LK (g:Nat) (hE:AS Tryz.prog g=true) (f:Sd->Bool) (hf: ∀s,Be Tryz.prog g [s.val] (.bool (f s))) (W:World) (p:Option Addr) (cap:Nat) (l:List Sd) (hn:l.length<4611686018427387904) (hR:Cg W p l):
  Ae Tryz.prog 134 #[slv p l.length cap, .func (.func g) #[] #[]] W (fun _:Unit=> .bool (l.any f)) (fun _=>True) (fun _=>[]):=by
 exact Ab Tryz.func134 I I I<|xb<|wP I<|xf<|Aa I<|wC I I (fun W hp=>Qe g hE f hf W p cap l hn (hR.hp hp))<|Aa I<|xc<|wR1 I I (by rw[Ok])
theorem PE (g:Nat) (hE:AS Tryz.prog g=true) (f:List Sd->Bool) (hf: ∀W p cap l,l.length<4611686018427387904->Cg W p l->Ae Tryz.prog g #[slv p l.length cap] W (fun _:Unit=> .bool (f l)) (fun _=>True) (fun _=>[])) (W:World) (p:Option Addr) (cap:Nat) (rs:List (List Sd)) (hn:rs.length<4611686018427387904) (hl: ∀l∈rs,l.length<4611686018427387904) (hR:AL W p rs):
  Ae Tryz.prog 198 #[slv p rs.length cap, .func (.func g) #[] #[]] W (fun _:Unit=> .int .i64 (Ll f rs 0)) (fun _=>True) (fun _=>[]):=by
 refine Ab Tryz.func198 I I I<|xb<|wP I<|xk<|Ad I<|xa<|zH<|?_
 refine Av (X:=Nat) (fun k=>[(0,slv p rs.length cap),(1, .func (.func g) #[] #[]),(7, .int .i64 (rs.length:Nat)),(8, .int .i64 (k:Nat))]) (fun _=>[])
  (fun k=>k<=rs.length/\Ll f rs 0=Ll f (rs.drop k) k) (fun k=>rs.length-k) 0 ⟨Nat.zero_le _,rfl⟩ ⟨rfl,rfl,rfl,rfl,trivial⟩ [] rfl ?_
 rintro k ⟨hk,hi⟩
 refine xb<|wP I<|xl<|Ag I (fun h=> ?_) (fun h=> ?_)
 rotate_left
 ·refine xg<|xn<|wP I<|xc<|?_
  have e:k=rs.length:=by simp at h;omega
  rw[e,List.drop_length] at hi
  exact wR1 I I (by rw[hi];rfl)
 ·have hk:k<rs.length:=by simp at h;omega
  clear h
  obtain⟨b,off,rfl,hrow⟩:=hR.row hk
  obtain⟨q,cap2,hq1,hq2⟩:=hrow k hk
  refine xh<|Aa I<|xf<|Ad I<|wJ ?_
  refine wL 0 I I (fun W hp=>hq1.hp hp) I<|Bz (g:=g) (v:= .bool (f (rg rs k))) I I I I I I hE (fun W hp=>hf W q cap2 (rg rs k) (hl _ (List.mem_of_getElem? (Bm hk))) (hq2.hp hp))<|?_
  have hd:rs.drop k=rg rs k::rs.drop (k+1):=by
   rw[List.drop_eq_getElem_cons hk];simp[rg,hk]
  have hstep:Ll f (rs.drop k) k=if f (rg rs k)=true then(k:Int) else Ll f (rs.drop (k+1)) (k+1):=by rw[hd];rfl
  rw[hstep] at hi
  refine xa<|Ag I (fun h=> ?_) (fun h=> ?_)
  ·refine xb<|Aa I<|xc<|xj<|zP<|?_
   rw[if_pos h] at hi
   exact wR1 I I (by rw[hi])
  ·refine zI<|xi<|Aa I<|zC<|?_
   rw[if_neg (by rw[h];decide)] at hi
   exact Al (k+1) ⟨hk,hi⟩ (by omega) ⟨I,I,I,congrArg (fun z=>some (Value.int .i64 z)) (AM (x:=(k:Int)+1) (by omega) (by omega)),tO⟩ [] I
theorem LD (g:Nat) (hE:AS Tryz.prog g=true) (f:List Sd->Bool) (hf: ∀W p cap l,l.length<4611686018427387904->Cg W p l->Ae Tryz.prog g #[slv p l.length cap] W (fun _:Unit=> .bool (f l)) (fun _=>True) (fun _=>[])) (W:World) (p:Option Addr) (cap:Nat) (rs:List (List Sd)) (hn:rs.length<4611686018427387904) (hl: ∀l∈rs,l.length<4611686018427387904) (hR:AL W p rs):
  Ae Tryz.prog 137 #[slv p rs.length cap, .func (.func g) #[] #[]] W (fun _:Unit=> .bool (rs.any f)) (fun _=>True) (fun _=>[]):=by
 exact Ab Tryz.func137 I I I<|xb<|wP I<|xf<|Aa I<|wC I I (fun W hp=>PE g hE f hf W p cap rs hn hl (hR.below (Nat.le_refl _) hp.below))<|Aa I<|xc<|wR1 I I (by rw[Ok])
theorem RR (s:Sd):Be Tryz.prog 135 [s.val] (.bool (!rgd s)):=by
 intro W
 exact Ab Tryz.func135 I I I<|xb<|wF I I fun _=>wP I<|xf<|wB 0 I I I<|wC I I (fun W _=>(Sk ..))<|Aa I<|xc<|wR1 I I I
theorem Sc (W:World) (p:Option Addr) (cap:Nat) (l:List Sd) (hn:l.length<4611686018427387904) (hR:Cg W p l):
  Ae Tryz.prog 138 #[slv p l.length cap] W (fun _:Unit=> .bool (!shp l)) (fun _=>True) (fun _=>[]):=by
 exact Ab Tryz.func138 I I I<|xb<|wP I<|xf<|wP I<|wC I I (fun W hp=>QT W p cap l hn (hR.hp hp))<|Aa I<|xc<|wR1 I I I
def JJ (t u:Sd) (px py:Int):Bool:=(w64 (u.x-t.x)==0)&&decide (t.x>px)&& !(decide (t.y>py)==decide (u.y>py))
def Ew (l:List Sd) (px py:Int):Nat->Bool
 |0=>false
 |k+1=>if JJ (sd l k) (sd l (nxt l.length k)) px py=true then !Ew l px py k else Ew l px py k
theorem So (W:World) (p:Option Addr) (cap:Nat) (l:List Sd) (px py:Int) (hn:l.length<4611686018427387904) (hR:Cg W p l):
  Ae Tryz.prog 206 #[slv p l.length cap,spot px py] W (fun _:Unit=> .bool (Ew l px py l.length)) (fun _=>True) (fun _=>[]):=by
 refine Ab Tryz.func206 I I I<|xb<|wF I I fun _=>wP I<|xf<|?_
 rename_i b3
 refine B6 (z:= .bool false) I I I (fun W=>by kernel_rfl) fun b5=> ?_
 refine wS 1 I I I<|xk<|wP I<|wD (X:=Nat) I I (fun W _=>F3 p l.length cap W) ?_
 intro b _
 refine xa<|zH<|EQ (X:=Bool×Nat) (fun x=>[⟨b3,240,(spot px py).cells.toList,true,none⟩,⟨b5,4,[.bool x.1],true,none⟩,⟨b,48,[slv p l.length cap],true,none⟩]) (fun k x=>x.2=k/\x.1=Ew l px py k) (fun _ _=>False) (false,0) I (by kernel_rfl) (Gj b p cap l hn) (fun _=>rfl) ⟨I,I⟩ [] I (fun k x W _ hp=>Eu.mk' hR hp 2 I) ?_ ?_ (fun _ _ _ _ _ h=>h.elim)
 ·rintro j ⟨i,k⟩ d L rec hk ⟨hj,hi⟩ hrec
  obtain rfl:k=j:=hj
  obtain rfl:i=Ew l px py k:=hi
  refine zB<|B6 (z:=Ig default default default) I I I (fun W=>by kernel_rfl) fun b7=> ?_
  refine wS 5 I I I<|zC<|BU 4 hrec I ?_
  refine zH<|xb<|wP I<|wB 5 I I I<|wC I I (fun W _=>BD (sd l k) W)<|B6 (z:=spot 0 0) I I I (fun W=>by kernel_rfl) fun b8=> ?_
  refine wS 6 I I I<|xf<|wB 5 I I I<|wC I I (fun W _=>LM (sd l (prv l.length k)) (sd l k) (sd l (nxt l.length k)) W)<|Ad I<|?_
  have no:JJ (sd l k) (sd l (nxt l.length k)) px py=false->Ew l px py (k+1)=Ew l px py k:=fun h=>by simp[Ew,h]
  have yes:JJ (sd l k) (sd l (nxt l.length k)) px py=true->Ew l px py (k+1)= !Ew l px py k:=fun h=>by simp[Ew,h]
  refine AI 20 I (fun h20=> ?_) (fun h20=> ?_)
  ·refine wP I<|wB 6 I I I<|wP I<|wB 0 I I I<|Ad I<|AI 27 I (fun h27=> ?_) (fun h27=> ?_)
   ·refine wP I<|wB 6 I I I<|wP I<|wB 0 I I I<|Ad I<|wB 5 I I I<|wP I<|wB 0 I I I<|wP I<|EE Tryz.underlying4 I I I I I I ?_
    refine wP I<|xa<|Ag I (fun h=> ?_) (fun h=> ?_)
    ·exact zB<|wB 1 I I I<|wP I<|wS 1 I I I<|zC<|zN<|By 4 (!Ew l px py k,k+1) hrec I ⟨I,(yes (by simp_all [JJ])).symm⟩ [_,_] I
    ·exact zI<|zN<|By 4 (Ew l px py k,k+1) hrec I ⟨I,(no (by simp_all [JJ])).symm⟩ [_,_] I
   ·refine Af I I ?_
    iterate 11 refine Af I I ?_
    exact wP I<|xa<|zS I<|zI<|zN<|By 4 (Ew l px py k,k+1) hrec I ⟨I,(no (by simp_all [JJ]<;>(intros;omega))).symm⟩ [_,_] I
  ·refine Af I I ?_
   iterate 4 refine Af I I ?_
   refine Aa I<|?_
   iterate 12 refine Af I I ?_
   exact wP I<|xa<|zS I<|zI<|zN<|By 4 (Ew l px py k,k+1) hrec I ⟨I,(no (by simp_all [JJ])).symm⟩ [_,_] I
 ·rintro⟨i,j⟩ d L rec ⟨hj,hi⟩
  obtain rfl:j=l.length:=hj
  obtain rfl:i=Ew l px py l.length:=hi
  refine zN<|xn<|wB 1 I I I<|wP I<|xc<|Co 3 I ?_
  exact wR1 I I I
def Gk (rs:List (List Sd)) (i k:Nat):Bool:=(k==i||i==0)||(Ew (rg rs k) (sd (rg rs i) 0).x (sd (rg rs i) 0).y (rg rs k).length==(k==0))
def DH (rs:List (List Sd)) (i:Nat):Bool:=(decide (Dc (rg rs i) (rg rs i).length>0)==(i==0))&&(List.range rs.length).all (Gk rs i)
def plc (rs:List (List Sd)):Bool:=(List.range rs.length).all (DH rs)
theorem BQ {n:Nat} {f:Nat->Bool} {k:Nat} (hk:k<n) (h:f k=false):(List.range n).all f=false:=Bool.eq_false_iff.2 fun h2=>by
 have:=List.all_eq_true.1 h2 k (List.mem_range.2 hk)
 rw[h] at this;cases this
theorem CN (a b:Nat):((a:Int)==(b:Int))=(a==b):=by
 by_cases h:a=b
 ·subst h;rw[beq_self_eq_true,beq_self_eq_true]
 ·have h1:(a:Int)≠b:=by omega
  rw[beq_eq_false_iff_ne.2 h1,beq_eq_false_iff_ne.2 h]
theorem Sp (W:World) (p:Option Addr) (cap:Nat) (rs:List (List Sd)) (hn:rs.length<4611686018427387904) (hl: ∀l∈rs,l.length<4611686018427387904) (hne: ∀l∈rs,l≠[]) (hR:AL W p rs):
  Ae Tryz.prog 141 #[slv p rs.length cap] W (fun _:Unit=> .bool (plc rs)) (fun _=>True) (fun _=>[]):=by
 refine Ab Tryz.func141 I I I<|xb<|wP I<|xk<|Ad I<|xa<|zH<|?_
 refine Av (X:=Nat) (fun i=>[(0,slv p rs.length cap),(7,slv p rs.length cap),(8, .int .i64 (rs.length:Nat)),(9, .int .i64 (i:Nat))]) (fun _=>[])
  (fun i=>i<=rs.length/\ ∀j,j<i->DH rs j=true) (fun i=>rs.length-i) 0 ⟨Nat.zero_le _,fun j hj=>absurd hj (Nat.not_lt_zero _)⟩ ⟨rfl,rfl,rfl,rfl,trivial⟩ [] rfl ?_
 rintro i ⟨hi,hok⟩
 refine xb<|wP I<|xl<|Ag I (fun h=> ?_) (fun h=> ?_)
 rotate_left
 ·have e:i=rs.length:=by simp at h;omega
  subst e
  refine xg<|xn<|wP I<|xc<|?_
  have:plc rs=true:=List.all_eq_true.2 fun j hj=>hok j (List.mem_range.1 hj)
  exact wR1 I I (by rw[this])
 have hi:i<rs.length:=by simp at h;omega
 clear h
 obtain⟨b,off,rfl,hrow⟩:=hR.row hi
 obtain⟨q,cap2,hq1,hq2⟩:=hrow i hi
 have hli:=hl _ (List.mem_of_getElem? (Bm hi))
 have hnei:0<(rg rs i).length:=List.length_pos_iff.2 (hne _ (List.mem_of_getElem? (Bm hi)))
 refine xh<|wP I<|wJ ?_
 refine wL 0 I I (fun W hp=>hq1.hp hp) I<|Aa I<|xk<|wP I<|wC I I (fun W hp=>UT W q cap2 (rg rs i) hli (hq2.hp hp))<|Ad I<|EE Tryz.underlying4 I I I I I I ?_
 refine xa<|Ag I (fun h=> ?_) (fun h=> ?_)
 ·refine xb<|wP I<|xo<|xj<|zP<|?_
  have hf:plc rs=false:=BQ hi (by
   unfold DH
   rw[show(decide (Dc (rg rs i) (rg rs i).length>0)==(i==0))=false by
    have h':=h
    rw[show((i:Int)==0)=(i==0) from CN i 0] at h'
    simpa using h']
   rfl)
  exact wR1 I I (by rw[hf])
 have hA:(decide (Dc (rg rs i) (rg rs i).length>0)==(i==0))=true:=by
  have h':=h
  rw[show((i:Int)==0)=(i==0) from CN i 0] at h'
  simpa using h'
 clear h
 refine xm<|Ad I<|xa<|zH<|?_
 refine Av (X:=Nat) (fun k=>[(0,slv (some ⟨b,off,none⟩) rs.length cap),(7,slv (some ⟨b,off,none⟩) rs.length cap),(8, .int .i64 (rs.length:Nat)),(9, .int .i64 (i:Nat)),(3, .int .i64 (i:Nat)),(4,slv q (rg rs i).length cap2),(20,slv (some ⟨b,off,none⟩) rs.length cap),(21, .int .i64 (rs.length:Nat)),(22, .int .i64 (k:Nat))]) (fun _=>[])
  (fun k=>k<=rs.length/\ ∀j,j<k->Gk rs i j=true) (fun k=>rs.length-k) 0 ⟨Nat.zero_le _,fun j hj=>absurd hj (Nat.not_lt_zero _)⟩ ⟨rfl,rfl,rfl,rfl,rfl,rfl,rfl,rfl,rfl,trivial⟩ [] rfl ?_
 rintro k ⟨hk,hokk⟩
 refine xb<|wP I<|xl<|Ag I (fun h=> ?_) (fun h=> ?_)
 rotate_left
 ·have e:k=rs.length:=by simp at h;omega
  subst e
  refine xg<|xi<|Aa I<|zC<|Al (i+1) ⟨hi,fun j hj=> ?_⟩ (by omega) ⟨I,I,I,congrArg (fun z=>some (Value.int .i64 z)) (AM (x:=(i:Int)+1) (by omega) (by omega)),tO⟩ [] I
  by_cases e:j=i
  ·subst e
   unfold DH
   rw[hA,Bool.true_and]
   exact List.all_eq_true.2 fun m hm=>hokk m (List.mem_range.1 hm)
  ·exact hok j (by omega)
 have hk:k<rs.length:=by simp at h;omega
 clear h
 obtain⟨q2,cap3,hq3,hq4⟩:=hrow k hk
 have hlk:=hl _ (List.mem_of_getElem? (Bm hk))
 have next:Gk rs i k=true-> ∀j,j<k+1->Gk rs i j=true:=fun h j hj=>by
  by_cases e:j=k
  ·subst e;exact h
  ·exact hokk j (by omega)
 refine xh<|wP I<|wJ ?_
 refine wL 0 I I (fun W hp=>hq3.hp hp) I<|Aa I<|xl<|GR (X:=Unit) (fun _=>[(0,slv (some ⟨b,off,none⟩) rs.length cap),(7,slv (some ⟨b,off,none⟩) rs.length cap),(8, .int .i64 (rs.length:Nat)),(9, .int .i64 (i:Nat)),(3, .int .i64 (i:Nat)),(4,slv q (rg rs i).length cap2),(5, .int .i64 (k:Nat)),(6,slv q2 (rg rs k).length cap3),(20,slv (some ⟨b,off,none⟩) rs.length cap),(21, .int .i64 (rs.length:Nat)),(22, .int .i64 (k:Nat)),(33, .bool (k==i||i==0))]) (fun _=>[]) (fun _=>True) ?_ ?_
 ·refine zB<|At I<|AI 30 I (fun h30=> ?_) (fun h30=> ?_)
  ·have e:(k==i||i==0)=true:=by
    have:(k==i)=true:=by rw[<-CN];exact h30
    rw[this];rfl
   iterate 2 refine Af I I ?_
   exact wP I<|zC<|Ao () tO ⟨I,I,I,I,I,I,I,I,I,I,I,by rw[e];rfl,tO⟩ [] I
  ·have e:(k==i||i==0)=((i:Int)==0):=by
    have:(k==i)=false:=by rw[<-CN];exact h30
    rw[this,Bool.false_or];exact(CN i 0).symm
   exact Ad I<|zC<|Ao () tO ⟨I,I,I,I,I,I,I,I,I,I,I,by rw[e];rfl,tO⟩ [] I
 intro _ _
 refine Ag I (fun h=> ?_) (fun h=> ?_)
 ·exact zJ<|zK<|zL<|zE<|zB<|Aa I<|zC<|Al (k+1) ⟨hk,next (by unfold Gk;rw[h];rfl)⟩ (by omega) ⟨I,I,I,I,I,I,I,I,congrArg (fun z=>some (Value.int .i64 z)) (AM (x:=(k:Int)+1) (by omega) (by omega)),tO⟩ [] I
 obtain⟨b3,off3,rfl,hrow3⟩:=hq2.row hnei
 refine xm<|Aa I<|wJ ?_
 refine wL 0 I I (fun W hp=>(hrow3 0 hnei).hp hp) I<|wC I I (fun W _=>(BD ..))<|wC I I (fun W hp=>So W q2 cap3 (rg rs k) _ _ hlk (hq4.hp hp))<|Aa I<|EE Tryz.underlying4 I I I I I I ?_
 refine xa<|Ag I (fun h2=> ?_) (fun h2=> ?_)
 ·refine xb<|wP I<|xc<|xj<|xj<|zP<|?_
  have hf:plc rs=false:=BQ hi (by
   unfold DH
   rw[BQ hk (by
    unfold Gk
    rw[h,Bool.false_or]
    have h':=h2
    rw[show((k:Int)==0)=(k==0) from CN k 0] at h'
    simpa using h'),Bool.and_false])
  exact wR1 I I (by rw[hf])
 ·refine zI<|xi<|Aa I<|zC<|Al (k+1) ⟨hk,next ?_⟩ (by omega) ⟨I,I,I,I,I,I,I,I,congrArg (fun z=>some (Value.int .i64 z)) (AM (x:=(k:Int)+1) (by omega) (by omega)),tO⟩ [] I
  unfold Gk
  rw[h,Bool.false_or]
  have h':=h2
  rw[show((k:Int)==0)=(k==0) from CN k 0] at h'
  simpa using h'
def Ir (s t u:Sd):Bool:=decide (w64 (w64 (w64 (t.x-s.x)*w64 (u.y-t.y))-w64 (w64 (t.y-s.y)*w64 (u.x-t.x)))>0)
def Pn (s t u:Sd):Bool:=Ir s t u||(!t.gable&& !s.gable&&(t.plate==s.plate))
def Df (l:List Sd) (k:Nat):Bool:=Pn (sd l (prv l.length k)) (sd l k) (sd l (nxt l.length k))
def B9 (l:List Sd) (b:Bool):Nat->Bool
 |0=>b
 |k+1=>B9 l b k|| !(sd l k).gable
def Bs (rs:List (List Sd)):Nat->Bool
 |0=>false
 |k+1=>B9 (rg rs k) (Bs rs k) (rg rs k).length
def Ht (l:List Sd):Bool:=(List.range l.length).all (Df l)
def jnd (rs:List (List Sd)):Bool:=rs.all Ht&&Bs rs rs.length
theorem Rq (W:World) (p:Option Addr) (cap:Nat) (rs:List (List Sd)) (hn:rs.length<4611686018427387904) (hl: ∀l∈rs,l.length<4611686018427387904) (hR:AL W p rs):
  Ae Tryz.prog 142 #[slv p rs.length cap] W (fun _:Unit=> .bool (jnd rs)) (fun _=>True) (fun _=>[]):=by
 refine Ab Tryz.func142 I I I<|xb<|B6 (z:= .bool false) I I I (fun W=>by kernel_rfl) fun b2=> ?_
 refine xf<|B6 (z:= .bool false) I I I (fun W=>by kernel_rfl) fun b3=> ?_
 refine wS 1 I I I<|xk<|Ad I<|xa<|zH<|QM ?_
 refine NR (X:=Nat×Bool×List Nat) (fun x=>x.2.2.map Dz) (fun x=>[(2, .pointer (some ⟨b2,0,none⟩)),(3, .pointer (some ⟨b3,0,none⟩)),(8,slv p rs.length cap),(9, .int .i64 (rs.length:Nat)),(10, .int .i64 (x.1:Nat))])
  (fun x=>[⟨b2,4,[.bool false],true,none⟩,⟨b3,4,[.bool x.2.1],true,none⟩,bag x.2.2]) (fun x=>x.1<=rs.length/\x.2.1=Bs rs x.1/\ ∀i,i<x.1->Ht (rg rs i)=true) (fun x=>rs.length-x.1) (0,false,[])
  ⟨Nat.zero_le _,rfl,fun i hi=>absurd hi (Nat.not_lt_zero _)⟩ rfl ⟨rfl,rfl,rfl,rfl,rfl,trivial⟩ [] rfl ?_
 rintro⟨k,sm,ds⟩ ⟨hk,hsm,hok⟩
 have hk:k<=rs.length:=hk
 obtain rfl:sm=Bs rs k:=hsm
 refine xb<|wP I<|xl<|Ag I (fun h=> ?_) (fun h=> ?_)
 rotate_left
 ·refine xg<|xn<|wB 1 I I I<|wS 0 I I I<|xc<|II 2 ds I ?_
  have e:k=rs.length:=by simp at h;omega
  subst e
  have hj:jnd rs=Bs rs rs.length:=by
   have:rs.all Ht=true:=List.all_eq_true.2 fun l hl=>by
    obtain⟨i,hi,rfl⟩:=List.getElem_of_mem hl
    have:=hok i hi
    rwa [show rg rs i=rs[i] by simp[rg,hi]] at this
   simp[jnd,this]
  exact A3 tH I (.cell 0 I I I I I) () (by rw[hj]) tO fun W _=>Au.nil _ _
 have hk:k<rs.length:=by simp at h;omega
 obtain⟨b',off,rfl,hrow⟩:=hR.row hk
 obtain⟨q,cap2,hq1,hq2⟩:=hrow k hk
 have hlk:(rg rs k).length<4611686018427387904:=hl _ (List.mem_of_getElem? (Bm hk))
 refine xh<|wJ ?_
 refine wL 0 I I (fun W hp=>hq1.hp hp) I<|wP I<|xf<|wP I<|wD (X:=Nat) I I (fun W _=>F3 q (rg rs k).length cap2 W) ?_
 intro b _
 refine xa<|zH<|?_
 refine EQ (X:=Bool×Nat) (fun x=>[⟨b2,4,[.bool false],true,none⟩,⟨b3,4,[.bool x.1],true,none⟩,bag ds,⟨b,48,[slv q (rg rs k).length cap2],true,none⟩])
  (fun j x=>x.2=j/\x.1=B9 (rg rs k) (Bs rs k) j/\ ∀i,i<j->Df (rg rs k) i=true) (fun c _=>c= .ret/\ ∃j,j<(rg rs k).length/\Df (rg rs k) j=false) (Bs rs k,0) rfl (by kernel_rfl) (Gj b q cap2 (rg rs k) hlk) (fun _=>rfl)
  ⟨rfl,rfl,fun i hi=>absurd hi (Nat.not_lt_zero _)⟩ [] rfl (fun k x W _ hp=>Eu.mk' hq2 hp 3 rfl) ?_ ?_ ?_
 ·rintro j' ⟨sm,j⟩ d L rec hj ⟨e1,e2,hin⟩ hrec
  obtain rfl:j=j':=e1
  obtain rfl:sm=B9 (rg rs k) (Bs rs k) j:=e2
  refine zB<|B6 (z:=Ig default default default) I I I (fun W=>by kernel_rfl) fun b7=> ?_
  refine wS 6 I I I<|zC<|BU 5 hrec I ?_
  refine ID ?_
  refine GR (X:=Unit) (fun _=>[(2, .pointer (some ⟨b2,0,none⟩)),(3, .pointer (some ⟨b3,0,none⟩)),(7, .pointer (some ⟨b7,0,none⟩))])
   (fun _=>[⟨b2,4,[.bool false],true,none⟩,⟨b3,4,[.bool (B9 (rg rs k) (Bs rs k) (j+1))],true,none⟩,bag ds,⟨b,48,[slv q (rg rs k).length cap2],true,none⟩,BL d,Bp L rec .busy none,
    ⟨b7,238,(Ig (sd (rg rs k) (prv (rg rs k).length j)) (sd (rg rs k) j) (sd (rg rs k) (nxt (rg rs k).length j))).cells.toList,true,none⟩]) (fun _=>True) ?_ ?_
  ·refine Et ?_
   refine wB 1 I I I<|wP I<|AI 19 I (fun h19=> ?_) (fun h19=> ?_)
   ·refine Af I I ?_
    iterate 3 refine Af I I ?_
    refine wP I<|wS 1 I I I<|zC<|Ao () tO ⟨I,I,I,tO⟩ [] ?_
    have h19:B9 (rg rs k) (Bs rs k) j=true:=h19
    have e:B9 (rg rs k) (Bs rs k) (j+1)=true:=by simp[B9,h19]
    rw[e];rfl
   ·refine Aa I<|wB 6 I I I<|Aa I<|wS 1 I I I<|zC<|Ao () tO ⟨I,I,I,tO⟩ [] ?_
    have h19:B9 (rg rs k) (Bs rs k) j=false:=h19
    have e:B9 (rg rs k) (Bs rs k) (j+1)= !(sd (rg rs k) j).gable:=by simp[B9,h19]
    rw[e];rfl
  intro _ _
  refine xb<|wB 6 I I I<|wC I I (fun W _=>UF (sd (rg rs k) (prv (rg rs k).length j)) (sd (rg rs k) j) (sd (rg rs k) (nxt (rg rs k).length j)) W)<|Aa I<|?_
  have good:Df (rg rs k) j=true-> ∀i,i<j+1->Df (rg rs k) i=true:=fun hg i hi=>by
   by_cases e:i=j
   ·subst e;exact hg
   ·exact hin i (by show i<j;omega)
  refine AI 28 I (fun h28=> ?_) (fun h28=> ?_)
  ·refine Aa I<|wB 6 I I I<|wP I<|AI 32 I (fun h32=> ?_) (fun h32=> ?_)
   ·refine Af I I ?_
    iterate 2 refine Af I I ?_
    refine Aa I<|?_
    iterate 7 refine Af I I ?_
    exact Aa I<|xa<|zR I<|xb<|wS 0 I I I<|xc<|zQ<|DF 5 (B9 (rg rs k) (Bs rs k) (j+1),j+1) hrec I ⟨I,j,hj,by simp_all [Df,Pn,Ir]⟩ [_] I
   ·refine Aa I<|wB 6 I I I<|Aa I<|AI 37 I (fun h37=> ?_) (fun h37=> ?_)
    ·refine Af I I ?_
     iterate 6 refine Af I I ?_
     exact Aa I<|xa<|zR I<|xb<|wS 0 I I I<|xc<|zQ<|DF 5 (B9 (rg rs k) (Bs rs k) (j+1),j+1) hrec I ⟨I,j,hj,by simp_all [Df,Pn,Ir]⟩ [_] I
    ·refine Aa I<|wB 6 I I I<|Aa I<|wB 6 I I I<|Ad I<|xa<|Ag I (fun h=> ?_) (fun h=> ?_)
     ·exact xb<|wS 0 I I I<|xc<|zQ<|DF 5 (B9 (rg rs k) (Bs rs k) (j+1),j+1) hrec I ⟨I,j,hj,by simp_all [Df,Pn,Ir]⟩ [_] I
     ·exact zI<|zN<|By 5 (B9 (rg rs k) (Bs rs k) (j+1),j+1) hrec I ⟨I,I,good (by simp_all [Df,Pn,Ir])⟩ [_] I
  ·refine Af I I ?_
   iterate 16 refine Af I I ?_
   exact wP I<|xa<|zS I<|zI<|zN<|By 5 (B9 (rg rs k) (Bs rs k) (j+1),j+1) hrec I ⟨I,I,good (by simp_all [Df,Pn,Ir])⟩ [_] I
 ·rintro⟨sm,j⟩ d L rec ⟨e1,e2,hin⟩
  obtain rfl:j=(rg rs k).length:=e1
  obtain rfl:sm=B9 (rg rs k) (Bs rs k) (rg rs k).length:=e2
  refine zN<|xi<|Aa I<|zC<|UA 2 4 I I ?_
  refine Lg (X:=Nat×Bool×List Nat) (k+1,B9 (rg rs k) (Bs rs k) (rg rs k).length,d::ds) ?_ ?_ I ?_ [0,1,2] (by decide) I
  rotate_left
  ·show rs.length-(k+1)<rs.length-k;omega
  ·exact⟨I,I,I,I,congrArg (fun z=>some (Value.int .i64 z)) (AM (x:=(k:Int)+1) (by omega) (by omega)),tO⟩
  refine⟨hk,I,fun i hi=> ?_⟩
  by_cases e:i=k
  ·subst e
   exact List.all_eq_true.2 fun x hx=>hin x (List.mem_range.1 hx)
  ·exact hok i (by show i<k;have:i<k+1:=hi;omega)
 ·rintro⟨sm,j'⟩ d L rec c ⟨rfl,j,hj,hf⟩
  refine zO<|zQ<|xj<|zP<|UA 2 4 I I ?_
  refine II 2 (d::ds) I ?_
  have hj:jnd rs=false:=by
   have h1:Ht (rg rs k)=false:=Bool.eq_false_iff.2 fun h2=>by
    have:=List.all_eq_true.1 h2 j (List.mem_range.2 hj)
    rw[hf] at this;cases this
   have:rs.all Ht=false:=Bool.eq_false_iff.2 fun h2=>by
    have:=List.all_eq_true.1 h2 _ (List.mem_of_getElem? (Bm hk))
    rw[h1] at this;cases this
   simp[jnd,this]
  exact A3 tH I (.cell 0 I I I I I) () (by rw[hj]) tO fun W _=>Au.nil _ _
abbrev B0 (p:Option Addr) (n cap:Nat):Value:= .agg #[slv p n cap]
def chk (rs:List (List Sd)):Int:=
 if rs.any (fun l=>l.length==0)=true then 5
 else if tot rs=0 then 5
 else if tot rs>24 then 4
 else if rs.flatten.any (fun s=> !rgd s)=true then 2
 else if rs.any (fun l=> !shp l)=true then 14
 else if crs rs=true then 15
 else if (!plc rs|| !jnd rs)=true then 14
 else 0
theorem H8 {rs:List (List Sd)} {l:List Sd} (h:l∈rs):l.length<=tot rs:=by
 unfold tot
 induction rs with
 |nil=>cases h
 |cons x rs ih=>
  rw[List.map_cons,List.sum_cons]
  rcases List.mem_cons.1 h with rfl|h
  ·omega
  ·have:=ih h;omega
theorem Ja (W:World) (p:Option Addr) (cap:Nat) (rs:List (List Sd)) (hn:rs.length<4611686018427387904) (hT:tot rs<1099511627776) (hR:AL W p rs):
  Ae Tryz.prog 80 #[B0 p rs.length cap] W (fun _:Unit=> .int .i64 (chk rs)) (fun _=>True) (fun _=>[]):=by
 have hl: ∀l∈rs,l.length<4611686018427387904:=fun l h=>by have:=H8 h;omega
 refine Ab Tryz.func80 I I I<|xb<|wF I I fun _=>wP I<|zC<|?_
 rename_i b1
 refine xn<|wP I<|xk<|wP I<|wB 0 I I I<|Aa I<|xa<|zH<|?_
 refine Av (X:=Nat) (fun k=>[(1, .pointer (some ⟨b1,0,none⟩)),(3, .int .i64 (tot (rs.take k):Nat)),(7,slv p rs.length cap),(8, .int .i64 (rs.length:Nat)),(9, .int .i64 (k:Nat))]) (fun _=>[⟨b1,24,[slv p rs.length cap],true,none⟩])
  (fun k=>k<=rs.length/\ ∀j,j<k->(rg rs j).length≠0) (fun k=>rs.length-k) 0 ⟨Nat.zero_le _,fun j hj=>absurd hj (Nat.not_lt_zero _)⟩ ⟨rfl,rfl,rfl,rfl,rfl,trivial⟩ [] rfl ?_
 rintro k ⟨hk,hok⟩
 refine xb<|wP I<|xl<|Ag I (fun h=> ?_) (fun h=> ?_)
 ·have hk:k<rs.length:=by simp at h;omega
  clear h
  obtain⟨b,off,rfl,hrow⟩:=hR.row hk
  obtain⟨q,cap2,hq1,hq2⟩:=hrow k hk
  refine xh<|wJ ?_
  refine wL 0 I I (fun W hp=>hq1.hp hp) I<|wP I<|xk<|Ad I<|xa<|Ag I (fun h=> ?_) (fun h=> ?_)
  ·refine xb<|wP I<|xo<|xj<|zP<|?_
   have he:rs.any (fun l=>l.length==0)=true:=List.any_eq_true.2 ⟨_,List.mem_of_getElem? (Bm hk),by have h':((((rg rs k).length:Nat):Int)==0)=true:=h;rw[beq_iff_eq] at h'⊢;omega⟩
   exact wR1 I I (by unfold chk;rw[if_pos he])
  have hz:(rg rs k).length≠0:=by
   have h':((((rg rs k).length:Nat):Int)==0)=false:=h
   rw[beq_eq_false_iff_ne] at h';omega
  clear h
  refine xe<|zB<|Ak I<|zC<|?_
  have hs:w64 ((tot (rs.take k):Nat)+((rg rs k).length:Nat))=(tot (rs.take (k+1)):Nat):=by
   have h1:=Bq hk
   have h2:=Cs rs (k+1)
   rw[Ar (by omega) (by omega)];omega
  refine xi<|Ap 3 _ I (congrArg (Value.int .i64) hs)<|Aa I<|zC<|Al (k+1) ⟨hk,fun j hj=> ?_⟩ (by omega) ⟨I,I,I,I,congrArg (fun z=>some (Value.int .i64 z)) (AM (x:=(k:Int)+1) (by omega) (by omega)),tO⟩ [] I
  by_cases e:j=k
  ·subst e;exact hz
  ·exact hok j (by omega)
 have e:k=rs.length:=by simp at h;omega
 subst e
 clear h
 rw[List.take_length]
 have hne: ∀l∈rs,l≠[]:=fun l hl e=>by
  obtain⟨i,hi,e2⟩:=List.getElem_of_mem hl
  have:=hok i hi
  rw[show rg rs i=rs[i] by simp[rg,hi],e2,e] at this
  exact this I
 have he:rs.any (fun l=>l.length==0)=false:=Bool.eq_false_iff.2 fun h2=>by
  obtain⟨l,h3,h4⟩:=List.any_eq_true.1 h2
  rw[beq_iff_eq] at h4
  exact hne l h3 (List.length_eq_zero_iff.1 h4)
 have hN: ¬(rs.any (fun l=>l.length==0)=true):=by rw[he];decide
 refine xg<|zE<|zA<|zH<|xb<|Ad I<|xa<|Ag I (fun h=> ?_) (fun h=> ?_)
 ·refine xb<|wP I<|xc<|zQ<|zP<|?_
  have h0:tot rs=0:=by have h':(((tot rs:Nat):Int)==0)=true:=h;rw[beq_iff_eq] at h';omega
  exact wR1 I I (by unfold chk;rw[if_neg hN,if_pos h0])
 have h0: ¬tot rs=0:=by have h':(((tot rs:Nat):Int)==0)=false:=h;rw[beq_eq_false_iff_ne] at h';omega
 clear h
 refine xb<|Ad I<|xa<|Ag I (fun h=> ?_) (fun h=> ?_)
 ·refine xb<|wP I<|xc<|zQ<|zP<|?_
  have h1:tot rs>24:=by have h':decide (((tot rs:Nat):Int)>24)=true:=h;rw[decide_eq_true_iff] at h';omega
  exact wR1 I I (by unfold chk;rw[if_neg hN,if_neg h0,if_pos h1])
 have h1: ¬tot rs>24:=by have h':decide (((tot rs:Nat):Int)>24)=false:=h;rw[decide_eq_false_iff_not] at h';omega
 clear h
 refine xb<|wP I<|wB 0 I I I<|wD (X:=Vec) I I (fun W hp=>K5 W p cap rs hn hT (hR.below (Nat.le_refl _) hp.below) hne) ?_
 intro V hV
 obtain⟨q,cq,eV,hVR⟩:=Vec.ring hV
 have hfl:rs.flatten.length<4611686018427387904:=by rw[Gm];omega
 refine Ap 30 _ I eV<|wC I I (fun W hp=>LK 135 (by kernel_rfl) (fun s=> !rgd s) RR W q cq rs.flatten hfl (hVR hp 1 I))<|wP I<|xa<|Ag I (fun h=> ?_) (fun h=> ?_)
 ·exact xb<|wP I<|xc<|zQ<|zP<|wR1 I I (by unfold chk;rw[if_neg hN,if_neg h0,if_neg h1,if_pos h])
 have h2: ¬(rs.flatten.any (fun s=> !rgd s)=true):=by rw[h];decide
 clear h
 refine xb<|wP I<|wB 0 I I I<|wC I I (fun W hp=>LD 138 (by kernel_rfl) (fun l=> !shp l) Sc W p cap rs hn hl (hR.below (Nat.le_refl _) hp.below))<|wP I<|xa<|Ag I (fun h=> ?_) (fun h=> ?_)
 ·exact xb<|wP I<|xc<|zQ<|zP<|wR1 I I (by unfold chk;rw[if_neg hN,if_neg h0,if_neg h1,if_neg h2,if_pos h])
 have h3: ¬(rs.any (fun l=> !shp l)=true):=by rw[h];decide
 clear h
 refine xb<|wP I<|wB 0 I I I<|wC I I (fun W hp=>NW W p cap rs hn hT hl (hR.below (Nat.le_refl _) hp.below))<|wP I<|xa<|Ag I (fun h=> ?_) (fun h=> ?_)
 ·exact xb<|wP I<|xc<|zQ<|zP<|wR1 I I (by unfold chk;rw[if_neg hN,if_neg h0,if_neg h1,if_neg h2,if_neg h3,if_pos h])
 have h4: ¬(crs rs=true):=by rw[h];decide
 clear h
 refine xb<|wP I<|wB 0 I I I<|wC I I (fun W hp=>Sp W p cap rs hn hl hne (hR.below (Nat.le_refl _) hp.below))<|Aa I<|AI 45 I (fun h45=> ?_) (fun h45=> ?_)
 ·have h5:(!plc rs|| !jnd rs)=true:=by have h':(!plc rs)=true:=h45;rw[h'];rfl
  iterate 4 refine Af I I ?_
  exact Aa I<|xa<|zR I<|xb<|wP I<|xc<|zQ<|zP<|wR1 I I (by unfold chk;rw[if_neg hN,if_neg h0,if_neg h1,if_neg h2,if_neg h3,if_neg h4,if_pos h5])
 ·have h':(!plc rs)=false:=h45
  refine wP I<|wB 0 I I I<|wC I I (fun W hp=>Rq W p cap rs hn hl (hR.below (Nat.le_refl _) hp.below))<|Ad I<|xa<|Ag I (fun h=> ?_) (fun h=> ?_)
  ·refine xb<|wP I<|xc<|zQ<|zP<|?_
   have h5:(!plc rs|| !jnd rs)=true:=by rw[h',h];rfl
   exact wR1 I I (by unfold chk;rw[if_neg hN,if_neg h0,if_neg h1,if_neg h2,if_neg h3,if_neg h4,if_pos h5])
  ·refine zI<|zN<|xn<|wP I<|xc<|?_
   have h5: ¬((!plc rs|| !jnd rs)=true):=by rw[h',h];decide
   exact wR1 I I (by unfold chk;rw[if_neg hN,if_neg h0,if_neg h1,if_neg h2,if_neg h3,if_neg h4,if_neg h5])
theorem AL.hp {W0 W:World} {bxs:List Bx} {p:Option Addr} {rs:List (List Sd)} (h:AL W0 p rs) (hp:Hp W0 bxs W):AL W p rs:=h.below (Nat.le_refl _) hp.below
def grt (rs:List (List Sd)) (m:Int):Bool:=(decide ((tot rs:Int)>m)&&decide ((tot rs:Int)<=24))||decide ((tot rs:Int)>40)||decide ((rs.length:Int)>40)
theorem Tm (W:World) (p:Option Addr) (cap:Nat) (rs:List (List Sd)) (m:Int) (hn:rs.length<4611686018427387904) (hT:tot rs<4611686018427387904) (hR:AL W p rs):
  Ae Tryz.prog 4 #[B0 p rs.length cap, .int .i64 m] W (fun _:Unit=> .bool (grt rs m)) (fun _=>True) (fun _=>[]):=by
 refine Ab Tryz.func4 I I I<|xb<|wF I I fun _=>?_
 rename_i b1
 refine wP I<|xf<|wP I<|xk<|wP I<|xa<|zH<|?_
 refine Av (X:=Nat) (fun k=>[(1, .int .i64 m),(2, .pointer (some ⟨b1,0,none⟩)),(5, .int .i64 (tot (rs.take k):Nat)),(6, .int .i64 (k:Nat))]) (fun _=>[⟨b1,24,[slv p rs.length cap],true,none⟩])
  (fun k=>k<=rs.length) (fun k=>rs.length-k) 0 (Nat.zero_le _) ⟨rfl,rfl,rfl,rfl,trivial⟩ [] rfl ?_
 intro k hk
 refine xd<|Aa I<|wB 0 I I I<|Aa I<|xa<|Ag I (fun h=> ?_) (fun h=> ?_)
 ·have hk:k<rs.length:=by simp at h;omega
  clear h
  obtain⟨b,off,rfl,hrow⟩:=hR.row hk
  obtain⟨q,cap2,hq1,hq2⟩:=hrow k hk
  refine xe<|zA<|zH<|zB<|Aa I<|wB 0 I I I<|wP I<|wJ ?_
  refine wL 0 I I (fun W hp=>hq1.hp hp) I<|Ad I<|zC<|?_
  have hs:w64 ((tot (rs.take k):Nat)+((rg rs k).length:Nat))=(tot (rs.take (k+1)):Nat):=by
   have h1:=Bq hk
   have h2:=Cs rs (k+1)
   rw[Ar (by omega) (by omega)];omega
  exact xi<|Ap 5 _ I (congrArg (Value.int .i64) hs)<|Ad I<|zC<|Al (k+1) hk (by omega) ⟨I,I,I,congrArg (fun z=>some (Value.int .i64 z)) (AM (x:=(k:Int)+1) (by omega) (by omega)),tO⟩ [] I
 have e:k=rs.length:=by simp at h;omega
 subst e
 clear h
 rw[List.take_length]
 refine xg<|xn<|At I<|AI 25 I (fun h25=> ?_) (fun h25=> ?_)
 ·refine At I<|?_
  have h25':decide ((tot rs:Int)>m)=true:=h25
  refine AI 29 I (fun h29=> ?_) (fun h29=> ?_)
  ·have e:grt rs m=true:=by have h':decide ((tot rs:Int)<=24)=true:=h29;unfold grt;rw[h25',h'];rfl
   iterate 2 refine Af I I ?_
   refine Aa I<|?_
   iterate 4 refine Af I I ?_
   exact Aa I<|xc<|wR1 I I (by rw[e])
  ·refine At I<|?_
   have h':decide ((tot rs:Int)<=24)=false:=h29
   refine AI 33 I (fun h33=> ?_) (fun h33=> ?_)
   ·have e:grt rs m=true:=by have h2:decide ((tot rs:Int)>40)=true:=h33;unfold grt;rw[h2,Bool.or_true];rfl
    iterate 4 refine Af I I ?_
    exact Aa I<|xc<|wR1 I I (by rw[e])
   ·have e:grt rs m=decide ((rs.length:Int)>40):=by have h2:decide ((tot rs:Int)>40)=false:=h33;unfold grt;rw[h',h2,Bool.and_false];rfl
    exact wP I<|wB 0 I I I<|At I<|xc<|wR1 I I (by rw[e])
 ·have h25':decide ((tot rs:Int)>m)=false:=h25
  iterate 2 refine Af I I ?_
  refine AE I<|AI 33 I (fun h33=> ?_) (fun h33=> ?_)
  ·have e:grt rs m=true:=by have h2:decide ((tot rs:Int)>40)=true:=h33;unfold grt;rw[h2,Bool.or_true];rfl
   iterate 4 refine Af I I ?_
   exact Aa I<|xc<|wR1 I I (by rw[e])
  ·have e:grt rs m=decide ((rs.length:Int)>40):=by have h2:decide ((tot rs:Int)>40)=false:=h33;unfold grt;rw[h25',h2];rfl
   exact wP I<|wB 0 I I I<|At I<|xc<|wR1 I I (by rw[e])
theorem Mk {rs:List (List Sd)} (h:chk rs=0):(∀l∈rs,l≠[])/\tot rs<=24/\tot rs≠0:=by
 unfold chk at h
 split at h
 ·cases h
 ·rename_i h1
  split at h
  ·cases h
  ·rename_i h2
   split at h
   ·cases h
   ·rename_i h3
    refine⟨fun l hl e=>h1 (List.any_eq_true.2 ⟨l,hl,by rw[e];rfl⟩),by omega,h2⟩
theorem YM (W:World) (p:Option Addr) (cap:Nat) (rs:List (List Sd)) (hn:rs.length<4611686018427387904) (hR:AL W p rs) (hc:chk rs=0):
  Ae Tryz.prog 49 #[B0 p rs.length cap] W (fun V:Vec=> .tuple #[V.val rs.flatten.length, .int .i64 0]) (fun V=>V.OK 7 rs.flatten.length (cellsOf rs.flatten)) (fun V=>[V.bx 82 (cellsOf rs.flatten)]):=by
 obtain⟨hne,hT,_⟩:=Mk hc
 refine Ab Tryz.func49 I I I<|xb<|wF I I fun _=>Aa I<|xk<|wB 0 I I I<|wC I I (fun W hp=>(Ja W p cap rs hn (by omega) (hR.hp hp)).cast (by rw[hc]))<|wP I<|xa<|zS I<|xm<|wP I<|wB 0 I I I<|wD (X:=Vec) I I (fun W hp=>K5 W p cap rs hn (by omega) (hR.hp hp) hne) ?_
 intro V hV
 exact Aa I<|xc<|A4 tH I (.tmp I) (.tmp I) V I hV fun W hp=>Au.of_hp1 hp 1 I
theorem Xe (W:World) (p:Option Addr) (cap:Nat) (rs:List (List Sd)) (hn:rs.length<4611686018427387904) (hT:tot rs<1099511627776) (hR:AL W p rs) (hc:chk rs≠0):
  Ae Tryz.prog 49 #[B0 p rs.length cap] W (fun _:Unit=> .tuple #[.slice none 0 0, .int .i64 1]) (fun _=>True) (fun _=>[]):=by
 refine Ab Tryz.func49 I I I<|xb<|wF I I fun _=>Aa I<|xk<|wB 0 I I I<|wC I I (fun W hp=>Ja W p cap rs hn hT (hR.hp hp))<|wP I<|xa<|Ag I (fun h=> ?_) (fun h=> ?_)
 ·exact xb<|Aa I<|xo<|wR2 I I I
 ·exact absurd (by have h':(chk rs !=0)=false:=h;simpa using h') hc
end
section
open Go Go.RowKit Go.Am
def AO (f:Nat->Int):Nat->Int
 |0=>0
 |k+1=>AO f k+f k
theorem Cb {f g:Nat->Int}: ∀(n:Nat),(∀i,i<n->f i=g i)->AO f n=AO g n
 |0,_=>rfl
 |n+1,h=>by
  show AO f n+f n=AO g n+g n
  rw[Cb n (fun i hi=>h i (by omega)),h n (by omega)]
theorem QH (f g:Nat->Int): ∀n,AO (fun i=>f i+g i) n=AO f n+AO g n
 |0=>rfl
 |n+1=>by
  show AO _ n+(f n+g n)=AO f n+f n+(AO g n+g n)
  rw[QH f g n];omega
theorem FZ (c:Int) (f:Nat->Int): ∀n,AO (fun i=>c*f i) n=c*AO f n
 |0=>by simp[AO]
 |n+1=>by
  show AO _ n+c*f n=c*(AO f n+f n)
  rw[FZ c f n,Int.mul_add]
theorem Pw (g:Nat->Int): ∀n,AO (fun i=>g (i+1)) n+g 0=AO g (n+1)
 |0=>by simp[AO]
 |n+1=>by
  have ih:=Pw g n
  show AO (fun i=>g (i+1)) n+g (n+1)+g 0=AO g (n+1)+g (n+1)
  omega
theorem W7 (g:Nat->Int) (n:Nat):AO (fun i=>g (nxt n i)) n=AO g n:=by
 cases n with
 |zero=>rfl
 |succ m=>
  rw[<-Pw g m]
  show AO (fun i=>g (nxt (m+1) i)) m+g (nxt (m+1) m)=_
  have h0:nxt (m+1) m=0:=Nat.mod_self _
  rw[h0,Cb m (fun i hi=>by rw[show nxt (m+1) i=i+1 from Nat.mod_eq_of_lt (by omega)])]
def inR (s:Sd):Prop:=0<=s.x/\s.x<=65536/\0<=s.y/\s.y<=65536
theorem VD {s:Sd} (h:rgd s=true):inR s:=by
 unfold rgd at h
 simp only[Bool.and_eq_true,btw,decide_eq_true_eq] at h
 exact⟨h.2.1.1.1.1,h.2.1.1.1.2,h.2.1.1.2.1,h.2.1.1.2.2⟩
theorem Dq {l:List Sd} (h: ∀s∈l,inR s) {i:Nat} (hi:i<l.length):inR (sd l i):=h _ (List.mem_of_getElem? (GL hi))
theorem Ei {n i:Nat} (h:i<n):nxt n i<n:=Nat.mod_lt _ (by omega)
theorem Ha {n i:Nat} (h:i<n):prv n i<n:=Nat.mod_lt _ (by omega)
def Fj (l:List Sd) (i:Nat):Int:=(sd l i).x*(sd l (nxt l.length i)).y-(sd l i).y*(sd l (nxt l.length i)).x
theorem Jw {a b:Int} (ha:0<=a) (ha':a<=65536) (hb:0<=b) (hb':b<=65536):0<=a*b/\a*b<=4294967296:=by
 refine⟨Int.mul_nonneg ha hb, ?_⟩
 calc a*b<=65536*b:=Int.mul_le_mul_of_nonneg_right ha' hb
  _<=65536*65536:=Int.mul_le_mul_of_nonneg_left hb' (by decide)
  _=4294967296:=by decide
theorem Q8 {l:List Sd} (h: ∀s∈l,inR s): ∀k,k<=l.length->k<=1000000->Dc l k=AO (Fj l) k/\ -(k*4294967296:Int)<=Dc l k/\Dc l k<=k*4294967296
 |0,_,_=>⟨rfl,by simp[Dc],by simp[Dc]⟩
 |k+1,hk,hm=>by
  obtain⟨h1,h2,h3⟩:=Q8 h k (by omega) (by omega)
  have hs:=Dq h (show k<l.length by omega)
  have hn:=Dq h (Ei (show k<l.length by omega))
  obtain⟨a1,a2⟩:=Jw hs.1 hs.2.1 hn.2.2.1 hn.2.2.2
  obtain⟨b1,b2⟩:=Jw hs.2.2.1 hs.2.2.2 hn.1 hn.2.1
  have e:Dc l (k+1)=Dc l k+Fj l k:=by
   show w64 (Dc l k+w64 (w64 ((sd l k).x*(sd l (nxt l.length k)).y)-w64 ((sd l k).y*(sd l (nxt l.length k)).x)))=_
   unfold Fj
   rw[Ar (x:=(sd l k).x*_) (by omega) (by omega),Ar (x:=(sd l k).y*_) (by omega) (by omega),Ar (x:=_-_) (by omega) (by omega)]
   exact Ar (by omega) (by omega)
  have ec:Fj l k=(sd l k).x*(sd l (nxt l.length k)).y-(sd l k).y*(sd l (nxt l.length k)).x:=rfl
  refine⟨by rw[e,h1];rfl, ?_, ?_⟩<;>rw[e,ec]<;>push_cast<;>omega
theorem Hr {rs:List (List Sd)} (h:chk rs=0):(∀l∈rs, ∀s∈l,rgd s=true)/\(∀l∈rs,shp l=true)/\crs rs=false/\plc rs=true/\jnd rs=true:=by
 unfold chk at h
 split at h
 ·cases h
 split at h
 ·cases h
 split at h
 ·cases h
 split at h
 ·cases h
 rename_i h2
 split at h
 ·cases h
 rename_i h3
 split at h
 ·cases h
 rename_i h4
 split at h
 ·cases h
 rename_i h5
 refine⟨fun l hl s hs=> ?_,fun l hl=> ?_,by simpa using h4, ?_, ?_⟩
 ·cases hr:rgd s with
  |true=>rfl
  |false=>exact absurd (List.any_eq_true.2 ⟨s,List.mem_flatten.2 ⟨l,hl,hs⟩,by rw[hr];rfl⟩) h2
 ·cases hr:shp l with
  |true=>rfl
  |false=>exact absurd (List.any_eq_true.2 ⟨l,hl,by rw[hr];rfl⟩) h3
 ·cases hp:plc rs with
  |true=>rfl
  |false=>rw[hp] at h5;exact absurd rfl h5
 ·cases hp:jnd rs with
  |true=>rfl
  |false=>rw[hp] at h5;exact absurd (by simp) h5
end
section
open Go Go.RowKit Go.Am Go.Lib
set_option maxRecDepth 10000
section
variable {r:Option Nat} {n:Nat} {P:Program} {N:Nat} {D:List Deferred} {ops:List Oper} {Q:Exit->Act->World->Prop} {o:Oper} {rest:List Oper} {env:Env} {A:World->Prop}
theorem PA {ρ:Operand->Value} {t e:TypeId} {m c:Nat} {x y:Operand} {k:IntKind} {b off:Nat} {z:Int} (ht:P.underlying t=some (.array m e)) (hs: ∀W,(Go.sizeOf e).run P W= .ok c W) (ho:o.op= .indexAddr t x y)
  (hx:ρ x= .pointer (some ⟨b,off,none⟩)) (hy:ρ y= .int k z) (h0:0<=z/\z<m) (W:World):(execOp ρ o).run P W= .ok (.value (.pointer (some ⟨b,off+z.toNat*c,none⟩))) W:=by
 simp[execOp,ho,hx,hy,Instr.indexAt,Instr.sureAddr,asIntOf,run_underlying ht,hs,h0.1,h0.2,Addr.add_none]
theorem Rc {d:Nat} {t e:TypeId} {m c:Nat} {x y:Operand} {k:IntKind} {b off:Nat} {z:Int} (ht:P.underlying t=some (.array m e)) (hs: ∀W,(Go.sizeOf e).run P W= .ok c W) (hg:Aw ops N env o=some true) (hd:o.dst=some d) (ho:o.op= .indexAddr t x y)
  (hx:evO N env x=some (.pointer (some ⟨b,off,none⟩))) (hy:evO N env y=some (.int k z)) (h0:0<=z/\z<m)
  (h:WL r n P N D ops Q rest ((d, .pointer (some ⟨b,off+z.toNat*c,none⟩))::env) A):WL r n P N D ops Q (o::rest) env A:=
 CP hg hd (fun c e=>by rw[ho] at e;cases e) (fun _ W hρ _=>PA ht hs ho (hρ _ _ hx) (hρ _ _ hy) h0 W) h
end
def hdg (s t:Sd):Nat:=if s.x<t.x then 0 else if s.y<t.y then 1 else if t.x<s.x then 2 else 3
theorem dH (s t:Sd):hdg s t<4:=by
 unfold hdg
 split
 ·decide
 ·split
  ·decide
  ·split<;>decide
theorem Py (s t:Sd) (W:World):Ae Tryz.prog 143 #[s.val,t.val] W (fun _:Unit=> .int .i64 (hdg s t:Nat)) (fun _=>True) (fun _=>[]):=by
 refine Ab Tryz.func143 I I I<|xb<|wF I I fun _=>wF I I fun _=>wP I<|xl<|zH<|xb<|wP I<|wB 1 I I I<|wP I<|wB 0 I I I<|Aa I<|xa<|Ag I (fun h=> ?_) (fun h=> ?_)
 ·have c:s.x<t.x:=by have h:=of_decide_eq_true h;omega
  clear h
  have e:hdg s t=0:=by unfold hdg;rw[if_pos c]
  exact xb<|wP I<|xc<|zQ<|zP<|wR1 I I (by rw[e];rfl)
 have c1: ¬s.x<t.x:=by have h:=of_decide_eq_false h;omega
 clear h
 refine xb<|wP I<|wB 1 I I I<|wP I<|wB 0 I I I<|Aa I<|xa<|Ag I (fun h=> ?_) (fun h=> ?_)
 ·have c:s.y<t.y:=by have h:=of_decide_eq_true h;omega
  clear h
  have e:hdg s t=1:=by unfold hdg;rw[if_neg c1,if_pos c]
  exact xb<|wP I<|xc<|zQ<|zP<|wR1 I I (by rw[e];rfl)
 have c2: ¬s.y<t.y:=by have h:=of_decide_eq_false h;omega
 clear h
 refine xb<|wP I<|wB 1 I I I<|wP I<|wB 0 I I I<|Aa I<|xa<|Ag I (fun h=> ?_) (fun h=> ?_)
 ·have c:t.x<s.x:=by have h:=of_decide_eq_true h;omega
  clear h
  have e:hdg s t=2:=by unfold hdg;rw[if_neg c1,if_neg c2,if_pos c]
  exact xb<|wP I<|xc<|zQ<|zP<|wR1 I I (by rw[e];rfl)
 have c3: ¬t.x<s.x:=by have h:=of_decide_eq_false h;omega
 clear h
 have e:hdg s t=3:=by unfold hdg;rw[if_neg c1,if_neg c2,if_neg c3]
 exact zI<|zN<|xn<|wP I<|xc<|wR1 I I (by rw[e];rfl)
def Qn (k:Nat):Bool:=k==1||k==3
def Pb (k:Nat):Int:=if k=0\/k=3 then 1 else -1
abbrev dQ:List Value:=[.bool false, .int .i64 1, .bool true, .int .i64 (-1), .bool false, .int .i64 (-1), .bool true, .int .i64 1]
def DC (W:World):Prop:=Aj W 0 0 dQ
theorem DC.hp {W0 W:World} {bxs:List Bx} (h:DC W0) (hp:Hp W0 bxs W):DC W:=Aj.hp h hp
theorem DC.at_ {W:World} (h:DC W) {k:Nat} (hk:k<4):Aj W 0 (0+k*2) [.bool (Qn k), .int .i64 (Pb k)]:=by
 refine⟨h.lt,fun m u hu=> ?_⟩
 have hm:m=0\/m=1:=by
  have:=(List.getElem?_eq_some_iff.1 hu).1
  have:m<2:=this
  omega
 have hk:k=0\/k=1\/k=2\/k=3:=by omega
 have hg:=h.get (k*2+m) u (by
  rcases hk with rfl|rfl|rfl|rfl<;>rcases hm with rfl|rfl<;>exact hu)
 rw[Nat.zero_add] at hg
 rw[Nat.zero_add]
 exact hg
def frO (s t:Sd):FrP:=⟨Qn (hdg s t),if Qn (hdg s t) then s.x else s.y,Pb (hdg s t),if s.gable then 0 else nrm s.run s.rise,(s.plate:Rat)⟩
theorem FY {s:Sd} (h:rgd s=true):(0<=s.x/\s.x<=65536)/\(0<=s.y/\s.y<=65536)/\(0<=s.plate/\s.plate<=65536)/\(s.gable=false->(1<=s.rise/\s.rise<=48)/\(1<=s.run/\s.run<=48)):=by
 unfold rgd btw at h
 simp only[Bool.and_eq_true,decide_eq_true_eq] at h
 obtain⟨h1,⟨⟨h2,h3⟩,h4⟩,h5⟩:=h
 refine⟨h2,h3,h4,fun e=> ?_⟩
 rw[e] at h1
 simpa using h1
theorem Xh (s t:Sd) (h:rgd s=true) (W:World) (hd:DC W) (ht:A9 W):Ae Tryz.prog 81 #[s.val,t.val] W (fun _:Unit=>frV (frO s t)) (fun _=>True) (fun _=>[]):=by
 obtain⟨hx,hy,hp,hr⟩:=FY h
 obtain⟨k,hk⟩: ∃k,k=hdg s t:=⟨_,rfl⟩
 have hk4:k<4:=hk▸dH s t
 obtain⟨ax,hax⟩: ∃ax,ax=Qn k:=⟨_,rfl⟩
 obtain⟨dd,hdd⟩: ∃dd,dd=Pb k:=⟨_,rfl⟩
 have hrow: ∀ {W1:World} {bxs:List Bx},Hp W bxs W1->Aj W1 0 (0+((k:Nat):Int).toNat*2) [.bool ax, .int .i64 dd]:=fun hp1=>by
  rw[Int.toNat_natCast,hax,hdd]
  exact(hd.hp hp1).at_ hk4
 have hf:frO s t=⟨ax,if ax then s.x else s.y,dd,if s.gable then 0 else nrm s.run s.rise,(s.plate:Rat)⟩:=by unfold frO;rw[<-hk, <-hax, <-hdd]
 obtain⟨ps,hps⟩: ∃ps,ps=(if ax then s.x else s.y):=⟨_,rfl⟩
 obtain⟨sp,hsp⟩: ∃sp:Rat,sp=(if s.gable then 0 else nrm s.run s.rise):=⟨_,rfl⟩
 rw[<-hps, <-hsp] at hf
 rw[hf]
 refine Ab Tryz.func81 I I I<|xb<|wF I I fun _=>wF I I fun _=>wG I I fun _=>zC<|?_
 rename_i b2 b3 b4
 refine xn<|wB 0 I I I<|wB 1 I I I<|wC I I (fun W _=>(Py s t W).cast (by rw[<-hk]))<|Rc (c:=2) Tryz.underlying184 Tryz.sizeOf183 I I I I I ⟨by omega,by omega⟩ ?_
 refine wL 0 I I (fun W1 hp=>hrow hp) I<|wG I I fun _=>wS 3 I I I<|zC<|?_
 rename_i b5
 refine xn<|wP I<|wB 3 I I I<|wP I<|wB 0 I I I<|wP I<|wB 3 I I I<|An Tryz.hZ tH I I I I I I I I ?_
 refine wG I I fun _=>wS 4 I I I<|zC<|?_
 rename_i b6
 refine zE<|xd<|wP I<|wB 3 I I I<|xa<|?_
 try refine Ba ?_
 refine AA (X:=Unit) (fun _=>[(2,Ai b2),(4,Ai b4),(5,Ai b5),(6,Ai b6)]) (fun _=>[⟨b2,82,s.cells,true,none⟩,⟨b4,59,[.bool false, .int .i64 0, .int .i64 0,str [],str []],true,none⟩,⟨b6,59,[.bool ax, .int .i64 ps, .int .i64 dd,str (Ac 0),str []],true,none⟩]) (fun _=>True) ?_ ?_
 ·refine Ag I (fun h1=> ?_) (fun h1=> ?_)
  ·have e1:ax=true:=h1
   exact zB<|wP I<|wB 0 I I I<|wP I<|wS 4 I I I<|zC<|J6 () tO ⟨I,I,I,I,tO⟩ [0,2,4] (by decide) (by rw[hps,if_pos e1,BV];rfl)
  ·have e1:ax=false:=h1
   exact zI<|J6 () tO ⟨I,I,I,I,tO⟩ [0,2,4] (by decide) (by rw[hps,if_neg (by rw[e1];decide),BV];rfl)
 intro _ _
 refine xd<|wP I<|wB 0 I I I<|wP I<|xa<|?_
 try refine Ba ?_
 refine AA (X:=Unit) (fun _=>[(2,Ai b2),(4,Ai b4),(6,Ai b6)]) (fun _=>[⟨b2,82,s.cells,true,none⟩,⟨b4,59,[.bool false, .int .i64 0, .int .i64 0,str [],str []],true,none⟩,⟨b6,59,[.bool ax, .int .i64 ps, .int .i64 dd,str (Ac sp),str []],true,none⟩]) (fun _=>True) ?_ ?_
 ·refine Ag I (fun h1=> ?_) (fun h1=> ?_)
  ·have e1:s.gable=false:=by simpa using h1
   obtain⟨r1,r2⟩:=hr e1
   exact zB<|wP I<|wB 0 I I I<|wP I<|wB 0 I I I<|wC I I (fun W1 hp=>(FS s.run s.rise (by omega) (by omega) W1 (ht.hp hp)).cast (by rw[ofR,if_neg (by omega)]))<|At I<|wS 2 I I I<|zC<|J6 () tO ⟨I,I,I,tO⟩ [0,1,2] (by decide) (by rw[hsp,if_neg (by rw[e1];decide)];rfl)
  ·have e1:s.gable=true:=by simpa using h1
   exact zI<|J6 () tO ⟨I,I,I,tO⟩ [0,1,2] (by decide) (by rw[hsp,if_pos e1];rfl)
 intro _ _
 exact xb<|wP I<|wB 0 I I I<|wC I I (fun W1 hp=>(FS s.plate 1 (by omega) (by decide) W1 (ht.hp hp)).cast (by rw[K8]))<|At I<|wS 2 I I I<|xf<|wB 2 I I I<|wS 1 I I I<|xc<|A3 tH I (.cell 1 I I I I I) () I tO fun W _=>Au.nil _ _
def OL (l:List Sd) (i:Nat):FrP:=frO (sd l i) (sd l (nxt l.length i))
def D7 (l:List Sd) (i:Nat):List FrP:=(List.range i).map (OL l)
def Bl (rs:List (List Sd)):Nat->List FrP
 |0=>[]
 |k+1=>Bl rs k++D7 (rg rs k) (rg rs k).length
def EH (rs:List (List Sd)):List FrP:=Bl rs rs.length
def frC (l:List FrP):List Value:=l.flatMap fun f=>(frV f).cells.toList
theorem Sh (a b:List FrP):frC (a++b)=frC a++frC b:=List.flatMap_append
theorem Z8 (l:List FrP):(frC l).length=l.length*5:=by
 induction l with
 |nil=>rfl
 |cons f l ih=>show((frV f).cells.toList++frC l).length=_;rw[List.length_append,ih,List.length_cons];show 5+_=_;omega
theorem Nv (l:List Sd) (i:Nat):(D7 l i).length=i:=by unfold D7;rw[List.length_map,List.length_range]
theorem QB (l:List Sd) (i:Nat):D7 l (i+1)=D7 l i++[OL l i]:=by unfold D7;rw[List.range_succ,List.map_append];rfl
theorem Iv {rs:List (List Sd)}: ∀k,k<=rs.length->(Bl rs k).length=tot (rs.take k)
 |0,_=>rfl
 |k+1,h=>by
  show(Bl rs k++D7 _ _).length=_
  rw[List.length_append,Iv k (by omega),Nv,Bq h]
theorem KX (rs:List (List Sd)):(EH rs).length=tot rs:=by
 unfold EH
 rw[Iv _ (Nat.le_refl _),List.take_length]
theorem V7 {rs:List (List Sd)} {r i:Nat} (hi:i<(rg rs r).length): ∀k,r<k->k<=rs.length->(Bl rs k)[tot (rs.take r)+i]? =some (OL (rg rs r) i)
 |0,h,_=>absurd h (Nat.not_lt_zero _)
 |k+1,h,hk=>by
  have hl:=Iv (rs:=rs) k (by omega)
  show(Bl rs k++D7 _ _)[_]? =_
  by_cases e:r=k
  ·subst e
   rw[List.getElem?_append_right (by omega),hl,Nat.add_sub_cancel_left]
   unfold D7
   rw[List.getElem?_map,List.getElem?_range hi];rfl
  ·have ih:=V7 hi k (by omega) (by omega)
   rw[List.getElem?_append_left (List.getElem?_eq_some_iff.1 ih).1]
   exact ih
theorem Sm {rs:List (List Sd)} {r i:Nat} (hr:r<rs.length) (hi:i<(rg rs r).length):(EH rs)[tot (rs.take r)+i]? =some (OL (rg rs r) i):=V7 hi rs.length hr (Nat.le_refl _)
theorem Kd (W:World) (p:Option Addr) (cap:Nat) (rs:List (List Sd)) (hn:rs.length<4611686018427387904) (hR:AL W p rs) (hc:chk rs=0) (hd:DC W) (ht:A9 W):
  Ae Tryz.prog 40 #[B0 p rs.length cap] W (fun V:Vec=> .tuple #[V.val (EH rs).length, .int .i64 0]) (fun V=>V.OK 5 (EH rs).length (frC (EH rs))) (fun V=>[V.bx 59 (frC (EH rs))]):=by
 obtain⟨hne,hT,_⟩:=Mk hc
 obtain⟨hrg,_⟩:=Hr hc
 refine Ab Tryz.func40 I I I<|xb<|wF I I fun _=>Aa I<|zC<|?_
 rename_i b1
 refine zE<|xd<|wB 0 I I I<|wC I I (fun W1 hp=>(Ja W1 p cap rs hn (by omega) (hR.hp hp)).cast (by rw[hc]))<|wP I<|xa<|zS I<|xm<|wP I<|xk<|wP I<|wB 0 I I I<|Aa I<|?_
 refine xa<|zH<|C9 ?_
 refine Av (X:=Nat×Vec) (fun s=>[(1,Ai b1),(4,s.2.val (Bl rs s.1).length),(13,slv p rs.length cap),(14, .int .i64 (rs.length:Nat)),(15, .int .i64 (s.1:Nat))]) (fun s=>[⟨b1,24,[slv p rs.length cap],true,none⟩,s.2.bx 59 (frC (Bl rs s.1))])
  (fun s=>s.1<=rs.length/\s.2.OK 5 (Bl rs s.1).length (frC (Bl rs s.1))) (fun s=>rs.length-s.1) (0,Vec.empty) ⟨Nat.zero_le _,Vec.OK.empty 5⟩ ⟨rfl,rfl,rfl,rfl,rfl,trivial⟩ [] rfl ?_
 rintro⟨k,V⟩ ⟨hk,hV⟩
 have hk:k<=rs.length:=hk
 have hV:V.OK 5 (Bl rs k).length (frC (Bl rs k)):=hV
 have hl:=Iv k hk
 refine xb<|wP I<|?_
 by_cases hlt:k<rs.length
 ·refine wU 16 true I (dT (by omega))<|xl<|zR I<|xh<|?_
  obtain⟨l,hle⟩: ∃l,l=rg rs k:=⟨_,rfl⟩
  have hs:=Bq hlt
  have hs1:=Cs rs (k+1)
  obtain⟨gR,oR,hpe,hrows⟩:=hR.row hlt
  obtain⟨q,c,hrow,hring⟩:=hrows k hlt
  rw[<-hle] at hrow hring hs
  have hrl: ∀s∈l,rgd s=true:=fun s hs=>hrg l (by rw[hle];exact List.mem_of_getElem? (Bm hlt)) s hs
  have hln:l.length<=24:=by omega
  subst hpe
  refine wJ ?_
  refine wL 0 I I (fun W1 hp=>hrow.hp hp) I<|wP I<|xf<|Ad I<|xa<|zH<|?_
  refine Av (X:=Nat×Vec) (fun s=>[(1,Ai b1),(4,s.2.val ((Bl rs k).length+s.1)),(13,slv (some ⟨gR,oR,none⟩) rs.length cap),(14, .int .i64 (rs.length:Nat)),(15, .int .i64 (k:Nat)),(6,slv q l.length c),(19,slv q l.length c),(20, .int .i64 (l.length:Nat)),(21, .int .i64 (s.1:Nat))]) (fun s=>[⟨b1,24,[slv (some ⟨gR,oR,none⟩) rs.length cap],true,none⟩,s.2.bx 59 (frC (Bl rs k++D7 l s.1))])
   (fun s=>s.1<=l.length/\s.2.OK 5 ((Bl rs k).length+s.1) (frC (Bl rs k++D7 l s.1))) (fun s=>l.length-s.1) (0,V) ⟨Nat.zero_le _,by show V.OK 5 _ (frC (Bl rs k++[]));rw[List.append_nil];exact hV⟩ ⟨rfl,rfl,rfl,rfl,rfl,rfl,rfl,rfl,rfl,trivial⟩ [] (by show _=[_,V.bx 59 (frC (Bl rs k++[]))]++[];rw[List.append_nil,List.append_nil]) ?_
  rintro⟨i,U⟩ ⟨hi,hU⟩
  have hi:i<=l.length:=hi
  have hU:U.OK 5 ((Bl rs k).length+i) (frC (Bl rs k++D7 l i)):=hU
  refine xb<|wP I<|?_
  by_cases hil:i<l.length
  ·refine wU 22 true I (dT (by omega))<|xl<|zR I<|xh<|?_
   obtain⟨gS,oS,hqe,hsd⟩:=hring.row hil
   have hs0:=hsd i hil
   have hs1:=hsd (nxt l.length i) (Ei hil)
   have hnl:=Ei hil
   have hsuc:=QB l i
   subst hqe
   refine wP I<|wJ ?_
   refine wL 0 I I (fun W1 hp=>hs0.hp hp) I<|wG I I fun _=>wP I<|wS 2 I I I<|zC<|?_
   rename_i b8
   refine zE ?_
   refine AV (X:= { V':Vec//V'.OK 5 ((Bl rs k).length+(i+1)) (frC (Bl rs k++D7 l (i+1))) }) [true,true,true,true,true,true,true,true,true,true,true,false,false,false] (fun V'=>[(1,Ai b1),(4,V'.1.val ((Bl rs k).length+(i+1))),(13,slv (some ⟨gR,oR,none⟩) rs.length cap),(14, .int .i64 (rs.length:Nat)),(15, .int .i64 (k:Nat)),(6,slv (some ⟨gS,oS,none⟩) l.length c),(19,slv (some ⟨gS,oS,none⟩) l.length c),(20, .int .i64 (l.length:Nat)),(21, .int .i64 (i:Nat))])
    (fun V'=>[⟨b1,24,[slv (some ⟨gR,oR,none⟩) rs.length cap],true,none⟩,V'.1.bx 59 (frC (Bl rs k++D7 l (i+1)))])
    3 [⟨b1,24,[slv (some ⟨gR,oR,none⟩) rs.length cap],true,none⟩,U.bx 59 (frC (Bl rs k++D7 l i)),⟨b8,82,(sd l i).cells,true,none⟩] Tryz.mixed (by kernel_rfl) ?_ ?_
   ·refine qP I<|qB 2 I I I<|AY I<|qV 30 ((i+1:Nat):Int) I (A0 (by omega))<|Ay I<|DO I I I I I (by omega) ?_
    refine qV 33 (nxt l.length i:Nat) I (by rw[Int.tmod_eq_emod_of_nonneg (by omega)];exact(Int.natCast_emod _ _).symm)<|qJ ?_
    refine qL 0 I I (fun W1 hp=>hs1.hp hp) I<|qC I I (fun W1 hp=>Xh (sd l i) (sd l (nxt l.length i)) (hrl _ (List.mem_of_getElem? (GL hil))) W1 (hd.hp hp) (ht.hp hp))<|BR<|wX<|wZ<|As Tryz.hZ tH I I I I I I I I I I I fun bN=> ?_
    refine zC<|Ah<|wX<|wZ<|?_
    refine AN (V:=U) (len:=(Bl rs k).length+i) (xs:=frC (Bl rs k++D7 l i)) 1 3 Tryz.vec77 ((Bl rs k).length+(i+1)) (frC (Bl rs k++D7 l (i+1))) rfl rfl rfl rfl rfl rfl rfl rfl rfl rfl rfl hU rfl rfl rfl (by rw[hsuc, <-List.append_assoc,Sh (Bl rs k++D7 l i)];rfl) (by simp only[maxLen];omega) (by omega) rfl ?_;intro gV cV jV hV1
    refine zC<|Ah<|wY<|wZ<|wP I<|zC<|Ah<|AR I (by kernel_rfl) ?_
    exact A7 ⟨⟨some gV,cV,jV⟩,hV1⟩ ⟨I,I,I,I,I,I,I,I,I,tO⟩ [0,1] (by decide) I
   intro V'
   exact xi<|wP I<|wV 39 ((i+1:Nat):Int) I (A0 (by omega))<|wP I<|zC<|Al (i+1,V'.1) ⟨hil,V'.2⟩ (by show l.length-(i+1)<l.length-i;omega) ⟨I,I,I,I,I,I,I,I,I,tO⟩ [] I
  have e:i=l.length:=by omega
  subst e
  refine wU 22 false I (dF (by omega))<|xl<|zS I<|xg<|xi<|?_
  have hall:Bl rs (k+1)=Bl rs k++D7 l l.length:=by rw[hle];rfl
  have hall2:(Bl rs (k+1)).length=(Bl rs k).length+l.length:=by rw[hall,List.length_append,Nv]
  exact wP I<|wV 40 ((k+1:Nat):Int) I (A0 (by omega))<|wP I<|zC<|Al (k+1,U) ⟨hlt,by show U.OK 5 (Bl rs (k+1)).length (frC (Bl rs (k+1)));rw[hall2,hall];exact hU⟩ (by show rs.length-(k+1)<rs.length-k;omega) ⟨I,by show some (U.val _)=some (U.val (Bl rs (k+1)).length);rw[hall2],I,I,I,tO⟩ [] (by show _=[_,U.bx 59 (frC (Bl rs (k+1)))]++[];rw[hall];rfl)
 have e:k=rs.length:=by omega
 subst e
 exact wU 16 false I (dF (by omega))<|xl<|zS I<|xg<|xn<|Ad I<|xc<|A4 tH I (.tmp I) (.tmp I) V I hV fun W1 hp=>Au.of_hp (hp.pick (l:=[V.bx 59 (frC (Bl rs rs.length))]) [1] (by decide) I)
theorem Jo {q:Rat} {n:Nat} (h:(Ac q).length<=n) (hn:1<=n):szQ q n:=by
 have hi:(itoa q.num).length<=n/\(decDigits q.den).length<=n:=by
  unfold Ac F1 at h
  split at h
  ·rename_i e
   exact⟨h,by rw[e];exact Nat.le_trans (Cy 1 1 (by decide) (by decide)) hn⟩
  ·rw[List.length_append,List.length_cons] at h
   omega
 have h2:(decDigits q.num.natAbs).length<=n:=by
  have h1:=hi.1
  unfold itoa at h1
  split at h1
  ·exact Nat.le_of_succ_le h1
  ·rwa [show q.num.toNat=q.num.natAbs by omega] at h1
 exact⟨Nat.lt_of_lt_of_le (Fq _) (Nat.pow_le_pow_right (by decide) h2),Nat.lt_of_lt_of_le (Fq _) (Nat.pow_le_pow_right (by decide) hi.2)⟩
theorem Ls {a:List UInt8} (h:(rdR a).2=0): ∃q,okQ q/\a=Ac q:=by
 unfold rdR at h
 cases hf:frm a with
 |none=>rw[hf] at h;exact absurd h (by decide)
 |some x=>
  obtain⟨z,d⟩:=x
  rw[hf] at h
  simp only at h
  by_cases h1:z.natAbs<Bw/\d<Bw
  ·rw[if_pos h1] at h
   by_cases h2:Nat.gcd z.natAbs d=1
   ·obtain⟨h3,h4⟩:=Nt hf
    exact⟨⟨z,d,by omega,h2⟩,⟨h1.1,by unfold okN;rw[Int.natAbs_natCast];exact h1.2⟩,h4⟩
   ·rw[if_neg h2] at h;exact absurd h (by decide)
  ·rw[if_neg h1] at h;exact absurd h (by decide)
theorem Cq (p q:Rat) (h:Sz2 p q) (W:World) (hv:AH W) (ht:A9 W):
  Ae Tryz.prog 32 #[str (Ac p),str (Ac q)] W (fun _:Unit=> .int .i64 (CT p q)) (fun _=>True) (fun _=>[]):=by
 refine Ab Tryz.func32 I I I<|xb<|wP I<|xf<|Aa I<|wC I I (fun W hp=>(EO p q h W (hv.hp hp) (ht.hp hp)).cast (by rw[Mg]))<|Ak I<|xf<|Aa I<|xa<|?_
 exact zO<|wR1 I I I
theorem PS (q:Rat) (h:szQ q 12) (W:World) (hv:AH W) (ht:A9 W):
  Ae Tryz.prog 94 #[str (Ac q)] W (fun _:Unit=> .int .i64 0) (fun _=>True) (fun _=>[]):=by
 have hk:=h.ok (by decide)
 have l1:=Cy 12 q.num.natAbs (by decide) h.1
 have l2:=Cy 12 q.den (by decide) h.2
 refine Ab Tryz.func94 I I I<|xb<|wP I<|xf<|wP I<|wC I I (fun W hp=>EI q hk W (hv.hp hp) (ht.hp hp))<|AE I<|wP I<|xk<|Aa I<|?_
 refine xa<|zS I<|xe<|xd<|wP I<|wC I I (fun W _=>(BH (itoa q.num) [45] W).cast (by rw[Bf]))<|wP I<|Ap 17 (.int .i64 ((decDigits q.num.natAbs).length:Nat)) I (congrArg (fun n:Nat=>Value.int .i64 (n:Int)) (A5 _))<|wP I<|wU 18 false I (dF (by omega))<|Ad I<|Ap 21 (.int .i64 ((decDigits q.den).length:Nat)) I (congrArg (fun n:Nat=>Value.int .i64 (n:Int)) ((A5 _).trans (by rw[Ff])))<|wP I<|wU 22 false I (dF (by omega))<|wP I<|xa<|zS I<|?_
 exact xm<|wP I<|xc<|wR1 I I I
def ner:List (List UInt8)->Int
 |[]=>0
 |a::l=>if (rdR a).2=0 then ner l else(rdR a).2
theorem NC {l:List (List UInt8)} {i:Nat} (h:i<l.length):ner (l.drop i)=if (rdR l[i]).2=0 then ner (l.drop (i+1)) else(rdR l[i]).2:=by
 rw[List.drop_eq_getElem_cons h];rfl
theorem IV: ∀ {l:List (List UInt8)},ner l=0-> ∀a∈l,(rdR a).2=0
 |[],_,_,h=>by cases h
 |b::l,h,a,ha=>by
  unfold ner at h
  by_cases hb:(rdR b).2=0
  ·rw[if_pos hb] at h
   rcases List.mem_cons.1 ha with rfl|ha
   ·exact hb
   ·exact IV h a ha
  ·rw[if_neg hb] at h
   exact absurd h hb
theorem TQ (W:World) (p:Option Addr) (cap:Nat) (l:List (List UInt8)) (hA:EJ W p l) (hn:l.length<=100000) (hs: ∀a∈l,a.length<=12) (hv:AH W) (ht:A9 W):
  Ae Tryz.prog 50 #[slv p l.length cap] W (fun _:Unit=> .int .i64 (ner l)) (fun _=>True) (fun _=>[]):=by
 refine Ab Tryz.func50 I I I<|xb<|wP I<|xk<|Ad I<|xa<|zH<|Av (X:=Nat) (fun i=>[(0,slv p l.length cap),(2, .int .i64 0),(9,slv p l.length cap),(10, .int .i64 (l.length:Nat)),(11, .int .i64 (i:Nat))]) (fun _=>[]) (fun i=>i<=l.length/\ner l=ner (l.drop i)) (fun i=>l.length-i) 0 ⟨Nat.zero_le _,I⟩ ⟨I,I,I,I,I,tO⟩ [] I ?_
 rintro i ⟨hi,he⟩
 have hi:i<=l.length:=hi
 have he:ner l=ner (l.drop i):=he
 refine xb<|wP I<|?_
 by_cases hlt:i<l.length
 ·refine wU 12 true I (dT (by omega))<|xl<|zR I<|xh<|?_
  obtain⟨b,off,rfl,hrow⟩:=hA.row hlt
  have hr:=hrow i hlt
  have hz:=hs l[i] (List.getElem_mem _)
  rw[NC hlt] at he
  obtain⟨x,hx⟩: ∃x,x=l[i]:=⟨_,rfl⟩
  rw[<-hx] at hr hz he
  refine wJ ?_
  refine wL 0 I I (fun W1 hp=>hr.hp hp) I<|wP I<|xf<|wP I<|wC I I (fun W1 hp=>BE x (by omega) W1 (hv.hp hp) (ht.hp hp))<|wP I<|xf<|Aa I<|?_
  by_cases h1:(rdR x).2=0
  rotate_left
  ·refine wU 18 true I (bne_iff_ne.2 h1)<|xa<|zR I<|xb<|Aa I<|xc<|xj<|zP<|?_
   rw[if_neg h1] at he
   exact wR1 I I (by rw[he])
  rw[if_pos h1] at he
  exact wU 18 false I (bne_eq_false_iff_eq.2 h1)<|xa<|zS I<|zI<|xi<|wP I<|wV 20 ((i+1:Nat):Int) I (A0 (by omega))<|wP I<|zC<|Al (i+1) ⟨hlt,he⟩ (by show l.length-(i+1)<l.length-i;omega) ⟨I,I,I,I,I,tO⟩ [] I
 refine wU 12 false I (dF (by omega))<|xl<|zS I<|xg<|zE<|xd<|?_
 rw[List.drop_of_length_le (by omega)] at he
 have hall:=IV he
 refine Ad I<|xa<|zH<|Av (X:=Nat) (fun i=>[(2, .int .i64 0),(21,slv p l.length cap),(22, .int .i64 (l.length:Nat)),(23, .int .i64 (i:Nat))]) (fun _=>[]) (fun i=>i<=l.length) (fun i=>l.length-i) 0 (Nat.zero_le _) ⟨I,I,I,I,tO⟩ [] I ?_
 intro i hi
 have hi:i<=l.length:=hi
 refine xb<|wP I<|?_
 by_cases hlt:i<l.length
 ·refine wU 24 true I (dT (by omega))<|xl<|zR I<|xh<|?_
  obtain⟨b,off,rfl,hrow⟩:=hA.row hlt
  have hr:=hrow i hlt
  obtain⟨q,_,hx⟩:=Ls (hall l[i] (List.getElem_mem _))
  have hz:=Jo (q:=q) (by rw[<-hx];exact hs l[i] (List.getElem_mem _)) (by decide)
  rw[hx] at hr
  refine wJ ?_
  refine wL 0 I I (fun W1 hp=>hr.hp hp) I<|wP I<|xf<|wP I<|wC I I (fun W1 hp=>PS q hz W1 (hv.hp hp) (ht.hp hp))<|wP I<|xf<|Aa I<|xa<|zS I<|zI<|xi<|wP I<|wV 32 ((i+1:Nat):Int) I (A0 (by omega))<|?_
  exact wP I<|zC<|Al (i+1) hlt (by show l.length-(i+1)<l.length-i;omega) ⟨I,I,I,I,tO⟩ [] I
 exact wU 24 false I (dF (by omega))<|xl<|zS I<|xg<|xn<|wP I<|xc<|wR1 I I (by rw[he];rfl)
def ND (a b:Int):Bool:=decide (1<=a/\a<=48/\1<=b/\b<=48)
theorem Rf (a b:Int) (W:World):
  Ae Tryz.prog 51 #[.int .i64 a, .int .i64 b] W (fun _:Unit=> .bool (ND a b)) (fun _=>True) (fun _=>[]):=by
 refine Ab Tryz.func51 I I I<|xb<|wP I<|xf<|Aa I<|?_
 by_cases h1:1<=a
 rotate_left
 ·refine wU 6 false I (dF (by omega))<|wP I<|?_
  iterate 2 refine Af I I ?_
  refine Aa I<|?_
  iterate 2 refine Af I I ?_
  refine Aa I<|?_
  iterate 2 refine Af I I ?_
  exact Aa I<|xc<|wR1 I I (congrArg Value.bool (dF (by omega)).symm)
 refine wU 6 true I (dT (by omega))<|Ad I<|?_
 by_cases h2:a<=48
 rotate_left
 ·refine wU 9 false I (dF (by omega))<|Aa I<|?_
  iterate 2 refine Af I I ?_
  refine Aa I<|?_
  iterate 2 refine Af I I ?_
  exact Aa I<|xc<|wR1 I I (congrArg Value.bool (dF (by omega)).symm)
 refine wU 9 true I (dT (by omega))<|At I<|?_
 by_cases h3:1<=b
 rotate_left
 ·refine wU 13 false I (dF (by omega))<|Aa I<|?_
  iterate 2 refine Af I I ?_
  exact Aa I<|xc<|wR1 I I (congrArg Value.bool (dF (by omega)).symm)
 refine wU 13 true I (dT (by omega))<|At I<|?_
 by_cases h4:b<=48
 rotate_left
 ·exact wU 17 false I (dF (by omega))<|Aa I<|xc<|wR1 I I (congrArg Value.bool (dF (by omega)).symm)
 exact wU 17 true I (dT (by omega))<|Aa I<|xc<|wR1 I I (congrArg Value.bool (dT ⟨h1,h2,h3,h4⟩).symm)
abbrev dmS (s:Int) (x h e:List UInt8) (a b:Int):Value:= .agg #[.int .i64 s,str x,str h,str e, .int .i64 a, .int .i64 b]
abbrev Im (s:Int) (l r lo hi:List UInt8):Value:= .agg #[.int .i64 s,str l,str r,str lo,str hi]
theorem DE {a b:Int} (ha:1<=a/\a<=48) (hb:1<=b/\b<=48):szQ (nrm a b) 2:=G5 a (by omega) (by show a.natAbs<100;omega) (by show b.natAbs<100;omega)
theorem JB (s:Int) (l r lo hi:Rat) (zl:szQ l 8) (zr:szQ r 8) (zo:szQ lo 8) (zi:szQ hi 8) (W:World) (hv:AH W) (ht:A9 W):
  Ae Tryz.prog 48 #[Im s (Ac l) (Ac r) (Ac lo) (Ac hi)] W (fun _:Unit=> .tuple #[str (Ac ((r-l)*(hi-lo))), .int .i64 0]) (fun _=>True) (fun _=>[]):=by
 refine Ab Tryz.func48 I I I<|xb<|wF I I fun _=>Aa I<|xf<|wP I<|wB 0 I I I<|wP I<|wB 0 I I I<|wC I I (fun W hp=>C6 r l (sz2 zr zl (by decide)) W (hv.hp hp) (ht.hp hp))<|Ak I<|xl<|zA<|?_
 refine zB<|Aa I<|xa<|zS I<|xm<|wP I<|wB 0 I I I<|wP I<|wB 0 I I I<|wC I I (fun W hp=>C6 hi lo (sz2 zi zo (by decide)) W (hv.hp hp) (ht.hp hp))<|Ak I<|xl<|zA<|?_
 exact zB<|Aa I<|xa<|zS I<|xm<|Aa I<|wC I I (fun W hp=>Db (r-l) (hi-lo) (sz2 (zr.sub zl) (zi.sub zo) (by decide)) W (hv.hp hp) (ht.hp hp))<|At I<|xc<|wR2 I I I
theorem szo:szQ (0:Rat) 1:=HS (z:=0) (by decide) (by decide)
theorem fS {a b c x y:Rat} {i j k m n:Nat} (ha:szQ a i) (hb:szQ b j) (hc:szQ c k) (hx:szQ x m) (hy:szQ y n) (hk:i+m+(j+n)+k+10<=300):HtZ a b c x y:=by
 have p1:=ha.mul hx
 have p2:=hb.mul hy
 refine⟨sz2 ha hx (by omega),sz2 hb hy (by omega),fun q hq=> ?_,fun l hl=> ?_⟩
 ·rcases List.mem_cons.1 hq with rfl|hq
  ·exact p1.ok (by omega)
  ·rcases List.mem_cons.1 hq with rfl|hq
   ·exact p2.ok (by omega)
   ·obtain rfl:=List.mem_singleton.1 hq
    exact hc.ok (by omega)
 ·have s1:=szo.add p1
  have s2:=s1.add p2
  have hl3:l<3:=hl
  have hc3:l=0\/l=1\/l=2:=by omega
  rcases hc3 with rfl|rfl|rfl
  ·exact sz2 szo p1 (by omega)
  ·exact sz2 s1 p2 (by omega)
  ·exact sz2 s2 hc (by omega)
def FrP.off (f:FrP) (d:Rat):Rat:=(f.pos:Rat)+(f.hd:Rat)*d
def FrP.px (f:FrP) (u d:Rat):Rat:=if f.ax then f.off d else u
def FrP.py (f:FrP) (u d:Rat):Rat:=if f.ax then u else f.off d
def FrP.pz (f:FrP) (d:Rat):Rat:=f.st+d/f.sp
def FrP.spot (f:FrP) (u d:Rat):Value:= .agg #[str (Ac (f.px u d)),str (Ac (f.py u d)),str (Ac (f.pz d))]
structure FrP.Go (f:FrP):Prop where
 ok:f.OK
 sp:szQ f.sp 2
 st:szQ f.st 5
 h0:f.sp≠0
theorem FrP.Go.offz {f:FrP} (h:f.Go) {d:Rat} (zd:szQ d 27):szQ (f.off d) 34:=h.ok.posz.add (h.ok.hdz.mul zd)
theorem FrP.Go.sum {f:FrP} (h:f.Go) (u d:Rat):0+(if f.ax then f.slope else 0)*f.px u d+(if f.ax then 0 else f.slope)*f.py u d+f.base=f.pz d:=by
 have h0:=h.h0
 unfold FrP.px FrP.py FrP.pz FrP.base FrP.slope FrP.off
 rcases h.ok.hd2 with e|e<;>rw[e]<;>cases f.ax<;>simp only[Bool.false_eq_true,if_false,if_true]<;>grind
theorem RM {f:FrP} (h:f.OK) (d:Rat):(if f.hd<0 then(f.pos:Rat)-d else(f.pos:Rat)+d)=f.off d:=by
 unfold FrP.off
 rcases h.hd with e|e
 ·rw[if_neg (by omega),e];grind
 ·rw[if_pos (by omega),e];grind
theorem SG (f:FrP) (h:f.Go) (u d:Rat) (zu:szQ u 17) (zd:szQ d 27) (W:World) (hv:AH W) (ht:A9 W):
  Ae Tryz.prog 54 #[frV f,str (Ac u),str (Ac d)] W (fun _:Unit=> .tuple #[f.spot u d, .int .i64 0]) (fun _=>True) (fun _=>[]):=by
 have zo:=h.offz zd
 have zsl:szQ f.slope 3:=h.ok.hdz.div h.sp (HC h.h0)
 have zba:szQ f.base 14:=h.st.sub (zsl.mul h.ok.posz)
 have zx:szQ (f.px u d) 34:=by unfold FrP.px;split;exact zo;exact zu.mono (by decide)
 have zy:szQ (f.py u d) 34:=by unfold FrP.py;split;exact zu.mono (by decide);exact zo
 obtain⟨A,hA⟩: ∃A:Rat,A=if f.ax then f.slope else 0:=⟨_,rfl⟩
 obtain⟨B,hB⟩: ∃B:Rat,B=if f.ax then 0 else f.slope:=⟨_,rfl⟩
 have kA:szQ A 3:=by rw[hA];split;exact zsl;exact szo.mono (by decide)
 have kB:szQ B 3:=by rw[hB];split;exact szo.mono (by decide);exact zsl
 have hsum:0+A*f.px u d+B*f.py u d+f.base=f.pz d:=by rw[hA,hB];exact h.sum u d
 have hplane:f.plane= .tuple #[plV A B f.base, .int .i64 0]:=by
  rw[FrP.plane,if_neg (HC h.h0),hA,hB]
  cases f.ax
  ·simp only[Bool.false_eq_true,if_false,plV,BV]
  ·simp only[if_true,plV,BV]
 have z1:=sz2 h.ok.posz zd (by decide)
 refine Ab Tryz.func54 I I I<|xb<|wF I I fun _=>wG I I fun _=>wP I<|zC<|?_
 rename_i b3 b6
 refine xn<|wP I<|wB 0 I I I<|wC I I (fun W hp=>(FS f.pos 1 h.ok.pos64 (by decide) W (ht.hp hp)).cast (by rw[K8]))<|Ak I<|xk<|Aa I<|xa<|zS I<|xe<|zA<|?_
 refine zB<|wP I<|xk<|wP I<|wB 0 I I I<|wP I<|zC<|?_
 obtain⟨g,hg⟩: ∃g:Nat,g=if f.hd<0 then 37 else 36:=⟨_,rfl⟩
 refine KD ?_
 try refine Ba ?_
 refine AA (X:=Unit) (fun _=>[(1,str (Ac u)),(2,str (Ac d)),(3,Ai b3),(6,Ai b6),(7, .int .i64 0),(8,str (Ac (f.pos:Rat))),(10, .func (.func g) #[] #[])]) (fun _=>[⟨b3,59,(frV f).cells.toList,true,none⟩,⟨b6,33,[str [],str [],str []],true,none⟩]) (fun _=>True) ?_ ?_
 ·refine Ag I (fun hn=> ?_) (fun hn=> ?_)
  ·have hn:f.hd<0:=of_decide_eq_true hn
   rw[if_pos hn] at hg
   exact zB<|wP I<|zC<|Ao () tO ⟨I,I,I,I,I,I,by rw[hg];rfl,tO⟩ [] I
  ·have hn: ¬f.hd<0:=of_decide_eq_false hn
   rw[if_neg hn] at hg
   exact zI<|Ao () tO ⟨I,I,I,I,I,I,by rw[hg];rfl,tO⟩ [] I
 intro _ _
 refine xb<|?_
 have hE:AS Tryz.prog g=true:=by rw[hg];split<;>kernel_rfl
 refine Ad I<|?_
 refine Bz (g:=g) (capt:=[]) I I I I I I hE (fun W hp=>(show Ae Tryz.prog g #[str (Ac (f.pos:Rat)),str (Ac d)] W (fun _:Unit=> .tuple #[str (Ac (f.off d)), .int .i64 0]) (fun _=>True) (fun _=>[]) by
  rw[hg, <-RM h.ok]
  split
  ·exact C6 (f.pos:Rat) d z1 W (hv.hp hp) (ht.hp hp)
  ·exact C7 (f.pos:Rat) d z1 W (hv.hp hp) (ht.hp hp))) ?_
 refine Ak I<|xk<|Aa I<|xa<|zS I<|xm<|Aa I<|An Tryz.hZ tH I I I I I I I I ?_
 refine wG I I fun _=>wS 2 I I I<|zC<|?_
 rename_i b12
 refine zE<|xd<|wP I<|wB 0 I I I<|xa<|?_
 try refine Ba ?_
 refine AA (X:=Unit) (fun _=>[(3,Ai b3),(6,Ai b6),(7, .int .i64 0),(12,Ai b12)]) (fun _=>[⟨b3,59,(frV f).cells.toList,true,none⟩,⟨b6,33,[str [],str [],str []],true,none⟩,⟨b12,105,[str (Ac (f.px u d)),str (Ac (f.py u d))],true,none⟩]) (fun _=>True) ?_ ?_
 ·refine Ag I (fun hax=> ?_) (fun hax=> ?_)
  ·have hax:f.ax=true:=hax
   refine zB<|Aa I<|An Tryz.hZ tH I I I I I I I I ?_
   exact wS 2 I I I<|zC<|Ao () tO ⟨I,I,I,I,tO⟩ [] (by rw[FrP.px,FrP.py,if_pos hax,if_pos hax];rfl)
  ·have hax:f.ax=false:=hax
   exact zI<|Ao () tO ⟨I,I,I,I,tO⟩ [] (by rw[FrP.px,FrP.py,hax];rfl)
 intro _ _
 refine xd<|wP I<|wB 0 I I I<|wP I<|wU 49 false I ((AW _ _).trans ((Ns f.sp).trans (dF h.h0)))<|xa<|zS I<|xm<|wB 0 I I I<|wC I I (fun W hp=>(KG f h.ok W (hv.hp hp) (ht.hp hp)).cast hplane)<|Ad I<|wG I I fun _=>wS 3 I I I<|wP I<|xa<|?_
 refine xd<|Aa I<|xa<|zS I<|xm<|wB 3 I I I<|wB 2 I I I<|wC I I (fun W hp=>(JT A B f.base (f.px u d) (f.py u d) (kA.mono (by decide)) (kB.mono (by decide)) (zba.mono (by decide)) (zx.mono (by decide)) (zy.mono (by decide)) (fS kA kB zba zx zy (by decide)) W (hv.hp hp) (ht.hp hp)).cast (by rw[hsum]))<|Ak I<|xf<|?_
 refine wP I<|wB 2 I I I<|wP I<|wB 2 I I I<|wP I<|An Tryz.hZ tH I I I I I I I I ?_
 exact wP I<|wS 1 I I I<|wP I<|xc<|A4 tH I (.cell 1 I I I I I) (.tmp I) () I tO fun W _=>Au.nil _ _
end
section
open Go Go.RowKit Go.Am
theorem Qv {n:Nat} {f g:Nat->Bool} (h: ∀i,i<n->f i=g i):(List.range n).all f=(List.range n).all g:=by
 rw[Bool.eq_iff_iff,List.all_eq_true,List.all_eq_true]
 constructor<;>intro h1 i hi
 ·rw[<-h i (List.mem_range.1 hi)];exact h1 i hi
 ·rw[h i (List.mem_range.1 hi)];exact h1 i hi
def Wv (rs:List (List Sd)):Prop:= ∀l∈rs, ∀s∈l,inR s
theorem bV {rs:List (List Sd)} (h:rs.flatten.any (fun s=> !rgd s)=false): ∀l∈rs, ∀s∈l,rgd s=true:=fun l hl s hs=>by
 cases hr:rgd s with
 |true=>rfl
 |false=>
  have:rs.flatten.any (fun s=> !rgd s)=true:=List.any_eq_true.2 ⟨s,List.mem_flatten.2 ⟨l,hl,hs⟩,by rw[hr];rfl⟩
  rw[h] at this;cases this
theorem Zx {n k:Nat} (h:k<n):nxt n (prv n k)=k:=by
 unfold nxt prv
 cases k with
 |zero=>
  rw[Nat.zero_add,Nat.mod_eq_of_lt (show n-1<n by omega),show n-1+1=n by omega,Nat.mod_self]
 |succ k=>rw[show k+1+n-1=k+n by omega,Nat.add_mod_right,Nat.mod_eq_of_lt (show k<n by omega),Nat.mod_eq_of_lt h]
theorem d64 {a b:Int} (h1:0<=a/\a<=65536) (h2:0<=b/\b<=65536):w64 (a-b)=a-b:=Ar (by omega) (by omega)
theorem Fy {l:List Sd} (hr: ∀s∈l,inR s) (h:shp l=true) {i:Nat} (hi:i<l.length):
  ¬(((sd l (nxt l.length i)).x-(sd l i).x=0)↔((sd l (nxt l.length i)).y-(sd l i).y=0))/\ ¬(((sd l i).x-(sd l (prv l.length i)).x=0)↔((sd l (nxt l.length i)).x-(sd l i).x=0)):=by
 unfold shp at h
 obtain⟨_,h⟩:=Bool.and_eq_true_iff.1 h
 have h1:=List.all_eq_true.1 h i (List.mem_range.2 hi)
 obtain⟨s1,s2,s3,s4⟩:=Dq hr hi
 obtain⟨n1,n2,n3,n4⟩:=Dq hr (Ei hi)
 obtain⟨p1,p2,p3,p4⟩:=Dq hr (Ha hi)
 unfold HZ UZ at h1
 rw[d64 ⟨n1,n2⟩ ⟨s1,s2⟩,d64 ⟨n3,n4⟩ ⟨s3,s4⟩,d64 ⟨s1,s2⟩ ⟨p1,p2⟩] at h1
 obtain⟨h2,h3⟩:=Bool.and_eq_true_iff.1 h1
 refine⟨fun e=> ?_,fun e=> ?_⟩
 ·have:(((sd l (nxt l.length i)).x-(sd l i).x==0)==((sd l (nxt l.length i)).y-(sd l i).y==0))=true:=by rw[beq_iff_eq,Bool.eq_iff_iff,beq_iff_eq,beq_iff_eq];exact e
  rw[this] at h2;cases h2
 ·have:(((sd l i).x-(sd l (prv l.length i)).x==0)==((sd l (nxt l.length i)).x-(sd l i).x==0))=true:=by rw[beq_iff_eq,Bool.eq_iff_iff,beq_iff_eq,beq_iff_eq];exact e
  rw[this] at h3;cases h3
theorem Vu {l:List Sd} (h:shp l=true):4<=l.length:=by
 unfold shp at h
 exact of_decide_eq_true (Bool.and_eq_true_iff.1 h).1
theorem dZ {l:List Sd} (hr: ∀s∈l,inR s) (h4:4<=l.length)
  (h: ∀i,i<l.length-> ¬(((sd l (nxt l.length i)).x-(sd l i).x=0)↔((sd l (nxt l.length i)).y-(sd l i).y=0))/\ ¬(((sd l i).x-(sd l (prv l.length i)).x=0)↔((sd l (nxt l.length i)).x-(sd l i).x=0))):shp l=true:=by
 unfold shp
 rw[dT h4,Bool.true_and,List.all_eq_true]
 intro i hi
 have hi:=List.mem_range.1 hi
 obtain⟨h1,h2⟩:=h i hi
 obtain⟨s1,s2,s3,s4⟩:=Dq hr hi
 obtain⟨n1,n2,n3,n4⟩:=Dq hr (Ei hi)
 obtain⟨p1,p2,p3,p4⟩:=Dq hr (Ha hi)
 unfold HZ UZ
 rw[d64 ⟨n1,n2⟩ ⟨s1,s2⟩,d64 ⟨n3,n4⟩ ⟨s3,s4⟩,d64 ⟨s1,s2⟩ ⟨p1,p2⟩]
 have e1:(((sd l (nxt l.length i)).x-(sd l i).x==0)==((sd l (nxt l.length i)).y-(sd l i).y==0))=false:=by
  rw[Bool.eq_false_iff];intro e;rw[beq_iff_eq,Bool.eq_iff_iff,beq_iff_eq,beq_iff_eq] at e;exact h1 e
 have e2:(((sd l i).x-(sd l (prv l.length i)).x==0)==((sd l (nxt l.length i)).x-(sd l i).x==0))=false:=by
  rw[Bool.eq_false_iff];intro e;rw[beq_iff_eq,Bool.eq_iff_iff,beq_iff_eq,beq_iff_eq] at e;exact h2 e
 rw[e1,e2];rfl
theorem gG {a b:Int} (h1: -65536<=a/\a<=65536) (h2: -65536<=b/\b<=65536): -4294967296<=a*b/\a*b<=4294967296:=by
 have h:(a*b).natAbs<=65536*65536:=by
  rw[Int.natAbs_mul]
  exact Nat.mul_le_mul (by omega) (by omega)
 omega
theorem XO {s t u:Sd} (hs:inR s) (ht:inR t) (hu:inR u):Ir s t u=decide ((t.x-s.x)*(u.y-t.y)-(t.y-s.y)*(u.x-t.x)>0):=by
 obtain⟨s1,s2,s3,s4⟩:=hs
 obtain⟨t1,t2,t3,t4⟩:=ht
 obtain⟨u1,u2,u3,u4⟩:=hu
 unfold Ir
 rw[d64 ⟨t1,t2⟩ ⟨s1,s2⟩,d64 ⟨u3,u4⟩ ⟨t3,t4⟩,d64 ⟨t3,t4⟩ ⟨s3,s4⟩,d64 ⟨u1,u2⟩ ⟨t1,t2⟩]
 have m1:=gG (a:=t.x-s.x) (b:=u.y-t.y) (by omega) (by omega)
 have m2:=gG (a:=t.y-s.y) (b:=u.x-t.x) (by omega) (by omega)
 rw[Ar (x:=(t.x-s.x)*_) (by omega) (by omega),Ar (x:=(t.y-s.y)*_) (by omega) (by omega),Ar (by omega) (by omega)]
theorem Q5 (rs:List (List Sd)) (m:Nat): ∀d, ∃t,AD rs (m+d)=AD rs m++t
 |0=>⟨[],by simp⟩
 |d+1=>by
  obtain⟨t,h⟩:=Q5 rs m d
  refine⟨t++Bu (m+d) (rg rs (m+d)).length, ?_⟩
  show AD rs (m+d)++Bu (m+d) (rg rs (m+d)).length=_
  rw[h,List.append_assoc]
theorem JH {rs:List (List Sd)} {r i:Nat} (hr:r<rs.length) (hi:i<(rg rs r).length):pl rs (tot (rs.take r)+i)=(r,i):=by
 obtain⟨t,h⟩:=Q5 rs (r+1) (rs.length-(r+1))
 rw[show r+1+(rs.length-(r+1))=rs.length by omega] at h
 have h2:AD rs (r+1)=AD rs r++Bu r (rg rs r).length:=rfl
 have hlen:=Jt rs r (by omega)
 unfold pl
 rw[List.getD_eq_getElem?_getD,h,h2,List.append_assoc,List.getElem?_append_right (by omega),hlen,Nat.add_sub_cancel_left,List.getElem?_append_left (by simp[Bu];exact hi)]
 simp[Bu,hi]
theorem Vi {rs:List (List Sd)} {r i:Nat} (hr:r<rs.length) (hi:i<(rg rs r).length):tot (rs.take r)+i<tot rs:=by
 have h1:=Bq hr
 have h2:=Cs rs (r+1)
 omega
theorem Ml (t u t' u':Sd):EV t u t' u'=EV t' u' t u:=by
 unfold EV
 rw[Bool.eq_iff_iff]
 simp only[Bool.and_eq_true,decide_eq_true_eq]
 omega
theorem WD {rs:List (List Sd)} (h:crs rs=false) {r i s k:Nat} (hr:r<rs.length) (hi:i<(rg rs r).length) (hs:s<rs.length) (hk:k<(rg rs s).length) (hne:r≠s):
  EV (bsd rs (r,i)) (esd rs (r,i)) (bsd rs (s,k)) (esd rs (s,k))=false:=by
 have one: ∀ {a b:Nat×Nat} {j j':Nat},pl rs j=a->pl rs j'=b->j<tot rs->j'<j->a.1≠b.1->EV (bsd rs a) (esd rs a) (bsd rs b) (esd rs b)=false:=by
  intro a b j j' ha hb hj hj' hab
  have h1:((List.range j).any fun k=>Do rs (pl rs j) (pl rs k))=false:=by
   cases he:((List.range j).any fun k=>Do rs (pl rs j) (pl rs k)) with
   |false=>rfl
   |true=>
    have:crs rs=true:=List.any_eq_true.2 ⟨j,List.mem_range.2 hj,he⟩
    rw[h] at this;cases this
  have h2:Do rs (pl rs j) (pl rs j')=false:=by
   cases he:Do rs (pl rs j) (pl rs j') with
   |false=>rfl
   |true=>
    have:((List.range j).any fun k=>Do rs (pl rs j) (pl rs k))=true:=List.any_eq_true.2 ⟨j',List.mem_range.2 hj',he⟩
    rw[h1] at this;cases this
  rw[ha,hb] at h2
  unfold Do nbB at h2
  rw[beq_eq_false_iff_ne.2 hab] at h2
  simpa using h2
 have hj:=Vi hr hi
 have hj':=Vi hs hk
 rcases Nat.lt_trichotomy (tot (rs.take s)+k) (tot (rs.take r)+i) with hlt|heq|hgt
 ·exact one (JH hr hi) (JH hs hk) hj hlt hne
 ·have h1:=JH hr hi
  rw[<-heq,JH hs hk] at h1
  exact absurd (congrArg Prod.fst h1).symm hne
 ·rw[Ml]
  exact one (JH hs hk) (JH hr hi) hj' hgt (fun e=>hne e.symm)
end
section
open Go Go.RowKit Go.Am Go.Lib
set_option maxRecDepth 10000
theorem cX {z d:Int} (hz:0<=z) (hd:0<d):0<=(nrm z d).num:=by
 obtain⟨e,rfl⟩: ∃e:Nat,d=((e+1:Nat):Int):=⟨(d-1).toNat,by omega⟩
 unfold nrm
 rw[if_neg (by omega),mkRat,dif_neg (by omega),Rat.normalize_eq]
 exact Int.ediv_nonneg hz (by omega)
theorem dV {s t:Sd} (h:rgd s=true):(frO s t).OK:=by
 obtain⟨hx,hy,hp,hr⟩:=FY h
 refine⟨?_, ?_, ?_, ?_, ?_, ?_⟩
 ·show 0<=(if _ then s.x else s.y);split<;>omega
 ·show(if _ then s.x else s.y)<=65536;split<;>omega
 ·show Pb _=1\/Pb _= -1
  unfold Pb;split
  ·exact .inl I
  ·exact .inr I
 ·show szQ (if s.gable then(0:Rat) else nrm s.run s.rise) 36
  cases hg:s.gable with
  |true=>rw[if_pos rfl];exact⟨by decide,by decide⟩
  |false=>
   obtain⟨h1,h2⟩:=hr hg
   rw[if_neg (by decide)]
   exact szQ.mono (k:=2) (G5 _ (by omega) (by show _<100;omega) (by show _<100;omega)) (by decide)
 ·exact szQ.mono (k:=5) (HS (by show _<100000;omega) (by decide)) (by decide)
 ·show 0<=(if s.gable then(0:Rat) else nrm s.run s.rise).num
  cases hg:s.gable with
  |true=>rw[if_pos rfl];decide
  |false=>
   obtain⟨h1,h2⟩:=hr hg
   rw[if_neg (by decide)]
   exact cX (by omega) (by omega)
theorem fB {s t:Sd} (h:rgd s=true):(frO s t).sp=0↔s.gable=true:=by
 obtain⟨hx,hy,hp,hr⟩:=FY h
 show(if s.gable then(0:Rat) else nrm s.run s.rise)=0↔_
 cases hg:s.gable with
 |true=>simp
 |false=>
  obtain⟨h1,h2⟩:=hr hg
  refine⟨fun e=> ?_,fun e=>by cases e⟩
  have e:nrm s.run s.rise=0:=by simpa using e
  rw[GB _ (by omega),Rat.divInt_eq_div] at e
  have r1:(0:Rat)<(s.run:Rat):=by have:=Rat.intCast_lt_intCast.2 (show(0:Int)<s.run by omega);exact this
  have r2:(0:Rat)<(s.rise:Rat):=by have:=Rat.intCast_lt_intCast.2 (show(0:Int)<s.rise by omega);exact this
  have:(s.run:Rat)=0:=by grind
  grind
end
section
open Go Go.RowKit Go.Am
set_option maxRecDepth 10000
def sgI (a:Int):Int:=if a<0 then -1 else if a>0 then 1 else 0
theorem Oc (a:Int):Be Tryz.prog 303 [.int .i64 a] (.int .i64 (sgI a)):=by
 intro W
 refine Ab Tryz.func303 I I I<|xb<|wP I<|xk<|Aa I<|xa<|Ag I (fun h=> ?_) (fun h=> ?_)
 ·refine xb<|wP I<|xo<|?_
  have h':a<0:=by simpa using h
  exact wR1 I I (by unfold sgI;rw[if_pos h'])
 have h1: ¬a<0:=by simpa using h
 refine xe<|xd<|Aa I<|xa<|Ag I (fun h2=> ?_) (fun h2=> ?_)
 ·refine xb<|wP I<|xo<|?_
  have h':a>0:=by simpa using h2
  exact wR1 I I (by unfold sgI;rw[if_neg h1,if_pos h'])
 have h3: ¬a>0:=by simpa using h2
 exact xm<|wP I<|xc<|wR1 I I (by unfold sgI;rw[if_neg h1,if_neg h3])
def LF (n a b:Int):Bool:=decide (n<a)||decide (n>b)
theorem Lj (n a b:Int):LF n a b= !btw n a b:=by
 unfold LF btw
 rw[Bool.eq_iff_iff]
 simp only[Bool.or_eq_true,Bool.not_eq_true',Bool.and_eq_false_iff,decide_eq_true_eq,decide_eq_false_iff_not]
 omega
theorem Dl (n a b:Int):Be Tryz.prog 238 [.int .i64 n, .int .i64 a, .int .i64 b] (.bool (LF n a b)):=by
 intro W
 refine Ab Tryz.func238 I I I<|xb<|wP I<|xf<|At I<|AI 10 I (fun h10=> ?_) (fun h10=> ?_)
 ·refine Af I I ?_
  iterate 2 refine Af I I ?_
  exact Aa I<|xc<|wR1 I I (by simp_all [LF]<;>(intros;omega))
 ·exact Ak I<|xc<|wR1 I I (by simp_all [LF]<;>(intros;omega))
theorem PH (s:Sd):Be Tryz.prog 164 [s.val] (.bool (rgd s)):=by
 intro W
 refine Ab Tryz.func164 I I I<|xb<|wF I I fun _=>wP I<|zC<|?_
 rename_i b1
 have no:(LF s.x 0 65536||LF s.y 0 65536||LF s.plate 0 65536||LF s.over 0 65536)=true->rgd s=false:=fun h=>by
  simp only[Lj] at h
  unfold rgd
  rw[show(btw s.x 0 65536&&btw s.y 0 65536&&btw s.plate 0 65536&&btw s.over 0 65536)=false by
   rw[Bool.eq_false_iff];intro h2;simp_all,Bool.and_false]
 have yes:LF s.x 0 65536=false->LF s.y 0 65536=false->LF s.plate 0 65536=false->LF s.over 0 65536=false->rgd s=(if s.gable then s.rise==0&&s.run==0 else btw s.rise 1 48&&btw s.run 1 48):=fun h1 h2 h3 h4=>by
  rw[Lj,Bool.not_eq_false'] at h1 h2 h3 h4
  unfold rgd
  rw[h1,h2,h3,h4];simp
 refine zE<|xd<|wP I<|wB 0 I I I<|wC I I (fun W _=>(Dl ..))<|wP I<|AI 6 I (fun h6=> ?_) (fun h6=> ?_)
 ·refine Af I I ?_
  iterate 2 refine Af I I ?_
  refine Aa I<|?_
  iterate 3 refine Af I I ?_
  refine Aa I<|?_
  iterate 3 refine Af I I ?_
  exact wP I<|xa<|zR I<|xb<|wP I<|xo<|wR1 I I (by rw[no (by simp_all)])
 ·refine wP I<|wB 0 I I I<|wC I I (fun W _=>(Dl ..))<|Aa I<|AI 11 I (fun h11=> ?_) (fun h11=> ?_)
  ·refine Af I I ?_
   iterate 2 refine Af I I ?_
   refine Aa I<|?_
   iterate 3 refine Af I I ?_
   exact wP I<|xa<|zR I<|xb<|wP I<|xo<|wR1 I I (by rw[no (by simp_all)])
  ·refine wP I<|wB 0 I I I<|wC I I (fun W _=>(Dl ..))<|Aa I<|AI 16 I (fun h16=> ?_) (fun h16=> ?_)
   ·refine Af I I ?_
    iterate 2 refine Af I I ?_
    exact wP I<|xa<|zR I<|xb<|wP I<|xo<|wR1 I I (by rw[no (by simp_all)])
   ·refine wP I<|wB 0 I I I<|wC I I (fun W _=>(Dl ..))<|wP I<|xa<|Ag I (fun h=> ?_) (fun h=> ?_)
    ·exact xb<|wP I<|xo<|wR1 I I (by rw[no (by simp_all)])
    refine xe<|xd<|?_
    have e:=yes (by simp_all) (by simp_all) (by simp_all) (by simp_all)
    refine wP I<|wB 0 I I I<|xa<|Ag I (fun hg=> ?_) (fun hg=> ?_)
    ·refine xb<|wP I<|wB 0 I I I<|Aa I<|AI 26 I (fun h26=> ?_) (fun h26=> ?_)
     ·exact wP I<|wB 0 I I I<|Ad I<|xo<|wR1 I I (by rw[e,hg];simp_all)
     ·refine Af I I ?_
      iterate 2 refine Af I I ?_
      exact Aa I<|xo<|wR1 I I (by rw[e,hg];simp_all)
    ·refine xm<|wP I<|wB 0 I I I<|wC I I (fun W _=>(Dl ..))<|Aa I<|AI 35 I (fun h35=> ?_) (fun h35=> ?_)
     ·exact wP I<|wB 0 I I I<|wC I I (fun W _=>(Dl ..))<|Ad I<|xc<|wR1 I I (by rw[e,hg];simp_all [Lj])
     ·refine Af I I ?_
      iterate 3 refine Af I I ?_
      exact Aa I<|xc<|wR1 I I (by rw[e,hg];simp_all [Lj])
theorem Hv (W:World) (p:Option Addr) (cap:Nat) (l:List Sd) (i:Nat) (hn:l.length<4611686018427387904) (hR:Cg W p l) (hi:i<l.length):
  Ae Tryz.prog 302 #[slv p l.length cap, .int .i64 (i:Nat)] W (fun _:Unit=> .tuple #[.int .i64 (sd l (nxt l.length i)).x, .int .i64 (sd l (nxt l.length i)).y]) (fun _=>True) (fun _=>[]):=by
 obtain⟨b,off,rfl,hrow⟩:=hR.row hi
 have hi2:=Ei hi
 refine Ab Tryz.func302 I I I<|xb<|Aa I<|xf<|Aa I<|wV 8 ((i+1:Nat):Int) I (show w64 ((i:Nat)+1)=((i+1:Nat):Int) by rw[Ar (by omega) (by omega)];omega)<|Aa I<|FC I I I I I (by omega) ?_
 refine wV 11 (nxt l.length i:Nat) I (show Int.tmod ((i+1:Nat):Int) (l.length:Nat)=(nxt l.length i:Nat) from(Int.ofNat_tmod _ _).symm)<|wP I<|xl<|zU<|Ay I<|qJ ?_
 refine qP I<|qL 0 I I (fun W hp=>(hrow (nxt l.length i) hi2).hp hp) I<|Ay I<|qJ ?_
 exact qP I<|qL 1 I I (fun W hp=>(hrow (nxt l.length i) hi2).hp hp) I<|Ay I<|zD<|xc<|wR2 I I I
def OQ (l:List Sd) (i:Nat):Int:=sgI (w64 ((sd l (nxt l.length i)).x-(sd l i).x))
def NP (l:List Sd) (i:Nat):Int:=sgI (w64 ((sd l (nxt l.length i)).y-(sd l i).y))
theorem F9 (W:World) (p:Option Addr) (cap:Nat) (l:List Sd) (i:Nat) (hn:l.length<4611686018427387904) (hR:Cg W p l) (hi:i<l.length):
  Ae Tryz.prog 239 #[slv p l.length cap, .int .i64 (i:Nat)] W (fun _:Unit=> .tuple #[.int .i64 (OQ l i), .int .i64 (NP l i)]) (fun _=>True) (fun _=>[]):=by
 obtain⟨b,off,rfl,hrow⟩:=hR.row hi
 refine Ab Tryz.func239 I I I<|xb<|Aa I<|xf<|Aa I<|wC I I (fun W hp=>Hv W _ cap l i hn (hR.hp hp) hi)<|Ak I<|xl<|zU<|AY I<|qJ ?_
 refine qP I<|qL 0 I I (fun W hp=>(hrow i hi).hp hp) I<|qP I<|qC I I (fun W _=>(Oc ..))<|AY I<|qJ ?_
 exact qP I<|qL 1 I I (fun W hp=>(hrow i hi).hp hp) I<|qP I<|qC I I (fun W _=>(Oc ..))<|Ay I<|zD<|xc<|wR2 I I I
def LL (l:List Sd) (i:Nat):Int:=w64 (w64 (OQ l (prv l.length i)*NP l i)-w64 (NP l (prv l.length i)*OQ l i))
theorem NH (W:World) (p:Option Addr) (cap:Nat) (l:List Sd) (i:Nat) (hn:l.length<4611686018427387904) (hR:Cg W p l) (hi:i<l.length):
  Ae Tryz.prog 240 #[slv p l.length cap, .int .i64 (i:Nat)] W (fun _:Unit=> .int .i64 (LL l i)) (fun _=>True) (fun _=>[]):=by
 have hi2:=Ha hi
 refine Ab Tryz.func240 I I I<|xb<|wP I<|xf<|AE I<|wV 15 ((i+l.length-1:Nat):Int) I (show w64 (w64 ((i:Nat)+(l.length:Nat))-1)=((i+l.length-1:Nat):Int) by rw[Ar (x:=(i:Nat)+(l.length:Nat)) (by omega) (by omega),Ar (by omega) (by omega)];omega)<|Aa I<|FC I I I I I (by omega) ?_
 refine wV 18 (prv l.length i:Nat) I (show Int.tmod ((i+l.length-1:Nat):Int) (l.length:Nat)=(prv l.length i:Nat) from(Int.ofNat_tmod _ _).symm)<|wC I I (fun W hp=>F9 W _ cap l (prv l.length i) hn (hR.hp hp) hi2)<|Ak I<|xf<|Aa I<|wC I I (fun W hp=>F9 W _ cap l i hn (hR.hp hp) hi)<|Ak I<|xf<|?_
 iterate 8 refine wP I ?_
 exact xc<|wR1 I I I
def twR (l:List Sd):Nat->Int
 |0=>0
 |k+1=>w64 (w64 (twR l k+w64 ((sd l k).x*(sd l (nxt l.length k)).y))-w64 ((sd l (nxt l.length k)).x*(sd l k).y))
theorem M7 (W:World) (p:Option Addr) (cap:Nat) (l:List Sd) (hn:l.length<4611686018427387904) (hR:Cg W p l):
  Ae Tryz.prog 242 #[slv p l.length cap] W (fun _:Unit=> .int .i64 (twR l l.length)) (fun _=>True) (fun _=>[]):=by
 refine Ab Tryz.func242 I I I<|xb<|wP I<|xf<|wP I<|xk<|wP I<|xa<|zH<|Av (X:=Nat) (fun k=>[(0,slv p l.length cap),(3, .int .i64 (twR l k)),(4, .int .i64 (k:Nat))]) (fun _=>[]) (fun k=>k<=l.length) (fun k=>l.length-k) 0 (Nat.zero_le _) ⟨I,I,I,tO⟩ [] I ?_
 intro k hk
 refine xd<|At I<|xa<|Ag I (fun h=> ?_) (fun h=> ?_)
 rotate_left
 ·have e:k=l.length:=by simp at h;omega
  subst e
  exact xg<|xn<|Aa I<|xc<|wR1 I I I
 have hk:k<l.length:=by simp at h;omega
 clear h
 obtain⟨b,off,rfl,hrow⟩:=hR.row hk
 refine xh<|Aa I<|wC I I (fun W hp=>Hv W _ cap l k hn (hR.hp hp) hk)<|Ak I<|xa<|zU<|AY I<|qJ ?_
 refine qP I<|qL 0 I I (fun W hp=>(hrow k hk).hp hp) I<|Mc I<|qJ ?_
 exact qP I<|qL 1 I I (fun W hp=>(hrow k hk).hp hp) I<|AY I<|zD<|zC<|xi<|Ad I<|zC<|Al (k+1) hk (by omega) ⟨I,I,congrArg (fun z=>some (Value.int .i64 z)) (AM (x:=(k:Int)+1) (by omega) (by omega)),tO⟩ [] I
def axR (l:List Sd) (i:Nat):Bool:=w64 (w64 (OQ l i*OQ l i)+w64 (NP l i*NP l i))==1
def okR (l:List Sd) (i:Nat):Bool:=axR l i&& !(LL l i==0)
def Ky (l:List Sd):Bool:=(List.range l.length).all (okR l)&&decide (l.length≥4)
theorem OG {l:List Sd} {k:Nat} (hk:k<l.length) (h:okR l k=false):Ky l=false:=by
 unfold Ky
 rw[BQ hk h];rfl
theorem PZ (W:World) (p:Option Addr) (cap:Nat) (l:List Sd) (hn:l.length<4611686018427387904) (hR:Cg W p l):
  Ae Tryz.prog 165 #[slv p l.length cap] W (fun _:Unit=> .bool (Ky l)) (fun _=>True) (fun _=>[]):=by
 refine Ab Tryz.func165 I I I<|xb<|wP I<|xk<|wP I<|xa<|zH<|Av (X:=Nat) (fun k=>[(0,slv p l.length cap),(3, .int .i64 (k:Nat))]) (fun _=>[]) (fun k=>k<=l.length/\ ∀i,i<k->okR l i=true) (fun k=>l.length-k) 0 ⟨Nat.zero_le _,fun i hi=>absurd hi (Nat.not_lt_zero _)⟩ ⟨I,I,tO⟩ [] I ?_
 rintro k ⟨hk,hok⟩
 refine xd<|At I<|xa<|Ag I (fun h=> ?_) (fun h=> ?_)
 rotate_left
 ·have e:k=l.length:=by simp at h;omega
  subst e
  refine xg<|xn<|At I<|xc<|?_
  have hall:(List.range l.length).all (okR l)=true:=List.all_eq_true.2 fun i hi=>hok i (List.mem_range.1 hi)
  have e:Ky l=decide ((l.length:Int)≥4):=by
   unfold Ky
   rw[hall,Bool.true_and]
   by_cases h4:l.length≥4
   ·rw[dT h4,dT (by omega)]
   ·rw[dF h4,dF (by omega)]
  exact wR1 I I (by rw[e])
 have hk:k<l.length:=by simp at h;omega
 clear h
 refine xh<|Aa I<|wC I I (fun W hp=>F9 W _ cap l k hn (hR.hp hp) hk)<|Ak I<|xf<|?_
 iterate 9 refine wP I ?_
 refine AI 26 I (fun h26=> ?_) (fun h26=> ?_)
 ·refine Af I I ?_
  iterate 3 refine Af I I ?_
  refine wP I<|xa<|zR I<|xb<|wP I<|xc<|xj<|zP<|?_
  have h':(w64 (w64 (OQ l k*OQ l k)+w64 (NP l k*NP l k)) !=1)=true:=h26
  have hf:okR l k=false:=by unfold okR axR;rw[bne_iff_ne] at h';rw[beq_eq_false_iff_ne.2 h'];rfl
  exact wR1 I I (by rw[OG hk hf])
 ·refine Aa I<|wC I I (fun W hp=>NH W _ cap l k hn (hR.hp hp) hk)<|Aa I<|zC<|?_
  have h':(w64 (w64 (OQ l k*OQ l k)+w64 (NP l k*NP l k)) !=1)=false:=h26
  have ha:axR l k=true:=by unfold axR;rw[bne_eq_false_iff_eq] at h';rw[beq_iff_eq];exact h'
  refine zE<|Ag I (fun h=> ?_) (fun h=> ?_)
  ·refine xb<|wP I<|xc<|xj<|zP<|?_
   have hf:okR l k=false:=by unfold okR;rw[show(LL l k==0)=true from h,Bool.not_true,Bool.and_false]
   exact wR1 I I (by rw[OG hk hf])
  ·have hf:okR l k=true:=by unfold okR;rw[ha,show(LL l k==0)=false from h];rfl
   refine zI<|xi<|Ad I<|zC<|Al (k+1) ⟨hk,fun i hi=> ?_⟩ (by omega) ⟨I,congrArg (fun z=>some (Value.int .i64 z)) (AM (x:=(k:Int)+1) (by omega) (by omega)),tO⟩ [] I
   by_cases e:i=k
   ·subst e;exact hf
   ·exact hok i (by omega)
theorem I0 (W:World) (p q:Option Addr) (cap caq:Nat) (l m:List Sd) (i k:Nat) (hn:l.length<4611686018427387904) (hm:m.length<4611686018427387904) (hR:Cg W p l) (hS:Cg W q m) (hi:i<l.length) (hk:k<m.length):
  Ae Tryz.prog 241 #[slv p l.length cap, .int .i64 (i:Nat),slv q m.length caq, .int .i64 (k:Nat)] W (fun _:Unit=> .bool (EV (sd l i) (sd l (nxt l.length i)) (sd m k) (sd m (nxt m.length k)))) (fun _=>True) (fun _=>[]):=by
 obtain⟨b,off,rfl,hrow⟩:=hR.row hi
 obtain⟨b',off',rfl,hrow'⟩:=hS.row hk
 refine Ab Tryz.func241 I I I<|xb<|wP I<|xf<|Aa I<|wC I I (fun W hp=>Hv W _ cap l i hn (hR.hp hp) hi)<|Ak I<|xf<|Aa I<|wC I I (fun W hp=>Hv W _ caq m k hm (hS.hp hp) hk)<|Ak I<|?_
 refine Kj ?_
 obtain⟨B1,e1⟩: ∃b,decide (lox (sd l i) (sd l (nxt l.length i))<=hix (sd m k) (sd m (nxt m.length k)))=b:=⟨_,rfl⟩
 obtain⟨B2,e2⟩: ∃b,decide (lox (sd m k) (sd m (nxt m.length k))<=hix (sd l i) (sd l (nxt l.length i)))=b:=⟨_,rfl⟩
 obtain⟨B3,e3⟩: ∃b,decide (loy (sd l i) (sd l (nxt l.length i))<=hiy (sd m k) (sd m (nxt m.length k)))=b:=⟨_,rfl⟩
 obtain⟨B4,e4⟩: ∃b,decide (loy (sd m k) (sd m (nxt m.length k))<=hiy (sd l i) (sd l (nxt l.length i)))=b:=⟨_,rfl⟩
 have hM:EV (sd l i) (sd l (nxt l.length i)) (sd m k) (sd m (nxt m.length k))=(B1&&B2&&B3&&B4):=by unfold EV;rw[e1,e2,e3,e4]
 refine zE<|zA<|zU<|Ay I<|qJ ?_
 refine qP I<|qL 0 I I (fun W hp=>(hrow i hi).hp hp) I<|Cd I<|qJ ?_
 refine qP I<|qL 0 I I (fun W hp=>(hrow' k hk).hp hp) I<|Cd I<|HD 40 I (fun h40=> ?_) (fun h40=> ?_)
 ·refine Ay I<|qJ ?_
  refine qP I<|qL 0 I I (fun W hp=>(hrow' k hk).hp hp) I<|Cd I<|qJ ?_
  refine qP I<|qL 0 I I (fun W hp=>(hrow i hi).hp hp) I<|GM I<|HD 57 I (fun h57=> ?_) (fun h57=> ?_)
  ·refine Ay I<|qJ ?_
   refine qP I<|qL 1 I I (fun W hp=>(hrow i hi).hp hp) I<|Cd I<|qJ ?_
   refine qP I<|qL 1 I I (fun W hp=>(hrow' k hk).hp hp) I<|GM I<|HD 74 I (fun h74=> ?_) (fun h74=> ?_)
   ·refine Ay I<|qJ ?_
    refine qP I<|qL 1 I I (fun W hp=>(hrow' k hk).hp hp) I<|Cd I<|qJ ?_
    exact qP I<|qL 1 I I (fun W hp=>(hrow i hi).hp hp) I<|GM I<|zD<|xc<|wR1 I I (by rw[hM,show B1=true from e1.symm.trans h40,show B2=true from e2.symm.trans h57,show B3=true from e3.symm.trans h74];exact congrArg Value.bool e4)
   ·refine Bi I I ?_
    iterate 14 refine Bi I I ?_
    refine Ay I<|zD<|xc<|?_
    have e:(B1&&B2&&B3&&B4)=false:=by first|(rw[show B1=false from e1.symm.trans h40];rfl)|(rw[show B2=false from e2.symm.trans h57];cases B1<;>rfl)|(rw[show B3=false from e3.symm.trans h74];cases B1<;>cases B2<;>rfl)
    exact wR1 I I (by rw[hM,e])
  ·refine Bi I I ?_
   iterate 14 refine Bi I I ?_
   refine Ay I<|?_
   iterate 15 refine Bi I I ?_
   refine Ay I<|zD<|xc<|?_
   have e:(B1&&B2&&B3&&B4)=false:=by first|(rw[show B1=false from e1.symm.trans h40];rfl)|(rw[show B2=false from e2.symm.trans h57];cases B1<;>rfl)|(rw[show B3=false from e3.symm.trans h74];cases B1<;>cases B2<;>rfl)
   exact wR1 I I (by rw[hM,e])
 ·refine Bi I I ?_
  iterate 14 refine Bi I I ?_
  refine Ay I<|?_
  iterate 15 refine Bi I I ?_
  refine Ay I<|?_
  iterate 15 refine Bi I I ?_
  refine Ay I<|zD<|xc<|?_
  have e:(B1&&B2&&B3&&B4)=false:=by first|(rw[show B1=false from e1.symm.trans h40];rfl)|(rw[show B2=false from e2.symm.trans h57];cases B1<;>rfl)|(rw[show B3=false from e3.symm.trans h74];cases B1<;>cases B2<;>rfl)
  exact wR1 I I (by rw[hM,e])
def MB (t u:Sd) (px py:Int):Bool:=(t.x==u.x)&&decide (u.x>px)&&decide (loy t u<=py)&&decide (py<hiy t u)
def Hj (l:List Sd) (px py:Int):Nat->Bool
 |0=>false
 |k+1=>if MB (sd l k) (sd l (nxt l.length k)) px py=true then !Hj l px py k else Hj l px py k
theorem PN (W:World) (p:Option Addr) (cap:Nat) (l:List Sd) (px py:Int) (hn:l.length<4611686018427387904) (hR:Cg W p l):
  Ae Tryz.prog 243 #[slv p l.length cap, .int .i64 px, .int .i64 py] W (fun _:Unit=> .bool (Hj l px py l.length)) (fun _=>True) (fun _=>[]):=by
 refine Ab Tryz.func243 I I I<|xb<|wP I<|xf<|wP I<|xk<|wP I<|xa<|zH<|Av (X:=Nat) (fun k=>[(0,slv p l.length cap),(1, .int .i64 px),(2, .int .i64 py),(7, .bool (Hj l px py k)),(8, .int .i64 (k:Nat))]) (fun _=>[]) (fun k=>k<=l.length) (fun k=>l.length-k) 0 (Nat.zero_le _) ⟨I,I,I,I,I,tO⟩ [] I ?_
 intro k hk
 refine xd<|At I<|xa<|Ag I (fun h=> ?_) (fun h=> ?_)
 rotate_left
 ·have e:k=l.length:=by simp at h;omega
  subst e
  exact xg<|xn<|Aa I<|xc<|wR1 I I I
 have hk:k<l.length:=by simp at h;omega
 clear h
 obtain⟨b,off,rfl,hrow⟩:=hR.row hk
 refine xh<|Aa I<|wC I I (fun W hp=>Hv W _ cap l k hn (hR.hp hp) hk)<|Ak I<|zC<|?_
 obtain⟨B1,e1⟩: ∃b,((sd l k).x==(sd l (nxt l.length k)).x)=b:=⟨_,rfl⟩
 obtain⟨B2,e2⟩: ∃b,decide ((sd l (nxt l.length k)).x>px)=b:=⟨_,rfl⟩
 obtain⟨B3,e3⟩: ∃b,decide (loy (sd l k) (sd l (nxt l.length k))<=py)=b:=⟨_,rfl⟩
 obtain⟨B4,e4⟩: ∃b,decide (py<hiy (sd l k) (sd l (nxt l.length k)))=b:=⟨_,rfl⟩
 have hM:MB (sd l k) (sd l (nxt l.length k)) px py=(B1&&B2&&B3&&B4):=by unfold MB;rw[e1,e2,e3,e4]
 have no:(B1&&B2&&B3&&B4)=false->Hj l px py (k+1)=Hj l px py k:=fun h=>by
  show(if MB (sd l k) (sd l (nxt l.length k)) px py=true then !Hj l px py k else Hj l px py k)=_
  rw[hM,h,if_neg (by decide)]
 have yes:(B1&&B2&&B3&&B4)=true->Hj l px py (k+1)= !Hj l px py k:=fun h=>by
  show(if MB (sd l k) (sd l (nxt l.length k)) px py=true then !Hj l px py k else Hj l px py k)=_
  rw[hM,h,if_pos rfl]
 refine xn<|Aa I<|wJ ?_
 refine wP I<|wL 0 I I (fun W hp=>(hrow k hk).hp hp) I<|Ad I<|AI 30 I (fun h30=> ?_) (fun h30=> ?_)
 ·refine Ak I<|AI 35 I (fun h35=> ?_) (fun h35=> ?_)
  ·refine Aa I<|wJ ?_
   refine wP I<|wL 1 I I (fun W hp=>(hrow k hk).hp hp) I<|AE I<|AI 46 I (fun h46=> ?_) (fun h46=> ?_)
   ·refine Ad I<|wJ ?_
    refine wP I<|wL 1 I I (fun W hp=>(hrow k hk).hp hp) I<|At I<|zC<|?_
    have e:(B1&&B2&&B3&&B4)=B4:=by rw[show B1=true from e1.symm.trans h30,show B2=true from e2.symm.trans h35,show B3=true from e3.symm.trans h46];rfl
    refine zE<|Ag I (fun h=> ?_) (fun h=> ?_)
    ·have e5:(B1&&B2&&B3&&B4)=true:=e.trans (e4.symm.trans h)
     exact zB<|Ad I<|zC<|xi<|Ad I<|zC<|Al (k+1) hk (by omega) ⟨I,I,I,congrArg (fun z=>some (Value.bool z)) (yes e5).symm,congrArg (fun z=>some (Value.int .i64 z)) (AM (x:=(k:Int)+1) (by omega) (by omega)),tO⟩ [] I
    ·have e5:(B1&&B2&&B3&&B4)=false:=e.trans (e4.symm.trans h)
     exact zI<|xi<|Ad I<|zC<|Al (k+1) hk (by omega) ⟨I,I,I,congrArg (fun z=>some (Value.bool z)) (no e5).symm,congrArg (fun z=>some (Value.int .i64 z)) (AM (x:=(k:Int)+1) (by omega) (by omega)),tO⟩ [] I
   ·refine Af I I ?_
    iterate 8 refine Af I I ?_
    refine wP I<|zC<|?_
    have e:(B1&&B2&&B3&&B4)=false:=by first|(rw[show B1=false from e1.symm.trans h30];rfl)|(rw[show B2=false from e2.symm.trans h35];cases B1<;>rfl)|(rw[show B3=false from e3.symm.trans h46];cases B1<;>cases B2<;>rfl)
    exact zE<|zS I<|zI<|xi<|Ad I<|zC<|Al (k+1) hk (by omega) ⟨I,I,I,congrArg (fun z=>some (Value.bool z)) (no e).symm,congrArg (fun z=>some (Value.int .i64 z)) (AM (x:=(k:Int)+1) (by omega) (by omega)),tO⟩ [] I
  ·refine Af I I ?_
   iterate 8 refine Af I I ?_
   refine Aa I<|?_
   iterate 9 refine Af I I ?_
   refine wP I<|zC<|?_
   have e:(B1&&B2&&B3&&B4)=false:=by first|(rw[show B1=false from e1.symm.trans h30];rfl)|(rw[show B2=false from e2.symm.trans h35];cases B1<;>rfl)|(rw[show B3=false from e3.symm.trans h46];cases B1<;>cases B2<;>rfl)
   exact zE<|zS I<|zI<|xi<|Ad I<|zC<|Al (k+1) hk (by omega) ⟨I,I,I,congrArg (fun z=>some (Value.bool z)) (no e).symm,congrArg (fun z=>some (Value.int .i64 z)) (AM (x:=(k:Int)+1) (by omega) (by omega)),tO⟩ [] I
 ·refine Af I I ?_
  iterate 2 refine Af I I ?_
  refine Aa I<|?_
  iterate 9 refine Af I I ?_
  refine Aa I<|?_
  iterate 9 refine Af I I ?_
  refine wP I<|zC<|?_
  have e:(B1&&B2&&B3&&B4)=false:=by first|(rw[show B1=false from e1.symm.trans h30];rfl)|(rw[show B2=false from e2.symm.trans h35];cases B1<;>rfl)|(rw[show B3=false from e3.symm.trans h46];cases B1<;>cases B2<;>rfl)
  exact zE<|zS I<|zI<|xi<|Ad I<|zC<|Al (k+1) hk (by omega) ⟨I,I,I,congrArg (fun z=>some (Value.bool z)) (no e).symm,congrArg (fun z=>some (Value.int .i64 z)) (AM (x:=(k:Int)+1) (by omega) (by omega)),tO⟩ [] I
end
end Go.Proofs.YtlnjmcchddbogaaGreatDoor
