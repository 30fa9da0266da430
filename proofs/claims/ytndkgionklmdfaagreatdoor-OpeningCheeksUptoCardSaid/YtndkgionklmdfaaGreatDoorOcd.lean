/-
  Lemmas that the theorem openingCheeks_upto_card needs (part 4 of 8).
-/
import Derived.Test.YtndkgionklmdfaaGreatDoorOcc
import Derived.Shelf.Lays
import Derived.Shelf.SlLaysN
import Derived.Shelf.Small.Bits
import Derived.Laws.StructEq
set_option maxHeartbeats 64000000
namespace Go.Proofs.YtndkgionklmdfaaGreatDoor
section
open Go Go.RowKit Go.Am Go.Lib
set_option maxRecDepth 10000
theorem Et (q:Rat) (h:okQ q) (W:World) (hv:AE W) (ht:A7 W):
  Ad Tryz.prog 202 #[str (Ac q)] W (fun _:Unit=> .tuple #[str (itoa q.num),str (itoa (q.den:Nat)), .int .i64 0]) (fun _=>True) (fun _=>[]):=by
 have hl:=AP h
 refine Ab (args:=[str (Ac q)]) Tryz.func202 I I I (zA (zB (wP I (wP I (wP I (Aa (zE (zA (zB (wP I (wC I I (fun W hp=>(Ck (Ac q) (by omega) W (hv.hp hp) (ht.hp hp)).cast (Hu h)) (wP I (wP I (wP I (wG I I fun _=>(wS 0 I I I (wP I (Aa (zE (zA (zU (qP I (qB 0 I I I ?_)))))))))))))))))))))))
 exact qP I (qB 0 I I I (qP I (qP I (qP I (qP I (A8 (Aa (zE (zO (wR3 I I I))))))))))
def EA (W:World) (p:Option Addr) (l:List (List UInt8)):Prop:=l=[]\/ ∃b off,p=some ⟨b,off,none⟩/\Ai W b off (l.map str)
theorem EA.below {W W':World} {p:Option Addr} {l:List (List UInt8)} {n:Nat} (h:EA W p l) (hn:W.heap.size<=n) (hb:Below n W W'):EA W' p l:=by
 rcases h with h|⟨b,off,h1,h2⟩
 ·exact .inl h
 ·exact .inr ⟨b,off,h1,h2.below hn hb⟩
theorem EA.hp {W0 W:World} {bxs:List Bx} {p:Option Addr} {l:List (List UInt8)} (h:EA W0 p l) (hp:Hp W0 bxs W):EA W p l:=h.below (Nat.le_refl _) hp.below
theorem EA.row {W:World} {p:Option Addr} {l:List (List UInt8)} (h:EA W p l) {i:Nat} (hi:i<l.length): ∃b off,p=some ⟨b,off,none⟩/\ ∀k (hk:k<l.length),Ai W b (off+k*1) [str l[k]]:=by
 rcases h with rfl|⟨b,off,h1,h2⟩
 ·exact absurd hi (Nat.not_lt_zero _)
 ·refine⟨b,off,h1,fun k hk=>⟨h2.lt,fun j u hu=> ?_⟩⟩
  have hj:j=0:=by have:=(List.getElem?_eq_some_iff.1 hu).1;simpa using this
  subst hj
  have:=h2.get k (str l[k]) (by rw[List.getElem?_map,List.getElem?_eq_getElem hk];rfl)
  rw[Nat.mul_one,Nat.add_zero,this]
  simpa using hu
theorem Fh (n:Nat):itoa (n:Int)=decDigits n:=by
 unfold itoa;rw[if_neg (by omega)];rfl
abbrev q2 (n:Int) (d:Nat) (h:d≠0:=by decide) (hc:n.natAbs.Coprime d:=by decide):Rat:=⟨n,d,h,hc⟩
theorem dd1 (n:Nat) (h:n<10):decDigits n=[UInt8.ofNat (48+n)]:=by rw[decDigits,dif_pos h]
theorem ns2:Ac (q2 2 1)=[50]:=by rw[Ac,Gt,if_pos rfl];exact(Fh 2).trans (dd1 2 (by decide))
theorem IT (z:Int):AX Tryz.prog 203 [str (itoa z)] (.int .i64 ((decDigits z.natAbs).length:Nat)):=by
 intro W
 exact Ab Tryz.func203 I I I (zA (zB (wP I (Aa (zE (zA (zB (wP I (wC I I (fun W _=>(BA (itoa z) [45] W).cast (by rw[AV])) (wP I (Al 5 (.int .i64 ((decDigits z.natAbs).length:Nat)) I (congrArg (fun n:Nat=>Value.int .i64 (n:Int)) (A3 _)) (wP I (Aa (zE (zO (wR1 I I I))))))))))))))))
theorem DE (q:Rat) (h:szQ q 36) (W:World) (hv:AE W) (ht:A7 W):
  Ad Tryz.prog 136 #[str (Ac q)] W (fun _:Unit=> .int .i64 0) (fun _=>True) (fun _=>[]):=by
 have hk:=h.ok (by decide)
 have hl:=AP hk
 have l1:=Cp 36 q.num.natAbs (by decide) h.1
 have l2:=Cp 36 ((q.den:Nat):Int).natAbs (by decide) (by rw[Int.natAbs_natCast];exact h.2)
 refine Ab (args:=[str (Ac q)]) Tryz.func136 I I I (zA (zB (wP I (Aa (zE (zA (zA (zB (wP I (wC I I (fun W hp=>(Bz (Ac q) (by omega) W (hv.hp hp) (ht.hp hp)).cast (by rw[CV hk])) (wP I (Aa (zE (zA (zB (wP I (wP I (Aa (zE (zS I (zI (zE (zA (zA ?_))))))))))))))))))))))))
 refine zB (wP I (wC I I (fun W hp=>Et q hk W (hv.hp hp) (ht.hp hp)) (wP I (wP I (wP I (wP I (wP I (wP I (wP I (Aa (zE (zA (zB (wP I (wC I I (fun W _=>IT q.num W) (wP I (wC I I (fun W _=>IT (q.den:Nat) W) (wP I (wP I ?_)))))))))))))))))))
 refine Al 23 (.bool false) I (congrArg Value.bool (dF (by
  show¬((if _>_ then _ else _)>_)
  split<;>omega))) ?_
 exact Aa (zE (zS I (zI (zE (zA (zB (wP I (Aa (zE (zO (wR1 I I I)))))))))))
theorem Nz (q:Rat):hasPrefix (Ac q) [45]=decide (q.num<0):=by
 have h:=En q.num
 unfold Ac Gt
 split
 ·exact h
 ·rw[Bf] at h⊢
  rw[<-h]
  have hne:(itoa q.num)≠[]:=by
   unfold itoa
   split
   ·intro h;cases h
   ·exact FT _
  rw[List.getElem?_append_left (List.length_pos_iff.2 hne)]
structure FrP where
 ax:Bool
 pos:Int
 hd:Int
 sp:Rat
 st:Rat
abbrev frV (f:FrP):Value:= .agg #[.bool f.ax, .int .i64 f.pos, .int .i64 f.hd,str (Ac f.sp),str (Ac f.st)]
structure FrP.OK (f:FrP):Prop where
 p0:0<=f.pos
 p1:f.pos<=65536
 hd:f.hd=1\/f.hd= -1
 sp:szQ f.sp 36
 st:szQ f.st 36
 sp0:0<=f.sp.num
theorem Fl (f:FrP) (h:f.OK) (W:World) (hv:AE W) (ht:A7 W):
  Ad Tryz.prog 57 #[frV f] W (fun _:Unit=> .int .i64 0) (fun _=>True) (fun _=>[]):=by
 obtain⟨p0,p1,hhd,hsp,hst,hsp0⟩:=h
 have l1:=AP (hsp.ok (by decide))
 have l2:=AP (hst.ok (by decide))
 refine Ab (args:=[frV f]) Tryz.func57 I I I (zA (zB (wF I I fun _=>(wP I (Aa ?_)))))
 rename_i b1
 refine A6 (Av (Av (AA (X:=Unit) (fun _=>[(1,Af b1),(2, .int .i64 0),(26, .bool false)]) (fun _=>[⟨b1,56,[.bool f.ax, .int .i64 f.pos, .int .i64 f.hd,str (Ac f.sp),str (Ac f.st)],true,none⟩]) (fun _=>True) ?_ ?_)))
 ·refine zB (wP I (wB 0 I I I (wP I (wU 11 false I (dF (by omega)) (wP I (wP I (wB 0 I I I (wP I (wU 15 false I (dF (by omega)) (wP I (wP I (wP I (wB 0 I I I (wP I ?_))))))))))))))
  rcases hhd with e|e
  ·refine wU 20 false I (by rw[e];rfl) (wP I ?_)
   iterate 3 refine Ae I I ?_
   exact wP I (wP I (Aa (An () tO ⟨I,I,I,tO⟩ [] I)))
  ·exact wU 20 true I (by rw[e];rfl) (wP I (wP I (wB 0 I I I (wP I (wU 24 false I (by rw[e];rfl) (wP I (wP I (Aa (An () tO ⟨I,I,I,tO⟩ [] I)))))))))
 ·intro _ _
  refine zS I (zI (zE (zA (zA (zB (wP I (wB 0 I I I (wP I (wB 0 I I I (Ao Tryz.hZ tH I I I I I I I I I I I fun bS=> ?_))))))))))
  refine wP I (wP I (Aa (A6 (AA (X:=Unit) (fun _=>[(1,Af b1),(2, .int .i64 0)]) (fun _=>[⟨b1,56,[.bool f.ax, .int .i64 f.pos, .int .i64 f.hd,str (Ac f.sp),str (Ac f.st)],true,none⟩]) (fun _=>True) ?_ ?_))))
  ·refine Bv (Ar (X:=Nat) (fun i=>[(1,Af b1),(2, .int .i64 0),(31, .slice (some ⟨bS,0,none⟩) 2 2),(32, .int .i64 2),(33, .int .i64 (i:Nat))]) (fun _=>[⟨b1,56,[.bool f.ax, .int .i64 f.pos, .int .i64 f.hd,str (Ac f.sp),str (Ac f.st)],true,none⟩,⟨bS,25,[str (Ac f.sp),str (Ac f.st)],true,none⟩]) (fun i=>i<=2) (fun i=>2-i) 0 (Nat.zero_le _) ⟨I,I,I,I,I,tO⟩ [] I ?_)
   intro i hi
   have hi:i=0\/i=1\/i=2:=by have:i<=2:=hi;omega
   rcases hi with rfl|rfl|rfl
   ·refine zA (zB (wP I (Aa (zE (zA (zR I (zI (zE (zA (zH (zA (zB (wJ ?_)))))))))))))
    refine wB 1 I I I (wP I (Aa (zE (zA (zB (wP I (wC I I (fun W hp=>(Bz (Ac f.sp) (by omega) W (hv.hp hp) (ht.hp hp)).cast (by rw[CV (hsp.ok (by decide))])) (wP I (Aa (zE (zA (zB (wP I (wP I (Aa (zE (zS I (zI (zN (zE (zB (wP I (wP I ?_)))))))))))))))))))))))
    exact Aa (Aj 1 (by decide) (by decide) ⟨I,I,I,I,I,tO⟩ [] I)
   ·refine zA (zB (wP I (Aa (zE (zA (zR I (zI (zE (zA (zH (zA (zB (wJ ?_)))))))))))))
    refine wB 1 I I I (wP I (Aa (zE (zA (zB (wP I (wC I I (fun W hp=>(Bz (Ac f.st) (by omega) W (hv.hp hp) (ht.hp hp)).cast (by rw[CV (hst.ok (by decide))])) (wP I (Aa (zE (zA (zB (wP I (wP I (Aa (zE (zS I (zI (zN (zE (zB (wP I (wP I ?_)))))))))))))))))))))))
    exact Aa (Aj 2 (by decide) (by decide) ⟨I,I,I,I,I,tO⟩ [] I)
   ·exact zA (zB (wP I (Aa (zE (zA (zS I (zJ (zK (zK (zL (An () tO ⟨I,I,tO⟩ _ I)))))))))))
  ·intro _ _
   refine Av (zA (zB (wP I (wB 0 I I I (wP I (wB 0 I I I (Ao Tryz.hZ tH I I I I I I I I I I I fun bT=> ?_)))))))
   refine wP I (wP I (Aa (A6 (AA (X:=Unit) (fun _=>[(1,Af b1),(2, .int .i64 0)]) (fun _=>[⟨b1,56,[.bool f.ax, .int .i64 f.pos, .int .i64 f.hd,str (Ac f.sp),str (Ac f.st)],true,none⟩]) (fun _=>True) ?_ ?_))))
   ·refine Bv (Ar (X:=Nat) (fun i=>[(1,Af b1),(2, .int .i64 0),(47, .slice (some ⟨bT,0,none⟩) 2 2),(48, .int .i64 2),(49, .int .i64 (i:Nat))]) (fun _=>[⟨b1,56,[.bool f.ax, .int .i64 f.pos, .int .i64 f.hd,str (Ac f.sp),str (Ac f.st)],true,none⟩,⟨bT,25,[str (Ac f.sp),str (Ac f.st)],true,none⟩]) (fun i=>i<=2) (fun i=>2-i) 0 (Nat.zero_le _) ⟨I,I,I,I,I,tO⟩ [] I ?_)
    intro i hi
    have hi:i=0\/i=1\/i=2:=by have:i<=2:=hi;omega
    rcases hi with rfl|rfl|rfl
    ·refine zA (zB (wP I (Aa (zE (zA (zR I (zI (zE (zA (zH (zA (zB (wJ ?_)))))))))))))
     refine wB 1 I I I (wP I (Aa (zE (zA (zB (wP I (wC I I (fun W hp=>DE f.sp hsp W (hv.hp hp) (ht.hp hp)) (wP I (Aa (zE (zA (zB (wP I (wP I (Aa (zE (zS I (zI (zN (zE (zB (wP I (wP I ?_)))))))))))))))))))))))
     exact Aa (Aj 1 (by decide) (by decide) ⟨I,I,I,I,I,tO⟩ [] I)
    ·refine zA (zB (wP I (Aa (zE (zA (zR I (zI (zE (zA (zH (zA (zB (wJ ?_)))))))))))))
     refine wB 1 I I I (wP I (Aa (zE (zA (zB (wP I (wC I I (fun W hp=>DE f.st hst W (hv.hp hp) (ht.hp hp)) (wP I (Aa (zE (zA (zB (wP I (wP I (Aa (zE (zS I (zI (zN (zE (zB (wP I (wP I ?_)))))))))))))))))))))))
     exact Aa (Aj 2 (by decide) (by decide) ⟨I,I,I,I,I,tO⟩ [] I)
    ·exact zA (zB (wP I (Aa (zE (zA (zS I (zJ (zK (zK (zL (An () tO ⟨I,I,tO⟩ _ I)))))))))))
   ·intro _ _
    exact Av (zA (zB (wP I (wB 0 I I I (wC I I (fun W _=>(Ky (Ac f.sp) [45] W).cast (by rw[Nz,dF (by omega)])) (Aa (zE (zS I (zI (zE (zA (zB (wP I (Aa (zE (zO (wR1 I I I)))))))))))))))))
theorem QF (f:FrP) (h:f.OK) (q:Rat) (hq:szQ q 36) (b:Nat) (W:World) (hv:AE W) (ht:A7 W) (hrow:Ai W b 0 [str (Ac q)]):
  Ad Tryz.prog 80 #[frV f, .slice (some ⟨b,0,none⟩) 1 1] W (fun _:Unit=> .int .i64 0) (fun _=>True) (fun _=>[]):=by
 refine Ab (args:=[frV f, .slice (some ⟨b,0,none⟩) 1 1]) Tryz.func80 I I I (zA (zB (wF I I fun _=>(wP I (Aa ?_)))))
 rename_i b2
 refine zE (zA (zA (zB (wB 0 I I I (wC I I (fun W hp=>Fl f h W (hv.hp hp) (ht.hp hp)) (wP I (Aa (zE (zS I (zI (zE (zA (zA (zB (wP I (wP I (wP I (Aa (A6 (AA (X:=Unit) (fun _=>[(4, .int .i64 0)]) (fun _=>[]) (fun _=>True) ?_ ?_))))))))))))))))))))
 ·refine Bv (Ar (X:=Nat) (fun i=>[(4, .int .i64 0),(11, .slice (some ⟨b,0,none⟩) 1 1),(12, .int .i64 1),(13, .int .i64 (i:Nat))]) (fun _=>[]) (fun i=>i<=1) (fun i=>1-i) 0 (Nat.zero_le _) ⟨I,I,I,I,tO⟩ _ I ?_)
  intro i hi
  have hi:i=0\/i=1:=by have:i<=1:=hi;omega
  rcases hi with rfl|rfl
  ·refine zA (zB (wP I (Aa (zE (zA (zR I (zI (zE (zA (zH (zA (zB (wJ ?_)))))))))))))
   refine wL 0 I I (fun W hp=>hrow.hp hp) I (wP I (Aa (zE (zA (zB (wP I (wC I I (fun W hp=>DE q hq W (hv.hp hp) (ht.hp hp)) (wP I (Aa (zE (zA (zB (wP I (wP I (Aa (zE (zS I (zI (zN (zE (zB (wP I (wP I ?_)))))))))))))))))))))))
   exact Aa (Aj 1 (by decide) (by decide) ⟨I,I,I,I,tO⟩ [] I)
  ·exact zA (zB (wP I (Aa (zE (zA (zS I (zJ (zK (zK (zL (An () tO ⟨I,tO⟩ _ I)))))))))))
 ·intro _ _
  exact zA (zB (wP I (Aa (zE (zO (wR1 I I I))))))
def FrP.vel (f:FrP):Rat:=(f.hd:Rat)*f.sp
def FrP.at (f:FrP) (t:Rat):Rat:=if t<=f.st then(f.pos:Rat) else(f.pos:Rat)+f.vel*(t-f.st)
theorem FrP.OK.hdz {f:FrP} (h:f.OK):szQ (f.hd:Rat) 1:=Ge (by rcases h.hd with e|e<;>rw[e]<;>decide) (by decide)
theorem FrP.OK.posz {f:FrP} (h:f.OK):szQ (f.pos:Rat) 5:=Ge (by have:=h.p0;have:=h.p1;show f.pos.natAbs<100000;omega) (by decide)
theorem FrP.OK.pos64 {f:FrP} (h:f.OK): -9223372036854775808<=f.pos/\f.pos<=9223372036854775807:=by have:=h.p0;have:=h.p1;omega
theorem FrP.OK.hd64 {f:FrP} (h:f.OK): -9223372036854775808<=f.hd/\f.hd<=9223372036854775807:=by rcases h.hd with e|e<;>omega
theorem LP (f:FrP) (h:f.OK) (W:World) (hv:AE W) (ht:A7 W):
  Ad Tryz.prog 353 #[frV f] W (fun _:Unit=>str (Ac f.vel)) (fun _=>True) (fun _=>[]):=by
 have hz:=sz2 h.hdz h.sp (by decide)
 refine Ab (args:=[frV f]) Tryz.func353 I I I (zA (zB (wF I I fun _=>(wP I (Aa ?_)))))
 rename_i b1
 exact zE (zA (zU (qP I (qB 0 I I I (qC I I (fun W hp=>CP f.hd h.hd64 W (ht.hp hp)) (qP I (qB 0 I I I (qC I I (fun W hp=>H0 (f.hd:Rat) f.sp hz W (hv.hp hp) (ht.hp hp)) (qP I (A8 (Aa (zE (zO (wR1 I I I))))))))))))))
theorem KZ (f:FrP) (h:f.OK) (t:Rat) (a b k:Nat) (hs:szQ f.sp a) (hb:szQ f.st b) (hz:szQ t k) (hk:a+b+k+9<=300) (W:World) (hv:AE W) (ht:A7 W):
  Ad Tryz.prog 316 #[frV f,str (Ac t)] W (fun _:Unit=>str (Ac (f.at t))) (fun _=>True) (fun _=>[]):=by
 have z1:=sz2 hz hb (by omega)
 have z2:=hz.sub hb
 have zv:szQ f.vel (1+a):=h.hdz.mul hs
 have z3:=sz2 zv z2 (by omega)
 have z4:=zv.mul z2
 have z5:=sz2 h.posz z4 (by omega)
 refine Ab (args:=[frV f,str (Ac t)]) Tryz.func316 I I I (zA (zB (wF I I fun _=>(wP I (Aa ?_)))))
 rename_i b2
 refine zE (zA (zA (zB (wP I (wP I (wB 0 I I I (wC I I (fun W hp=>Mi t f.st z1 W (hv.hp hp) (ht.hp hp)) (wP I (wU 9 (decide (t<=f.st)) I (PH t f.st) (Aa (zE (Ah I (fun hc=> ?_) (fun hc=> ?_)))))))))))))
 ·have hc:=of_decide_eq_true hc
  exact zA (zB (wP I (wB 0 I I I (wC I I (fun W hp=>CP f.pos h.pos64 W (ht.hp hp)) (wP I (Aa (zE (zO (zP (wR1 I I (by rw[FrP.at,if_pos hc])))))))))))
 ·have hc:=of_decide_eq_false hc
  exact zI (zE (zA (zU (qP I (qB 0 I I I (qC I I (fun W hp=>CP f.pos h.pos64 W (ht.hp hp)) (qB 0 I I I (qC I I (fun W hp=>LP f h W (hv.hp hp) (ht.hp hp)) (qP I (qP I (qB 0 I I I (qC I I (fun W hp=>J5 t f.st z1 W (hv.hp hp) (ht.hp hp)) (qC I I (fun W hp=>H0 f.vel (t-f.st) z3 W (hv.hp hp) (ht.hp hp)) (qC I I (fun W hp=>TE (f.pos:Rat) (f.vel*(t-f.st)) z5 W (hv.hp hp) (ht.hp hp)) (qP I (A8 (Aa (zE (zO (wR1 I I (by rw[FrP.at,if_neg hc])))))))))))))))))))))
theorem LM (f:FrP) (h:f.OK) (t:Rat) (hz:szQ t 36) (W:World) (hv:AE W) (ht:A7 W):
  Ad Tryz.prog 316 #[frV f,str (Ac t)] W (fun _:Unit=>str (Ac (f.at t))) (fun _=>True) (fun _=>[]):=KZ f h t 36 36 36 h.sp h.st hz (by decide) W hv ht
theorem NL (f:FrP) (h:f.OK) (t:Rat) (hz:szQ t 36) (W:World) (hv:AE W) (ht:A7 W):
  Ad Tryz.prog 270 #[frV f,str (Ac t)] W (fun _:Unit=> .tuple #[str (Ac (f.at t)), .int .i64 0]) (fun _=>True) (fun _=>[]):=by
 refine Ab (args:=[frV f,str (Ac t)]) Tryz.func270 I I I (zA (zB (wF I I fun _=>(wP I (wP I (Aa ?_))))))
 rename_i b2
 refine zE (zA (zA (zB (wB 0 I I I (wP I (Ao Tryz.hZ tH I I I I I I I I I I I fun bS=> ?_))))))
 exact wC I I (fun W hp=>QF f h t hz bS W (hv.hp hp) (ht.hp hp) (Ai.of_bx hp 1 I I)) (wP I (Aa (zE (zA (zB (wP I (wP I (Aa (zE (zS I (zI (zE (zA (zB (wB 0 I I I (wP I (wC I I (fun W hp=>LM f h t hz W (hv.hp hp) (ht.hp hp)) (wP I (wP I (Aa (zE (zO (wR2 I I I)))))))))))))))))))))))
def FrP.slope (f:FrP):Rat:=(f.hd:Rat)/f.sp
def FrP.base (f:FrP):Rat:=f.st-f.slope*(f.pos:Rat)
def FrP.plane (f:FrP):Value:=if f.sp.num=0 then .tuple #[.agg #[str [],str [],str []], .int .i64 8] else
 .tuple #[if f.ax then .agg #[str (Ac f.slope),str [48],str (Ac f.base)] else .agg #[str [48],str (Ac f.slope),str (Ac f.base)], .int .i64 0]
theorem PS (f:FrP) (h:f.OK) (W:World) (hv:AE W) (ht:A7 W):
  Ad Tryz.prog 16 #[frV f] W (fun _:Unit=>f.plane) (fun _=>True) (fun _=>[]):=by
 have z1:=sz2 h.hdz h.sp (by decide)
 refine Ab (args:=[frV f]) Tryz.func16 I I I (zA (zB (wF I I fun _=>(wG I I fun _=>(wP I (Aa ?_))))))
 rename_i b1 b2
 refine zE (zA (zA (zB (wB 0 I I I (wC I I (fun W hp=>Fl f h W (hv.hp hp) (ht.hp hp)) (wP I (Aa (zE (zS I (zI (zE (zA (zA (zB (wP I (wB 0 I I I (wP I ?_)))))))))))))))))
 by_cases h0:f.sp.num=0
 ·refine wU 12 true I ((AS _ [48]).trans (dT (GY.2 h0))) (Aa (zE (zR I (zA (zB (Ap Tryz.hZ tH I I I I I I I I ?_))))))
  exact wS 1 I I I (wP I (Aa (zE (zO (zP (A0 tH I (.cell 1 I I I I I) (.tmp I) () (by rw[FrP.plane,if_pos h0];rfl) tO fun W _=>As.nil _ _))))))
 ·have z2:=h.hdz.div h.sp h0
  have z3:=sz2 z2 h.posz (by decide)
  have z4:=z2.mul h.posz
  have z5:=sz2 h.st z4 (by decide)
  have hval:f.plane= .tuple #[if f.ax then .agg #[str (Ac f.slope),str [48],str (Ac f.base)] else .agg #[str [48],str (Ac f.slope),str (Ac f.base)], .int .i64 0]:=if_neg h0
  refine wU 12 false I ((AS _ [48]).trans (dF fun e=>h0 (GY.1 e))) (Aa (zE (zS I (zI (zE (zA (zU (qP I (qB 0 I I I (qC I I (fun W hp=>CP f.hd h.hd64 W (ht.hp hp)) (qP I (qB 0 I I I (qC I I (fun W hp=>TQ (f.hd:Rat) f.sp z1 h0 W (hv.hp hp) (ht.hp hp)) (qP I (A8 (Aa (zE (Av ?_))))))))))))))))))
  refine AW (X:=Nat) [true,true,true,true,true,true,true,true,true,true,false,false] (fun b=>[(1,Af b1),(2,Af b2),(3, .int .i64 0),(5,Af b)]) (fun b=>[⟨b1,56,[.bool f.ax, .int .i64 f.pos, .int .i64 f.hd,str (Ac f.sp),str (Ac f.st)],true,none⟩,⟨b2,52,[str [],str [],str []],true,none⟩,⟨b,52,[str [48],str (Ac f.slope),str (Ac f.base)],true,none⟩])
   2 [⟨b1,56,[.bool f.ax, .int .i64 f.pos, .int .i64 f.hd,str (Ac f.sp),str (Ac f.st)],true,none⟩,⟨b2,52,[str [],str [],str []],true,none⟩] Tryz.mixed (by kernel_rfl) ?_ ?_
  ·refine qP I (qP I (qB 0 I I I (qP I (qP I (qB 0 I I I (qC I I (fun W hp=>CP f.pos h.pos64 W (ht.hp hp)) (qC I I (fun W hp=>H0 f.slope (f.pos:Rat) z3 W (hv.hp hp) (ht.hp hp)) (qC I I (fun W hp=>J5 f.st (f.slope*(f.pos:Rat)) z5 W (hv.hp hp) (ht.hp hp)) (IN Tryz.hZ tH I I I I I I I I ?_)))))))))
   refine BU (wX (wZ ?_))
   refine B8 Tryz.hZ rfl rfl rfl rfl ?_;intro b
   refine Aa (Ag (wX (wZ (wS 2 I I I (Aa (Ag ?_))))))
   refine AD I (by((repeat (first|refine AJ.same ?_|refine AJ.off I ?_));exact tO)) ?_
   exact A4 b ⟨I,I,I,I,tO⟩ [0,1,2] (by decide) I
  intro b5
  refine zE (zA (zA (zB (wP I (wB 0 I I I (Aa (zE (Ah I (fun hax=> ?_) (fun hax=> ?_)))))))))
  ·rw[if_pos hax] at hval
   exact zB (wP I (wB 2 I I I (wP I (wB 2 I I I (wP I (wS 2 I I I (wP I (wS 2 I I I (Aa (zE (zA (zB (wB 2 I I I (wS 1 I I I (wP I (Aa (zE (zO (A0 tH I (.cell 1 I I I I I) (.tmp I) () hval.symm tO fun W _=>As.nil _ _)))))))))))))))))))
  ·rw[if_neg (by rw[hax];decide)] at hval
   exact zI (zE (zA (zB (wB 2 I I I (wS 1 I I I (wP I (Aa (zE (zO (A0 tH I (.cell 1 I I I I I) (.tmp I) () hval.symm tO fun W _=>As.nil _ _))))))))))
abbrev frB (b:Nat) (f:FrP):Bx:=⟨b,56,(frV f).cells.toList,true,none⟩
end
section
def FrP.way (f:FrP) (x:Rat):Rat:=(f.hd:Rat)*(x-(f.pos:Rat))
theorem FrP.OK.hd2 {f:FrP} (h:f.OK):(f.hd:Rat)=1\/(f.hd:Rat)= -1:=by
 rcases h.hd with e|e
 ·exact .inl (by rw[e];rfl)
 ·exact .inr (by rw[e];rfl)
end
section
open Go Go.RowKit Go.Am Go.Lib
set_option maxRecDepth 10000
abbrev ptV (x y:Rat):Value:= .agg #[str (Ac x),str (Ac y)]
theorem Ou (f:FrP) (h:f.OK) (p q:Rat) (hp:szQ p 36) (hq:szQ q 36) (b:Nat) (W:World) (hv:AE W) (ht:A7 W) (hrow:Ai W b 0 [str (Ac p),str (Ac q)]):
  Ad Tryz.prog 80 #[frV f, .slice (some ⟨b,0,none⟩) 2 2] W (fun _:Unit=> .int .i64 0) (fun _=>True) (fun _=>[]):=by
 refine Ab (args:=[frV f, .slice (some ⟨b,0,none⟩) 2 2]) Tryz.func80 I I I (zA (zB (wF I I fun _=>(wP I (Aa ?_)))))
 rename_i b2
 refine zE (zA (zA (zB (wB 0 I I I (wC I I (fun W hp=>Fl f h W (hv.hp hp) (ht.hp hp)) (wP I (Aa (zE (zS I (zI (zE (zA (zA (zB (wP I (wP I (wP I (Aa (A6 (AA (X:=Unit) (fun _=>[(4, .int .i64 0)]) (fun _=>[]) (fun _=>True) ?_ ?_))))))))))))))))))))
 ·refine Bv (Ar (X:=Nat) (fun i=>[(4, .int .i64 0),(11, .slice (some ⟨b,0,none⟩) 2 2),(12, .int .i64 2),(13, .int .i64 (i:Nat))]) (fun _=>[]) (fun i=>i<=2) (fun i=>2-i) 0 (Nat.zero_le _) ⟨I,I,I,I,tO⟩ _ I ?_)
  intro i hi
  have hi:i=0\/i=1\/i=2:=by have:i<=2:=hi;omega
  rcases hi with rfl|rfl|rfl
  ·refine zA (zB (wP I (Aa (zE (zA (zR I (zI (zE (zA (zH (zA (zB (wJ ?_)))))))))))))
   refine wL 0 I I (fun W hp=>hrow.hp hp) I (wP I (Aa (zE (zA (zB (wP I (wC I I (fun W h=>DE p hp W (hv.hp h) (ht.hp h)) (wP I (Aa (zE (zA (zB (wP I (wP I (Aa (zE (zS I (zI (zN (zE (zB (wP I (wP I ?_)))))))))))))))))))))))
   exact Aa (Aj 1 (by decide) (by decide) ⟨I,I,I,I,tO⟩ [] I)
  ·refine zA (zB (wP I (Aa (zE (zA (zR I (zI (zE (zA (zH (zA (zB (wJ ?_)))))))))))))
   refine wL 1 I I (fun W hp=>hrow.hp hp) I (wP I (Aa (zE (zA (zB (wP I (wC I I (fun W h=>DE q hq W (hv.hp h) (ht.hp h)) (wP I (Aa (zE (zA (zB (wP I (wP I (Aa (zE (zS I (zI (zN (zE (zB (wP I (wP I ?_)))))))))))))))))))))))
   exact Aa (Aj 2 (by decide) (by decide) ⟨I,I,I,I,tO⟩ [] I)
  ·exact zA (zB (wP I (Aa (zE (zA (zS I (zJ (zK (zK (zL (An () tO ⟨I,tO⟩ _ I)))))))))))
 ·intro _ _
  exact zA (zB (wP I (Aa (zE (zO (wR1 I I I))))))
theorem Lu (f:FrP) (h:f.OK) (x y:Rat) (hx:szQ x 36) (hy:szQ y 36) (W:World) (hv:AE W) (ht:A7 W):
  Ad Tryz.prog 23 #[frV f,ptV x y] W (fun _:Unit=> .tuple #[str (Ac (f.way (if f.ax then x else y))), .int .i64 0]) (fun _=>True) (fun _=>[]):=by
 obtain⟨u,hu⟩: ∃u,u=(if f.ax then x else y):=⟨_,rfl⟩
 have zu:szQ u 36:=by rw[hu];split<;>assumption
 have z1:=sz2 zu h.posz (by decide)
 have z2:=zu.sub h.posz
 have z3:=sz2 h.hdz z2 (by decide)
 rw[<-hu]
 refine Ab (args:=[frV f,ptV x y]) Tryz.func23 I I I (zA (zB (wF I I fun _=>(wF I I fun _=>(wP I (wP I (Aa ?_)))))))
 rename_i b2 b3
 refine zE (zA (zA (zB (wB 0 I I I (wP I (wB 1 I I I (wP I (wB 1 I I I (Ao Tryz.hZ tH I I I I I I I I I I I fun bS=> ?_)))))))))
 refine wC I I (fun W hp=>Ou f h x y hx hy bS W (hv.hp hp) (ht.hp hp) (Ai.of_bx hp 2 I I)) (wP I (Aa (zE (zA (zB (wP I (wP I (Aa (zE (zS I (zI (zE (zA (zB (wP I (wB 1 I I I (wP I (Aa (zE (zA (zA (zB (wP I ?_)))))))))))))))))))))))
 refine wB 0 I I I (Aa (A6 ?_))
 try refine Av ?_
 refine AA (X:=Unit) (fun _=>[(2,Af b2),(7,str (Ac u))]) (fun _=>[frB b2 f,⟨b3,62,(ptV x y).cells.toList,true,none⟩]) (fun _=>True) ?_ ?_
 ·refine Ah I (fun hax=> ?_) (fun hax=> ?_)
  ·have hax:f.ax=true:=hax
   exact zB (wP I (wB 1 I I I (wP I (Aa (An () tO ⟨I,by rw[hu,if_pos hax];rfl,tO⟩ [_] I)))))
  ·have hax:f.ax=false:=hax
   exact zI (An () tO ⟨I,by rw[hu,if_neg (by rw[hax];decide)];rfl,tO⟩ [_] I)
 intro _ _
 exact zA (zU (qP I (qB 0 I I I (qC I I (fun W hp=>CP f.hd h.hd64 W (ht.hp hp)) (qP I (qP I (qB 0 I I I (qC I I (fun W hp=>CP f.pos h.pos64 W (ht.hp hp)) (qC I I (fun W hp=>J5 u (f.pos:Rat) z1 W (hv.hp hp) (ht.hp hp)) (qC I I (fun W hp=>H0 (f.hd:Rat) (u-(f.pos:Rat)) z3 W (hv.hp hp) (ht.hp hp)) (qP I (qP I (A8 (Aa (zE (zO (wR2 I I I)))))))))))))))))
end
end Go.Proofs.YtndkgionklmdfaaGreatDoor
namespace Go.Proofs
open Go.Shelf
def Tryz.lays125_ren:Go.Shelf.Ren:=⟨fun|125=>358|128=>381|129=>293|n=>n,fun|3=>3|4=>4|5=>5|9=>9|46=>329|51=>327|53=>281|n=>n,fun n=>n⟩
theorem Tryz.lays125:Go.Proofs.Lays.n125 Tryz.prog Tryz.lays125_ren:= {
 mixed:=by kernel_rfl
 f125:=Tryz.func358.trans (congrArg some (by kernel_rfl))
 f128:=Tryz.func381.trans (congrArg some (by kernel_rfl))
 f129:=Tryz.func293.trans (congrArg some (by kernel_rfl))
 t3:=Tryz.underlying3
 a3:=Tryz.isAgg3
 z3:=Tryz.sizeOf3
 v3:=Tryz.zeroValue3
 t4:=Tryz.underlying4
 a4:=Tryz.isAgg4
 z4:=Tryz.sizeOf4
 v4:=Tryz.zeroValue4
 t5:=Tryz.underlying5
 a5:=Tryz.isAgg5
 z5:=Tryz.sizeOf5
 v5:=Tryz.zeroValue5
 t9:=Tryz.underlying9
 a9:=Tryz.isAgg9
 z9:=Tryz.sizeOf9
 v9:=Tryz.zeroValue9
 t46:=Tryz.underlying329
 a46:=Tryz.isAgg329
 z46:=Tryz.sizeOf329
 v46:=Tryz.zeroValue329
 t51:=Tryz.underlying327
 a51:=Tryz.isAgg327
 z51:=Tryz.sizeOf327
 v51:=Tryz.zeroValue327
 t53:=Tryz.underlying281
 a53:=Tryz.isAgg281
 z53:=Tryz.sizeOf281
 v53:=Tryz.zeroValue281 }
end Go.Proofs
namespace Go.Proofs.YtndkgionklmdfaaGreatDoor
section
open Go Go.RowKit Go.Am Go.Lib
set_option maxRecDepth 10000
structure HC (W W':World) (g:Nat):Prop where
 os:W'.os=W.os
 tape:W'.tape=W.tape
 output:W'.output=W.output
 size:W.heap.size<=W'.heap.size
 at_: ∀x,x≠g->x<W.heap.size->W'.heap[x]? =W.heap[x]?
theorem JH {W W':World} {g:Nat} {B:Bx} {o:Obj} (hg:W.heap[g]? =some o) (hB: ∃o',(g,o')∈B.blk) (hp:Hp (Bc W) [AU (Az W g),B] W'):HC W W' g:=by
 have c0: ∀p∈Az W g,W'.heap[p.1]? =some p.2:=fun p hq=>(hp.own.cell 0 _ rfl p hq).1
 have old: ∀x,x≠g->x<W.heap.size->W'.heap[x]? =W.heap[x]? :=fun x hx hlt=>by
  have h1:W.heap[x]? =some W.heap[x]:=Array.getElem?_eq_getElem hlt
  rw[h1]
  exact c0 (x,W.heap[x]) (DU.2 ⟨hx,h1⟩)
 refine⟨hp.below.os,hp.below.tape,hp.below.output, ?_,old⟩
 have hlt:=(Array.getElem?_eq_some_iff.1 hg).1
 by_cases e:W.heap.size-1=g
 ·obtain⟨o',ho⟩:=hB
  have:=(Array.getElem?_eq_some_iff.1 (hp.own.cell 1 B rfl _ ho).1).1
  have h2:g<W'.heap.size:=this
  omega
 ·have h1:=old (W.heap.size-1) e (by omega)
  rw[Array.getElem?_eq_getElem (show W.heap.size-1<W.heap.size by omega)] at h1
  have:=(Array.getElem?_eq_some_iff.1 h1).1
  omega
theorem HC.trans {W W1 W2:World} {g:Nat} (h:HC W W1 g) (h':HC W1 W2 g):HC W W2 g:=
 ⟨h'.os.trans h.os,h'.tape.trans h.tape,h'.output.trans h.output,Nat.le_trans h.size h'.size,fun x hx hlt=>(h'.at_ x hx (Nat.lt_of_lt_of_le hlt h.size)).trans (h.at_ x hx hlt)⟩
theorem HC.below {W0 W W':World} {g:Nat} (hk:HC W W' g) (hb:Below W0.heap.size W0 W) (hg:W0.heap.size<=g):Below W0.heap.size W0 W':=
 ⟨hk.os.trans hb.os,hk.tape.trans hb.tape,hk.output.trans hb.output,Nat.le_trans hb.size hk.size,fun i hi=>(hk.at_ i (by omega) (Nat.lt_of_lt_of_le hi hb.size)).trans (hb.block i hi)⟩
theorem GZ {W0 W:World} {bxs:List Bx} (hp:Hp W0 bxs W) (k:Nat) {g:Nat} {e:TypeId} {xs A B C:List Value} {off:Nat} (hk:nth bxs k=some ⟨g,e,xs,true,none⟩) (hxs:xs=A++(B++C)) (hoff:off=A.length):Ai W g off B:=by
 have h:=Ai.of_bx hp k hk rfl
 refine⟨h.lt,fun m u hu=> ?_⟩
 have:=h.get (A.length+m) u (by
  show xs[A.length+m]? =some u
  rw[hxs,List.getElem?_append_right (by omega),Nat.add_sub_cancel_left,List.getElem?_append_left (List.getElem?_eq_some_iff.1 hu).1]
  exact hu)
 rw[Nat.zero_add, <-hoff] at this
 exact this
theorem bO {r:Option Nat} {n:Nat} {P:Program} {W0:World} {N:Nat} {D:List Deferred} {c:Code} {Q:Exit->Act->World->Prop} {env:Env} {bxs bxs':List Bx} (e:bxs=bxs') (h:WC r n P N D c Q env (Hp W0 bxs')):WC r n P N D c Q env (Hp W0 bxs):=e▸h
theorem ZU (a b:List UInt8) (h:a=b):(((⟨a.toArray⟩:ByteArray).toList==(⟨b.toArray⟩:ByteArray).toList))=true:=(AS a b).trans (dT h)
section
variable {r:Option Nat} {n:Nat} {N:Nat} {D:List Deferred} {ops:List Oper} {Q:Exit->Act->World->Prop} {o:Oper} {rest:List Oper} {env:Env} {A:World->Prop}
end
def Xa (g:Nat) (capt:List Value) (f:Rat->Bool) (l:List Rat) (W:World):Prop:= ∀t∈l, ∀W',Below W.heap.size W W'->Ad Tryz.prog g ([str (Ac t)]++capt).toArray W' (fun _:Unit=> .bool (f t)) (fun _=>True) (fun _=>[])
theorem Xa.below {g:Nat} {capt:List Value} {f:Rat->Bool} {l:List Rat} {W W':World} (h:Xa g capt f l W) (hb:Below W.heap.size W W'):Xa g capt f l W':=
 fun t ht W2 hb2=>h t ht W2 (hb.trans ⟨hb2.os,hb2.tape,hb2.output,hb2.size,fun i hi=>hb2.block i (Nat.lt_of_lt_of_le hi hb.size)⟩)
theorem PP (g:Nat) (capt:List Value) (hE:AO Tryz.prog g=true) (f:Rat->Bool) (l:List Rat) (W:World) (p:Option Addr) (cap:Nat) (hn:l.length<4611686018427387904) (hS:EA W p (l.map Ac)) (hF:Xa g capt f l W):
  Ad Tryz.prog 222 #[slv p l.length cap, .func (.func g) #[] capt.toArray] W (fun k:Int=> .int .i64 k) (fun k=>(0<=k↔l.any f=true)) (fun _=>[]):=by
 refine Ab (args:=[slv p l.length cap, .func (.func g) #[] capt.toArray]) Tryz.func222 I I I (zA (zB (wP I (Aa (zE (zA (zA (zB (wP I (wP I (wP I (Aa (zE (zH (Ar (X:=Nat) (fun i=>[(0,slv p l.length cap),(1, .func (.func g) #[] capt.toArray),(7, .int .i64 (l.length:Nat)),(8, .int .i64 (i:Nat))]) (fun _=>[]) (fun i=>i<=l.length/\ ∀k (hk:k<l.length),k<i->f l[k]=false) (fun i=>l.length-i) 0 ⟨Nat.zero_le _,fun k _ h=>absurd h (Nat.not_lt_zero _)⟩ ⟨I,I,I,I,tO⟩ [] I ?_)))))))))))))))
 rintro i ⟨hi,hno⟩
 have hi:i<=l.length:=hi
 refine zA (zB (wP I ?_))
 by_cases hlt:i<l.length
 ·refine wU 9 true I (dT (by omega)) (Aa (zE (zA (zR I (zI (zE (zA (zH (zA (zB ?_))))))))))
  obtain⟨b,off,rfl,hrow⟩:=hS.row (i:=i) (by rw[List.length_map];exact hlt)
  refine wP I (wP I (Aa (zE (zA (zB (wP I (wP I (wP I (wJ ?_)))))))))
  have hrow1:Ai W b (off+i*1) [str (Ac l[i])]:=by have:=hrow i (by rw[List.length_map];exact hlt);rwa [List.getElem_map] at this
  refine wL 0 I I (fun W hp=>hrow1.hp hp) I (Bp (capt:=capt) I I I I I I hE (fun W1 hp=>hF l[i] (List.getElem_mem hlt) W1 hp.below) (Aa (zE (Ah I (fun hc=> ?_) (fun hc=> ?_)))))
  ·have hc:f l[i]=true:=hc
   exact zA (zB (wP I (wP I (Aa (zE (zO (zQ (zP (zP (zQ (zP (Ax tH I (.tmp I) ((i:Nat):Int) I ⟨fun _=>List.any_eq_true.2 ⟨l[i],List.getElem_mem hlt,hc⟩,fun _=>by omega⟩ fun W _=>As.nil _ _))))))))))))
  ·have hc:f l[i]=false:=hc
   refine zI (zN (zE (zB (wP I (wV 18 ((i+1:Nat):Int) I (Aw (by omega)) (wP I (Aa ?_)))))))
   refine Aj (i+1) ⟨hlt,fun k hk h=> ?_⟩ (by show l.length-(i+1)<l.length-i;omega) ⟨I,I,I,I,tO⟩ [] I
   by_cases e:k=i
   ·subst e;exact hc
   ·exact hno k hk (by show k<i;omega)
 ·refine wU 9 false I (dF (by omega)) (Aa (zE (zA (zS I (zJ (zK (zK (zL (zE (zA (zB (wP I (Aa (zE (zO (Ax tH I (.tmp I) (-1:Int) I ⟨fun h=>absurd h (by decide),fun h=> ?_⟩ fun W _=>As.nil _ _))))))))))))))))
  obtain⟨t,ht,hft⟩:=List.any_eq_true.1 h
  obtain⟨k,hk,rfl⟩:=List.getElem_of_mem ht
  rw[hno k hk (by show k<i;omega)] at hft
  cases hft
theorem LT (g:Nat) (capt:List Value) (hE:AO Tryz.prog g=true) (f:Rat->Bool) (l:List Rat) (W:World) (p:Option Addr) (cap:Nat) (hn:l.length<4611686018427387904) (hS:EA W p (l.map Ac)) (hF:Xa g capt f l W):
  Ad Tryz.prog 153 #[slv p l.length cap, .func (.func g) #[] capt.toArray] W (fun _:Unit=> .bool (l.any f)) (fun _=>True) (fun _=>[]):=by
 refine Ab (args:=[slv p l.length cap, .func (.func g) #[] capt.toArray]) Tryz.func153 I I I (zA (zB (wP I (Aa (zE (zA (zB (wP I (wP I (wD (X:=Int) I I (fun W hp=>PP g capt hE f l W p cap hn (hS.hp hp) (hF.below hp.below)) ?_))))))))))
 intro k hk
 refine wP I ?_
 refine Al 8 (.bool (l.any f)) I (congrArg Value.bool (by
  cases h:l.any f
  ·exact dF fun e=>by rw[hk.1 e] at h;cases h
  ·exact dT (hk.2 h))) ?_
 exact wP I (Aa (zE (zO (wR1 I I I))))
def HN (l:List Rat) (k:Nat):Rat:=(l.take k).foldl (fun s x=>s+x) 0
theorem Vk {l:List Rat} {k:Nat} (hk:k<l.length):HN l (k+1)=HN l k+l[k]:=by
 rw[HN,List.take_add_one,List.getElem?_eq_getElem hk,List.foldl_append];rfl
theorem Zi (l:List Rat):Ac (HN l 0)=[48]:=Cv
theorem Ti (p:Option Addr) (n cap:Nat) (W:World):Ad Tryz.prog 266 #[slv p n cap] W (fun b:Nat=> .func (.func 315) #[] #[Af b]) (fun _=>True) (fun b=>[⟨b,63,[slv p n cap],true,none⟩]):=by
 refine Ab (args:=[slv p n cap]) Tryz.func266 I I I (zA (zB (wF I I fun _=>(wP I (Aa ?_)))))
 rename_i b1
 exact zE (zA (zB (wP I (wP I (Aa (zE (zO (Ax tH I (.tmp I) b1 I tO fun W hp=>As.of_hp hp))))))))
structure cZ (b:Nat) (p:Option Addr) (cap:Nat) (l:List Rat) (W:World):Prop where
 var:Ai W b 0 [slv p l.length cap]
 row:EA W p (l.map Ac)
 v:AE W
 t:A7 W
theorem Vv (b:Nat) (p:Option Addr) (cap:Nat) (l:List Rat) (hn:l.length<4611686018427387904) (hz: ∀k (hk:k<l.length),Sz2 (HN l k) l[k]):
  Xf Tryz.prog 315 [Af b] l.length (fun k=>[str (Ac (HN l (k+1))), .int .i64 0]) (fun _=>cZ b p cap l):=by
 refine⟨fun y J Jx hN hB hY W hJ=> ?_⟩
 have hG: ∀k,Zg (J k):=fun k W W' h hb=>hB k W W' h hb
 refine CT (args:=[.func (.yield y) #[] #[],Af b]) (J0:=J 0) Tryz.func315 I I I hJ ?_
 refine zA (zB (wP I (Aa (zE (zA (zB (wL 0 I I (fun W hp=>(hN 0 W hp).var) I (wP I (wP I (Aa (zE (zH ?_))))))))))))
 refine Db (X:=Nat) (fun k=>[(0, .func (.yield y) #[] #[]),(3,str (Ac (HN l k))),(7,slv p l.length cap),(8, .int .i64 (l.length:Nat)),(9, .int .i64 (k:Nat))]) J (fun k=>k<=l.length) (fun k=>l.length-k) 0 (Nat.zero_le _) ⟨I,(by show some (str [48])=some (str (Ac (HN l 0)));rw[Zi]),I,I,I,tO⟩ (fun W h=>h) ?_
 intro k hk
 have hk:k<=l.length:=hk
 refine zA (zB (wP I ?_))
 by_cases hlt:k<l.length
 ·refine wU 10 true I (dT (by omega)) (Aa (zE (zA (zR I (zI (zE (zA (zH (zA (zB ?_))))))))))
  obtain⟨g,off,rfl,hrow⟩: ∃g off,p=some ⟨g,off,none⟩/\ ∀W,J k W->Ai W g (off+k*1) [str (Ac l[k])]:=by
   obtain⟨g,off,e,_⟩:=(hN 0 W hJ).row.row (i:=k) (by rw[List.length_map];exact hlt)
   refine⟨g,off,e,fun W hW=> ?_⟩
   obtain⟨g',off',e',h⟩:=(hN k W hW).row.row (i:=k) (by rw[List.length_map];exact hlt)
   rw[e] at e'
   cases e'
   have:=h k (by rw[List.length_map];exact hlt)
   rwa [List.getElem_map] at this
  refine wJ ?_
  refine wL 0 I I (fun W hp=>hrow W hp) I (wP I (Aa (zE (zA (zB (wP I (Aa (zE (zA (zB (wP I (wP I (Xj (hG k) I I I I I I (by kernel_rfl) (fun W hp=>(Ca (HN l k) l[k] (hz k hlt) W (hN k W hp).v (hN k W hp).t).cast (by rw[<-Vk hlt])) ?_)))))))))))))
  refine wP I (wP I (wP I (wP I (wP I (Aa (zE (zA (zB (wP I (wP I (wP I (Eo (A1:=J (k+1)) (A2:=Jx) I I I I I I (fun W hp=>hY k W hlt hp) ?_ ?_))))))))))))
  ·exact wP I (wP I (wP I (wP I (wP I (Aa (zE (zS I (zI (zN (zE (zB (wP I (wV 28 ((k+1:Nat):Int) I (Aw (by omega)) (wP I (Aa (Da (k+1) hlt (by omega) ⟨I,I,I,I,I,tO⟩ (fun W h=>h)))))))))))))))))
  ·refine wP I (wP I ?_)
   iterate 2 refine Ae I I ?_
   exact wP I (zC (zE (zR I (zO (zQ (zP (zP (zQ (Ce I (fun W h=>h))))))))))
 ·have e:k=l.length:=by omega
  subst e
  exact wU 10 false I (dF (by omega)) (Aa (zE (zA (zS I (zJ (zK (zK (zL (Fv I fun W h=>h)))))))))
theorem Tc (l:List Rat) (p:Option Addr) (cap:Nat) (hn:l.length<=4096) (hk: ∀q∈l,okQ q) (hz: ∀k (hk:k<l.length),Sz2 (HN l k) l[k]) (W:World) (hS:EA W p (l.map Ac)) (hv:AE W) (ht:A7 W):
  Ad Tryz.prog 224 #[slv p l.length cap] W (fun _:Unit=> .tuple #[str (Ac (HN l l.length)), .int .i64 0]) (fun _=>True) (fun _=>[]):=by
 refine Ab (args:=[slv p l.length cap]) Tryz.func224 I I I (zA (zB (wG I I fun _=>(wG I I fun _=>(Aa ?_)))))
 rename_i b2 b3
 refine zE (zA (zA (zB (wP I (wP I (wP I (wU 12 false I (dF (by omega)) (Aa (zE (zS I (zI (zE (zA (zA (zB (wP I (wP I (wP I (Aa (zE (zH (Ar (X:=Nat) (fun i=>[(0,slv p l.length cap),(2,Af b2),(3,Af b3),(13,slv p l.length cap),(14, .int .i64 (l.length:Nat)),(15, .int .i64 (i:Nat))]) (fun _=>[⟨b2,25,[str []],true,none⟩,⟨b3,28,[.int .i64 0],true,none⟩]) (fun i=>i<=l.length) (fun i=>l.length-i) 0 (Nat.zero_le _) ⟨I,I,I,I,I,I,tO⟩ [] I ?_))))))))))))))))))))))
 intro i hi
 have hi:i<=l.length:=hi
 refine zA (zB (wP I ?_))
 by_cases hlt:i<l.length
 ·refine wU 16 true I (dT (by omega)) (Aa (zE (zA (zR I (zI (zE (zA (zH (zA (zB ?_))))))))))
  obtain⟨g,off,rfl,hrow⟩:=hS.row (i:=i) (by rw[List.length_map];exact hlt)
  have hrow1:Ai W g (off+i*1) [str (Ac l[i])]:=by have:=hrow i (by rw[List.length_map];exact hlt);rwa [List.getElem_map] at this
  have ho:=hk l[i] (List.getElem_mem hlt)
  have hle:=AP ho
  refine wJ ?_
  refine wL 0 I I (fun W hp=>hrow1.hp hp) I (wP I (Aa (zE (zA (zB (wP I (wC I I (fun W hp=>(Bz (Ac l[i]) (by omega) W (hv.hp hp) (ht.hp hp)).cast (by rw[CV ho])) (wP I (Aa (zE (zA (zB (wP I (wP I (Aa (zE (zS I (zI (zN (zE (zB (wP I (wV 24 ((i+1:Nat):Int) I (Aw (by omega)) ?_)))))))))))))))))))))))
  exact wP I (Aa (Aj (i+1) hlt (by show l.length-(i+1)<l.length-i;omega) ⟨I,I,I,I,I,I,tO⟩ [] I))
 ·refine wU 16 false I (dF (by omega)) (Aa (zE (zA (zS I (zJ (zK (zK (zL (zE (zA (zB (wG I I fun _=>(wS 2 I I I (Aa ?_))))))))))))))
  rename_i b7
  refine zE (zA (zA (zB (wP I (wD (X:=Nat) I I (fun W _=>Ti p l.length cap W) ?_)))))
  intro bS _
  refine Aa (zE (zH ?_))
  refine Pc (X:=Nat) (fun k=>[⟨b2,25,[str []],true,none⟩,⟨b3,28,[.int .i64 0],true,none⟩,⟨b7,25,[str (Ac (HN l k))],true,none⟩,⟨bS,63,[slv p l.length cap],true,none⟩])
   (fun j x=>x=j) (fun _ _=>False) 0 rfl (by kernel_rfl) (Vv bS p cap l (by omega) hz) (fun _=>rfl) rfl [] (by show _=[(⟨b2,25,[str []],true,none⟩:Bx),⟨b3,28,[.int .i64 0],true,none⟩,⟨b7,25,[str (Ac (HN l 0))],true,none⟩,⟨bS,63,[slv p l.length cap],true,none⟩]++[];rw[Zi];rfl)
   (fun k x W _ hp=>⟨Ai.of_bx hp 3 rfl rfl,hS.hp hp,hv.hp hp,ht.hp hp⟩) ?_ ?_ (fun _ _ _ _ _ h=>h.elim)
  ·intro k x d L rec hk hx hrec
   obtain rfl:x=k:=hx
   refine zA (zB (wP I (Aa (zE (zB (wP I (Aa (BJ 5 hrec I ?_))))))))
   exact Bv (zA (zA (zB (wP I (wP I (Aa (zE (zS I (zI (zE (zB (wP I (wS 2 I I I (Aa (zN (Bk 5 (x+1) hrec I I [] I))))))))))))))))
  ·intro x d L rec hx
   obtain rfl:x=l.length:=hx
   refine zN (zE (zA (zB (wB 2 I I I (wS 0 I I I (wS 1 I I I (Aa (zE (zO (Ci 4 I ?_))))))))))
   exact A0 tH I (.cell 0 I I I I I) (.cell 1 I I I I I) () I tO fun W _=>As.nil _ _
section
variable {r:Option Nat} {n:Nat} {P:Program} {W0:World} {N:Nat} {D:List Deferred} {ops:List Oper} {Q:Exit->Act->World->Prop} {o:Oper} {rest:List Oper} {env:Env} {bxs:List Bx} {A:World->Prop}
theorem GT {d:Nat} {t e:TypeId} {x y:Operand} {m:Nat} {cs:Array Value} {k:IntKind} {i:Int} {v:Value} (ht:P.underlying t=some (.array m e)) (he: ∀W,(isAgg e).run P W= .ok false W) (hz: ∀W,(Go.sizeOf e).run P W= .ok 1 W)
  (hg:Ay ops N env o=some true) (hd:o.dst=some d) (ho:o.op= .index t x y) (hx:evO N env x=some (.agg cs)) (hy:evO N env y=some (.int k i)) (h0:0<=i/\i<m) (hv:cs[i.toNat]? =some v)
  (h:WL r n P N D ops Q rest ((d,v)::env) A):WL r n P N D ops Q (o::rest) env A:=
 CJ hg hd (fun c e=>by rw[ho] at e;cases e) (fun _ W hρ _=>by
  simp[execOp,ho,hρ _ _ hx,hρ _ _ hy,Instr.index,asIntOf,run_underlying ht,h0,hz,part,he,hv]) h
theorem F9 {d:Nat} {t e:TypeId} {m:Nat} {parts:Array (Nat×Operand)} {vs:List (Nat×Value)} (z:Value) {c:List Value} (ht:P.underlying t=some (.array m e)) (hz: ∀W,(zeroValue t).run P W= .ok z W) (hs: ∀W,(Go.sizeOf e).run P W= .ok 1 W)
  (hg:Ay ops N env o=some true) (hd:o.dst=some d) (ho:o.op= .build t parts) (hp:DM (evO N env) parts.toList=some vs) (hc:Gd (Jr 1) z.cells.toList vs=some c)
  (h:WL r n P N D ops Q rest ((d, .agg c.toArray)::env) A):WL r n P N D ops Q (o::rest) env A:=
 CJ hg hd (fun c e=>by rw[ho] at e;cases e) (fun ρ W hρ _=>by
  have hparts:(parts.map fun(i,x)=>(i,ρ x)).toList=vs:=by rw[<-Ee hρ hp];simp
  have hfill:=Kp hc
  simp only[Array.toArray_toList] at hfill
  have hfill':Instr.fill (fun i=>some (i*1,1)) z.cells (parts.map fun(i,x)=>(i,ρ x)).toList=some c.toArray:=by rw[hparts];exact hfill
  simp only[execOp,ho,Instr.build,Sem.run_bind,hz,Result.andThen_ok,run_underlying ht,hs,Sem.run_pure]
  rw[hfill']
  simp) h
end
theorem F1 (q:Rat) (h:szQ q 36) (W:World) (hv:AE W) (ht:A7 W):
  Ad Tryz.prog 152 #[str (Ac q)] W (fun _:Unit=> .int .i64 0) (fun _=>True) (fun _=>[]):=by
 have hk:=h.ok (by decide)
 have l1:=Cp 36 q.num.natAbs (by decide) h.1
 have l2:=Cp 36 q.den (by decide) h.2
 refine Ab (args:=[str (Ac q)]) Tryz.func152 I I I (zA (zB (wP I (Aa (zE (zA (zB (wP I (wC I I (fun W hp=>Et q hk W (hv.hp hp) (ht.hp hp)) (wP I (wP I (wP I (wP I (wP I (wP I (wP I (Aa (zE (zA (zA (zB (wP I (wP I ?_)))))))))))))))))))))))
 refine Aa (zE (zS I (zI (zE (zA (zA (zB (wP I (wC I I (fun W _=>(BA (itoa q.num) [45] W).cast (by rw[AV])) (wP I (Al 17 (.int .i64 ((decDigits q.num.natAbs).length:Nat)) I (congrArg (fun n:Nat=>Value.int .i64 (n:Int)) (A3 _)) (wP I (wP I (Al 19 (.int .i64 ((decDigits q.den).length:Nat)) I (congrArg (fun n:Nat=>Value.int .i64 (n:Int)) ((A3 _).trans (by rw[Fh]))) (wP I (wP I ?_))))))))))))))))
 refine Al 21 (.bool false) I (congrArg Value.bool (dF (by
  show¬((if _>_ then _ else _)>_)
  split<;>omega))) ?_
 exact Aa (zE (zS I (zI (zE (zA (zB (wP I (Aa (zE (zO (wR1 I I I)))))))))))
theorem OE (q:Rat) (h:szQ q 36) (W:World) (hv:AE W) (ht:A7 W):
  Ad Tryz.prog 154 #[str (Ac q)] W (fun _:Unit=> .bool false) (fun _=>True) (fun _=>[]):=by
 exact Ab (args:=[str (Ac q)]) Tryz.func154 I I I (zA (zB (wP I (Aa (zE (zA (zB (wP I (wC I I (fun W hp=>F1 q h W (hv.hp hp) (ht.hp hp)) (wP I (wP I (Aa (zE (zO (wR1 I I I)))))))))))))))
theorem PK (x y:Rat) (hx:szQ x 36) (hy:szQ y 36) (b:Nat) (W:World) (hr:Ai W b 0 [str (Ac x),str (Ac y)]) (hv:AE W) (ht:A7 W):
  Ad Tryz.prog 73 #[.slice (some ⟨b,0,none⟩) 2 2] W (fun _:Unit=> .bool false) (fun _=>True) (fun _=>[]):=by
 refine Ab (args:=[.slice (some ⟨b,0,none⟩) 2 2]) Tryz.func73 I I I (zA (zB (wP I (Aa (zE (zA (zB (wP I ?_))))))))
 refine wC I I (fun W hp=>LT 154 [] (by kernel_rfl) (fun _=>false) [x,y] W (some ⟨b,0,none⟩) 2 (show 2<4611686018427387904 by decide) (.inr ⟨b,0,I,hr.hp hp⟩)
  (fun t h1 W' hb=>by
   have hz:szQ t 36:=by
    rcases List.mem_cons.1 h1 with rfl|h1
    ·exact hx
    ·obtain rfl:=List.mem_singleton.1 h1;exact hy
   exact OE t hz W' ((hv.hp hp).below hb) ((ht.hp hp).below hb))) ?_
 exact wP I (Aa (zE (zO (wR1 I I I))))
abbrev plV (a b c:Rat):Value:= .agg #[str (Ac a),str (Ac b),str (Ac c)]
theorem Ql (a b c:Rat) (ha:szQ a 36) (hb:szQ b 36) (hc:szQ c 36) (W:World) (hv:AE W) (ht:A7 W):
  Ad Tryz.prog 72 #[plV a b c] W (fun _:Unit=> .int .i64 0) (fun _=>True) (fun _=>[]):=by
 have oa:=ha.ok (by decide)
 have ob:=hb.ok (by decide)
 have oc:=hc.ok (by decide)
 have la:=AP oa
 have lb:=AP ob
 have lc:=AP oc
 refine Ab (args:=[plV a b c]) Tryz.func72 I I I (zA (zB (wF I I fun _=>(wP I (Aa ?_)))))
 rename_i b1
 refine zE (zA (zA (zB (wP I (wB 0 I I I (wP I (wB 0 I I I (wP I (wB 0 I I I (F9 (.agg #[str [],str [],str []]) Tryz.underlying201 (fun W=>by kernel_rfl) Tryz.sizeOf25 I I I I I ?_))))))))))
 refine wP I (Aa (A6 ?_))
 try refine Av ?_
 refine AA (X:=Unit) (fun _=>[(1,Af b1),(2, .int .i64 0)]) (fun _=>[⟨b1,52,(plV a b c).cells.toList,true,none⟩]) (fun _=>True) ?_ ?_
 ·refine Bv (Ar (X:=Nat) (fun i=>[(1,Af b1),(2, .int .i64 0),(15,plV a b c),(16, .int .i64 (i:Nat))]) (fun _=>[⟨b1,52,(plV a b c).cells.toList,true,none⟩]) (fun i=>i<=3) (fun i=>3-i) 0 (by decide) ⟨I,I,I,I,tO⟩ [] I ?_)
  intro i hi
  have hi:i=0\/i=1\/i=2\/i=3:=by have:i<=3:=hi;omega
  rcases hi with rfl|rfl|rfl|rfl
  ·refine zA (zB (wP I (Aa (zE (zA (zR I (zI (zE (zA (zH (zA (zB (GT Tryz.underlying201 Tryz.isAgg25 Tryz.sizeOf25 I I I I I (by decide) (v:=str (Ac a)) I (wP I (Aa (zE (zA (zB (wP I (wC I I (fun W hp=>(Bz (Ac a) (by omega) W (hv.hp hp) (ht.hp hp)).cast (by rw[CV oa])) (wP I (Aa (zE ?_)))))))))))))))))))))))
   exact zA (zB (wP I (wP I (Aa (zE (zS I (zI (zN (zE (zB (wP I (wP I (Aa (Aj 1 (by decide) (by decide) ⟨I,I,I,I,tO⟩ [] I))))))))))))))
  ·refine zA (zB (wP I (Aa (zE (zA (zR I (zI (zE (zA (zH (zA (zB (GT Tryz.underlying201 Tryz.isAgg25 Tryz.sizeOf25 I I I I I (by decide) (v:=str (Ac b)) I (wP I (Aa (zE (zA (zB (wP I (wC I I (fun W hp=>(Bz (Ac b) (by omega) W (hv.hp hp) (ht.hp hp)).cast (by rw[CV ob])) (wP I (Aa (zE ?_)))))))))))))))))))))))
   exact zA (zB (wP I (wP I (Aa (zE (zS I (zI (zN (zE (zB (wP I (wP I (Aa (Aj 2 (by decide) (by decide) ⟨I,I,I,I,tO⟩ [] I))))))))))))))
  ·refine zA (zB (wP I (Aa (zE (zA (zR I (zI (zE (zA (zH (zA (zB (GT Tryz.underlying201 Tryz.isAgg25 Tryz.sizeOf25 I I I I I (by decide) (v:=str (Ac c)) I (wP I (Aa (zE (zA (zB (wP I (wC I I (fun W hp=>(Bz (Ac c) (by omega) W (hv.hp hp) (ht.hp hp)).cast (by rw[CV oc])) (wP I (Aa (zE ?_)))))))))))))))))))))))
   exact zA (zB (wP I (wP I (Aa (zE (zS I (zI (zN (zE (zB (wP I (wP I (Aa (Aj 3 (by decide) (by decide) ⟨I,I,I,I,tO⟩ [] I))))))))))))))
  ·exact zA (zB (wP I (Aa (zE (zA (zS I (zJ (zK (zK (zL (An () tO ⟨I,I,tO⟩ [] I)))))))))))
 intro _ _
 refine zA (zA (zB (wP I (wB 0 I I I (wP I (wB 0 I I I (wP I (wB 0 I I I (F9 (.agg #[str [],str [],str []]) Tryz.underlying201 (fun W=>by kernel_rfl) Tryz.sizeOf25 I I I I I ?_)))))))))
 refine wP I (Aa (zE (zH (Ar (X:=Nat) (fun i=>[(1,Af b1),(2, .int .i64 0),(31,plV a b c),(32, .int .i64 (i:Nat))]) (fun _=>[⟨b1,52,(plV a b c).cells.toList,true,none⟩]) (fun i=>i<=3) (fun i=>3-i) 0 (by decide) ⟨I,I,I,I,tO⟩ [] I ?_))))
 intro i hi
 have hi:i=0\/i=1\/i=2\/i=3:=by have:i<=3:=hi;omega
 rcases hi with rfl|rfl|rfl|rfl
 ·refine zA (zB (wP I (Aa (zE (zA (zR I (zI (zE (zA (zH (zA (zB (GT Tryz.underlying201 Tryz.isAgg25 Tryz.sizeOf25 I I I I I (by decide) (v:=str (Ac a)) I (wP I (Aa (zE (zA (zB (wP I (wC I I (fun W hp=>F1 a ha W (hv.hp hp) (ht.hp hp)) (wP I (Aa (zE ?_)))))))))))))))))))))))
  exact zA (zB (wP I (wP I (Aa (zE (zS I (zI (zN (zE (zB (wP I (wP I (Aa (Aj 1 (by decide) (by decide) ⟨I,I,I,I,tO⟩ [] I))))))))))))))
 ·refine zA (zB (wP I (Aa (zE (zA (zR I (zI (zE (zA (zH (zA (zB (GT Tryz.underlying201 Tryz.isAgg25 Tryz.sizeOf25 I I I I I (by decide) (v:=str (Ac b)) I (wP I (Aa (zE (zA (zB (wP I (wC I I (fun W hp=>F1 b hb W (hv.hp hp) (ht.hp hp)) (wP I (Aa (zE ?_)))))))))))))))))))))))
  exact zA (zB (wP I (wP I (Aa (zE (zS I (zI (zN (zE (zB (wP I (wP I (Aa (Aj 2 (by decide) (by decide) ⟨I,I,I,I,tO⟩ [] I))))))))))))))
 ·refine zA (zB (wP I (Aa (zE (zA (zR I (zI (zE (zA (zH (zA (zB (GT Tryz.underlying201 Tryz.isAgg25 Tryz.sizeOf25 I I I I I (by decide) (v:=str (Ac c)) I (wP I (Aa (zE (zA (zB (wP I (wC I I (fun W hp=>F1 c hc W (hv.hp hp) (ht.hp hp)) (wP I (Aa (zE ?_)))))))))))))))))))))))
  exact zA (zB (wP I (wP I (Aa (zE (zS I (zI (zN (zE (zB (wP I (wP I (Aa (Aj 3 (by decide) (by decide) ⟨I,I,I,I,tO⟩ [] I))))))))))))))
 ·exact zA (zB (wP I (Aa (zE (zA (zS I (zJ (zK (zK (zL (zE (zA (zB (wP I (Aa (zE (zO (wR1 I I I))))))))))))))))))
def Ic (W:World) (c:Nat):Prop:=W.heap[c]? =some (.cells #[.int .i64 0] 128 (0,0))
theorem Ic.hp {W0 W:World} {bxs:List Bx} {c:Nat} (h:Ic W0 c) (hp:Hp W0 bxs W):Ic W c:=
 (hp.below.block c (Array.getElem?_eq_some_iff.1 h).1).trans h
theorem Ic.row {W:World} {c:Nat} (h:Ic W c):Ai W c 0 [.int .i64 0]:=Ai.of_block h
theorem Km (c:Nat) (s:List UInt8) (W:World) (hc:Ic W c):
  Ad Tryz.prog 223 #[Af c,str s, .int .i64 0] W (fun _:Unit=>str s) (fun _=>True) (fun _=>[]):=by
 refine Ab (args:=[Af c,str s, .int .i64 0]) Tryz.func223 I I I (zA (zB (wP I (Aa (zE (zA (zA (zB (wP I (AM I I I I ?_))))))))))
 refine wP I (wL 0 I I (fun W hp=>(hc.hp hp).row) I (wP I (Aa (zE (zR I (zB (wP I (wP I (AM I I I I ?_)))))))))
 refine wP I (Hf (c:=[.int .i64 0]) (ty:=128) tH I I I I I I I I I I (fun W hp=>hc.hp hp) ?_)
 exact Aa (zE (zA (zB (wP I (wP I (Aa (zE (zO (wR1 I I I)))))))))
theorem IU (c:Nat) (p q:Rat) (hz:Sz2 p q) (W:World) (hc:Ic W c) (hv:AE W) (ht:A7 W):
  Ad Tryz.prog 156 #[Af c,str (Ac p),str (Ac q)] W (fun _:Unit=>str (Ac (p*q))) (fun _=>True) (fun _=>[]):=by
 exact Ab (args:=[Af c,str (Ac p),str (Ac q)]) Tryz.func156 I I I (zA (zB (wP I (Aa (zE (zA (zB (wP I (wP I (wP I (wC I I (fun W hp=>Cq p q hz W (hv.hp hp) (ht.hp hp)) (wP I (wP I (wC I I (fun W hp=>Km c (Ac (p*q)) W (hc.hp hp)) (wP I (Aa (zE (zO (wR1 I I I)))))))))))))))))))
theorem Of (c:Nat) (l:List Rat) (p:Option Addr) (cap:Nat) (hn:l.length<=4096) (hk: ∀q∈l,okQ q) (hz: ∀k (hk:k<l.length),Sz2 (HN l k) l[k]) (W:World) (hc:Ic W c) (hS:EA W p (l.map Ac)) (hv:AE W) (ht:A7 W):
  Ad Tryz.prog 155 #[Af c,slv p l.length cap] W (fun _:Unit=>str (Ac (HN l l.length))) (fun _=>True) (fun _=>[]):=by
 exact Ab (args:=[Af c,slv p l.length cap]) Tryz.func155 I I I (zA (zB (wP I (Aa (zE (zA (zB (wP I (wP I (wC I I (fun W hp=>Tc l p cap hn hk hz W (hS.hp hp) (hv.hp hp) (ht.hp hp)) (wP I (wP I (wC I I (fun W hp=>Km c (Ac (HN l l.length)) W (hc.hp hp)) (wP I (Aa (zE (zO (wR1 I I I))))))))))))))))))
theorem MA (c:Nat) (s:List UInt8) (W:World) (hc:Ic W c):
  Ad Tryz.prog 74 #[Af c,str s] W (fun _:Unit=> .tuple #[str s, .int .i64 0]) (fun _=>True) (fun _=>[]):=by
 refine Ab (args:=[Af c,str s]) Tryz.func74 I I I (zA (zB (wP I (wP I (Aa (zE (zA (zA (zB (wP I (AM I I I I ?_)))))))))))
 exact wP I (wL 0 I I (fun W hp=>(hc.hp hp).row) I (wP I (Aa (zE (zS I (zI (zE (zA (zB (wP I (wP I (wP I (Aa (zE (zO (wR2 I I I))))))))))))))))
structure HtZ (a b c x y:Rat):Prop where
 m1:Sz2 a x
 m2:Sz2 b y
 ok: ∀q∈[a*x,b*y,c],okQ q
 s: ∀k (hk:k<[a*x,b*y,c].length),Sz2 (HN [a*x,b*y,c] k) [a*x,b*y,c][k]
theorem Q1 (c:Nat) (a b d x y:Rat) (hz:HtZ a b d x y) (W:World) (hc:Ic W c) (hv:AE W) (ht:A7 W):
  Ad Tryz.prog 75 #[Af c,plV a b d,ptV x y] W (fun _:Unit=>str (Ac (0+a*x+b*y+d))) (fun _=>True) (fun _=>[]):=by
 refine Ab (args:=[Af c,plV a b d,ptV x y]) Tryz.func75 I I I (zA (zB (wF I I fun _=>(wF I I fun _=>(wP I (Aa ?_))))))
 rename_i b4 b5
 refine zE (Av ?_)
 refine AW (X:=Nat) [true,true,true,true,true,true,true,true,true,true,true,true,true,true,true,false,false,false] (fun bS=>[(6,str (Ac (0+a*x+b*y+d)))]) (fun bS=>[⟨b4,52,(plV a b d).cells.toList,true,none⟩,⟨b5,62,(ptV x y).cells.toList,true,none⟩,⟨bS,25,[str (Ac (a*x)),str (Ac (b*y)),str (Ac d)],true,none⟩])
   3 [⟨b4,52,(plV a b d).cells.toList,true,none⟩,⟨b5,62,(ptV x y).cells.toList,true,none⟩] Tryz.mixed (by kernel_rfl) ?_ ?_
 ·refine qP I (qP I (qP I (qB 0 I I I (qP I (qB 1 I I I (qC I I (fun W hp=>IU c a x hz.m1 W (hc.hp hp) (hv.hp hp) (ht.hp hp)) (qP I (qP I (qB 0 I I I (qP I (qB 1 I I I (qC I I (fun W hp=>IU c b y hz.m2 W (hc.hp hp) (hv.hp hp) (ht.hp hp)) (qP I (qB 0 I I I (BU (wX (wZ (Ao Tryz.hZ tH I I I I I I I I I I I fun bS=> ?_))))))))))))))))))
  refine Aa (Ag (wX (wZ (wC I I (fun W hp=>Of c [a*x,b*y,d] (some ⟨bS,0,none⟩) 3 (show 3<=4096 by decide) hz.ok hz.s W (hc.hp hp) (.inr ⟨bS,0,I,Ai.of_bx hp 2 I I⟩) (hv.hp hp) (ht.hp hp)) (Aa (Ag (wX (wZ (wP I (Aa (Ag ?_)))))))))))
  refine AD I (by((repeat (first|refine AJ.same ?_|refine AJ.off I ?_));exact tO)) ?_
  exact A4 bS ⟨I,tO⟩ [0,1,2] (by decide) I
 intro bS
 exact zE (zO (wR1 I I I))
theorem Ob (a b c x y:Rat) (ha:szQ a 36) (hb:szQ b 36) (hc:szQ c 36) (hx:szQ x 36) (hy:szQ y 36) (hz:HtZ a b c x y) (W:World) (hv:AE W) (ht:A7 W):
  Ad Tryz.prog 20 #[plV a b c,ptV x y] W (fun _:Unit=> .tuple #[str (Ac (0+a*x+b*y+c)), .int .i64 0]) (fun _=>True) (fun _=>[]):=by
 refine Ab (args:=[plV a b c,ptV x y]) Tryz.func20 I I I (zA (zB (wF I I fun _=>(wF I I fun _=>(wP I (wP I (Aa ?_)))))))
 rename_i b2 b3
 refine zE (zA (zA (zB (wB 0 I I I (wC I I (fun W hp=>Ql a b c ha hb hc W (hv.hp hp) (ht.hp hp)) (wP I (wP I (wP I (wB 1 I I I (wP I (wB 1 I I I (Ao Tryz.hZ tH I I I I I I I I I I I fun bS=> ?_))))))))))))
 refine wC I I (fun W hp=>PK x y hx hy bS W (Ai.of_bx hp 2 I I) (hv.hp hp) (ht.hp hp)) (wP I (Aa (zE (zS I (zI (zE (zA (zB (wG I I fun _=>(Aa ?_))))))))))
 rename_i b6
 have hcal: ∀W1,Hp W [⟨b2,52,(plV a b c).cells.toList,true,none⟩,⟨b3,62,(ptV x y).cells.toList,true,none⟩,⟨bS,25,[str (Ac x),str (Ac y)],true,none⟩,⟨b6,128,[.int .i64 0],true,none⟩] W1->Ic W1 b6:=fun W1 hp=>(hp.at_ 3 _ rfl rfl).1
 exact zE (zA (zB (wB 0 I I I (wB 1 I I I (wC I I (fun W hp=>Q1 b6 a b c x y hz W (hcal W hp) (hv.hp hp) (ht.hp hp)) (wC I I (fun W hp=>MA b6 (Ac (0+a*x+b*y+c)) W (hcal W hp)) (wP I (wP I (wP I (wP I (Aa (zE (zO (wR2 I I I))))))))))))))
end
section
open Go Go.RowKit Go.Am
set_option maxRecDepth 10000
structure Sd where
 x:Int
 y:Int
 rise:Int
 run:Int
 gable:Bool
 plate:Int
 over:Int
 deriving DecidableEq,Inhabited
abbrev Sd.cells (s:Sd):List Value:=[.int .i64 s.x, .int .i64 s.y, .int .i64 s.rise, .int .i64 s.run, .bool s.gable, .int .i64 s.plate, .int .i64 s.over]
abbrev Sd.val (s:Sd):Value:= .agg #[.int .i64 s.x, .int .i64 s.y, .int .i64 s.rise, .int .i64 s.run, .bool s.gable, .int .i64 s.plate, .int .i64 s.over]
abbrev spot (x y:Int):Value:= .agg #[.int .i64 x, .int .i64 y]
abbrev H9 (s t u:Sd):Value:= .agg #[.int .i64 s.x, .int .i64 s.y, .int .i64 s.rise, .int .i64 s.run, .bool s.gable, .int .i64 s.plate, .int .i64 s.over, .int .i64 t.x, .int .i64 t.y, .int .i64 t.rise, .int .i64 t.run, .bool t.gable, .int .i64 t.plate, .int .i64 t.over, .int .i64 u.x, .int .i64 u.y, .int .i64 u.rise, .int .i64 u.run, .bool u.gable, .int .i64 u.plate, .int .i64 u.over]
theorem B0 (s:Sd):AX Tryz.prog 194 [s.val] (spot s.x s.y):=by
 intro W
 refine Ab Tryz.func194 I I I (zA (zB (wF I I fun _=>(Bo (z:=spot 0 0) I I I (fun W=>by kernel_rfl) fun b3=> ?_))))
 refine zC (zE (zA (zB (wP I (wB 0 I I I (wP I (wB 0 I I I (GN (spot 0 0) tH I I I I I (fun W=>by kernel_rfl) I I ?_))))))))
 exact wS 1 I I I (zC (zE (zO (Ax tH I (.cell 1 I I I I I) () I tO fun W _=>As.nil _ _))))
theorem NJ (x y u v:Int):AX Tryz.prog 195 [spot x y,spot u v] (spot (w64 (u-x)) (w64 (v-y))):=by
 intro W
 refine Ab Tryz.func195 I I I (zA (zB (wF I I fun _=>(wF I I fun _=>(Bo (z:=spot 0 0) I I I (fun W=>by kernel_rfl) fun b3=> ?_)))))
 refine zC (zE (zA (zB (wP I (wB 1 I I I (wP I (wB 0 I I I (wP I (wP I (wB 1 I I I (wP I (wB 0 I I I (wP I (GN (spot 0 0) tH I I I I I (fun W=>by kernel_rfl) I I ?_))))))))))))))
 exact wS 2 I I I (zC (zE (zO (Ax tH I (.cell 2 I I I I I) () I tO fun W _=>As.nil _ _))))
theorem L8 (x y u v:Int):AX Tryz.prog 244 [spot x y,spot u v] (.int .i64 (w64 (w64 (x*v)-w64 (y*u)))):=by
 intro W
 refine Ab Tryz.func244 I I I (zA (zB (wF I I fun _=>(wF I I fun _=>(wP I (zC (zE (zA (zB (wP I (wB 0 I I I (wP I (wB 1 I I I (wP I (wP I (wB 0 I I I (wP I (wB 1 I I I (wP I (wP I (wP I (zC (zE ?_)))))))))))))))))))))))
 exact zO (wR1 I I I)
theorem KJ (s t u:Sd):AX Tryz.prog 196 [H9 s t u] (spot (w64 (u.x-t.x)) (w64 (u.y-t.y))):=by
 intro W
 refine Ab Tryz.func196 I I I (zA (zB (wF I I fun _=>(Bo (z:=spot 0 0) I I I (fun W=>by kernel_rfl) fun b3=> ?_))))
 exact zC (zE (zA (zU (qP I (qB 0 I I I (qC I I (fun W _=>B0 t W) (qP I (qB 0 I I I (qC I I (fun W _=>B0 u W) (qC I I (fun W _=>NJ t.x t.y u.x u.y W) (zD (wS 1 I I I (zC (zE (zO (Ax tH I (.cell 1 I I I I I) () I tO fun W _=>As.nil _ _))))))))))))))))
theorem SV (s t u:Sd):AX Tryz.prog 201 [H9 s t u] (.bool (decide (w64 (w64 (w64 (t.x-s.x)*w64 (u.y-t.y))-w64 (w64 (t.y-s.y)*w64 (u.x-t.x)))>0))):=by
 intro W
 refine Ab Tryz.func201 I I I (zA (zB (wF I I fun _=>(wP I (zC (zE (zA (zU (qP I (qB 0 I I I (qC I I (fun W _=>B0 s W) (qP I (qB 0 I I I (qC I I (fun W _=>B0 t W) (qC I I (fun W _=>NJ s.x s.y t.x t.y W) (qB 0 I I I (qC I I (fun W _=>KJ s t u W) (qC I I (fun W _=>L8 _ _ _ _ W) (qP I (qP I (zD (zC (zE ?_)))))))))))))))))))))))
 exact zO (wR1 I I I)
structure G4 (W:World) (b off:Nat) (l:List Sd):Prop where
 get: ∀(i:Nat) (s:Sd),l[i]? =some s->Ai W b (off+i*7) s.cells
def Cc (W:World) (p:Option Addr) (l:List Sd):Prop:=l=[]\/ ∃b off,p=some ⟨b,off,none⟩/\G4 W b off l
theorem Cc.below {W W':World} {p:Option Addr} {l:List Sd} {n:Nat} (h:Cc W p l) (hn:W.heap.size<=n) (hb:Below n W W'):Cc W' p l:=by
 rcases h with h|⟨b,off,h1,h2⟩
 ·exact .inl h
 ·exact .inr ⟨b,off,h1,⟨fun i s hs=>(h2.get i s hs).below hn hb⟩⟩
theorem Cc.hp {W0 W:World} {bxs:List Bx} {p:Option Addr} {l:List Sd} (h:Cc W0 p l) (hp:Hp W0 bxs W):Cc W p l:=h.below (Nat.le_refl _) hp.below
def sd (l:List Sd) (i:Nat):Sd:=l.getD i default
theorem Hk {l:List Sd} {i:Nat} (h:i<l.length):l[i]? =some (sd l i):=by simp[sd,h]
theorem Cc.row {W:World} {p:Option Addr} {l:List Sd} (h:Cc W p l) {i:Nat} (hi:i<l.length): ∃b off,p=some ⟨b,off,none⟩/\ ∀k,k<l.length->Ai W b (off+k*7) (sd l k).cells:=by
 rcases h with rfl|⟨b,off,h1,h2⟩
 ·simp at hi
 ·exact⟨b,off,h1,fun k hk=>h2.get k _ (Hk hk)⟩
theorem Fb (p:Option Addr) (n cap:Nat) (W:World):Ad Tryz.prog 193 #[slv p n cap] W (fun b:Nat=> .func (.func 243) #[] #[.pointer (some ⟨b,0,none⟩)]) (fun _=>True) (fun b=>[⟨b,94,[slv p n cap],true,none⟩]):=by
 refine Ab (args:=[slv p n cap]) Tryz.func193 I I I (zA (zB ?_))
 refine Mh rfl rfl rfl rfl ?_;intro b
 exact wP I (zC (zE (zA (zB (wP I (wP I (zC (zE (zO (Ax tH I (.tmp I) b I tO fun W hp=>As.of_hp hp))))))))))
def prv (n i:Nat):Nat:=(i+n-1)%n
def nxt (n i:Nat):Nat:=(i+1)%n
abbrev XQ (l:List Sd) (k:Nat):List Value:=[.int .i64 k,H9 (sd l (prv l.length k)) (sd l k) (sd l (nxt l.length k))]
structure Eh (b:Nat) (p:Option Addr) (cap:Nat) (l:List Sd) (W:World):Prop where
 var:Ai W b 0 [slv p l.length cap]
 ring:Cc W p l
theorem FP (b:Nat) (p:Option Addr) (cap:Nat) (l:List Sd) (hn:l.length<4611686018427387904):
  UU Tryz.prog 243 [.pointer (some ⟨b,0,none⟩)] l.length (XQ l) (Eh b p cap l):=by
 refine⟨fun y J Jx hNeed hdr hY W hJ=> ?_⟩
 refine CT (args:=[.func (.yield y) #[] #[], .pointer (some ⟨b,0,none⟩)]) (J0:=J 0) Tryz.func243 I I I hJ ?_
 refine zA (zB (wL 0 I I (fun W hp=>(hNeed 0 W hp).var) I (wP I (wP I (zC (zE (zA (zB (wL 0 I I (fun W hp=>(hNeed 0 W hp).var) I (wP I (wP I (zC (zE (zH (Db (X:=Nat) (fun k=>[(0, .func (.yield y) #[] #[]),(1, .pointer (some ⟨b,0,none⟩)),(3, .int .i64 (l.length:Nat)),(8, .int .i64 (l.length:Nat)),(9, .int .i64 (k:Nat))]) J (fun k=>k<=l.length) (fun k=>l.length-k) 0 (Nat.zero_le _) ⟨I,I,I,I,I,tO⟩ (fun W h=>h) ?_)))))))))))))))
 intro k hk
 refine zA (zB (wP I (zC (zE (zA (Ah I ?_ ?_))))))
 rotate_left
 ·intro h
  refine zJ (zK (zK (zL ?_)))
  have:k=l.length:=by simp at h;omega
  subst this
  exact Fv I fun W h=>h
 intro h
 have hk:k<l.length:=by simp at h;omega
 clear h
 refine zI (zE (zA (zH (zA (zB (wP I (wP I (zC (zE (zA ?_))))))))))
 have hz:(l.length:Int)≠0:=by omega
 have e1:(w64 (w64 ((k:Int)+(l.length:Int))-1)).tmod (l.length:Int)=((prv l.length k:Nat):Int):=by
  rw[Ak (x:=(k:Int)+l.length) (by omega) (by omega),Ak (by omega) (by omega)]
  have:(k:Int)+l.length-1=((k+l.length-1:Nat):Int):=by omega
  rw[this];rfl
 have e2:(w64 ((k:Int)+1)).tmod (l.length:Int)=((nxt l.length k:Nat):Int):=by
  rw[Ak (x:=(k:Int)+1) (by omega) (by omega)]
  rfl
 have l1:prv l.length k<l.length:=Nat.mod_lt _ (by omega)
 have l2:nxt l.length k<l.length:=Nat.mod_lt _ (by omega)
 refine QI 23 (hdr k) Tryz.mixed (by kernel_rfl) I ?_
 refine qP I (qP I (qL 0 I I (fun W hp=>(hNeed k W hp).var) I (qP I (qP I (qP I (qP I (qP I (DB I I I I I hz ?_))))))))
 refine EG 20 _ I (congrArg (Value.int .i64) e1) ?_
 obtain⟨b2,off,rfl,hrow⟩: ∃b2 off,p=some ⟨b2,off,none⟩/\ ∀i,i<l.length-> ∀W,J k W->Ai W b2 (off+i*7) (sd l i).cells:=by
  obtain⟨b2,off,e,_⟩:=(hNeed 0 W hJ).ring.row hk
  refine⟨b2,off,e,fun i hi W hW=> ?_⟩
  obtain⟨b3,off3,e',h⟩:=(hNeed k W hW).ring.row hk
  rw[e] at e'
  cases e'
  exact h i hi
 refine qJ ?_
 refine JO I I I I (fun W hp=>Ai.load 0 tH I ((hrow _ l1) W hp) I) (qL 0 I I (fun W hp=>(hNeed k W hp).var) I (qP I (qJ ?_)))
 refine JO I I I I (fun W hp=>Ai.load 0 tH I ((hrow _ hk) W hp) I) (qL 0 I I (fun W hp=>(hNeed k W hp).var) I (qP I (qP I (qP I (DB I I I I I hz ?_)))))
 refine EG 31 _ I (congrArg (Value.int .i64) e2) (qJ ?_)
 refine JO I I I I (fun W hp=>Ai.load 0 tH I ((hrow _ l2) W hp) I) (SK (H9 default default default) tH I I I I I (fun W=>by kernel_rfl) I I ?_)
 refine zD (Eo (A1:=J (k+1)) (A2:=Jx) I I I I I I (fun W hp=>hY k W hk hp) ?_ ?_)
 ·exact wP I (zC (zE (zS I (zI (zN (zE (zB (wP I (wP I (zC (Da (k+1) hk (by omega) ⟨I,I,I,I,congrArg (fun z=>some (Value.int .i64 z)) (AF (x:=(k:Int)+1) (by omega) (by omega)),tO⟩ (fun W h=>h))))))))))))
 ·exact wP I (zC (zE (zR I (zO (zQ (zP (zP (zQ (Ce I (fun W h=>h))))))))))
abbrev Vj (a b c d:Int):Value:= .agg #[.int .i64 a, .int .i64 b, .int .i64 c, .int .i64 d]
theorem Sa (s t u:Sd):AX Tryz.prog 197 [H9 s t u] (Vj (if u.x<t.x then u.x else t.x) (if u.y<t.y then u.y else t.y) (if u.x>t.x then u.x else t.x) (if u.y>t.y then u.y else t.y)):=by
 intro W
 refine Ab Tryz.func197 I I I (zA (zB (wF I I fun _=>(Bo (z:=Vj 0 0 0 0) I I I (fun W=>by kernel_rfl) fun b2=> ?_))))
 refine Aa (A6 (Av ?_))
 refine NA (X:=Nat×Nat) (fun x=>[(2, .pointer (some ⟨b2,0,none⟩)),(3, .pointer (some ⟨x.1,0,none⟩)),(4, .pointer (some ⟨x.2,0,none⟩))])
  (fun x=>[⟨b2,240,(Vj 0 0 0 0).cells.toList,true,none⟩,⟨x.1,233,(spot t.x t.y).cells.toList,true,none⟩,⟨x.2,233,(spot u.x u.y).cells.toList,true,none⟩]) 4 Tryz.mixed (by kernel_rfl) ?_ ?_
 ·refine qP I (qB 0 I I I (qC I I (fun W _=>B0 t W) (qP I (qB 0 I I I (qC I I (fun W _=>B0 u W) (zG (wX (RS.cons ?_ (RS.cons ?_ RS.nil)))))))))
  ·refine Bo (z:=spot 0 0) I I I (fun W=>by kernel_rfl) fun b3=> ?_
   refine zC (zF (wX (RS.cons ?_ RS.nil)))
   refine Bo (z:=spot 0 0) I I I (fun W=>by kernel_rfl) fun b4=> ?_
   refine zC (zF (wX (RS.cons ?_ RS.nil)))
   refine wS 2 I I I (zC (zF (wX (RS.cons ?_ RS.nil))))
   refine wS 3 I I I (zC (zF ?_))
   refine AD I (by((repeat (first|refine AJ.same ?_|refine AJ.off I ?_));exact tO)) ?_
   exact A4 (b3,b4) ⟨I,I,I,tO⟩ [1,2,3] (by decide) I
  ·refine Bo (z:=spot 0 0) I I I (fun W=>by kernel_rfl) fun b4=> ?_
   refine zC (zF (wX (RS.cons ?_ RS.nil)))
   refine Bo (z:=spot 0 0) I I I (fun W=>by kernel_rfl) fun b3=> ?_
   refine zC (zF (wX (RS.cons ?_ RS.nil)))
   refine wS 3 I I I (zC (zF (wX (RS.cons ?_ RS.nil))))
   refine wS 2 I I I (zC (zF ?_))
   refine AD I (by((repeat (first|refine AJ.same ?_|refine AJ.off I ?_));exact tO)) ?_
   exact A4 (b3,b4) ⟨I,I,I,tO⟩ [1,3,2] (by decide) I
 ·rintro⟨b3,b4⟩
  refine zE (zA (zB (wP I (wB 1 I I I (wP I (wB 2 I I I (wP I (wP I (wB 1 I I I (wP I (wB 2 I I I (wP I (GN (spot 0 0) tH I I I I I (fun W=>by kernel_rfl) I I ?_)))))))))))))
  refine wP I (wB 1 I I I (wP I (wB 2 I I I (wP I (wP I (wB 1 I I I (wP I (wB 2 I I I (wP I (GN (spot 0 0) tH I I I I I (fun W=>by kernel_rfl) I I ?_))))))))))
  refine GN (Vj 0 0 0 0) tH I I I I I (fun W=>by kernel_rfl) I I ?_
  exact wS 0 I I I (zC (zE (zO (Ax tH I (.cell 0 I I I I I) () I tO fun W _=>As.nil _ _))))
theorem QZ (a b c d a' b' c' d':Int):AX Tryz.prog 198 [Vj a b c d,Vj a' b' c' d'] (.bool (decide (a<=c')&&decide (a'<=c)&&decide (b<=d')&&decide (b'<=d))):=by
 intro W
 refine Ab Tryz.func198 I I I (zA (zB (wF I I fun _=>(wF I I fun _=>(wP I (zC (zE (zA (zB (wP I (wP I (wB 0 I I I (wP I (wP I (wB 1 I I I (wP I (wP I (AG 12 I (fun h12=> ?_) (fun h12=> ?_)))))))))))))))))))
 ·refine wP I (wP I (wB 1 I I I (wP I (wP I (wB 0 I I I (wP I (wP I (wP I (AG 21 I (fun h21=> ?_) (fun h21=> ?_))))))))))
  ·refine wP I (wP I (wB 0 I I I (wP I (wP I (wB 1 I I I (wP I (wP I (wP I (AG 30 I (fun h30=> ?_) (fun h30=> ?_))))))))))
   ·exact wP I (wP I (wB 1 I I I (wP I (wP I (wB 0 I I I (wP I (wP I (wP I (zC (zE (zO (wR1 I I (by simp_all<;>(intros;omega))))))))))))))
   ·refine Ae I I ?_
    iterate 6 refine Ae I I ?_
    exact wP I (wP I (zC (zE (zO (wR1 I I (by simp_all<;>(intros;omega)))))))
  ·refine Ae I I ?_
   iterate 6 refine Ae I I ?_
   refine wP I (wP I ?_)
   iterate 7 refine Ae I I ?_
   exact wP I (wP I (zC (zE (zO (wR1 I I (by simp_all<;>(intros;omega)))))))
 ·refine Ae I I ?_
  iterate 6 refine Ae I I ?_
  refine wP I (wP I ?_)
  iterate 7 refine Ae I I ?_
  refine wP I (wP I ?_)
  iterate 7 refine Ae I I ?_
  exact wP I (wP I (zC (zE (zO (wR1 I I (by simp_all<;>(intros;omega)))))))
theorem Eh.mk' {W0 W:World} {bxs:List Bx} {b:Nat} {p:Option Addr} {cap:Nat} {l:List Sd} (h:Cc W0 p l) (hp:Hp W0 bxs W) (k:Nat) (hk:nth bxs k=some ⟨b,94,[slv p l.length cap],true,none⟩):Eh b p cap l W:=
 ⟨Ai.of_bx hp k hk rfl,h.hp hp⟩
def CO (l:List Sd):Nat->Int
 |0=>0
 |k+1=>w64 (CO l k+w64 (w64 ((sd l k).x*(sd l (nxt l.length k)).y)-w64 ((sd l k).y*(sd l (nxt l.length k)).x)))
theorem TP (W:World) (p:Option Addr) (cap:Nat) (l:List Sd) (hn:l.length<4611686018427387904) (hR:Cc W p l):
  Ad Tryz.prog 199 #[slv p l.length cap] W (fun _:Unit=> .int .i64 (CO l l.length)) (fun _=>True) (fun _=>[]):=by
 refine Ab (args:=[slv p l.length cap]) Tryz.func199 I I I (zA (zB (wP I (zC (zE (zA (zB (Bo (z:= .int .i64 0) I I I (fun W=>by kernel_rfl) fun b3=> ?_))))))))
 refine wS 0 I I I (zC (zE (zA (zA (zB (wP I (wD (X:=Nat) I I (fun W _=>Fb p l.length cap W) ?_)))))))
 intro b _
 refine zC (zE (zH (Ew (X:=Nat) (fun k=>[⟨b3,3,[.int .i64 (CO l k)],true,none⟩,⟨b,94,[slv p l.length cap],true,none⟩]) (fun k x=>x=k) (fun _ _=>False) 0 I (by kernel_rfl) (FP b p cap l hn) (fun _=>rfl) I [] I (fun k x W _ hp=>Eh.mk' hR hp 1 I) ?_ ?_ (fun _ _ _ _ _ h=>h.elim))))
 ·intro k x d L rec hk hx hrec
  subst hx
  refine zB (Bo (z:=H9 default default default) I I I (fun W=>by kernel_rfl) fun b5=> ?_)
  refine wS 4 I I I (zC (BJ 3 hrec I ?_))
  exact zH (zU (qB 0 I I I (qP I (qB 4 I I I (qC I I (fun W _=>B0 (sd l x) W) (qP I (qB 4 I I I (qC I I (fun W _=>B0 (sd l (nxt l.length x)) W) (qC I I (fun W _=>L8 _ _ _ _ W) (qP I (zD (wS 0 I I I (zC (zN (Bk 3 (x+1) hrec I I [_] I)))))))))))))))
 ·intro x d L rec hx
  subst hx
  refine zN (zE (zA (zB (wB 0 I I I (wP I (zC (zE (zO (Ci 2 I ?_)))))))))
  exact wR1 I I I
structure XM (W:World) (b off:Nat) (rs:List (List Sd)):Prop where
 get: ∀(i:Nat) (l:List Sd),rs[i]? =some l-> ∃p cap,Ai W b (off+i*1) [slv p l.length cap]/\Cc W p l
def Bd (W:World) (p:Option Addr) (rs:List (List Sd)):Prop:=rs=[]\/ ∃b off,p=some ⟨b,off,none⟩/\XM W b off rs
def rg (rs:List (List Sd)) (i:Nat):List Sd:=rs.getD i []
theorem Bm {rs:List (List Sd)} {i:Nat} (h:i<rs.length):rs[i]? =some (rg rs i):=by simp[rg,h]
theorem Bd.row {W:World} {p:Option Addr} {rs:List (List Sd)} (h:Bd W p rs) {i:Nat} (hi:i<rs.length):
  ∃b off,p=some ⟨b,off,none⟩/\ ∀k,k<rs.length-> ∃q cap,Ai W b (off+k*1) [slv q (rg rs k).length cap]/\Cc W q (rg rs k):=by
 rcases h with rfl|⟨b,off,h1,h2⟩
 ·simp at hi
 ·exact⟨b,off,h1,fun k hk=>h2.get k _ (Bm hk)⟩
theorem Bd.below {W W':World} {p:Option Addr} {rs:List (List Sd)} {n:Nat} (h:Bd W p rs) (hn:W.heap.size<=n) (hb:Below n W W'):Bd W' p rs:=by
 rcases h with h|⟨b,off,h1,h2⟩
 ·exact .inl h
 ·refine .inr ⟨b,off,h1,⟨fun i l hl=> ?_⟩⟩
  obtain⟨q,cap,h3,h4⟩:=h2.get i l hl
  exact⟨q,cap,h3.below hn hb,h4.below hn hb⟩
theorem T3 (W:World) (m:Nat) (hm:m<1099511627776):Ad Tryz.prog 190 #[.slice none 0 0, .int .i64 (m:Nat)] W (fun V:Vec=>V.val 0) (fun V=>V.OK 7 0 []/\(0<m->V.p≠none)) (fun V=>[V.bx 97 []]):=by
 refine Ab (args:=[.slice none 0 0, .int .i64 (m:Nat)]) Tryz.func190 I I I (zA (zB (wP I (Aa (zE (zA (zA (zB (wP I (wP I (Aa (zE (zS I (zI (zE (zA (zA (zB ?_))))))))))))))))))
 iterate 8 refine wP I ?_
 refine Aa (zE (zA (zB (wP I (wP I (Aa (zE ?_)))))))
 have e14:w64 ((m:Int)-w64 (0-0))=m:=by
  have:w64 (0-0)=0:=rfl
  rw[this];exact(Ak (by omega) (by omega)).trans (by omega)
 refine AY 16 _ I (show Value.bool (decide (w64 ((m:Int)-w64 (0-0))>0))= .bool (decide (0<m)) by rw[e14];congr 1;simp) ?_
 refine Ah I (fun h=> ?_) (fun h=> ?_)
 ·have h:0<m:=by simpa using h
  refine zB (wP I (wP I (wP I (B6 0 tH I I I I I I I I (Nat.le_refl _) ?_))))
  refine wP I ?_
  refine HW Tryz.vec94 (ku:= .i64) (by kernel_rfl) m I I I I I I I I e14 h (by simp only[maxLen];omega) (by omega) ?_
  intro V hV hp hj
  refine wP I (wP I ?_)
  obtain⟨p,cap,junk⟩:=V
  cases p with
  |none=>exact absurd rfl hp
  |some g=>
  refine B6 (a:=some ⟨g,0,none⟩) (len:=m) (cap:=cap) 0 tH I I I I I I I I (Nat.zero_le _) ?_
  refine wP I (Aa (zE (zA (zB (wP I (wP I (Aa (zE (zO ?_)))))))))
  obtain⟨h1,h2,h3⟩:=hV.cap (by simp)
  refine Ax tH rfl (.tmp rfl) (⟨some g,cap,BR [.int .i64 0, .int .i64 0, .int .i64 0, .int .i64 0, .bool false, .int .i64 0, .int .i64 0] m++junk⟩:Vec) rfl ⟨⟨rfl,(fun h=>by cases h),fun _=>⟨Nat.zero_le _,h2, ?_⟩⟩,fun _=>by simp⟩ fun W hp=>As.of_hp1 hp 0 rfl
  show 0+(BR _ m++junk).length=cap*7
  rw[List.length_append,Nat.zero_add]
  exact h3
 ·have h:m=0:=by simp at h;omega
  subst h
  exact zI (zE (zA (zB (wP rfl (wP rfl (Aa (zE (zO (Ax tH rfl (.tmp rfl) Vec.empty rfl ⟨Vec.OK.empty 7,fun h=>absurd h (Nat.lt_irrefl _)⟩ fun W hp=>Own.one (fun p hp=>by cases hp) List.nodup_nil)))))))))
def cellsOf (l:List Sd):List Value:=l.flatMap Sd.cells
theorem Mo (l m:List Sd):cellsOf (l++m)=cellsOf l++cellsOf m:=List.flatMap_append
theorem FV: ∀l:List Sd,(cellsOf l).length=l.length*7
 |[]=>rfl
 |s::l=>by
  show(s.cells++cellsOf l).length=_
  rw[List.length_append,FV l,List.length_cons]
  show 7+l.length*7=(l.length+1)*7
  omega
theorem Ip: ∀(l:List Sd) (i:Nat) (s:Sd),l[i]? =some s-> ∀j,j<7->(cellsOf l)[i*7+j]? =s.cells[j]?
 |[],i,s,h,_,_=>by simp at h
 |t::l,0,s,h,j,hj=>by
  obtain rfl:t=s:=by simpa using h
  show(t.cells++cellsOf l)[0*7+j]? =_
  rw[Nat.zero_mul,Nat.zero_add,List.getElem?_append_left (show j<t.cells.length from hj)]
 |t::l,i+1,s,h,j,hj=>by
  show(t.cells++cellsOf l)[(i+1)*7+j]? =_
  rw[List.getElem?_append_right (show t.cells.length<=(i+1)*7+j by show 7<=_;omega)]
  show(cellsOf l)[(i+1)*7+j-7]? =_
  rw[show(i+1)*7+j-7=i*7+j by omega]
  exact Ip l i s (by simpa using h) j hj
theorem Rb: ∀l:List Sd, ∀u∈cellsOf l,u.oneCell'=true:=fun l u hu=>by
 obtain⟨s,_,h⟩:=List.mem_flatMap.1 hu
 simp at h
 rcases h with rfl|rfl|rfl|rfl|rfl|rfl|rfl<;>rfl
theorem G4.of_cells {W:World} {b off:Nat} {l:List Sd} (hlt:b<W.heap.size) (h: ∀j u,(cellsOf l)[j]? =some u->W.cell? ⟨b,off+j,none⟩=some u):G4 W b off l:=by
 refine⟨fun i s hs=>⟨hlt,fun j u hj=> ?_⟩⟩
 have hj':j<7:=(List.getElem?_eq_some_iff.1 hj).1
 have h1:=Ip l i s hs j hj'
 rw[hj] at h1
 rw[Nat.add_assoc]
 exact h _ _ h1
theorem G4.cells {W:World} {b off:Nat} {l:List Sd} (h:G4 W b off l): ∀j u,(cellsOf l)[j]? =some u->W.cell? ⟨b,off+j,none⟩=some u:=by
 intro j u hj
 have hlt:j<l.length*7:=by rw[<-FV];exact(List.getElem?_eq_some_iff.1 hj).1
 have hi:j/7<l.length:=by omega
 have h1:=Ip l (j/7) _ (List.getElem?_eq_getElem hi) (j%7) (Nat.mod_lt _ (by omega))
 have e:j/7*7+j%7=j:=by omega
 rw[e,hj] at h1
 have h2:=(h.get (j/7) _ (List.getElem?_eq_getElem hi)).get (j%7) u h1.symm
 rw[Nat.add_assoc,e] at h2
 exact h2
theorem Vec.ring {V:Vec} {l:List Sd} (hV:V.OK 7 l.length (cellsOf l)): ∃p cap,V.val l.length=slv p l.length cap/\ ∀ {W0 W:World} {bxs:List Bx},Hp W0 bxs W-> ∀k,nth bxs k=some (V.bx 97 (cellsOf l))->Cc W p l:=by
 obtain⟨p,cap,junk⟩:=V
 cases p with
 |none=>
  have h0:=hV.nil rfl
  refine⟨none,0,by rw[h0];rfl,fun _ _ _=> .inl (List.length_eq_zero_iff.1 h0)⟩
 |some g=>
  refine⟨some ⟨g,0,none⟩,cap,I,fun hp k hk=> .inr ⟨g,0,I,G4.of_cells (Ai.of_bx hp k hk I).lt fun j u hj=> ?_⟩⟩
  refine(Ai.of_bx hp k hk I).get j u ?_
  show(cellsOf l++junk)[j]? =some u
  rw[List.getElem?_append_left (List.getElem?_eq_some_iff.1 hj).1]
  exact hj
def tot (rs:List (List Sd)):Nat:=(rs.map List.length).sum
theorem HJ (rs:List (List Sd)):rs.flatten.length=tot rs:=by simp[tot,List.length_flatten]
theorem Pf {rs:List (List Sd)} {k:Nat} (hk:k<rs.length):(rs.take (k+1)).flatten=(rs.take k).flatten++rg rs k:=by
 rw[List.take_add_one,Bm hk];simp
theorem Cz (rs:List (List Sd)) (k:Nat):tot (rs.take k)<=tot rs:=by
 conv=>rhs;rw[<-List.take_append_drop k rs]
 unfold tot
 rw[List.map_append,List.sum_append];omega
theorem Bs {rs:List (List Sd)} {k:Nat} (hk:k<rs.length):tot (rs.take (k+1))=tot (rs.take k)+(rg rs k).length:=by
 rw[<-HJ, <-HJ,Pf hk,List.length_append]
theorem Kt (W:World) (p:Option Addr) (cap:Nat) (rs:List (List Sd)) (hn:rs.length<4611686018427387904) (hT:tot rs<1099511627776) (hR:Bd W p rs) (hne: ∀l∈rs,l≠[]):
  Ad Tryz.prog 125 #[slv p rs.length cap] W (fun V:Vec=>V.val rs.flatten.length) (fun V=>V.OK 7 rs.flatten.length (cellsOf rs.flatten)) (fun V=>[V.bx 97 (cellsOf rs.flatten)]):=by
 refine Ab (args:=[slv p rs.length cap]) Tryz.func125 I I I (zA (zB (wP I (Aa (zE (zA (zB (wP I (Aa (zE (zA (zA (zB (wP I (wP I (wP I (Aa (zE (zH ?_)))))))))))))))))))
 refine Ar (X:=Nat) (fun k=>[(0,slv p rs.length cap),(3, .int .i64 (tot (rs.take k):Nat)),(9,slv p rs.length cap),(10, .int .i64 (rs.length:Nat)),(11, .int .i64 (k:Nat))]) (fun _=>[])
  (fun k=>k<=rs.length) (fun k=>rs.length-k) 0 (Nat.zero_le _) ⟨rfl,rfl,rfl,rfl,rfl,trivial⟩ [] rfl ?_
 intro k hk
 refine zA (zB (wP I (Aa (zE (zA (Ah I (fun h=> ?_) (fun h=> ?_)))))))
 ·have hk:k<rs.length:=by simp at h;omega
  clear h
  obtain⟨b,off,rfl,hrow⟩:=hR.row hk
  obtain⟨q,cap2,hq1,hq2⟩:=hrow k hk
  refine zI (zE (zA (zH (zA (zB (wJ ?_))))))
  refine wL 0 I I (fun W hp=>hq1.hp hp) I (wP I (Aa (zE (zA (zB (wP I (wP I (wP I (wP I (wP I (Aa ?_)))))))))))
  have hs:w64 ((tot (rs.take k):Nat)+((rg rs k).length:Nat))=(tot (rs.take (k+1)):Nat):=by
   have h1:=Bs hk
   have h2:=Cz rs (k+1)
   rw[Ak (by omega) (by omega)];omega
  exact zE (zA (zB (Al 3 _ I (congrArg (Value.int .i64) hs) (wP I (wP I (Aa (zE (zS I (zI (zN (zE (zB (wP I (wP I (Aa (Aj (k+1) hk (by omega) ⟨I,I,I,I,congrArg (fun z=>some (Value.int .i64 z)) (AF (x:=(k:Int)+1) (by omega) (by omega)),tO⟩ [] I))))))))))))))))
 ·have e:k=rs.length:=by simp at h;omega
  subst e
  clear h
  rw[List.take_length]
  refine zJ (zK (zK (zL (zE (zA (zB (wP I (wD (X:=Vec) I I (fun W _=>T3 W (tot rs) hT) ?_))))))))
  rintro V0 ⟨hV0,hV0p⟩
  refine wP I (Aa (zE (zA (zA (zB (wP I (wP I (wP I (Aa (zE (zH ?_)))))))))))
  refine Ar (X:=Nat×Vec) (fun x=>[(6,x.2.val (tot (rs.take x.1))),(25,slv p rs.length cap),(26, .int .i64 (rs.length:Nat)),(27, .int .i64 (x.1:Nat))]) (fun x=>[x.2.bx 97 (cellsOf (rs.take x.1).flatten)])
   (fun x=>x.1<=rs.length/\x.2.OK 7 (tot (rs.take x.1)) (cellsOf (rs.take x.1).flatten)) (fun x=>rs.length-x.1) (0,V0) ⟨Nat.zero_le _,hV0⟩ ⟨rfl,rfl,rfl,rfl,trivial⟩ [] rfl ?_
  rintro⟨k,V⟩ ⟨hk,hV⟩
  refine zA (zB (wP I (Aa (zE (zA (Ah I (fun h=> ?_) (fun h=> ?_)))))))
  ·have hk:k<rs.length:=by simp at h;omega
   clear h
   obtain⟨b,off,rfl,hrow⟩:=hR.row hk
   obtain⟨q,cap2,hq1,hq2⟩:=hrow k hk
   refine zI (zE (zA (zH (zA (zB (wJ ?_))))))
   refine wL 0 I I (fun W hp=>hq1.hp hp) I (wP I (Aa (zE (zB (wP I (wP I ?_))))))
   obtain⟨b2,off2,rfl,hRk⟩: ∃b off,q=some ⟨b,off,none⟩/\G4 W b off (rg rs k):=by
    rcases hq2 with h|h
    ·exact absurd h (hne _ (List.mem_of_getElem? (Bm hk)))
    ·exact h
   have h1:=Bs hk
   have h2:=Cz rs (k+1)
   refine F2 (len:=tot (rs.take k)) 0 Tryz.vec94 I I I I I I I I I hV (FV (rg rs k)) (fun W hp j u hj=> ?_) (Rb _) (by simp only[maxLen];omega) (by omega) ?_
   ·have hR':Cc W (some ⟨b2,off2,none⟩) (rg rs k):=Cc.hp (.inr ⟨b2,off2,rfl,hRk⟩) hp
    rcases hR' with h|⟨b3,off3,e,hR'⟩
    ·exact absurd h (hne _ (List.mem_of_getElem? (Bm hk)))
    ·cases e
     rw[Addr.add_none]
     exact hR'.cells j u hj
   intro V' hV' _
   have e3:cellsOf (rs.take k).flatten++cellsOf (rg rs k)=cellsOf (rs.take (k+1)).flatten:=by rw[Pf hk,Mo]
   rw[e3, <-h1] at hV'
   rw[e3, <-h1]
   exact wP I (Aa (zN (zE (zB (wP I (wP I (Aa (Aj (k+1,V') ⟨hk,hV'⟩ (by show rs.length-(k+1)<rs.length-k;omega) ⟨I,I,I,congrArg (fun z=>some (Value.int .i64 z)) (AF (x:=(k:Int)+1) (by omega) (by omega)),tO⟩ [] I))))))))
  ·have e:k=rs.length:=by simp at h;omega
   subst e
   rw[List.take_length] at hV
   rw[List.take_length]
   refine zJ (zK (zK (zL (zE (zA (zB (wP I (wP I (Aa (zE (zO ?_)))))))))))
   refine Ax tH I (.tmp I) V (by rw[HJ]) (by rw[HJ];exact hV) fun W hp=>As.of_hp1 hp 0 I
def lox (t u:Sd):Int:=if u.x<t.x then u.x else t.x
def loy (t u:Sd):Int:=if u.y<t.y then u.y else t.y
def hix (t u:Sd):Int:=if u.x>t.x then u.x else t.x
def hiy (t u:Sd):Int:=if u.y>t.y then u.y else t.y
def bsd (rs:List (List Sd)) (q:Nat×Nat):Sd:=sd (rg rs q.1) q.2
def esd (rs:List (List Sd)) (q:Nat×Nat):Sd:=sd (rg rs q.1) (nxt (rg rs q.1).length q.2)
def Ct (rs:List (List Sd)) (q:Nat×Nat):List Value:=[.int .i64 (lox (bsd rs q) (esd rs q)), .int .i64 (loy (bsd rs q) (esd rs q)), .int .i64 (hix (bsd rs q) (esd rs q)), .int .i64 (hiy (bsd rs q) (esd rs q))]
def BZ (q:Nat×Nat):List Value:=[.int .i64 (q.1:Nat), .int .i64 (q.2:Nat)]
def Bh (k j:Nat):List (Nat×Nat):=(List.range j).map fun i=>(k,i)
def AB (rs:List (List Sd)):Nat->List (Nat×Nat)
 |0=>[]
 |k+1=>AB rs k++Bh k (rg rs k).length
theorem VC (k j:Nat):Bh k (j+1)=Bh k j++[(k,j)]:=by simp[Bh,List.range_succ]
theorem Mn (k j:Nat):(Bh k j).length=j:=by simp[Bh]
theorem IP (rs:List (List Sd)): ∀k,k<=rs.length->(AB rs k).length=tot (rs.take k)
 |0,_=>rfl
 |k+1,h=>by
  rw[Bs (by omega)]
  show(AB rs k++Bh k _).length=_
  rw[List.length_append,IP rs k (by omega),Mn]
theorem Pe (rs:List (List Sd)): ∀k, ∀q∈AB rs k,q.1<k/\q.2<(rg rs q.1).length
 |0,q,h=>by cases h
 |k+1,q,h=>by
  rcases List.mem_append.1 h with h|h
  ·have:=Pe rs k q h
   exact⟨by omega,this.2⟩
  ·obtain⟨i,hi,rfl⟩:=List.mem_map.1 h
   exact⟨Nat.lt_succ_self k,List.mem_range.1 hi⟩
def nbB (n:Nat) (q q':Nat×Nat):Bool:=(q.1==q'.1)&&(((q.2:Int)-q'.2==1)||((q.2:Int)-q'.2==(n:Int)-1))
def E9 (t u t' u':Sd):Bool:=decide (lox t u<=hix t' u')&&decide (lox t' u'<=hix t u)&&decide (loy t u<=hiy t' u')&&decide (loy t' u'<=hiy t u)
def Di (rs:List (List Sd)) (q q':Nat×Nat):Bool:= !nbB (rg rs q.1).length q q'&&E9 (bsd rs q) (esd rs q) (bsd rs q') (esd rs q')
def pl (rs:List (List Sd)) (i:Nat):Nat×Nat:=(AB rs rs.length).getD i (0,0)
def crs (rs:List (List Sd)):Bool:=(List.range (tot rs)).any fun i=>(List.range i).any fun k=>Di rs (pl rs i) (pl rs k)
theorem Ru {α:Type} (f:α->List Value) (n:Nat) (hf: ∀x,(f x).length=n): ∀(l:List α) (i:Nat) (x:α),l[i]? =some x-> ∀(j:Nat) (u:Value),(f x)[j]? =some u->(l.flatMap f)[i*n+j]? =some u
 |[],i,x,h,_,_,_=>by simp at h
 |y::l,0,x,h,j,u,hu=>by
  obtain rfl:y=x:=by simpa using h
  rw[List.flatMap_cons,Nat.zero_mul,Nat.zero_add,List.getElem?_append_left (List.getElem?_eq_some_iff.1 hu).1]
  exact hu
 |y::l,i+1,x,h,j,u,hu=>by
  rw[List.flatMap_cons,List.getElem?_append_right (by rw[hf];rw[Nat.add_mul];omega),hf]
  rw[show(i+1)*n+j-n=i*n+j by rw[Nat.add_mul];omega]
  exact Ru f n hf l i x (by simpa using h) j u hu
theorem Vec.rowAt {α:Type} {f:α->List Value} {n:Nat} (hf: ∀x,(f x).length=n) {l:List α} {g cap:Nat} {junk:List Value} {e:TypeId} {W0 W:World} {bxs:List Bx} (hp:Hp W0 bxs W) (k:Nat) (hk:nth bxs k=some ((⟨some g,cap,junk⟩:Vec).bx e (l.flatMap f))) {i:Nat} {x:α} (hi:l[i]? =some x):
  Ai W g (0+i*n) (f x):=by
 have h:=Ai.of_bx hp k hk rfl
 refine⟨h.lt,fun j u hu=> ?_⟩
 have h1:=Ru f n hf l i x hi j u hu
 have:=h.get (i*n+j) u (by
  show(l.flatMap f++junk)[i*n+j]? =some u
  rw[List.getElem?_append_left (List.getElem?_eq_some_iff.1 h1).1]
  exact h1)
 rw[Nat.zero_add] at this⊢
 exact this
theorem Vec.val_eq {V:Vec} {size n:Nat} {xs:List Value} (h:V.OK size n xs):V.val n= .slice (V.p.map fun g=>⟨g,0,none⟩) n (match V.p with|none=>0|some _=>V.cap):=by
 obtain⟨p,cap,junk⟩:=V
 cases p with
 |none=>have:=h.nil rfl;subst this;rfl
 |some g=>rfl
theorem HU {n:Nat} {f:Nat->Bool} {k:Nat} (hk:k<n) (h:f k=true):(List.range n).any f=true:=List.any_eq_true.2 ⟨k,List.mem_range.2 hk,h⟩
theorem DI {n:Nat} {f:Nat->Bool} (h: ∀k,k<n->f k=false):(List.range n).any f=false:=Bool.eq_false_iff.2 fun h2=>by
 obtain⟨k,hk,h3⟩:=List.any_eq_true.1 h2
 rw[h k (List.mem_range.1 hk)] at h3;cases h3
theorem No (W:World) (p:Option Addr) (cap:Nat) (rs:List (List Sd)) (hn:rs.length<4611686018427387904) (hT:tot rs<1099511627776) (hl: ∀l∈rs,l.length<4611686018427387904) (hR:Bd W p rs):
  Ad Tryz.prog 131 #[slv p rs.length cap] W (fun _:Unit=> .bool (crs rs)) (fun _=>True) (fun _=>[]):=by
 refine Ab (args:=[slv p rs.length cap]) Tryz.func131 I I I (zA (zB (wP I (Aa (zE (zA (zB (wG I I fun _=>(Aa ?_)))))))))
 rename_i b3
 refine zE (zA (zB (wG I I fun _=>(Aa ?_))))
 rename_i b4
 refine zE (zA (zA (zB (wP I (wP I (wP I (Aa (zE (zH ?_)))))))))
 iterate 2 refine CI ?_
 refine Pw ?_
 refine MN (X:=Nat×Vec×Vec×List Nat) (fun x=>x.2.2.2.map Dm) (fun x=>[(0,slv p rs.length cap),(3, .pointer (some ⟨b3,0,none⟩)),(4, .pointer (some ⟨b4,0,none⟩)),(14,slv p rs.length cap),(15, .int .i64 (rs.length:Nat)),(16, .int .i64 (x.1:Nat))])
  (fun x=>[⟨b3,237,[x.2.1.val (AB rs x.1).length],true,none⟩,⟨b4,238,[x.2.2.1.val (AB rs x.1).length],true,none⟩,x.2.1.bx 240 ((AB rs x.1).flatMap (Ct rs)),x.2.2.1.bx 243 ((AB rs x.1).flatMap BZ),bag x.2.2.2])
  (fun x=>x.1<=rs.length/\x.2.1.OK 4 (AB rs x.1).length ((AB rs x.1).flatMap (Ct rs))/\x.2.2.1.OK 2 (AB rs x.1).length ((AB rs x.1).flatMap BZ)) (fun x=>rs.length-x.1) (0,Vec.empty,Vec.empty,[])
  ⟨Nat.zero_le _,Vec.OK.empty 4,Vec.OK.empty 2⟩ rfl ⟨rfl,rfl,rfl,rfl,rfl,rfl,trivial⟩ [] rfl ?_
 rintro⟨k,V1,V2,ds⟩ ⟨hk0,hV10,hV20⟩
 have hk:k<=rs.length:=hk0
 have hV1:V1.OK 4 (AB rs k).length ((AB rs k).flatMap (Ct rs)):=hV10
 have hV2:V2.OK 2 (AB rs k).length ((AB rs k).flatMap BZ):=hV20
 clear hk0 hV10 hV20
 refine zA (zB (wP I (Aa (zE (zA (Ah I (fun h=> ?_) (fun h=> ?_)))))))
 ·have hk:k<rs.length:=by simp at h;omega
  clear h
  obtain⟨b',off,rfl,hrow⟩:=hR.row hk
  obtain⟨q,cap2,hq1,hq2⟩:=hrow k hk
  have hlk:(rg rs k).length<4611686018427387904:=hl _ (List.mem_of_getElem? (Bm hk))
  refine zI (zE (zA (zH (zA (zB (wP I (wJ ?_)))))))
  refine wL 0 I I (fun W hp=>hq1.hp hp) I (wG I I fun _=> ?_)
  rename_i b5
  refine wS 5 I I I (wP I (Aa (zE (zA (zB (wP I (wD (X:=Nat) I I (fun W _=>Fb q (rg rs k).length cap2 W) ?_)))))))
  intro b _
  refine Aa (zE (zH ?_))
  refine Ew (X:=Vec×Vec×Nat) (fun x=>[⟨b3,237,[x.1.val (AB rs k++Bh k x.2.2).length],true,none⟩,⟨b4,238,[x.2.1.val (AB rs k++Bh k x.2.2).length],true,none⟩,x.1.bx 240 ((AB rs k++Bh k x.2.2).flatMap (Ct rs)),x.2.1.bx 243 ((AB rs k++Bh k x.2.2).flatMap BZ),bag ds,⟨b5,3,[.int .i64 (k:Nat)],true,none⟩,⟨b,94,[slv q (rg rs k).length cap2],true,none⟩])
   (fun j x=>x.2.2=j/\x.1.OK 4 (AB rs k++Bh k x.2.2).length ((AB rs k++Bh k x.2.2).flatMap (Ct rs))/\x.2.1.OK 2 (AB rs k++Bh k x.2.2).length ((AB rs k++Bh k x.2.2).flatMap BZ)) (fun _ _=>False) (V1,V2,0) rfl (by kernel_rfl) (FP b q cap2 (rg rs k) hlk) (fun _=>rfl)
   ⟨rfl,by show V1.OK 4 (AB rs k++Bh k 0).length _;rw[show AB rs k++Bh k 0=AB rs k by simp[Bh]];exact hV1,by show V2.OK 2 (AB rs k++Bh k 0).length _;rw[show AB rs k++Bh k 0=AB rs k by simp[Bh]];exact hV2⟩ []
   (by show _=_++[];rw[show AB rs k++Bh k (V1,V2,0).2.2=AB rs k by simp[Bh]];rfl) (fun j x W _ hp=>Eh.mk' hq2 hp 6 rfl) ?_ ?_ (fun _ _ _ _ _ h=>h.elim)
  ·rintro j' ⟨U1,U2,j⟩ d L rec hj ⟨e1,hU1,hU2⟩ hrec
   obtain rfl:j=j':=e1
   have hU1:U1.OK 4 (AB rs k++Bh k j).length ((AB rs k++Bh k j).flatMap (Ct rs)):=hU1
   have hU2:U2.OK 2 (AB rs k++Bh k j).length ((AB rs k++Bh k j).flatMap BZ):=hU2
   have hlen:(AB rs k++Bh k (j+1)).length<=tot rs:=by
    rw[List.length_append,Mn,IP rs k (by omega)]
    have h1:=Bs hk
    have h2:=Cz rs (k+1)
    omega
   have hlen1:(AB rs k++Bh k (j+1)).length=(AB rs k++Bh k j).length+1:=by
    simp only[List.length_append,Mn];omega
   have es:AB rs k++Bh k (j+1)=(AB rs k++Bh k j)++[(k,j)]:=by rw[VC,List.append_assoc]
   have eb1:(AB rs k++Bh k (j+1)).flatMap (Ct rs)=(AB rs k++Bh k j).flatMap (Ct rs)++Ct rs (k,j):=by rw[es,List.flatMap_append];simp
   have eb2:(AB rs k++Bh k (j+1)).flatMap BZ=(AB rs k++Bh k j).flatMap BZ++BZ (k,j):=by rw[es,List.flatMap_append];simp
   refine zA (zB (wP I (Aa (zE (zB (wG I I fun _=>(wS 9 I I I (Aa ?_))))))))
   rename_i b8
   refine BJ 8 hrec I ?_
   refine Bv ?_
   refine Kd (X:= {x:Vec×Vec//x.1.OK 4 (AB rs k++Bh k (j+1)).length ((AB rs k++Bh k (j+1)).flatMap (Ct rs))/\x.2.OK 2 (AB rs k++Bh k (j+1)).length ((AB rs k++Bh k (j+1)).flatMap BZ)}) (fun _=>[(3, .pointer (some ⟨b3,0,none⟩)),(4, .pointer (some ⟨b4,0,none⟩))])
    (fun x=>[⟨b3,237,[x.1.1.val (AB rs k++Bh k (j+1)).length],true,none⟩,⟨b4,238,[x.1.2.val (AB rs k++Bh k (j+1)).length],true,none⟩,x.1.1.bx 240 ((AB rs k++Bh k (j+1)).flatMap (Ct rs)),x.1.2.bx 243 ((AB rs k++Bh k (j+1)).flatMap BZ),bag ds,⟨b5,3,[.int .i64 (k:Nat)],true,none⟩,⟨b,94,[slv q (rg rs k).length cap2],true,none⟩,BG d,Be L rec .busy none]) 6 [⟨b3,237,[U1.val (AB rs k++Bh k j).length],true,none⟩,⟨b4,238,[U2.val (AB rs k++Bh k j).length],true,none⟩,Ga,Ga,bag ds,⟨b5,3,[.int .i64 (k:Nat)],true,none⟩,⟨b,94,[slv q (rg rs k).length cap2],true,none⟩,BG d,Be L rec .busy none,⟨b8,231,(H9 (sd (rg rs k) (prv (rg rs k).length j)) (sd (rg rs k) j) (sd (rg rs k) (nxt (rg rs k).length j))).cells.toList,true,none⟩] Tryz.mixed (by kernel_rfl) ?_ ?_
   ·refine qB 0 I I I (qB 9 I I I (qC I I (fun W _=>(Sa ..)) (qB 1 I I I (qB 5 I I I (qP I (IN Tryz.hZ tH I I I I I I I I ?_))))))
    refine BU (wX (RS.cons ?_ (RS.cons ?_ (RS.nil))))
    ·(refine Ao Tryz.hZ tH rfl rfl rfl rfl rfl rfl rfl rfl rfl rfl rfl ?_;intro)
     refine Aa (Ag (wX (RS.cons ?_ (RS.cons ?_ (RS.nil)))))
     ·(first|refine AK 2 10 Tryz.vec237 (AB rs k++Bh k (j+1)).length ((AB rs k++Bh k (j+1)).flatMap (Ct rs)) rfl rfl rfl rfl rfl rfl rfl rfl rfl rfl rfl hU1 rfl rfl hlen1.symm (by rw[eb1];rfl) (by simp only[maxLen];omega) (by omega) rfl ?_|refine AK 2 11 Tryz.vec237 (AB rs k++Bh k (j+1)).length ((AB rs k++Bh k (j+1)).flatMap (Ct rs)) rfl rfl rfl rfl rfl rfl rfl rfl rfl rfl rfl hU1 rfl rfl hlen1.symm (by rw[eb1];rfl) (by simp only[maxLen];omega) (by omega) rfl ?_);intro g1 c1 j1 hU1'
      refine Aa (Ag (wX (wZ ?_)))
      (refine Ao Tryz.hZ tH rfl rfl rfl rfl rfl rfl rfl rfl rfl rfl rfl ?_;intro)
      refine Aa (Ag (wX (wZ ?_)))
      (first|refine AK 3 10 Tryz.vec238 (AB rs k++Bh k (j+1)).length ((AB rs k++Bh k (j+1)).flatMap BZ) rfl rfl rfl rfl rfl rfl rfl rfl rfl rfl rfl hU2 rfl rfl hlen1.symm (by rw[eb2];rfl) (by simp only[maxLen];omega) (by omega) rfl ?_|refine AK 3 11 Tryz.vec238 (AB rs k++Bh k (j+1)).length ((AB rs k++Bh k (j+1)).flatMap BZ) rfl rfl rfl rfl rfl rfl rfl rfl rfl rfl rfl hU2 rfl rfl hlen1.symm (by rw[eb2];rfl) (by simp only[maxLen];omega) (by omega) rfl ?_);intro g2 c2 j2 hU2'
      refine Aa (Ag (wX (wZ (wS 0 I I I (Aa (Ag (wY (wZ (wS 1 I I I (Aa (Ag (AT I (by kernel_rfl) ?_))))))))))))
      exact A4 ⟨(⟨some g1,c1,j1⟩,⟨some g2,c2,j2⟩),hU1',hU2'⟩ ⟨I,I,tO⟩ [0,1,2,3,4,5,6,7,8] (by decide) I
     ·(refine Ao Tryz.hZ tH rfl rfl rfl rfl rfl rfl rfl rfl rfl rfl rfl ?_;intro)
      refine Aa (Ag (wX (wZ ?_)))
      (first|refine AK 2 10 Tryz.vec237 (AB rs k++Bh k (j+1)).length ((AB rs k++Bh k (j+1)).flatMap (Ct rs)) rfl rfl rfl rfl rfl rfl rfl rfl rfl rfl rfl hU1 rfl rfl hlen1.symm (by rw[eb1];rfl) (by simp only[maxLen];omega) (by omega) rfl ?_|refine AK 2 11 Tryz.vec237 (AB rs k++Bh k (j+1)).length ((AB rs k++Bh k (j+1)).flatMap (Ct rs)) rfl rfl rfl rfl rfl rfl rfl rfl rfl rfl rfl hU1 rfl rfl hlen1.symm (by rw[eb1];rfl) (by simp only[maxLen];omega) (by omega) rfl ?_);intro g1 c1 j1 hU1'
      refine Aa (Ag (wX (wZ ?_)))
      (first|refine AK 3 10 Tryz.vec238 (AB rs k++Bh k (j+1)).length ((AB rs k++Bh k (j+1)).flatMap BZ) rfl rfl rfl rfl rfl rfl rfl rfl rfl rfl rfl hU2 rfl rfl hlen1.symm (by rw[eb2];rfl) (by simp only[maxLen];omega) (by omega) rfl ?_|refine AK 3 11 Tryz.vec238 (AB rs k++Bh k (j+1)).length ((AB rs k++Bh k (j+1)).flatMap BZ) rfl rfl rfl rfl rfl rfl rfl rfl rfl rfl rfl hU2 rfl rfl hlen1.symm (by rw[eb2];rfl) (by simp only[maxLen];omega) (by omega) rfl ?_);intro g2 c2 j2 hU2'
      refine Aa (Ag (wX (wZ (wS 0 I I I (Aa (Ag (wY (wZ (wS 1 I I I (Aa (Ag (AT I (by kernel_rfl) ?_))))))))))))
      exact A4 ⟨(⟨some g1,c1,j1⟩,⟨some g2,c2,j2⟩),hU1',hU2'⟩ ⟨I,I,tO⟩ [0,1,2,3,4,5,6,7,8] (by decide) I
    ·(refine Ao Tryz.hZ tH rfl rfl rfl rfl rfl rfl rfl rfl rfl rfl rfl ?_;intro)
     refine Aa (Ag (wX (wZ ?_)))
     (refine Ao Tryz.hZ tH rfl rfl rfl rfl rfl rfl rfl rfl rfl rfl rfl ?_;intro)
     refine Aa (Ag (wX (wZ ?_)))
     (first|refine AK 2 10 Tryz.vec237 (AB rs k++Bh k (j+1)).length ((AB rs k++Bh k (j+1)).flatMap (Ct rs)) rfl rfl rfl rfl rfl rfl rfl rfl rfl rfl rfl hU1 rfl rfl hlen1.symm (by rw[eb1];rfl) (by simp only[maxLen];omega) (by omega) rfl ?_|refine AK 2 11 Tryz.vec237 (AB rs k++Bh k (j+1)).length ((AB rs k++Bh k (j+1)).flatMap (Ct rs)) rfl rfl rfl rfl rfl rfl rfl rfl rfl rfl rfl hU1 rfl rfl hlen1.symm (by rw[eb1];rfl) (by simp only[maxLen];omega) (by omega) rfl ?_);intro g1 c1 j1 hU1'
     refine Aa (Ag (wX (wZ ?_)))
     (first|refine AK 3 10 Tryz.vec238 (AB rs k++Bh k (j+1)).length ((AB rs k++Bh k (j+1)).flatMap BZ) rfl rfl rfl rfl rfl rfl rfl rfl rfl rfl rfl hU2 rfl rfl hlen1.symm (by rw[eb2];rfl) (by simp only[maxLen];omega) (by omega) rfl ?_|refine AK 3 11 Tryz.vec238 (AB rs k++Bh k (j+1)).length ((AB rs k++Bh k (j+1)).flatMap BZ) rfl rfl rfl rfl rfl rfl rfl rfl rfl rfl rfl hU2 rfl rfl hlen1.symm (by rw[eb2];rfl) (by simp only[maxLen];omega) (by omega) rfl ?_);intro g2 c2 j2 hU2'
     refine Aa (Ag (wX (wZ (wS 0 I I I (Aa (Ag (wY (wZ (wS 1 I I I (Aa (Ag (AT I (by kernel_rfl) ?_))))))))))))
     exact A4 ⟨(⟨some g1,c1,j1⟩,⟨some g2,c2,j2⟩),hU1',hU2'⟩ ⟨I,I,tO⟩ [0,1,2,3,4,5,6,7,8] (by decide) I
   ·rintro⟨⟨U1',U2'⟩,hU1',hU2'⟩
    exact zN (Bk 8 (U1',U2',j+1) hrec I ⟨I,hU1',hU2'⟩ [] I)
  ·rintro⟨U1,U2,j⟩ d L rec ⟨e1,hU1,hU2⟩
   obtain rfl:j=(rg rs k).length:=e1
   refine zN (zN (zE (zB (wP I (wP I (Aa (Tt 4 7 I I ?_)))))))
   exact Kz (X:=Nat×Vec×Vec×List Nat) (k+1,U1,U2,d::ds) ⟨hk,hU1,hU2⟩ (by show rs.length-(k+1)<rs.length-k;omega) I ⟨I,I,I,I,I,congrArg (fun z=>some (Value.int .i64 z)) (AF (x:=(k:Int)+1) (by omega) (by omega)),tO⟩ [0,1,2,3,4] (by decide) I
 ·have e:k=rs.length:=by simp at h;omega
  subst e
  clear h hk
  have hpl:(AB rs rs.length).length=tot rs:=by rw[IP rs _ (Nat.le_refl _),List.take_length]
  have hget: ∀i,i<tot rs->(AB rs rs.length)[i]? =some (pl rs i):=fun i hi=>by
   rw[<-hpl] at hi
   simp[pl,hi]
  have hmem: ∀i,i<tot rs->(pl rs i).1<rs.length/\(pl rs i).2<(rg rs (pl rs i).1).length:=fun i hi=>Pe rs _ _ (List.mem_of_getElem? (hget i hi))
  rw[hpl] at hV1 hV2
  have hR2:=hR
  have hm62:tot rs<1099511627776:=hT
  refine zJ (zK (zK (zL (zE (zA (zA (zB (wB 0 I I I (Al 37 (.slice (V1.p.map fun g=>⟨g,0,none⟩) (tot rs) (match V1.p with|none=>0|some _=>V1.cap)) I (show V1.val (AB rs rs.length).length=_ by rw[hpl];exact Vec.val_eq hV1) (wP I (wP I (Aa (zE (zH ?_))))))))))))))
  refine Ar (X:=Nat) (fun i=>[(0,slv p rs.length cap),(3, .pointer (some ⟨b3,0,none⟩)),(4, .pointer (some ⟨b4,0,none⟩)),(38, .int .i64 (tot rs:Nat)),(39, .int .i64 (i:Nat))])
   (fun _=>[⟨b3,237,[V1.val (tot rs)],true,none⟩,⟨b4,238,[V2.val (tot rs)],true,none⟩,V1.bx 240 ((AB rs rs.length).flatMap (Ct rs)),V2.bx 243 ((AB rs rs.length).flatMap BZ),bag ds])
   (fun i=>i<=tot rs/\ ∀i',i'<i->((List.range i').any fun k=>Di rs (pl rs i') (pl rs k))=false) (fun i=>tot rs-i) 0 ⟨Nat.zero_le _,fun j hj=>absurd hj (Nat.not_lt_zero _)⟩ ⟨rfl,rfl,rfl,rfl,rfl,trivial⟩ []
   (by show _=_++[];rw[hpl];rfl) ?_
  rintro i ⟨hi,hno⟩
  refine zA (zB (wP I (Aa (zE (zA (Ah I (fun h=> ?_) (fun h=> ?_)))))))
  rotate_left
  ·have e:i=tot rs:=by simp at h;omega
   subst e
   refine zJ (zK (zK (zL (zE (zA (zB (wP I (Aa (zE (zO (HZ 4 ds I ?_)))))))))))
   have hf:crs rs=false:=DI hno
   exact wR1 I I (by rw[hf])
  have hi:i<tot rs:=by simp at h;omega
  clear h
  obtain⟨p1,cap1,junk1⟩:=V1
  obtain⟨p2,cap3,junk2⟩:=V2
  cases p1 with
  |none=>exact absurd (hV1.nil rfl) (Nat.ne_of_gt (Nat.lt_of_le_of_lt (Nat.zero_le i) hi))
  |some g1=>
  cases p2 with
  |none=>exact absurd (hV2.nil rfl) (Nat.ne_of_gt (Nat.lt_of_le_of_lt (Nat.zero_le i) hi))
  |some g2=>
  refine zI (zE (zA (zH (zA (zB (wP I (wP I (Aa (zE (zA (zB (wP I (wP I (Aa (zE (zH ?_))))))))))))))))
  refine Ar (X:=Nat) (fun k=>[(0,slv p rs.length cap),(3, .pointer (some ⟨b3,0,none⟩)),(4, .pointer (some ⟨b4,0,none⟩)),(38, .int .i64 (tot rs:Nat)),(39, .int .i64 (i:Nat)),(9, .int .i64 (i:Nat)),(42, .int .i64 (i:Nat)),(43, .int .i64 (k:Nat))])
   (fun _=>[⟨b3,237,[slv (some ⟨g1,0,none⟩) (tot rs) cap1],true,none⟩,⟨b4,238,[slv (some ⟨g2,0,none⟩) (tot rs) cap3],true,none⟩,(⟨some g1,cap1,junk1⟩:Vec).bx 240 ((AB rs rs.length).flatMap (Ct rs)),(⟨some g2,cap3,junk2⟩:Vec).bx 243 ((AB rs rs.length).flatMap BZ),bag ds])
   (fun k=>k<=i/\ ∀k',k'<k->Di rs (pl rs i) (pl rs k')=false) (fun k=>i-k) 0 ⟨Nat.zero_le _,fun j hj=>absurd hj (Nat.not_lt_zero _)⟩ ⟨rfl,rfl,rfl,rfl,rfl,rfl,rfl,rfl,trivial⟩ [] rfl ?_
  rintro k ⟨hk,hnok⟩
  refine zA (zB (wP I (Aa (zE (zA (Ah I (fun h=> ?_) (fun h=> ?_)))))))
  rotate_left
  ·have e:k=i:=by simp at h;omega
   subst e
   refine zJ (zK (zK (zL (zN (zE (zB (wP I (wP I (Aa (Aj (k+1) ⟨hi,fun i' hi'=> ?_⟩ (by omega) ⟨I,I,I,I,congrArg (fun z=>some (Value.int .i64 z)) (AF (x:=(k:Int)+1) (by omega) (by omega)),tO⟩ [] I))))))))))
   by_cases e:i'=k
   ·subst e;exact DI hnok
   ·exact hno i' (by omega)
  have hk:k<i:=by simp at h;omega
  clear h
  have hkt:k<tot rs:=by omega
  obtain⟨hi1,hi2⟩:=hmem i hi
  obtain⟨hk1,hk2⟩:=hmem k hkt
  obtain⟨b',off,rfl,hrow⟩:=hR.row hi1
  obtain⟨q,cap2,hq1,hq2⟩:=hrow _ hi1
  have hlk:(rg rs (pl rs i).1).length<4611686018427387904:=hl _ (List.mem_of_getElem? (Bm hi1))
  have hlk2:(rg rs (pl rs k).1).length<4611686018427387904:=hl _ (List.mem_of_getElem? (Bm hk1))
  refine zI (zE (zA (zH (zA (zB (wP I (wP I (Aa (zE (zA (zB (wP I (wB 1 I I I (wP I (wJ ?_)))))))))))))))
  refine wP I (wL 0 I I (fun W hp=>Vec.rowAt (f:=BZ) (n:=2) (fun _=>rfl) hp 3 I (hget i hi)) I (wJ ?_))
  refine wL 0 I I (fun W hp=>hq1.hp hp) I (wP I (wP I (Aa (zE (zA (zU (qB 1 I I I (qP I (qJ ?_)))))))))
  refine qP I (qL 1 I I (fun W hp=>Vec.rowAt (f:=BZ) (n:=2) (fun _=>rfl) hp 3 I (hget i hi)) I (qB 1 I I I (qP I (qJ ?_))))
  refine qP I (qL 1 I I (fun W hp=>Vec.rowAt (f:=BZ) (n:=2) (fun _=>rfl) hp 3 I (hget k hkt)) I (qP I (qP I (A8 (Aa ?_)))))
  have egap:w64 (((pl rs i).2:Nat)-((pl rs k).2:Nat))=((pl rs i).2:Int)-(pl rs k).2:=Ak (by omega) (by omega)
  have en1:w64 (((rg rs (pl rs i).1).length:Nat)-1)=((rg rs (pl rs i).1).length:Int)-1:=Ak (by omega) (by omega)
  refine A6 (AY 12 _ I (congrArg (Value.int .i64) egap) ?_)
  refine G1 (X:=Unit) (fun _=>[(0,slv (some ⟨b',off,none⟩) rs.length cap),(3, .pointer (some ⟨b3,0,none⟩)),(4, .pointer (some ⟨b4,0,none⟩)),(38, .int .i64 (tot rs:Nat)),(39, .int .i64 (i:Nat)),(9, .int .i64 (i:Nat)),(10, .int .i64 (k:Nat)),(42, .int .i64 (i:Nat)),(43, .int .i64 (k:Nat)),(13, .bool (nbB (rg rs (pl rs i).1).length (pl rs i) (pl rs k)))])
   (fun _=>[⟨b3,237,[slv (some ⟨g1,0,none⟩) (tot rs) cap1],true,none⟩,⟨b4,238,[slv (some ⟨g2,0,none⟩) (tot rs) cap3],true,none⟩,(⟨some g1,cap1,junk1⟩:Vec).bx 240 ((AB rs rs.length).flatMap (Ct rs)),(⟨some g2,cap3,junk2⟩:Vec).bx 243 ((AB rs rs.length).flatMap BZ),bag ds]) (fun _=>True) ?_ ?_
  ·refine zU (qB 1 I I I (qP I (qJ ?_)))
   refine qP I (qL 0 I I (fun W hp=>Vec.rowAt (f:=BZ) (n:=2) (fun _=>rfl) hp 3 I (hget i hi)) I (qB 1 I I I (qP I (qJ ?_))))
   refine qP I (qL 0 I I (fun W hp=>Vec.rowAt (f:=BZ) (n:=2) (fun _=>rfl) hp 3 I (hget k hkt)) I (qP I (qP I ?_)))
   have e1:((((pl rs i).1:Nat):Int)==(((pl rs k).1:Nat):Int))=((pl rs i).1==(pl rs k).1):=by
    by_cases h:(pl rs i).1=(pl rs k).1
    ·rw[h,beq_self_eq_true,beq_self_eq_true]
    ·have h1:(((pl rs i).1:Nat):Int)≠(pl rs k).1:=by omega
     rw[beq_eq_false_iff_ne.2 h1,beq_eq_false_iff_ne.2 h]
   refine Hz 77 I (fun h77=> ?_) (fun h77=> ?_)
   ·have h77':((pl rs i).1==(pl rs k).1)=true:=e1.symm.trans h77
    refine qP I (qP I (qP I (Hz 80 I (fun h80=> ?_) (fun h80=> ?_))))
    ·have e:nbB (rg rs (pl rs i).1).length (pl rs i) (pl rs k)=true:=by
      have h80':(((pl rs i).2:Int)-(pl rs k).2==1)=true:=h80
      unfold nbB;rw[h77',h80'];rfl
     iterate 4 refine Cg I I ?_
     exact qP I (qP I (qP I (A8 (Aa (An () tO ⟨I,I,I,I,I,I,I,I,I,by rw[e];rfl,tO⟩ [] I)))))
    ·have e:nbB (rg rs (pl rs i).1).length (pl rs i) (pl rs k)=(((pl rs i).2:Int)-(pl rs k).2==w64 (((rg rs (pl rs i).1).length:Nat)-1)):=by
      have h80':(((pl rs i).2:Int)-(pl rs k).2==1)=false:=h80
      unfold nbB;rw[h77',h80',en1];rfl
     exact qP I (qP I (qP I (qP I (qP I (qP I (qP I (A8 (Aa (An () tO ⟨I,I,I,I,I,I,I,I,I,by rw[e];rfl,tO⟩ [] I)))))))))
   ·have h77':((pl rs i).1==(pl rs k).1)=false:=e1.symm.trans h77
    have e:nbB (rg rs (pl rs i).1).length (pl rs i) (pl rs k)=false:=by unfold nbB;rw[h77'];rfl
    iterate 8 refine Cg I I ?_
    exact qP I (qP I (A8 (Aa (An () tO ⟨I,I,I,I,I,I,I,I,I,by rw[e];rfl,tO⟩ [] I))))
  intro _ _
  have next:Di rs (pl rs i) (pl rs k)=false-> ∀k',k'<k+1->Di rs (pl rs i) (pl rs k')=false:=fun h k' hk'=>by
   by_cases e:k'=k
   ·subst e;exact h
   ·exact hnok k' (by omega)
  refine zA (zU (qP I (qP I (qP I (Hz 89 I (fun h89=> ?_) (fun h89=> ?_))))))
  ·have hnb:nbB (rg rs (pl rs i).1).length (pl rs i) (pl rs k)=false:=by simpa using h89
   refine qB 0 I I I (qP I (qJ ?_))
   refine qL 0 I I (fun W hp=>Vec.rowAt (f:=Ct rs) (n:=4) (fun _=>rfl) hp 2 I (hget i hi)) I (qB 0 I I I (qP I (qJ ?_)))
   refine qL 0 I I (fun W hp=>Vec.rowAt (f:=Ct rs) (n:=4) (fun _=>rfl) hp 2 I (hget k hkt)) I (qC I I (fun W _=>(QZ ..)) (qP I (A8 (Aa (zE (Ah I (fun h=> ?_) (fun h=> ?_)))))))
   ·refine zA (zB (wP I (Aa (zE (zO (zQ (zP (zP (zQ (zQ (zP (zP (zQ (zP (HZ 4 ds I ?_)))))))))))))))
    have hf:crs rs=true:=HU hi (HU hk (by unfold Di;rw[hnb];exact h))
    exact wR1 I I (by rw[hf])
   ·exact zI (zN (zE (zB (wP I (wP I (Aa (Aj (k+1) ⟨hk,next (by unfold Di;rw[hnb];exact h)⟩ (by omega) ⟨I,I,I,I,I,I,I,congrArg (fun z=>some (Value.int .i64 z)) (AF (x:=(k:Int)+1) (by omega) (by omega)),tO⟩ [] I)))))))
  ·have hnb:nbB (rg rs (pl rs i).1).length (pl rs i) (pl rs k)=true:=by simpa using h89
   iterate 9 refine Cg I I ?_
   exact qP I (A8 (Aa (zE (zS I (zI (zN (zE (zB (wP I (wP I (Aa (Aj (k+1) ⟨hk,next (by unfold Di;rw[hnb];rfl)⟩ (by omega) ⟨I,I,I,I,I,I,I,congrArg (fun z=>some (Value.int .i64 z)) (AF (x:=(k:Int)+1) (by omega) (by omega)),tO⟩ [] I))))))))))))
def Tf (s t u:Sd):Bool:=
 !((w64 (u.x-t.x)==0)==(w64 (u.y-t.y)==0))&& !((w64 (t.x-s.x)==0)==(w64 (u.x-t.x)==0))
def Hv (l:List Sd) (k:Nat):Bool:=Tf (sd l (prv l.length k)) (sd l k) (sd l (nxt l.length k))
def shp (l:List Sd):Bool:=decide (4<=l.length)&&(List.range l.length).all (Hv l)
theorem UT {l:List Sd} {k:Nat} (hk:k<l.length) (h:Hv l k=false):shp l=false:=by
 unfold shp
 have:(List.range l.length).all (Hv l)=false:=by
  apply Bool.eq_false_iff.2
  intro h2
  have:=List.all_eq_true.1 h2 k (List.mem_range.2 hk)
  rw[h] at this;cases this
 rw[this,Bool.and_false]
theorem Qb (W:World) (p:Option Addr) (cap:Nat) (l:List Sd) (hn:l.length<4611686018427387904) (hR:Cc W p l):
  Ad Tryz.prog 130 #[slv p l.length cap] W (fun _:Unit=> .bool (shp l)) (fun _=>True) (fun _=>[]):=by
 refine Ab (args:=[slv p l.length cap]) Tryz.func130 I I I (zA (zB (Bo (z:= .bool false) I I I (fun W=>by kernel_rfl) fun b2=> ?_)))
 refine Aa (A6 (G1 (X:=Unit) (fun _=>[(0,slv p l.length cap),(2, .pointer (some ⟨b2,0,none⟩))]) (fun _=>[⟨b2,4,[.bool false],true,none⟩]) (fun _=>4<=l.length) ?_ ?_))
 ·(refine Av ?_;refine DZ ?_)
  refine wP I (wP I (wP I (Aa (A6 (Ah I (fun h=> ?_) (fun h=> ?_))))))
  ·refine zA (zB (wS 0 I I I (zC (zE (zO (zP ?_))))))
   have hs:shp l=false:=by simp at h;simp[shp];omega
   exact Ax tH I (.cell 0 I I I I I) () (by rw[hs]) tO fun W _=>As.nil _ _
  ·exact zI (An () (by simp at h;omega) ⟨I,I,tO⟩ [] I)
 intro _ h4
 refine zA (zA (zB (wP I (wD (X:=Nat) I I (fun W _=>Fb p l.length cap W) ?_))))
 intro b _
 refine zC (zE (zH (Ew (X:=Bool×Nat) (fun x=>[⟨b2,4,[.bool x.1],true,none⟩,⟨b,94,[slv p l.length cap],true,none⟩]) (fun k x=>x.1=false/\x.2=k/\ ∀i,i<k->Hv l i=true) (fun c x=>c= .ret/\x.1=false/\ ∃k,k<l.length/\Hv l k=false) (false,0) I (by kernel_rfl) (FP b p cap l hn) (fun _=>rfl) ⟨I,I,fun i hi=>by omega⟩ [] I (fun k x W _ hp=>Eh.mk' hR hp 1 I) ?_ ?_ ?_)))
 ·rintro k ⟨_,_⟩ d L rec hk ⟨rfl,rfl,hok⟩ hrec
  rename_i k
  refine zB (Bo (z:=H9 default default default) I I I (fun W=>by kernel_rfl) fun b4=> ?_)
  refine wS 4 I I I (zC (BJ 3 hrec I ?_))
  refine Bv (Av ?_)
  refine NA (X:=Nat×Nat) (fun x=>[(2, .pointer (some ⟨b2,0,none⟩)),(5, .pointer (some ⟨x.1,0,none⟩)),(6, .pointer (some ⟨x.2,0,none⟩))])
   (fun x=>[⟨b2,4,[.bool false],true,none⟩,⟨b,94,[slv p l.length cap],true,none⟩,BG d,Be L rec .busy none,⟨b4,231,(H9 (sd l (prv l.length k)) (sd l k) (sd l (nxt l.length k))).cells.toList,true,none⟩,
    ⟨x.1,233,(spot (w64 ((sd l k).x-(sd l (prv l.length k)).x)) (w64 ((sd l k).y-(sd l (prv l.length k)).y))).cells.toList,true,none⟩,
    ⟨x.2,233,(spot (w64 ((sd l (nxt l.length k)).x-(sd l k).x)) (w64 ((sd l (nxt l.length k)).y-(sd l k).y))).cells.toList,true,none⟩]) 4 Tryz.mixed (by kernel_rfl) ?_ ?_
  ·refine qP I (qB 4 I I I (qC I I (fun W _=>B0 (sd l (prv l.length k)) W) (qP I (qB 4 I I I (qC I I (fun W _=>B0 (sd l k) W) (qC I I (fun W _=>NJ _ _ _ _ W) (qB 4 I I I (qC I I (fun W _=>KJ (sd l (prv l.length k)) (sd l k) (sd l (nxt l.length k)) W) (zG (wX (RS.cons ?_ (RS.cons ?_ RS.nil))))))))))))
   ·refine Bo (z:=spot 0 0) I I I (fun W=>by kernel_rfl) fun bA=> ?_
    refine zC (zF (wX (RS.cons ?_ RS.nil)))
    refine Bo (z:=spot 0 0) I I I (fun W=>by kernel_rfl) fun bB=> ?_
    refine zC (zF (wX (RS.cons ?_ RS.nil)))
    refine wS 5 I I I (zC (zF (wX (RS.cons ?_ RS.nil))))
    refine wS 6 I I I (zC (zF ?_))
    refine AD I (by((repeat (first|refine AJ.same ?_|refine AJ.off I ?_));exact tO)) ?_
    exact A4 (bA,bB) ⟨I,I,I,tO⟩ [0,1,2,3,4,5,6] (by decide) I
   ·refine Bo (z:=spot 0 0) I I I (fun W=>by kernel_rfl) fun bB=> ?_
    refine zC (zF (wX (RS.cons ?_ RS.nil)))
    refine Bo (z:=spot 0 0) I I I (fun W=>by kernel_rfl) fun bA=> ?_
    refine zC (zF (wX (RS.cons ?_ RS.nil)))
    refine wS 6 I I I (zC (zF (wX (RS.cons ?_ RS.nil))))
    refine wS 5 I I I (zC (zF ?_))
    refine AD I (by((repeat (first|refine AJ.same ?_|refine AJ.off I ?_));exact tO)) ?_
    exact A4 (bA,bB) ⟨I,I,I,tO⟩ [0,1,2,3,4,6,5] (by decide) I
  rintro⟨bA,bB⟩
  refine zE (zA (zB (wP I (wB 6 I I I (wP I (wP I (wB 6 I I I (wP I (Fi Tryz.underlying4 I I I I I I ?_)))))))))
  refine wP I (AG 30 I (fun h30=> ?_) (fun h30=> ?_))
  ·refine Ae I I ?_
   iterate 6 refine Ae I I ?_
   refine wP I (zC (zE (zR I (zA (zB (wS 0 I I I (zC (zE (zO (zQ (D2 3 (false,k) hrec I ⟨I,I,k,hk, ?_⟩ [_,_,_] I)))))))))))
   simp[Hv,Tf] at h30⊢
   simp[h30]
  ·refine wP I (wB 5 I I I (wP I (wP I (wB 6 I I I (wP I (Fi Tryz.underlying4 I I I I I I ?_))))))
   refine wP I (Aa (A6 (Ah I (fun h=> ?_) (fun h=> ?_))))
   ·refine zA (zB (wS 0 I I I (zC (zE (zO (zQ (D2 3 (false,k) hrec I ⟨I,I,k,hk, ?_⟩ [_,_,_] I)))))))
    simp[Hv,Tf] at h⊢
    intro _
    exact h
   ·refine zI (zN (Bk 3 (false,k+1) hrec I ⟨I,I,fun i hi=> ?_⟩ [_,_,_] I))
    by_cases e:i=k
    ·subst e
     show Tf _ _ _=true
     unfold Tf
     rw[Bool.and_eq_true,Bool.not_eq_true',Bool.not_eq_true']
     exact⟨h30,h⟩
    ·exact hok i (by show i<k;have:i<k+1:=hi;omega)
 ·rintro⟨_,_⟩ d L rec ⟨rfl,rfl,hok⟩
  refine zN (zE (zA (zB (wS 0 I I I (zC (zE (zO (Ci 2 I ?_))))))))
  have hs:shp l=true:=by simp only[shp,Bool.and_eq_true,decide_eq_true_eq,List.all_eq_true];exact⟨h4,fun i hi=>hok i (List.mem_range.1 hi)⟩
  exact Ax tH I (.cell 0 I I I I I) () (by rw[hs]) tO fun W _=>As.nil _ _
 ·rintro⟨_,_⟩ d L rec c ⟨rfl,rfl,k,hk,hf⟩
  refine zO (zQ (zP (Ci 2 I ?_)))
  have hs:=UT hk hf
  exact Ax tH I (.cell 0 I I I I I) () (by rw[hs]) tO fun W _=>As.nil _ _
def btw (n a b:Int):Bool:=decide (a<=n)&&decide (n<=b)
theorem G3 (n a b:Int):AX Tryz.prog 191 [.int .i64 n, .int .i64 a, .int .i64 b] (.bool (btw n a b)):=by
 intro W
 refine Ab Tryz.func191 I I I (zA (zB (wP I (zC (zE (zA (zB (wP I (wP I (wP I (wP I (AG 10 I (fun h10=> ?_) (fun h10=> ?_)))))))))))))
 ·exact wP I (wP I (wP I (wP I (wP I (zC (zE (zO (wR1 I I (by simp_all [btw])))))))))
 ·refine Ae I I ?_
  iterate 2 refine Ae I I ?_
  exact wP I (wP I (zC (zE (zO (wR1 I I (by simp_all [btw]<;>intros<;>omega))))))
def rgd (s:Sd):Bool:=(if s.gable then s.rise==0&&s.run==0 else btw s.rise 1 48&&btw s.run 1 48)&&(btw s.x 0 65536&&btw s.y 0 65536&&btw s.plate 0 65536&&btw s.over 0 65536)
def num (s:Sd):Nat->Int
 |0=>s.x
 |1=>s.y
 |2=>s.plate
 |_=>s.over
theorem PN (s:Sd):AX Tryz.prog 127 [s.val] (.bool (rgd s)):=by
 intro W
 refine Ab Tryz.func127 I I I ?_
 (refine Av ?_;refine DZ ?_)
 refine wF I I fun _=>(wP I (Aa (A6 ?_)))
 rename_i b1
 refine G1 (X:=Unit) (fun _=>[(1, .pointer (some ⟨b1,0,none⟩))]) (fun _=>[⟨b1,97,s.cells,true,none⟩]) (fun _=>(if s.gable then s.rise==0&&s.run==0 else btw s.rise 1 48&&btw s.run 1 48)=true) ?_ ?_
 ·(refine Av ?_;refine DZ ?_)
  refine wP I (wB 0 I I I (Aa (A6 (Ah I (fun hg=> ?_) (fun hg=> ?_)))))
  ·(refine Av ?_;refine DZ ?_)
   refine wP I (wB 0 I I I (wP I (wP I (AG 10 I (fun h10=> ?_) (fun h10=> ?_)))))
   ·refine Ae I I ?_
    iterate 2 refine Ae I I ?_
    exact wP I (zC (zE (zR I (zA (zB (wP I (zC (zE (zO (zP (wR1 I I (by simp_all [rgd]))))))))))))
   ·refine wP I (wB 0 I I I (wP I (wP I (Aa (A6 (Ah I (fun h14=> ?_) (fun h14=> ?_)))))))
    ·exact zA (zB (wP I (zC (zE (zO (zP (wR1 I I (by simp_all [rgd]))))))))
    ·exact zI (An () (by simp_all) ⟨I,tO⟩ [] I)
  ·(refine Av ?_;refine DZ ?_)
   refine wP I (wB 0 I I I (wC I I (fun W _=>G3 _ _ _ W) (wP I (wP I (AG 19 I (fun h19=> ?_) (fun h19=> ?_))))))
   ·refine Ae I I ?_
    iterate 3 refine Ae I I ?_
    exact wP I (zC (zE (zR I (zA (zB (wP I (zC (zE (zO (zP (wR1 I I (by simp_all [rgd]))))))))))))
   ·refine wP I (wB 0 I I I (wC I I (fun W _=>G3 _ _ _ W) (wP I (wP I (Aa (A6 (Ah I (fun h14=> ?_) (fun h14=> ?_))))))))
    ·exact zA (zB (wP I (zC (zE (zO (zP (wR1 I I (by simp_all [rgd]))))))))
    ·exact zI (An () (by simp_all) ⟨I,tO⟩ [] I)
 ·intro _ hg
  refine zA (zA (zB (wP I (wB 0 I I I (wP I (wB 0 I I I (wP I (wB 0 I I I (wP I (wB 0 I I I (Iy (.int .i64 0) tH I I I I I (fun W=>by kernel_rfl) I I (by rfl) (by rfl) I fun b33=> ?_)))))))))))
  refine wP I (wP I (zC (zE (zH ?_))))
  refine Ar (X:=Nat) (fun k=>[(33, .slice (some ⟨b33,0,none⟩) 4 4),(34, .int .i64 4),(35, .int .i64 (k:Nat))]) (fun _=>[⟨b1,97,s.cells,true,none⟩,⟨b33,3,[.int .i64 s.x, .int .i64 s.y, .int .i64 s.plate, .int .i64 s.over],true,none⟩])
   (fun k=>k<=4/\ ∀i,i<k->btw (num s i) 0 65536=true) (fun k=>4-k) 0 ⟨by omega,fun i hi=>by omega⟩ ⟨rfl,rfl,rfl,trivial⟩ [] rfl ?_
  rintro k ⟨hk,hin⟩
  (refine Av ?_;refine DZ ?_)
  refine wP I (Aa (A6 (G1 (X:=Unit) (fun _=>[(33, .slice (some ⟨b33,0,none⟩) 4 4),(34, .int .i64 4),(35, .int .i64 (k:Nat))]) (fun _=>[⟨b1,97,s.cells,true,none⟩,⟨b33,3,[.int .i64 s.x, .int .i64 s.y, .int .i64 s.plate, .int .i64 s.over],true,none⟩]) (fun _=>k<4) ?_ ?_)))
  ·skip
   refine Ah I (fun h=> ?_) (fun h=> ?_)
   ·exact zI (An () (by simp at h;omega) ⟨I,I,I,tO⟩ [] I)
   ·refine zJ (zK (zK (zL (zE (zA (zB (wP I (zC (zE (zO ?_))))))))))
    have:k=4:=by simp at h;omega
    subst this
    exact wR1 I I (by have h0:=hin 0 (by omega);have h1:=hin 1 (by omega);have h2:=hin 2 (by omega);have h3:=hin 3 (by omega);simp only[num] at h0 h1 h2 h3;simp[rgd,h0,h1,h2,h3,hg])
  ·intro _ hk
   refine zA (zH (zA (zB (wJ ?_))))
   refine Qw (v:= .int .i64 (num s k)) I I I I (fun W hp=>LU (k:=1) tH I I I (by
    match k,hk with
    |0,_=>rfl
    |1,_=>rfl
    |2,_=>rfl
    |3,_=>rfl) W hp) ?_
   refine wP I (zC (zE (zA (zB (wP I (wC I I (fun W _=>G3 _ _ _ W) (wP I (Aa (A6 (Ah I (fun h=> ?_) (fun h=> ?_)))))))))))
   ·refine zA (zB (wP I (zC (zE (zO (zQ (zP (zP (zQ (zP ?_))))))))))
    have h:btw (num s k) 0 65536=false:=by simpa using h
    have hr:rgd s=false:=by
     match k,hk with
     |0,_=>simp only[num] at h;simp[rgd,h]
     |1,_=>simp only[num] at h;simp[rgd,h]
     |2,_=>simp only[num] at h;simp[rgd,h]
     |3,_=>simp only[num] at h;simp[rgd,h]
    exact wR1 I I (by rw[hr])
   ·refine zI (zN (zE (zB (wP I (wP I (zC (Aj (k+1) ⟨hk,fun i hi=> ?_⟩ (by omega) ⟨I,I,congrArg (fun z=>some (Value.int .i64 z)) (AF (x:=(k:Int)+1) (by omega) (by omega)),tO⟩ [] I)))))))
    by_cases e:i=k
    ·subst e;simpa using h
    ·exact hin i (by omega)
def JY {α:Type} (f:α->Bool):List α->Nat->Int
 |[],_=> -1
 |x::l,k=>if f x=true then(k:Int) else JY f l (k+1)
theorem Nt {α:Type} (f:α->Bool): ∀(l:List α) (k:Nat),decide (JY f l k≥0)=l.any f
 |[],k=>by simp[JY]
 |x::l,k=>by
  unfold JY
  by_cases h:f x=true
  ·rw[if_pos h,List.any_cons,h,Bool.true_or,decide_eq_true_iff];omega
  ·rw[if_neg h,Nt f l (k+1),List.any_cons]
   simp[h]
theorem Om (g:Nat) (hE:AO Tryz.prog g=true) (f:Sd->Bool) (hf: ∀s,AX Tryz.prog g [s.val] (.bool (f s))) (W:World) (p:Option Addr) (cap:Nat) (l:List Sd) (hn:l.length<4611686018427387904) (hR:Cc W p l):
  Ad Tryz.prog 189 #[slv p l.length cap, .func (.func g) #[] #[]] W (fun _:Unit=> .int .i64 (JY f l 0)) (fun _=>True) (fun _=>[]):=by
 refine Ab (args:=[slv p l.length cap, .func (.func g) #[] #[]]) Tryz.func189 I I I (zA (zB (wP I (Aa (zE (zA (zA (zB (wP I (wP I (wP I (Aa (zE (zH ?_))))))))))))))
 refine Ar (X:=Nat) (fun k=>[(0,slv p l.length cap),(1, .func (.func g) #[] #[]),(7, .int .i64 (l.length:Nat)),(8, .int .i64 (k:Nat))]) (fun _=>[])
  (fun k=>k<=l.length/\JY f l 0=JY f (l.drop k) k) (fun k=>l.length-k) 0 ⟨Nat.zero_le _,rfl⟩ ⟨rfl,rfl,rfl,rfl,trivial⟩ [] rfl ?_
 rintro k ⟨hk,hi⟩
 refine zA (zB (wP I (Aa (zE (zA (Ah I (fun h=> ?_) (fun h=> ?_)))))))
 rotate_left
 ·refine zJ (zK (zK (zL (zE (zA (zB (wP I (Aa (zE (zO ?_))))))))))
  have e:k=l.length:=by simp at h;omega
  rw[e,List.drop_length] at hi
  exact wR1 I I (by rw[hi];rfl)
 ·have hk:k<l.length:=by simp at h;omega
  clear h
  obtain⟨b,off,rfl,hrow⟩:=hR.row hk
  refine zI (zE (zA (zH (zA (zB (wP I (wP I (Aa (zE (zA (zB (wP I (wP I (wP I (wJ ?_)))))))))))))))
  refine wL 0 I I (fun W hp=>(hrow k hk).hp hp) I (Bp (g:=g) (v:= .bool (f (sd l k))) I I I I I I hE (fun W _=>hf (sd l k) W) ?_)
  have hd:l.drop k=sd l k::l.drop (k+1):=by
   rw[List.drop_eq_getElem_cons hk];simp[sd,hk]
  have hstep:JY f (l.drop k) k=if f (sd l k)=true then(k:Int) else JY f (l.drop (k+1)) (k+1):=by rw[hd];rfl
  rw[hstep] at hi
  refine zC (zE (Ah I (fun h=> ?_) (fun h=> ?_)))
  ·refine zA (zB (wP I (wP I (Aa (zE (zO (zQ (zP (zP (zQ (zP ?_)))))))))))
   rw[if_pos h] at hi
   exact wR1 I I (by rw[hi])
  ·refine zI (zN (zE (zB (wP I (wP I (Aa ?_))))))
   rw[if_neg (by rw[h];decide)] at hi
   exact Aj (k+1) ⟨hk,hi⟩ (by omega) ⟨I,I,I,congrArg (fun z=>some (Value.int .i64 z)) (AF (x:=(k:Int)+1) (by omega) (by omega)),tO⟩ [] I
theorem KT (g:Nat) (hE:AO Tryz.prog g=true) (f:Sd->Bool) (hf: ∀s,AX Tryz.prog g [s.val] (.bool (f s))) (W:World) (p:Option Addr) (cap:Nat) (l:List Sd) (hn:l.length<4611686018427387904) (hR:Cc W p l):
  Ad Tryz.prog 124 #[slv p l.length cap, .func (.func g) #[] #[]] W (fun _:Unit=> .bool (l.any f)) (fun _=>True) (fun _=>[]):=by
 exact Ab (args:=[slv p l.length cap, .func (.func g) #[] #[]]) Tryz.func124 I I I (zA (zB (wP I (zC (zE (zA (zB (wP I (wP I (wC I I (fun W hp=>Om g hE f hf W p cap l hn (hR.hp hp)) (wP I (wP I (zC (zE (zO (wR1 I I (by rw[Nt])))))))))))))))))
theorem O7 (g:Nat) (hE:AO Tryz.prog g=true) (f:List Sd->Bool) (hf: ∀W p cap l,l.length<4611686018427387904->Cc W p l->Ad Tryz.prog g #[slv p l.length cap] W (fun _:Unit=> .bool (f l)) (fun _=>True) (fun _=>[])) (W:World) (p:Option Addr) (cap:Nat) (rs:List (List Sd)) (hn:rs.length<4611686018427387904) (hl: ∀l∈rs,l.length<4611686018427387904) (hR:Bd W p rs):
  Ad Tryz.prog 192 #[slv p rs.length cap, .func (.func g) #[] #[]] W (fun _:Unit=> .int .i64 (JY f rs 0)) (fun _=>True) (fun _=>[]):=by
 refine Ab (args:=[slv p rs.length cap, .func (.func g) #[] #[]]) Tryz.func192 I I I (zA (zB (wP I (Aa (zE (zA (zA (zB (wP I (wP I (wP I (Aa (zE (zH ?_))))))))))))))
 refine Ar (X:=Nat) (fun k=>[(0,slv p rs.length cap),(1, .func (.func g) #[] #[]),(7, .int .i64 (rs.length:Nat)),(8, .int .i64 (k:Nat))]) (fun _=>[])
  (fun k=>k<=rs.length/\JY f rs 0=JY f (rs.drop k) k) (fun k=>rs.length-k) 0 ⟨Nat.zero_le _,rfl⟩ ⟨rfl,rfl,rfl,rfl,trivial⟩ [] rfl ?_
 rintro k ⟨hk,hi⟩
 refine zA (zB (wP I (Aa (zE (zA (Ah I (fun h=> ?_) (fun h=> ?_)))))))
 rotate_left
 ·refine zJ (zK (zK (zL (zE (zA (zB (wP I (Aa (zE (zO ?_))))))))))
  have e:k=rs.length:=by simp at h;omega
  rw[e,List.drop_length] at hi
  exact wR1 I I (by rw[hi];rfl)
 ·have hk:k<rs.length:=by simp at h;omega
  clear h
  obtain⟨b,off,rfl,hrow⟩:=hR.row hk
  obtain⟨q,cap2,hq1,hq2⟩:=hrow k hk
  refine zI (zE (zA (zH (zA (zB (wP I (wP I (Aa (zE (zA (zB (wP I (wP I (wP I (wJ ?_)))))))))))))))
  refine wL 0 I I (fun W hp=>hq1.hp hp) I (Bp (g:=g) (v:= .bool (f (rg rs k))) I I I I I I hE (fun W hp=>hf W q cap2 (rg rs k) (hl _ (List.mem_of_getElem? (Bm hk))) (hq2.hp hp)) ?_)
  have hd:rs.drop k=rg rs k::rs.drop (k+1):=by
   rw[List.drop_eq_getElem_cons hk];simp[rg,hk]
  have hstep:JY f (rs.drop k) k=if f (rg rs k)=true then(k:Int) else JY f (rs.drop (k+1)) (k+1):=by rw[hd];rfl
  rw[hstep] at hi
  refine zC (zE (Ah I (fun h=> ?_) (fun h=> ?_)))
  ·refine zA (zB (wP I (wP I (Aa (zE (zO (zQ (zP (zP (zQ (zP ?_)))))))))))
   rw[if_pos h] at hi
   exact wR1 I I (by rw[hi])
  ·refine zI (zN (zE (zB (wP I (wP I (Aa ?_))))))
   rw[if_neg (by rw[h];decide)] at hi
   exact Aj (k+1) ⟨hk,hi⟩ (by omega) ⟨I,I,I,congrArg (fun z=>some (Value.int .i64 z)) (AF (x:=(k:Int)+1) (by omega) (by omega)),tO⟩ [] I
theorem KV (g:Nat) (hE:AO Tryz.prog g=true) (f:List Sd->Bool) (hf: ∀W p cap l,l.length<4611686018427387904->Cc W p l->Ad Tryz.prog g #[slv p l.length cap] W (fun _:Unit=> .bool (f l)) (fun _=>True) (fun _=>[])) (W:World) (p:Option Addr) (cap:Nat) (rs:List (List Sd)) (hn:rs.length<4611686018427387904) (hl: ∀l∈rs,l.length<4611686018427387904) (hR:Bd W p rs):
  Ad Tryz.prog 128 #[slv p rs.length cap, .func (.func g) #[] #[]] W (fun _:Unit=> .bool (rs.any f)) (fun _=>True) (fun _=>[]):=by
 exact Ab (args:=[slv p rs.length cap, .func (.func g) #[] #[]]) Tryz.func128 I I I (zA (zB (wP I (zC (zE (zA (zB (wP I (wP I (wC I I (fun W hp=>O7 g hE f hf W p cap rs hn hl (hR.below (Nat.le_refl _) hp.below)) (wP I (wP I (zC (zE (zO (wR1 I I (by rw[Nt])))))))))))))))))
theorem PC (s:Sd):AX Tryz.prog 126 [s.val] (.bool (!rgd s)):=by
 intro W
 exact Ab Tryz.func126 I I I (zA (zB (wF I I fun _=>(wP I (zC (zE (zA (zB (wB 0 I I I (wC I I (fun W _=>(PN ..)) (wP I (wP I (zC (zE (zO (wR1 I I I))))))))))))))))
theorem P0 (W:World) (p:Option Addr) (cap:Nat) (l:List Sd) (hn:l.length<4611686018427387904) (hR:Cc W p l):
  Ad Tryz.prog 129 #[slv p l.length cap] W (fun _:Unit=> .bool (!shp l)) (fun _=>True) (fun _=>[]):=by
 exact Ab (args:=[slv p l.length cap]) Tryz.func129 I I I (zA (zB (wP I (zC (zE (zA (zB (wP I (wC I I (fun W hp=>Qb W p cap l hn (hR.hp hp)) (wP I (wP I (zC (zE (zO (wR1 I I I)))))))))))))))
def Jh (t u:Sd) (px py:Int):Bool:=(w64 (u.x-t.x)==0)&&decide (t.x>px)&& !(decide (t.y>py)==decide (u.y>py))
def DX (l:List Sd) (px py:Int):Nat->Bool
 |0=>false
 |k+1=>if Jh (sd l k) (sd l (nxt l.length k)) px py=true then !DX l px py k else DX l px py k
theorem PF (W:World) (p:Option Addr) (cap:Nat) (l:List Sd) (px py:Int) (hn:l.length<4611686018427387904) (hR:Cc W p l):
  Ad Tryz.prog 200 #[slv p l.length cap,spot px py] W (fun _:Unit=> .bool (DX l px py l.length)) (fun _=>True) (fun _=>[]):=by
 refine Ab (args:=[slv p l.length cap,spot px py]) Tryz.func200 I I I (zA (zB (wF I I fun _=>(wP I (zC (zE (zA (zB ?_))))))))
 rename_i b3
 refine Bo (z:= .bool false) I I I (fun W=>by kernel_rfl) fun b5=> ?_
 refine wS 1 I I I (zC (zE (zA (zA (zB (wP I (wD (X:=Nat) I I (fun W _=>Fb p l.length cap W) ?_)))))))
 intro b _
 refine zC (zE (zH (Ew (X:=Bool×Nat) (fun x=>[⟨b3,233,(spot px py).cells.toList,true,none⟩,⟨b5,4,[.bool x.1],true,none⟩,⟨b,94,[slv p l.length cap],true,none⟩]) (fun k x=>x.2=k/\x.1=DX l px py k) (fun _ _=>False) (false,0) I (by kernel_rfl) (FP b p cap l hn) (fun _=>rfl) ⟨I,I⟩ [] I (fun k x W _ hp=>Eh.mk' hR hp 2 I) ?_ ?_ (fun _ _ _ _ _ h=>h.elim))))
 ·rintro j ⟨i,k⟩ d L rec hk ⟨hj,hi⟩ hrec
  obtain rfl:k=j:=hj
  obtain rfl:i=DX l px py k:=hi
  refine zB (Bo (z:=H9 default default default) I I I (fun W=>by kernel_rfl) fun b7=> ?_)
  refine wS 5 I I I (zC (BJ 4 hrec I ?_))
  refine zH (zA (zB (wP I (wB 5 I I I (wC I I (fun W _=>B0 (sd l k) W) (Bo (z:=spot 0 0) I I I (fun W=>by kernel_rfl) fun b8=> ?_))))))
  refine wS 6 I I I (zC (zE (zA (zB (wB 5 I I I (wC I I (fun W _=>KJ (sd l (prv l.length k)) (sd l k) (sd l (nxt l.length k)) W) (wP I (wP I (wP I ?_)))))))))
  have no:Jh (sd l k) (sd l (nxt l.length k)) px py=false->DX l px py (k+1)=DX l px py k:=fun h=>by simp[DX,h]
  have yes:Jh (sd l k) (sd l (nxt l.length k)) px py=true->DX l px py (k+1)= !DX l px py k:=fun h=>by simp[DX,h]
  refine AG 20 I (fun h20=> ?_) (fun h20=> ?_)
  ·refine wP I (wB 6 I I I (wP I (wB 0 I I I (wP I (wP I (wP I (AG 27 I (fun h27=> ?_) (fun h27=> ?_))))))))
   ·refine wP I (wB 6 I I I (wP I (wB 0 I I I (wP I (wP I (wP I (wB 5 I I I (wP I (wB 0 I I I (wP I (Fi Tryz.underlying4 I I I I I I ?_)))))))))))
    refine wP I (Aa (A6 (Ah I (fun h=> ?_) (fun h=> ?_))))
    ·exact zB (wB 1 I I I (wP I (wS 1 I I I (zC (zN (Bk 4 (!DX l px py k,k+1) hrec I ⟨I,(yes (by simp_all [Jh])).symm⟩ [_,_] I))))))
    ·exact zI (zN (Bk 4 (DX l px py k,k+1) hrec I ⟨I,(no (by simp_all [Jh])).symm⟩ [_,_] I))
   ·refine Ae I I ?_
    iterate 11 refine Ae I I ?_
    exact wP I (zC (zE (zS I (zI (zN (Bk 4 (DX l px py k,k+1) hrec I ⟨I,(no (by simp_all [Jh]<;>(intros;omega))).symm⟩ [_,_] I))))))
  ·refine Ae I I ?_
   iterate 4 refine Ae I I ?_
   refine wP I (wP I ?_)
   iterate 12 refine Ae I I ?_
   exact wP I (zC (zE (zS I (zI (zN (Bk 4 (DX l px py k,k+1) hrec I ⟨I,(no (by simp_all [Jh])).symm⟩ [_,_] I))))))
 ·rintro⟨i,j⟩ d L rec ⟨hj,hi⟩
  obtain rfl:j=l.length:=hj
  obtain rfl:i=DX l px py l.length:=hi
  refine zN (zE (zA (zB (wB 1 I I I (wP I (zC (zE (zO (Ci 3 I ?_)))))))))
  exact wR1 I I I
def FR (rs:List (List Sd)) (i k:Nat):Bool:=(k==i||i==0)||(DX (rg rs k) (sd (rg rs i) 0).x (sd (rg rs i) 0).y (rg rs k).length==(k==0))
def D3 (rs:List (List Sd)) (i:Nat):Bool:=(decide (CO (rg rs i) (rg rs i).length>0)==(i==0))&&(List.range rs.length).all (FR rs i)
def plc (rs:List (List Sd)):Bool:=(List.range rs.length).all (D3 rs)
theorem BH {n:Nat} {f:Nat->Bool} {k:Nat} (hk:k<n) (h:f k=false):(List.range n).all f=false:=Bool.eq_false_iff.2 fun h2=>by
 have:=List.all_eq_true.1 h2 k (List.mem_range.2 hk)
 rw[h] at this;cases this
theorem CB (a b:Nat):((a:Int)==(b:Int))=(a==b):=by
 by_cases h:a=b
 ·subst h;rw[beq_self_eq_true,beq_self_eq_true]
 ·have h1:(a:Int)≠b:=by omega
  rw[beq_eq_false_iff_ne.2 h1,beq_eq_false_iff_ne.2 h]
theorem Qg (W:World) (p:Option Addr) (cap:Nat) (rs:List (List Sd)) (hn:rs.length<4611686018427387904) (hl: ∀l∈rs,l.length<4611686018427387904) (hne: ∀l∈rs,l≠[]) (hR:Bd W p rs):
  Ad Tryz.prog 132 #[slv p rs.length cap] W (fun _:Unit=> .bool (plc rs)) (fun _=>True) (fun _=>[]):=by
 refine Ab (args:=[slv p rs.length cap]) Tryz.func132 I I I (zA (zB (wP I (Aa (zE (zA (zA (zB (wP I (wP I (wP I (Aa (zE (zH ?_))))))))))))))
 refine Ar (X:=Nat) (fun i=>[(0,slv p rs.length cap),(7,slv p rs.length cap),(8, .int .i64 (rs.length:Nat)),(9, .int .i64 (i:Nat))]) (fun _=>[])
  (fun i=>i<=rs.length/\ ∀j,j<i->D3 rs j=true) (fun i=>rs.length-i) 0 ⟨Nat.zero_le _,fun j hj=>absurd hj (Nat.not_lt_zero _)⟩ ⟨rfl,rfl,rfl,rfl,trivial⟩ [] rfl ?_
 rintro i ⟨hi,hok⟩
 refine zA (zB (wP I (Aa (zE (zA (Ah I (fun h=> ?_) (fun h=> ?_)))))))
 rotate_left
 ·have e:i=rs.length:=by simp at h;omega
  subst e
  refine zJ (zK (zK (zL (zE (zA (zB (wP I (Aa (zE (zO ?_))))))))))
  have:plc rs=true:=List.all_eq_true.2 fun j hj=>hok j (List.mem_range.1 hj)
  exact wR1 I I (by rw[this])
 have hi:i<rs.length:=by simp at h;omega
 clear h
 obtain⟨b,off,rfl,hrow⟩:=hR.row hi
 obtain⟨q,cap2,hq1,hq2⟩:=hrow i hi
 have hli:=hl _ (List.mem_of_getElem? (Bm hi))
 have hnei:0<(rg rs i).length:=List.length_pos_iff.2 (hne _ (List.mem_of_getElem? (Bm hi)))
 refine zI (zE (zA (zH (zA (zB (wP I (wJ ?_)))))))
 refine wL 0 I I (fun W hp=>hq1.hp hp) I (wP I (wP I (Aa (zE (zA (zA (zB (wP I (wC I I (fun W hp=>TP W q cap2 (rg rs i) hli (hq2.hp hp)) (wP I (wP I (wP I (Fi Tryz.underlying4 I I I I I I ?_)))))))))))))
 refine Aa (zE (Ah I (fun h=> ?_) (fun h=> ?_)))
 ·refine zA (zB (wP I (Aa (zE (zO (zP (zQ (zP (zP (zQ (zP ?_)))))))))))
  have hf:plc rs=false:=BH hi (by
   unfold D3
   rw[show(decide (CO (rg rs i) (rg rs i).length>0)==(i==0))=false by
    have h':=h
    rw[show((i:Int)==0)=(i==0) from CB i 0] at h'
    simpa using h']
   rfl)
  exact wR1 I I (by rw[hf])
 have hA:(decide (CO (rg rs i) (rg rs i).length>0)==(i==0))=true:=by
  have h':=h
  rw[show((i:Int)==0)=(i==0) from CB i 0] at h'
  simpa using h'
 clear h
 refine zI (zE (zA (zB (wP I (wP I (wP I (Aa (zE (zH ?_)))))))))
 refine Ar (X:=Nat) (fun k=>[(0,slv (some ⟨b,off,none⟩) rs.length cap),(7,slv (some ⟨b,off,none⟩) rs.length cap),(8, .int .i64 (rs.length:Nat)),(9, .int .i64 (i:Nat)),(3, .int .i64 (i:Nat)),(4,slv q (rg rs i).length cap2),(20,slv (some ⟨b,off,none⟩) rs.length cap),(21, .int .i64 (rs.length:Nat)),(22, .int .i64 (k:Nat))]) (fun _=>[])
  (fun k=>k<=rs.length/\ ∀j,j<k->FR rs i j=true) (fun k=>rs.length-k) 0 ⟨Nat.zero_le _,fun j hj=>absurd hj (Nat.not_lt_zero _)⟩ ⟨rfl,rfl,rfl,rfl,rfl,rfl,rfl,rfl,rfl,trivial⟩ [] rfl ?_
 rintro k ⟨hk,hokk⟩
 refine zA (zB (wP I (Aa (zE (zA (Ah I (fun h=> ?_) (fun h=> ?_)))))))
 rotate_left
 ·have e:k=rs.length:=by simp at h;omega
  subst e
  refine zJ (zK (zK (zL (zN (zE (zB (wP I (wP I (Aa (Aj (i+1) ⟨hi,fun j hj=> ?_⟩ (by omega) ⟨I,I,I,congrArg (fun z=>some (Value.int .i64 z)) (AF (x:=(i:Int)+1) (by omega) (by omega)),tO⟩ [] I))))))))))
  by_cases e:j=i
  ·subst e
   unfold D3
   rw[hA,Bool.true_and]
   exact List.all_eq_true.2 fun m hm=>hokk m (List.mem_range.1 hm)
  ·exact hok j (by omega)
 have hk:k<rs.length:=by simp at h;omega
 clear h
 obtain⟨q2,cap3,hq3,hq4⟩:=hrow k hk
 have hlk:=hl _ (List.mem_of_getElem? (Bm hk))
 have next:FR rs i k=true-> ∀j,j<k+1->FR rs i j=true:=fun h j hj=>by
  by_cases e:j=k
  ·subst e;exact h
  ·exact hokk j (by omega)
 refine zI (zE (zA (zH (zA (zB (wP I (wJ ?_)))))))
 refine wL 0 I I (fun W hp=>hq3.hp hp) I (wP I (wP I (Aa (zE (Av (G1 (X:=Unit) (fun _=>[(0,slv (some ⟨b,off,none⟩) rs.length cap),(7,slv (some ⟨b,off,none⟩) rs.length cap),(8, .int .i64 (rs.length:Nat)),(9, .int .i64 (i:Nat)),(3, .int .i64 (i:Nat)),(4,slv q (rg rs i).length cap2),(5, .int .i64 (k:Nat)),(6,slv q2 (rg rs k).length cap3),(20,slv (some ⟨b,off,none⟩) rs.length cap),(21, .int .i64 (rs.length:Nat)),(22, .int .i64 (k:Nat)),(33, .bool (k==i||i==0))]) (fun _=>[]) (fun _=>True) ?_ ?_))))))
 ·refine zB (wP I (wP I (wP I (wP I (AG 30 I (fun h30=> ?_) (fun h30=> ?_))))))
  ·have e:(k==i||i==0)=true:=by
    have:(k==i)=true:=by rw[<-CB];exact h30
    rw[this];rfl
   iterate 2 refine Ae I I ?_
   exact wP I (Aa (An () tO ⟨I,I,I,I,I,I,I,I,I,I,I,by rw[e];rfl,tO⟩ [] I))
  ·have e:(k==i||i==0)=((i:Int)==0):=by
    have:(k==i)=false:=by rw[<-CB];exact h30
    rw[this,Bool.false_or];exact(CB i 0).symm
   exact wP I (wP I (wP I (Aa (An () tO ⟨I,I,I,I,I,I,I,I,I,I,I,by rw[e];rfl,tO⟩ [] I))))
 intro _ _
 refine Ah I (fun h=> ?_) (fun h=> ?_)
 ·exact zJ (zK (zL (zE (zB (wP I (wP I (Aa (Aj (k+1) ⟨hk,next (by unfold FR;rw[h];rfl)⟩ (by omega) ⟨I,I,I,I,I,I,I,I,congrArg (fun z=>some (Value.int .i64 z)) (AF (x:=(k:Int)+1) (by omega) (by omega)),tO⟩ [] I))))))))
 obtain⟨b3,off3,rfl,hrow3⟩:=hq2.row hnei
 refine zI (zE (zA (zB (wP I (wP I (wJ ?_))))))
 refine wL 0 I I (fun W hp=>(hrow3 0 hnei).hp hp) I (wC I I (fun W _=>(B0 ..)) (wC I I (fun W hp=>PF W q2 cap3 (rg rs k) _ _ hlk (hq4.hp hp)) (wP I (wP I (Fi Tryz.underlying4 I I I I I I ?_)))))
 refine Aa (zE (Ah I (fun h2=> ?_) (fun h2=> ?_)))
 ·refine zA (zB (wP I (Aa (zE (zO (zQ (zP (zP (zQ (zQ (zP (zP (zQ (zP ?_))))))))))))))
  have hf:plc rs=false:=BH hi (by
   unfold D3
   rw[BH hk (by
    unfold FR
    rw[h,Bool.false_or]
    have h':=h2
    rw[show((k:Int)==0)=(k==0) from CB k 0] at h'
    simpa using h'),Bool.and_false])
  exact wR1 I I (by rw[hf])
 ·refine zI (zN (zE (zB (wP I (wP I (Aa (Aj (k+1) ⟨hk,next ?_⟩ (by omega) ⟨I,I,I,I,I,I,I,I,congrArg (fun z=>some (Value.int .i64 z)) (AF (x:=(k:Int)+1) (by omega) (by omega)),tO⟩ [] I)))))))
  unfold FR
  rw[h,Bool.false_or]
  have h':=h2
  rw[show((k:Int)==0)=(k==0) from CB k 0] at h'
  simpa using h'
def I3 (s t u:Sd):Bool:=decide (w64 (w64 (w64 (t.x-s.x)*w64 (u.y-t.y))-w64 (w64 (t.y-s.y)*w64 (u.x-t.x)))>0)
def NG (s t u:Sd):Bool:=I3 s t u||(!t.gable&& !s.gable&&(t.plate==s.plate))
def CZ (l:List Sd) (k:Nat):Bool:=NG (sd l (prv l.length k)) (sd l k) (sd l (nxt l.length k))
def Bu (l:List Sd) (b:Bool):Nat->Bool
 |0=>b
 |k+1=>Bu l b k|| !(sd l k).gable
def Bg (rs:List (List Sd)):Nat->Bool
 |0=>false
 |k+1=>Bu (rg rs k) (Bg rs k) (rg rs k).length
def GB (l:List Sd):Bool:=(List.range l.length).all (CZ l)
def jnd (rs:List (List Sd)):Bool:=rs.all GB&&Bg rs rs.length
theorem Qh (W:World) (p:Option Addr) (cap:Nat) (rs:List (List Sd)) (hn:rs.length<4611686018427387904) (hl: ∀l∈rs,l.length<4611686018427387904) (hR:Bd W p rs):
  Ad Tryz.prog 133 #[slv p rs.length cap] W (fun _:Unit=> .bool (jnd rs)) (fun _=>True) (fun _=>[]):=by
 refine Ab (args:=[slv p rs.length cap]) Tryz.func133 I I I (zA (zB (Bo (z:= .bool false) I I I (fun W=>by kernel_rfl) fun b2=> ?_)))
 refine zC (zE (zA (zB (Bo (z:= .bool false) I I I (fun W=>by kernel_rfl) fun b3=> ?_))))
 refine wS 1 I I I (zC (zE (zA (zA (zB (wP I (wP I (wP I (zC (zE (zH (Pw ?_))))))))))))
 refine MN (X:=Nat×Bool×List Nat) (fun x=>x.2.2.map Dm) (fun x=>[(2, .pointer (some ⟨b2,0,none⟩)),(3, .pointer (some ⟨b3,0,none⟩)),(8,slv p rs.length cap),(9, .int .i64 (rs.length:Nat)),(10, .int .i64 (x.1:Nat))])
  (fun x=>[⟨b2,4,[.bool false],true,none⟩,⟨b3,4,[.bool x.2.1],true,none⟩,bag x.2.2]) (fun x=>x.1<=rs.length/\x.2.1=Bg rs x.1/\ ∀i,i<x.1->GB (rg rs i)=true) (fun x=>rs.length-x.1) (0,false,[])
  ⟨Nat.zero_le _,rfl,fun i hi=>absurd hi (Nat.not_lt_zero _)⟩ rfl ⟨rfl,rfl,rfl,rfl,rfl,trivial⟩ [] rfl ?_
 rintro⟨k,sm,ds⟩ ⟨hk,hsm,hok⟩
 have hk:k<=rs.length:=hk
 obtain rfl:sm=Bg rs k:=hsm
 refine zA (zB (wP I (zC (zE (zA (Ah I (fun h=> ?_) (fun h=> ?_)))))))
 rotate_left
 ·refine zJ (zK (zK (zL (zE (zA (zB (wB 1 I I I (wS 0 I I I (zC (zE (zO (HZ 2 ds I ?_))))))))))))
  have e:k=rs.length:=by simp at h;omega
  subst e
  have hj:jnd rs=Bg rs rs.length:=by
   have:rs.all GB=true:=List.all_eq_true.2 fun l hl=>by
    obtain⟨i,hi,rfl⟩:=List.getElem_of_mem hl
    have:=hok i hi
    rwa [show rg rs i=rs[i] by simp[rg,hi]] at this
   simp[jnd,this]
  exact Ax tH I (.cell 0 I I I I I) () (by rw[hj]) tO fun W _=>As.nil _ _
 have hk:k<rs.length:=by simp at h;omega
 obtain⟨b',off,rfl,hrow⟩:=hR.row hk
 obtain⟨q,cap2,hq1,hq2⟩:=hrow k hk
 have hlk:(rg rs k).length<4611686018427387904:=hl _ (List.mem_of_getElem? (Bm hk))
 refine zI (zE (zA (zH (zA (zB (wJ ?_))))))
 refine wL 0 I I (fun W hp=>hq1.hp hp) I (wP I (zC (zE (zA (zB (wP I (wD (X:=Nat) I I (fun W _=>Fb q (rg rs k).length cap2 W) ?_)))))))
 intro b _
 refine zC (zE (zH ?_))
 refine Ew (X:=Bool×Nat) (fun x=>[⟨b2,4,[.bool false],true,none⟩,⟨b3,4,[.bool x.1],true,none⟩,bag ds,⟨b,94,[slv q (rg rs k).length cap2],true,none⟩])
  (fun j x=>x.2=j/\x.1=Bu (rg rs k) (Bg rs k) j/\ ∀i,i<j->CZ (rg rs k) i=true) (fun c _=>c= .ret/\ ∃j,j<(rg rs k).length/\CZ (rg rs k) j=false) (Bg rs k,0) rfl (by kernel_rfl) (FP b q cap2 (rg rs k) hlk) (fun _=>rfl)
  ⟨rfl,rfl,fun i hi=>absurd hi (Nat.not_lt_zero _)⟩ [] rfl (fun k x W _ hp=>Eh.mk' hq2 hp 3 rfl) ?_ ?_ ?_
 ·rintro j' ⟨sm,j⟩ d L rec hj ⟨e1,e2,hin⟩ hrec
  obtain rfl:j=j':=e1
  obtain rfl:sm=Bu (rg rs k) (Bg rs k) j:=e2
  refine zB (Bo (z:=H9 default default default) I I I (fun W=>by kernel_rfl) fun b7=> ?_)
  refine wS 6 I I I (zC (BJ 5 hrec I ?_))
  refine Bv ?_
  refine G1 (X:=Unit) (fun _=>[(2, .pointer (some ⟨b2,0,none⟩)),(3, .pointer (some ⟨b3,0,none⟩)),(7, .pointer (some ⟨b7,0,none⟩))])
   (fun _=>[⟨b2,4,[.bool false],true,none⟩,⟨b3,4,[.bool (Bu (rg rs k) (Bg rs k) (j+1))],true,none⟩,bag ds,⟨b,94,[slv q (rg rs k).length cap2],true,none⟩,BG d,Be L rec .busy none,
    ⟨b7,231,(H9 (sd (rg rs k) (prv (rg rs k).length j)) (sd (rg rs k) j) (sd (rg rs k) (nxt (rg rs k).length j))).cells.toList,true,none⟩]) (fun _=>True) ?_ ?_
  ·refine DZ ?_
   refine wB 1 I I I (wP I (AG 19 I (fun h19=> ?_) (fun h19=> ?_)))
   ·refine Ae I I ?_
    iterate 3 refine Ae I I ?_
    refine wP I (wS 1 I I I (zC (An () tO ⟨I,I,I,tO⟩ [] ?_)))
    have h19:Bu (rg rs k) (Bg rs k) j=true:=h19
    have e:Bu (rg rs k) (Bg rs k) (j+1)=true:=by simp[Bu,h19]
    rw[e];rfl
   ·refine wP I (wP I (wB 6 I I I (wP I (wP I (wS 1 I I I (zC (An () tO ⟨I,I,I,tO⟩ [] ?_)))))))
    have h19:Bu (rg rs k) (Bg rs k) j=false:=h19
    have e:Bu (rg rs k) (Bg rs k) (j+1)= !(sd (rg rs k) j).gable:=by simp[Bu,h19]
    rw[e];rfl
  intro _ _
  refine zA (zB (wB 6 I I I (wC I I (fun W _=>SV (sd (rg rs k) (prv (rg rs k).length j)) (sd (rg rs k) j) (sd (rg rs k) (nxt (rg rs k).length j)) W) (wP I (wP I ?_)))))
  have good:CZ (rg rs k) j=true-> ∀i,i<j+1->CZ (rg rs k) i=true:=fun hg i hi=>by
   by_cases e:i=j
   ·subst e;exact hg
   ·exact hin i (by show i<j;omega)
  refine AG 28 I (fun h28=> ?_) (fun h28=> ?_)
  ·refine wP I (wP I (wB 6 I I I (wP I (AG 32 I (fun h32=> ?_) (fun h32=> ?_)))))
   ·refine Ae I I ?_
    iterate 2 refine Ae I I ?_
    refine wP I (wP I ?_)
    iterate 7 refine Ae I I ?_
    exact wP I (wP I (zC (zE (zR I (zA (zB (wS 0 I I I (zC (zE (zO (zQ (D2 5 (Bu (rg rs k) (Bg rs k) (j+1),j+1) hrec I ⟨I,j,hj,by simp_all [CZ,NG,I3]⟩ [_] I))))))))))))
   ·refine wP I (wP I (wB 6 I I I (wP I (wP I (AG 37 I (fun h37=> ?_) (fun h37=> ?_))))))
    ·refine Ae I I ?_
     iterate 6 refine Ae I I ?_
     exact wP I (wP I (zC (zE (zR I (zA (zB (wS 0 I I I (zC (zE (zO (zQ (D2 5 (Bu (rg rs k) (Bg rs k) (j+1),j+1) hrec I ⟨I,j,hj,by simp_all [CZ,NG,I3]⟩ [_] I))))))))))))
    ·refine wP I (wP I (wB 6 I I I (wP I (wP I (wB 6 I I I (wP I (wP I (wP I (Aa (A6 (Ah I (fun h=> ?_) (fun h=> ?_))))))))))))
     ·exact zA (zB (wS 0 I I I (zC (zE (zO (zQ (D2 5 (Bu (rg rs k) (Bg rs k) (j+1),j+1) hrec I ⟨I,j,hj,by simp_all [CZ,NG,I3]⟩ [_] I)))))))
     ·exact zI (zN (Bk 5 (Bu (rg rs k) (Bg rs k) (j+1),j+1) hrec I ⟨I,I,good (by simp_all [CZ,NG,I3])⟩ [_] I))
  ·refine Ae I I ?_
   iterate 16 refine Ae I I ?_
   exact wP I (zC (zE (zS I (zI (zN (Bk 5 (Bu (rg rs k) (Bg rs k) (j+1),j+1) hrec I ⟨I,I,good (by simp_all [CZ,NG,I3])⟩ [_] I))))))
 ·rintro⟨sm,j⟩ d L rec ⟨e1,e2,hin⟩
  obtain rfl:j=(rg rs k).length:=e1
  obtain rfl:sm=Bu (rg rs k) (Bg rs k) (rg rs k).length:=e2
  refine zN (zN (zE (zB (wP I (wP I (zC (Tt 2 4 I I ?_)))))))
  refine Kz (X:=Nat×Bool×List Nat) (k+1,Bu (rg rs k) (Bg rs k) (rg rs k).length,d::ds) ?_ ?_ I ?_ [0,1,2] (by decide) I
  rotate_left
  ·show rs.length-(k+1)<rs.length-k;omega
  ·exact⟨I,I,I,I,congrArg (fun z=>some (Value.int .i64 z)) (AF (x:=(k:Int)+1) (by omega) (by omega)),tO⟩
  refine⟨hk,I,fun i hi=> ?_⟩
  by_cases e:i=k
  ·subst e
   exact List.all_eq_true.2 fun x hx=>hin x (List.mem_range.1 hx)
  ·exact hok i (by show i<k;have:i<k+1:=hi;omega)
 ·rintro⟨sm,j'⟩ d L rec c ⟨rfl,j,hj,hf⟩
  refine zO (zQ (zQ (zP (zP (zQ (zP (Tt 2 4 I I ?_)))))))
  refine HZ 2 (d::ds) I ?_
  have hj:jnd rs=false:=by
   have h1:GB (rg rs k)=false:=Bool.eq_false_iff.2 fun h2=>by
    have:=List.all_eq_true.1 h2 j (List.mem_range.2 hj)
    rw[hf] at this;cases this
   have:rs.all GB=false:=Bool.eq_false_iff.2 fun h2=>by
    have:=List.all_eq_true.1 h2 _ (List.mem_of_getElem? (Bm hk))
    rw[h1] at this;cases this
   simp[jnd,this]
  exact Ax tH I (.cell 0 I I I I I) () (by rw[hj]) tO fun W _=>As.nil _ _
abbrev BW (p:Option Addr) (n cap:Nat):Value:= .agg #[slv p n cap]
def chk (rs:List (List Sd)):Int:=
 if rs.any (fun l=>l.length==0)=true then 5
 else if tot rs=0 then 5
 else if tot rs>24 then 4
 else if rs.flatten.any (fun s=> !rgd s)=true then 2
 else if rs.any (fun l=> !shp l)=true then 14
 else if crs rs=true then 15
 else if (!plc rs|| !jnd rs)=true then 14
 else 0
theorem He {rs:List (List Sd)} {l:List Sd} (h:l∈rs):l.length<=tot rs:=by
 unfold tot
 induction rs with
 |nil=>cases h
 |cons x rs ih=>
  rw[List.map_cons,List.sum_cons]
  rcases List.mem_cons.1 h with rfl|h
  ·omega
  ·have:=ih h;omega
theorem Lm (W:World) (p:Option Addr) (cap:Nat) (rs:List (List Sd)) (hn:rs.length<4611686018427387904) (hT:tot rs<1099511627776) (hR:Bd W p rs):
  Ad Tryz.prog 55 #[BW p rs.length cap] W (fun _:Unit=> .int .i64 (chk rs)) (fun _=>True) (fun _=>[]):=by
 have hl: ∀l∈rs,l.length<4611686018427387904:=fun l h=>by have:=He h;omega
 refine Ab (args:=[BW p rs.length cap]) Tryz.func55 I I I (zA (zB (wF I I fun _=>(wP I (Aa ?_)))))
 rename_i b1
 refine zE (zA (zB (wP I (Aa (zE (zA (zA (zB (wP I (wB 0 I I I (wP I (wP I (Aa (zE (zH ?_)))))))))))))))
 refine Ar (X:=Nat) (fun k=>[(1, .pointer (some ⟨b1,0,none⟩)),(3, .int .i64 (tot (rs.take k):Nat)),(7,slv p rs.length cap),(8, .int .i64 (rs.length:Nat)),(9, .int .i64 (k:Nat))]) (fun _=>[⟨b1,36,[slv p rs.length cap],true,none⟩])
  (fun k=>k<=rs.length/\ ∀j,j<k->(rg rs j).length≠0) (fun k=>rs.length-k) 0 ⟨Nat.zero_le _,fun j hj=>absurd hj (Nat.not_lt_zero _)⟩ ⟨rfl,rfl,rfl,rfl,rfl,trivial⟩ [] rfl ?_
 rintro k ⟨hk,hok⟩
 refine zA (zB (wP I (Aa (zE (zA (Ah I (fun h=> ?_) (fun h=> ?_)))))))
 ·have hk:k<rs.length:=by simp at h;omega
  clear h
  obtain⟨b,off,rfl,hrow⟩:=hR.row hk
  obtain⟨q,cap2,hq1,hq2⟩:=hrow k hk
  refine zI (zE (zA (zH (zA (zB (wJ ?_))))))
  refine wL 0 I I (fun W hp=>hq1.hp hp) I (wP I (Aa (zE (zA (zA (zB (wP I (wP I (wP I (Aa (zE (Ah I (fun h=> ?_) (fun h=> ?_)))))))))))))
  ·refine zA (zB (wP I (Aa (zE (zO (zP (zQ (zP (zP (zQ (zP ?_)))))))))))
   have he:rs.any (fun l=>l.length==0)=true:=List.any_eq_true.2 ⟨_,List.mem_of_getElem? (Bm hk),by have h':((((rg rs k).length:Nat):Int)==0)=true:=h;rw[beq_iff_eq] at h'⊢;omega⟩
   exact wR1 I I (by unfold chk;rw[if_pos he])
  have hz:(rg rs k).length≠0:=by
   have h':((((rg rs k).length:Nat):Int)==0)=false:=h
   rw[beq_eq_false_iff_ne] at h';omega
  clear h
  refine zI (zE (zB (wP I (wP I (wP I (wP I (wP I (Aa ?_))))))))
  have hs:w64 ((tot (rs.take k):Nat)+((rg rs k).length:Nat))=(tot (rs.take (k+1)):Nat):=by
   have h1:=Bs hk
   have h2:=Cz rs (k+1)
   rw[Ak (by omega) (by omega)];omega
  refine zN (zE (zB (Al 3 _ I (congrArg (Value.int .i64) hs) (wP I (wP I (Aa (Aj (k+1) ⟨hk,fun j hj=> ?_⟩ (by omega) ⟨I,I,I,I,congrArg (fun z=>some (Value.int .i64 z)) (AF (x:=(k:Int)+1) (by omega) (by omega)),tO⟩ [] I)))))))
  by_cases e:j=k
  ·subst e;exact hz
  ·exact hok j (by omega)
 have e:k=rs.length:=by simp at h;omega
 subst e
 clear h
 rw[List.take_length]
 have hne: ∀l∈rs,l≠[]:=fun l hl e=>by
  obtain⟨i,hi,e2⟩:=List.getElem_of_mem hl
  have:=hok i hi
  rw[show rg rs i=rs[i] by simp[rg,hi],e2,e] at this
  exact this I
 have he:rs.any (fun l=>l.length==0)=false:=Bool.eq_false_iff.2 fun h2=>by
  obtain⟨l,h3,h4⟩:=List.any_eq_true.1 h2
  rw[beq_iff_eq] at h4
  exact hne l h3 (List.length_eq_zero_iff.1 h4)
 have hN: ¬(rs.any (fun l=>l.length==0)=true):=by rw[he];decide
 refine zJ (zK (zK (zL (zE (zA (zH (zA (zB (wP I (wP I (wP I (Aa (zE (Ah I (fun h=> ?_) (fun h=> ?_)))))))))))))))
 ·refine zA (zB (wP I (Aa (zE (zO (zQ (zP ?_)))))))
  have h0:tot rs=0:=by have h':(((tot rs:Nat):Int)==0)=true:=h;rw[beq_iff_eq] at h';omega
  exact wR1 I I (by unfold chk;rw[if_neg hN,if_pos h0])
 have h0: ¬tot rs=0:=by have h':(((tot rs:Nat):Int)==0)=false:=h;rw[beq_eq_false_iff_ne] at h';omega
 clear h
 refine zA (zB (wP I (wP I (wP I (Aa (zE (Ah I (fun h=> ?_) (fun h=> ?_))))))))
 ·refine zA (zB (wP I (Aa (zE (zO (zQ (zP ?_)))))))
  have h1:tot rs>24:=by have h':decide (((tot rs:Nat):Int)>24)=true:=h;rw[decide_eq_true_iff] at h';omega
  exact wR1 I I (by unfold chk;rw[if_neg hN,if_neg h0,if_pos h1])
 have h1: ¬tot rs>24:=by have h':decide (((tot rs:Nat):Int)>24)=false:=h;rw[decide_eq_false_iff_not] at h';omega
 clear h
 refine zA (zB (wP I (wB 0 I I I (wD (X:=Vec) I I (fun W hp=>Kt W p cap rs hn hT (hR.below (Nat.le_refl _) hp.below) hne) ?_))))
 intro V hV
 obtain⟨q,cq,eV,hVR⟩:=Vec.ring hV
 have hfl:rs.flatten.length<4611686018427387904:=by rw[HJ];omega
 refine Al 30 _ I eV (wC I I (fun W hp=>KT 126 (by kernel_rfl) (fun s=> !rgd s) PC W q cq rs.flatten hfl (hVR hp 1 I)) (wP I (Aa (zE (Ah I (fun h=> ?_) (fun h=> ?_))))))
 ·exact zA (zB (wP I (Aa (zE (zO (zQ (zP (wR1 I I (by unfold chk;rw[if_neg hN,if_neg h0,if_neg h1,if_pos h])))))))))
 have h2: ¬(rs.flatten.any (fun s=> !rgd s)=true):=by rw[h];decide
 clear h
 refine zA (zB (wP I (wB 0 I I I (wC I I (fun W hp=>KV 129 (by kernel_rfl) (fun l=> !shp l) P0 W p cap rs hn hl (hR.below (Nat.le_refl _) hp.below)) (wP I (Aa (zE (Ah I (fun h=> ?_) (fun h=> ?_)))))))))
 ·exact zA (zB (wP I (Aa (zE (zO (zQ (zP (wR1 I I (by unfold chk;rw[if_neg hN,if_neg h0,if_neg h1,if_neg h2,if_pos h])))))))))
 have h3: ¬(rs.any (fun l=> !shp l)=true):=by rw[h];decide
 clear h
 refine zA (zB (wP I (wB 0 I I I (wC I I (fun W hp=>No W p cap rs hn hT hl (hR.below (Nat.le_refl _) hp.below)) (wP I (Aa (zE (Ah I (fun h=> ?_) (fun h=> ?_)))))))))
 ·exact zA (zB (wP I (Aa (zE (zO (zQ (zP (wR1 I I (by unfold chk;rw[if_neg hN,if_neg h0,if_neg h1,if_neg h2,if_neg h3,if_pos h])))))))))
 have h4: ¬(crs rs=true):=by rw[h];decide
 clear h
 refine zA (zB (wP I (wB 0 I I I (wC I I (fun W hp=>Qg W p cap rs hn hl hne (hR.below (Nat.le_refl _) hp.below)) (wP I (wP I (AG 45 I (fun h45=> ?_) (fun h45=> ?_))))))))
 ·have h5:(!plc rs|| !jnd rs)=true:=by have h':(!plc rs)=true:=h45;rw[h'];rfl
  iterate 4 refine Ae I I ?_
  exact wP I (wP I (Aa (zE (zR I (zA (zB (wP I (Aa (zE (zO (zQ (zP (wR1 I I (by unfold chk;rw[if_neg hN,if_neg h0,if_neg h1,if_neg h2,if_neg h3,if_neg h4,if_pos h5]))))))))))))))
 ·have h':(!plc rs)=false:=h45
  refine wP I (wB 0 I I I (wC I I (fun W hp=>Qh W p cap rs hn hl (hR.below (Nat.le_refl _) hp.below)) (wP I (wP I (wP I (Aa (zE (Ah I (fun h=> ?_) (fun h=> ?_)))))))))
  ·refine zA (zB (wP I (Aa (zE (zO (zQ (zP ?_)))))))
   have h5:(!plc rs|| !jnd rs)=true:=by rw[h',h];rfl
   exact wR1 I I (by unfold chk;rw[if_neg hN,if_neg h0,if_neg h1,if_neg h2,if_neg h3,if_neg h4,if_pos h5])
  ·refine zI (zN (zE (zA (zB (wP I (Aa (zE (zO ?_))))))))
   have h5: ¬((!plc rs|| !jnd rs)=true):=by rw[h',h];decide
   exact wR1 I I (by unfold chk;rw[if_neg hN,if_neg h0,if_neg h1,if_neg h2,if_neg h3,if_neg h4,if_neg h5])
theorem Bd.hp {W0 W:World} {bxs:List Bx} {p:Option Addr} {rs:List (List Sd)} (h:Bd W0 p rs) (hp:Hp W0 bxs W):Bd W p rs:=h.below (Nat.le_refl _) hp.below
def grt (rs:List (List Sd)) (m:Int):Bool:=(decide ((tot rs:Int)>m)&&decide ((tot rs:Int)<=24))||decide ((tot rs:Int)>40)||decide ((rs.length:Int)>40)
theorem RU (W:World) (p:Option Addr) (cap:Nat) (rs:List (List Sd)) (m:Int) (hn:rs.length<4611686018427387904) (hT:tot rs<4611686018427387904) (hR:Bd W p rs):
  Ad Tryz.prog 11 #[BW p rs.length cap, .int .i64 m] W (fun _:Unit=> .bool (grt rs m)) (fun _=>True) (fun _=>[]):=by
 refine Ab (args:=[BW p rs.length cap, .int .i64 m]) Tryz.func11 I I I (zA (zB (wF I I fun _=> ?_)))
 rename_i b1
 refine wP I (Aa (zE (zA (zB (wP I (Aa (zE (zA (zA (zB (wP I (Aa (zE (zH ?_))))))))))))))
 refine Ar (X:=Nat) (fun k=>[(1, .int .i64 m),(2, .pointer (some ⟨b1,0,none⟩)),(5, .int .i64 (tot (rs.take k):Nat)),(6, .int .i64 (k:Nat))]) (fun _=>[⟨b1,36,[slv p rs.length cap],true,none⟩])
  (fun k=>k<=rs.length) (fun k=>rs.length-k) 0 (Nat.zero_le _) ⟨rfl,rfl,rfl,rfl,trivial⟩ [] rfl ?_
 intro k hk
 refine zA (zA (zB (wP I (wP I (wB 0 I I I (wP I (wP I (Aa (zE (Ah I (fun h=> ?_) (fun h=> ?_)))))))))))
 ·have hk:k<rs.length:=by simp at h;omega
  clear h
  obtain⟨b,off,rfl,hrow⟩:=hR.row hk
  obtain⟨q,cap2,hq1,hq2⟩:=hrow k hk
  refine zI (zE (zA (zH (zB (wP I (wP I (wB 0 I I I (wP I (wJ ?_)))))))))
  refine wL 0 I I (fun W hp=>hq1.hp hp) I (wP I (wP I (wP I (Aa ?_))))
  have hs:w64 ((tot (rs.take k):Nat)+((rg rs k).length:Nat))=(tot (rs.take (k+1)):Nat):=by
   have h1:=Bs hk
   have h2:=Cz rs (k+1)
   rw[Ak (by omega) (by omega)];omega
  exact zN (zE (zB (Al 5 _ I (congrArg (Value.int .i64) hs) (wP I (wP I (wP I (Aa (Aj (k+1) hk (by omega) ⟨I,I,I,congrArg (fun z=>some (Value.int .i64 z)) (AF (x:=(k:Int)+1) (by omega) (by omega)),tO⟩ [] I))))))))
 have e:k=rs.length:=by simp at h;omega
 subst e
 clear h
 rw[List.take_length]
 refine zJ (zK (zK (zL (zE (zA (zB (wP I (wP I (wP I (wP I (AG 25 I (fun h25=> ?_) (fun h25=> ?_))))))))))))
 ·refine wP I (wP I (wP I (wP I ?_)))
  have h25':decide ((tot rs:Int)>m)=true:=h25
  refine AG 29 I (fun h29=> ?_) (fun h29=> ?_)
  ·have e:grt rs m=true:=by have h':decide ((tot rs:Int)<=24)=true:=h29;unfold grt;rw[h25',h'];rfl
   iterate 2 refine Ae I I ?_
   refine wP I (wP I ?_)
   iterate 4 refine Ae I I ?_
   exact wP I (wP I (Aa (zE (zO (wR1 I I (by rw[e]))))))
  ·refine wP I (wP I (wP I (wP I ?_)))
   have h':decide ((tot rs:Int)<=24)=false:=h29
   refine AG 33 I (fun h33=> ?_) (fun h33=> ?_)
   ·have e:grt rs m=true:=by have h2:decide ((tot rs:Int)>40)=true:=h33;unfold grt;rw[h2,Bool.or_true];rfl
    iterate 4 refine Ae I I ?_
    exact wP I (wP I (Aa (zE (zO (wR1 I I (by rw[e]))))))
   ·have e:grt rs m=decide ((rs.length:Int)>40):=by have h2:decide ((tot rs:Int)>40)=false:=h33;unfold grt;rw[h',h2,Bool.and_false];rfl
    exact wP I (wB 0 I I I (wP I (wP I (wP I (wP I (Aa (zE (zO (wR1 I I (by rw[e]))))))))))
 ·have h25':decide ((tot rs:Int)>m)=false:=h25
  iterate 2 refine Ae I I ?_
  refine wP I (wP I (wP I (wP I (wP I (wP I (AG 33 I (fun h33=> ?_) (fun h33=> ?_)))))))
  ·have e:grt rs m=true:=by have h2:decide ((tot rs:Int)>40)=true:=h33;unfold grt;rw[h2,Bool.or_true];rfl
   iterate 4 refine Ae I I ?_
   exact wP I (wP I (Aa (zE (zO (wR1 I I (by rw[e]))))))
  ·have e:grt rs m=decide ((rs.length:Int)>40):=by have h2:decide ((tot rs:Int)>40)=false:=h33;unfold grt;rw[h25',h2];rfl
   exact wP I (wB 0 I I I (wP I (wP I (wP I (wP I (Aa (zE (zO (wR1 I I (by rw[e]))))))))))
theorem Nd {rs:List (List Sd)} (h:chk rs=0):(∀l∈rs,l≠[])/\tot rs<=24/\tot rs≠0:=by
 unfold chk at h
 split at h
 ·cases h
 ·rename_i h1
  split at h
  ·cases h
  ·rename_i h2
   split at h
   ·cases h
   ·rename_i h3
    refine⟨fun l hl e=>h1 (List.any_eq_true.2 ⟨l,hl,by rw[e];rfl⟩),by omega,h2⟩
theorem RK (W:World) (p:Option Addr) (cap:Nat) (rs:List (List Sd)) (hn:rs.length<4611686018427387904) (hR:Bd W p rs) (hc:chk rs=0):
  Ad Tryz.prog 121 #[BW p rs.length cap] W (fun V:Vec=> .tuple #[V.val rs.flatten.length, .int .i64 0]) (fun V=>V.OK 7 rs.flatten.length (cellsOf rs.flatten)) (fun V=>[V.bx 97 (cellsOf rs.flatten)]):=by
 obtain⟨hne,hT,_⟩:=Nd hc
 refine Ab (args:=[BW p rs.length cap]) Tryz.func121 I I I (zA (zB (wF I I fun _=>(wP I (wP I (Aa (zE (zA (zA (zB (wB 0 I I I (wC I I (fun W hp=>(Lm W p cap rs hn (by omega) (hR.hp hp)).cast (by rw[hc])) (wP I (Aa (zE (zS I (zI (zE (zA (zB (wP I (wB 0 I I I (wD (X:=Vec) I I (fun W hp=>Kt W p cap rs hn (by omega) (hR.hp hp) hne) ?_)))))))))))))))))))))))
 intro V hV
 exact wP I (wP I (Aa (zE (zO (A0 tH I (.tmp I) (.tmp I) V I hV fun W hp=>As.of_hp1 hp 1 I)))))
end
section
open Go Go.RowKit Go.Am
def AI (f:Nat->Int):Nat->Int
 |0=>0
 |k+1=>AI f k+f k
theorem BT {f g:Nat->Int}: ∀(n:Nat),(∀i,i<n->f i=g i)->AI f n=AI g n
 |0,_=>rfl
 |n+1,h=>by
  show AI f n+f n=AI g n+g n
  rw[BT n (fun i hi=>h i (by omega)),h n (by omega)]
theorem ON (f g:Nat->Int): ∀n,AI (fun i=>f i+g i) n=AI f n+AI g n
 |0=>rfl
 |n+1=>by
  show AI _ n+(f n+g n)=AI f n+f n+(AI g n+g n)
  rw[ON f g n];omega
theorem F4 (c:Int) (f:Nat->Int): ∀n,AI (fun i=>c*f i) n=c*AI f n
 |0=>by simp[AI]
 |n+1=>by
  show AI _ n+c*f n=c*(AI f n+f n)
  rw[F4 c f n,Int.mul_add]
theorem MM (g:Nat->Int): ∀n,AI (fun i=>g (i+1)) n+g 0=AI g (n+1)
 |0=>by simp[AI]
 |n+1=>by
  have ih:=MM g n
  show AI (fun i=>g (i+1)) n+g (n+1)+g 0=AI g (n+1)+g (n+1)
  omega
theorem Vl (g:Nat->Int) (n:Nat):AI (fun i=>g (nxt n i)) n=AI g n:=by
 cases n with
 |zero=>rfl
 |succ m=>
  rw[<-MM g m]
  show AI (fun i=>g (nxt (m+1) i)) m+g (nxt (m+1) m)=_
  have h0:nxt (m+1) m=0:=Nat.mod_self _
  rw[h0,BT m (fun i hi=>by rw[show nxt (m+1) i=i+1 from Nat.mod_eq_of_lt (by omega)])]
def inR (s:Sd):Prop:=0<=s.x/\s.x<=65536/\0<=s.y/\s.y<=65536
theorem Ud {s:Sd} (h:rgd s=true):inR s:=by
 unfold rgd at h
 simp only[Bool.and_eq_true,btw,decide_eq_true_eq] at h
 exact⟨h.2.1.1.1.1,h.2.1.1.1.2,h.2.1.1.2.1,h.2.1.1.2.2⟩
theorem Dh {l:List Sd} (h: ∀s∈l,inR s) {i:Nat} (hi:i<l.length):inR (sd l i):=h _ (List.mem_of_getElem? (Hk hi))
theorem DW {n i:Nat} (h:i<n):nxt n i<n:=Nat.mod_lt _ (by omega)
theorem G8 {n i:Nat} (h:i<n):prv n i<n:=Nat.mod_lt _ (by omega)
def EN (l:List Sd) (i:Nat):Int:=(sd l i).x*(sd l (nxt l.length i)).y-(sd l i).y*(sd l (nxt l.length i)).x
theorem IG {a b:Int} (ha:0<=a) (ha':a<=65536) (hb:0<=b) (hb':b<=65536):0<=a*b/\a*b<=4294967296:=by
 refine⟨Int.mul_nonneg ha hb, ?_⟩
 calc a*b<=65536*b:=Int.mul_le_mul_of_nonneg_right ha' hb
  _<=65536*65536:=Int.mul_le_mul_of_nonneg_left hb' (by decide)
  _=4294967296:=by decide
theorem OV {l:List Sd} (h: ∀s∈l,inR s): ∀k,k<=l.length->k<=1000000->CO l k=AI (EN l) k/\ -(k*4294967296:Int)<=CO l k/\CO l k<=k*4294967296
 |0,_,_=>⟨rfl,by simp[CO],by simp[CO]⟩
 |k+1,hk,hm=>by
  obtain⟨h1,h2,h3⟩:=OV h k (by omega) (by omega)
  have hs:=Dh h (show k<l.length by omega)
  have hn:=Dh h (DW (show k<l.length by omega))
  obtain⟨a1,a2⟩:=IG hs.1 hs.2.1 hn.2.2.1 hn.2.2.2
  obtain⟨b1,b2⟩:=IG hs.2.2.1 hs.2.2.2 hn.1 hn.2.1
  have e:CO l (k+1)=CO l k+EN l k:=by
   show w64 (CO l k+w64 (w64 ((sd l k).x*(sd l (nxt l.length k)).y)-w64 ((sd l k).y*(sd l (nxt l.length k)).x)))=_
   unfold EN
   rw[Ak (x:=(sd l k).x*_) (by omega) (by omega),Ak (x:=(sd l k).y*_) (by omega) (by omega),Ak (x:=_-_) (by omega) (by omega)]
   exact Ak (by omega) (by omega)
  have ec:EN l k=(sd l k).x*(sd l (nxt l.length k)).y-(sd l k).y*(sd l (nxt l.length k)).x:=rfl
  refine⟨by rw[e,h1];rfl, ?_, ?_⟩<;>rw[e,ec]<;>push_cast<;>omega
theorem IA {rs:List (List Sd)} (h:chk rs=0):(∀l∈rs, ∀s∈l,rgd s=true)/\(∀l∈rs,shp l=true)/\crs rs=false/\plc rs=true/\jnd rs=true:=by
 unfold chk at h
 split at h
 ·cases h
 split at h
 ·cases h
 split at h
 ·cases h
 split at h
 ·cases h
 rename_i h2
 split at h
 ·cases h
 rename_i h3
 split at h
 ·cases h
 rename_i h4
 split at h
 ·cases h
 rename_i h5
 refine⟨fun l hl s hs=> ?_,fun l hl=> ?_,by simpa using h4, ?_, ?_⟩
 ·cases hr:rgd s with
  |true=>rfl
  |false=>exact absurd (List.any_eq_true.2 ⟨s,List.mem_flatten.2 ⟨l,hl,hs⟩,by rw[hr];rfl⟩) h2
 ·cases hr:shp l with
  |true=>rfl
  |false=>exact absurd (List.any_eq_true.2 ⟨l,hl,by rw[hr];rfl⟩) h3
 ·cases hp:plc rs with
  |true=>rfl
  |false=>rw[hp] at h5;exact absurd rfl h5
 ·cases hp:jnd rs with
  |true=>rfl
  |false=>rw[hp] at h5;exact absurd (by simp) h5
end
section
open Go Go.RowKit Go.Am Go.Lib
set_option maxRecDepth 10000
section
variable {r:Option Nat} {n:Nat} {P:Program} {N:Nat} {D:List Deferred} {ops:List Oper} {Q:Exit->Act->World->Prop} {o:Oper} {rest:List Oper} {env:Env} {A:World->Prop}
theorem Ov {ρ:Operand->Value} {t e:TypeId} {m c:Nat} {x y:Operand} {k:IntKind} {b off:Nat} {z:Int} (ht:P.underlying t=some (.array m e)) (hs: ∀W,(Go.sizeOf e).run P W= .ok c W) (ho:o.op= .indexAddr t x y)
  (hx:ρ x= .pointer (some ⟨b,off,none⟩)) (hy:ρ y= .int k z) (h0:0<=z/\z<m) (W:World):(execOp ρ o).run P W= .ok (.value (.pointer (some ⟨b,off+z.toNat*c,none⟩))) W:=by
 simp[execOp,ho,hx,hy,Instr.indexAt,Instr.sureAddr,asIntOf,run_underlying ht,hs,h0.1,h0.2,Addr.add_none]
theorem QL {d:Nat} {t e:TypeId} {m c:Nat} {x y:Operand} {k:IntKind} {b off:Nat} {z:Int} (ht:P.underlying t=some (.array m e)) (hs: ∀W,(Go.sizeOf e).run P W= .ok c W) (hg:Ay ops N env o=some true) (hd:o.dst=some d) (ho:o.op= .indexAddr t x y)
  (hx:evO N env x=some (.pointer (some ⟨b,off,none⟩))) (hy:evO N env y=some (.int k z)) (h0:0<=z/\z<m)
  (h:WL r n P N D ops Q rest ((d, .pointer (some ⟨b,off+z.toNat*c,none⟩))::env) A):WL r n P N D ops Q (o::rest) env A:=
 CJ hg hd (fun c e=>by rw[ho] at e;cases e) (fun _ W hρ _=>Ov ht hs ho (hρ _ _ hx) (hρ _ _ hy) h0 W) h
end
def hdg (s t:Sd):Nat:=if s.x<t.x then 0 else if s.y<t.y then 1 else if t.x<s.x then 2 else 3
theorem Z3 (s t:Sd):hdg s t<4:=by
 unfold hdg
 split
 ·decide
 ·split
  ·decide
  ·split<;>decide
theorem OL (s t:Sd) (W:World):Ad Tryz.prog 134 #[s.val,t.val] W (fun _:Unit=> .int .i64 (hdg s t:Nat)) (fun _=>True) (fun _=>[]):=by
 refine Ab (args:=[s.val,t.val]) Tryz.func134 I I I (zA (zB (wF I I fun _=>(wF I I fun _=>(wP I (Aa (zE (zA (zH (zA (zB (wP I (wB 1 I I I (wP I (wB 0 I I I (wP I (wP I (Aa (zE (Ah I (fun h=> ?_) (fun h=> ?_)))))))))))))))))))))
 ·have c:s.x<t.x:=by have h:=of_decide_eq_true h;omega
  clear h
  have e:hdg s t=0:=by unfold hdg;rw[if_pos c]
  exact zA (zB (wP I (Aa (zE (zO (zQ (zP (wR1 I I (by rw[e];rfl)))))))))
 have c1: ¬s.x<t.x:=by have h:=of_decide_eq_false h;omega
 clear h
 refine zA (zB (wP I (wB 1 I I I (wP I (wB 0 I I I (wP I (wP I (Aa (zE (Ah I (fun h=> ?_) (fun h=> ?_)))))))))))
 ·have c:s.y<t.y:=by have h:=of_decide_eq_true h;omega
  clear h
  have e:hdg s t=1:=by unfold hdg;rw[if_neg c1,if_pos c]
  exact zA (zB (wP I (Aa (zE (zO (zQ (zP (wR1 I I (by rw[e];rfl)))))))))
 have c2: ¬s.y<t.y:=by have h:=of_decide_eq_false h;omega
 clear h
 refine zA (zB (wP I (wB 1 I I I (wP I (wB 0 I I I (wP I (wP I (Aa (zE (Ah I (fun h=> ?_) (fun h=> ?_)))))))))))
 ·have c:t.x<s.x:=by have h:=of_decide_eq_true h;omega
  clear h
  have e:hdg s t=2:=by unfold hdg;rw[if_neg c1,if_neg c2,if_pos c]
  exact zA (zB (wP I (Aa (zE (zO (zQ (zP (wR1 I I (by rw[e];rfl)))))))))
 have c3: ¬t.x<s.x:=by have h:=of_decide_eq_false h;omega
 clear h
 have e:hdg s t=3:=by unfold hdg;rw[if_neg c1,if_neg c2,if_neg c3]
 exact zI (zN (zE (zA (zB (wP I (Aa (zE (zO (wR1 I I (by rw[e];rfl))))))))))
def Pu (k:Nat):Bool:=k==1||k==3
def M9 (k:Nat):Int:=if k=0\/k=3 then 1 else -1
abbrev Zq:List Value:=[.bool false, .int .i64 1, .bool true, .int .i64 (-1), .bool false, .int .i64 (-1), .bool true, .int .i64 1]
def Fk (W:World):Prop:=Ai W 0 0 Zq
theorem Fk.hp {W0 W:World} {bxs:List Bx} (h:Fk W0) (hp:Hp W0 bxs W):Fk W:=Ai.hp h hp
theorem Fk.at_ {W:World} (h:Fk W) {k:Nat} (hk:k<4):Ai W 0 (0+k*2) [.bool (Pu k), .int .i64 (M9 k)]:=by
 refine⟨h.lt,fun m u hu=> ?_⟩
 have hm:m=0\/m=1:=by
  have:=(List.getElem?_eq_some_iff.1 hu).1
  have:m<2:=this
  omega
 have hk:k=0\/k=1\/k=2\/k=3:=by omega
 have hg:=h.get (k*2+m) u (by
  rcases hk with rfl|rfl|rfl|rfl<;>rcases hm with rfl|rfl<;>exact hu)
 rw[Nat.zero_add] at hg
 rw[Nat.zero_add]
 exact hg
def frO (s t:Sd):FrP:=⟨Pu (hdg s t),if Pu (hdg s t) then s.x else s.y,M9 (hdg s t),if s.gable then 0 else nrm s.run s.rise,(s.plate:Rat)⟩
theorem GV {s:Sd} (h:rgd s=true):(0<=s.x/\s.x<=65536)/\(0<=s.y/\s.y<=65536)/\(0<=s.plate/\s.plate<=65536)/\(s.gable=false->(1<=s.rise/\s.rise<=48)/\(1<=s.run/\s.run<=48)):=by
 unfold rgd btw at h
 simp only[Bool.and_eq_true,decide_eq_true_eq] at h
 obtain⟨h1,⟨⟨h2,h3⟩,h4⟩,h5⟩:=h
 refine⟨h2,h3,h4,fun e=> ?_⟩
 rw[e] at h1
 simpa using h1
theorem V5 (s t:Sd) (h:rgd s=true) (W:World) (hd:Fk W) (ht:A7 W):Ad Tryz.prog 56 #[s.val,t.val] W (fun _:Unit=>frV (frO s t)) (fun _=>True) (fun _=>[]):=by
 obtain⟨hx,hy,hp,hr⟩:=GV h
 obtain⟨k,hk⟩: ∃k,k=hdg s t:=⟨_,rfl⟩
 have hk4:k<4:=hk▸Z3 s t
 obtain⟨ax,hax⟩: ∃ax,ax=Pu k:=⟨_,rfl⟩
 obtain⟨dd,hdd⟩: ∃dd,dd=M9 k:=⟨_,rfl⟩
 have hrow: ∀ {W1:World} {bxs:List Bx},Hp W bxs W1->Ai W1 0 (0+((k:Nat):Int).toNat*2) [.bool ax, .int .i64 dd]:=fun hp1=>by
  rw[Int.toNat_natCast,hax,hdd]
  exact(hd.hp hp1).at_ hk4
 have hf:frO s t=⟨ax,if ax then s.x else s.y,dd,if s.gable then 0 else nrm s.run s.rise,(s.plate:Rat)⟩:=by unfold frO;rw[<-hk, <-hax, <-hdd]
 obtain⟨ps,hps⟩: ∃ps,ps=(if ax then s.x else s.y):=⟨_,rfl⟩
 obtain⟨sp,hsp⟩: ∃sp:Rat,sp=(if s.gable then 0 else nrm s.run s.rise):=⟨_,rfl⟩
 rw[<-hps, <-hsp] at hf
 rw[hf]
 refine Ab (args:=[s.val,t.val]) Tryz.func56 I I I (zA (zB (wF I I fun _=>(wF I I fun _=>(wG I I fun _=>(Aa ?_))))))
 rename_i b2 b3 b4
 refine zE (zA (zB (wB 0 I I I (wB 1 I I I (wC I I (fun W _=>(OL s t W).cast (by rw[<-hk])) (QL (c:=2) Tryz.underlying184 Tryz.sizeOf183 I I I I I ⟨by omega,by omega⟩ ?_))))))
 refine wL 0 I I (fun W1 hp=>hrow hp) I (wG I I fun _=>(wS 3 I I I (Aa ?_)))
 rename_i b5
 refine zE (zA (zB (wP I (wB 3 I I I (wP I (wB 0 I I I (wP I (wB 3 I I I (Ap Tryz.hZ tH I I I I I I I I ?_)))))))))
 refine wG I I fun _=>(wS 4 I I I (Aa ?_))
 rename_i b6
 refine zE (zA (zA (zB (wP I (wB 3 I I I (Aa (A6 ?_)))))))
 try refine Av ?_
 refine AA (X:=Unit) (fun _=>[(2,Af b2),(4,Af b4),(5,Af b5),(6,Af b6)]) (fun _=>[⟨b2,97,s.cells,true,none⟩,⟨b4,56,[.bool false, .int .i64 0, .int .i64 0,str [],str []],true,none⟩,⟨b6,56,[.bool ax, .int .i64 ps, .int .i64 dd,str (Ac 0),str []],true,none⟩]) (fun _=>True) ?_ ?_
 ·refine Ah I (fun h1=> ?_) (fun h1=> ?_)
  ·have e1:ax=true:=h1
   exact zB (wP I (wB 0 I I I (wP I (wS 4 I I I (Aa (IE () tO ⟨I,I,I,I,tO⟩ [0,2,4] (by decide) (by rw[hps,if_pos e1,Cv];rfl)))))))
  ·have e1:ax=false:=h1
   exact zI (IE () tO ⟨I,I,I,I,tO⟩ [0,2,4] (by decide) (by rw[hps,if_neg (by rw[e1];decide),Cv];rfl))
 intro _ _
 refine zA (zA (zB (wP I (wB 0 I I I (wP I (Aa (A6 ?_)))))))
 try refine Av ?_
 refine AA (X:=Unit) (fun _=>[(2,Af b2),(4,Af b4),(6,Af b6)]) (fun _=>[⟨b2,97,s.cells,true,none⟩,⟨b4,56,[.bool false, .int .i64 0, .int .i64 0,str [],str []],true,none⟩,⟨b6,56,[.bool ax, .int .i64 ps, .int .i64 dd,str (Ac sp),str []],true,none⟩]) (fun _=>True) ?_ ?_
 ·refine Ah I (fun h1=> ?_) (fun h1=> ?_)
  ·have e1:s.gable=false:=by simpa using h1
   obtain⟨r1,r2⟩:=hr e1
   exact zB (wP I (wB 0 I I I (wP I (wB 0 I I I (wC I I (fun W1 hp=>(EF s.run s.rise (by omega) (by omega) W1 (ht.hp hp)).cast (by rw[ofR,if_neg (by omega)])) (wP I (wP I (wP I (wP I (wS 2 I I I (Aa (IE () tO ⟨I,I,I,tO⟩ [0,1,2] (by decide) (by rw[hsp,if_neg (by rw[e1];decide)];rfl)))))))))))))
  ·have e1:s.gable=true:=by simpa using h1
   exact zI (IE () tO ⟨I,I,I,tO⟩ [0,1,2] (by decide) (by rw[hsp,if_pos e1];rfl))
 intro _ _
 exact zA (zB (wP I (wB 0 I I I (wC I I (fun W1 hp=>(EF s.plate 1 (by omega) (by decide) W1 (ht.hp hp)).cast (by rw[LY])) (wP I (wP I (wP I (wP I (wS 2 I I I (Aa (zE (zA (zB (wB 2 I I I (wS 1 I I I (Aa (zE (zO (Ax tH I (.cell 1 I I I I I) () I tO fun W _=>As.nil _ _)))))))))))))))))))
def MD (l:List Sd) (i:Nat):FrP:=frO (sd l i) (sd l (nxt l.length i))
def D6 (l:List Sd) (i:Nat):List FrP:=(List.range i).map (MD l)
def Bb (rs:List (List Sd)):Nat->List FrP
 |0=>[]
 |k+1=>Bb rs k++D6 (rg rs k) (rg rs k).length
def DV (rs:List (List Sd)):List FrP:=Bb rs rs.length
def frC (l:List FrP):List Value:=l.flatMap fun f=>(frV f).cells.toList
theorem P9 (a b:List FrP):frC (a++b)=frC a++frC b:=List.flatMap_append
theorem YY (l:List FrP):(frC l).length=l.length*5:=by
 induction l with
 |nil=>rfl
 |cons f l ih=>show((frV f).cells.toList++frC l).length=_;rw[List.length_append,ih,List.length_cons];show 5+_=_;omega
theorem Ny (l:List Sd) (i:Nat):(D6 l i).length=i:=by unfold D6;rw[List.length_map,List.length_range]
theorem Pg (l:List Sd) (i:Nat):D6 l (i+1)=D6 l i++[MD l i]:=by unfold D6;rw[List.range_succ,List.map_append];rfl
theorem If {rs:List (List Sd)}: ∀k,k<=rs.length->(Bb rs k).length=tot (rs.take k)
 |0,_=>rfl
 |k+1,h=>by
  show(Bb rs k++D6 _ _).length=_
  rw[List.length_append,If k (by omega),Ny,Bs h]
theorem Ia (rs:List (List Sd)):(DV rs).length=tot rs:=by
 unfold DV
 rw[If _ (Nat.le_refl _),List.take_length]
theorem UI {rs:List (List Sd)} {r i:Nat} (hi:i<(rg rs r).length): ∀k,r<k->k<=rs.length->(Bb rs k)[tot (rs.take r)+i]? =some (MD (rg rs r) i)
 |0,h,_=>absurd h (Nat.not_lt_zero _)
 |k+1,h,hk=>by
  have hl:=If (rs:=rs) k (by omega)
  show(Bb rs k++D6 _ _)[_]? =_
  by_cases e:r=k
  ·subst e
   rw[List.getElem?_append_right (by omega),hl,Nat.add_sub_cancel_left]
   unfold D6
   rw[List.getElem?_map,List.getElem?_range hi];rfl
  ·have ih:=UI hi k (by omega) (by omega)
   rw[List.getElem?_append_left (List.getElem?_eq_some_iff.1 ih).1]
   exact ih
theorem U4 {rs:List (List Sd)} {r i:Nat} (hr:r<rs.length) (hi:i<(rg rs r).length):(DV rs)[tot (rs.take r)+i]? =some (MD (rg rs r) i):=UI hi rs.length hr (Nat.le_refl _)
theorem Hr (W:World) (p:Option Addr) (cap:Nat) (rs:List (List Sd)) (hn:rs.length<4611686018427387904) (hR:Bd W p rs) (hc:chk rs=0) (hd:Fk W) (ht:A7 W):
  Ad Tryz.prog 15 #[BW p rs.length cap] W (fun V:Vec=> .tuple #[V.val (DV rs).length, .int .i64 0]) (fun V=>V.OK 5 (DV rs).length (frC (DV rs))) (fun V=>[V.bx 56 (frC (DV rs))]):=by
 obtain⟨hne,hT,_⟩:=Nd hc
 obtain⟨hrg,_⟩:=IA hc
 refine Ab (args:=[BW p rs.length cap]) Tryz.func15 I I I (zA (zB (wF I I fun _=>(wP I (wP I (Aa ?_))))))
 rename_i b1
 refine zE (zA (zA (zB (wB 0 I I I (wC I I (fun W1 hp=>(Lm W1 p cap rs hn (by omega) (hR.hp hp)).cast (by rw[hc])) (wP I (Aa (zE (zS I (zI (zE (zA (zB (wP I (Aa (zE (zA (zA (zB (wP I (wB 0 I I I (wP I (wP I ?_)))))))))))))))))))))))
 refine Aa (zE (zH (CI ?_)))
 refine Ar (X:=Nat×Vec) (fun s=>[(1,Af b1),(4,s.2.val (Bb rs s.1).length),(13,slv p rs.length cap),(14, .int .i64 (rs.length:Nat)),(15, .int .i64 (s.1:Nat))]) (fun s=>[⟨b1,36,[slv p rs.length cap],true,none⟩,s.2.bx 56 (frC (Bb rs s.1))])
  (fun s=>s.1<=rs.length/\s.2.OK 5 (Bb rs s.1).length (frC (Bb rs s.1))) (fun s=>rs.length-s.1) (0,Vec.empty) ⟨Nat.zero_le _,Vec.OK.empty 5⟩ ⟨rfl,rfl,rfl,rfl,rfl,trivial⟩ [] rfl ?_
 rintro⟨k,V⟩ ⟨hk,hV⟩
 have hk:k<=rs.length:=hk
 have hV:V.OK 5 (Bb rs k).length (frC (Bb rs k)):=hV
 have hl:=If k hk
 refine zA (zB (wP I ?_))
 by_cases hlt:k<rs.length
 ·refine wU 16 true I (dT (by omega)) (Aa (zE (zA (zR I (zI (zE (zA (zH (zA (zB ?_))))))))))
  obtain⟨l,hle⟩: ∃l,l=rg rs k:=⟨_,rfl⟩
  have hs:=Bs hlt
  have hs1:=Cz rs (k+1)
  obtain⟨gR,oR,hpe,hrows⟩:=hR.row hlt
  obtain⟨q,c,hrow,hring⟩:=hrows k hlt
  rw[<-hle] at hrow hring hs
  have hrl: ∀s∈l,rgd s=true:=fun s hs=>hrg l (by rw[hle];exact List.mem_of_getElem? (Bm hlt)) s hs
  have hln:l.length<=24:=by omega
  subst hpe
  refine wJ ?_
  refine wL 0 I I (fun W1 hp=>hrow.hp hp) I (wP I (Aa (zE (zA (zB (wP I (wP I (wP I (Aa (zE (zH ?_)))))))))))
  refine Ar (X:=Nat×Vec) (fun s=>[(1,Af b1),(4,s.2.val ((Bb rs k).length+s.1)),(13,slv (some ⟨gR,oR,none⟩) rs.length cap),(14, .int .i64 (rs.length:Nat)),(15, .int .i64 (k:Nat)),(6,slv q l.length c),(19,slv q l.length c),(20, .int .i64 (l.length:Nat)),(21, .int .i64 (s.1:Nat))]) (fun s=>[⟨b1,36,[slv (some ⟨gR,oR,none⟩) rs.length cap],true,none⟩,s.2.bx 56 (frC (Bb rs k++D6 l s.1))])
   (fun s=>s.1<=l.length/\s.2.OK 5 ((Bb rs k).length+s.1) (frC (Bb rs k++D6 l s.1))) (fun s=>l.length-s.1) (0,V) ⟨Nat.zero_le _,by show V.OK 5 _ (frC (Bb rs k++[]));rw[List.append_nil];exact hV⟩ ⟨rfl,rfl,rfl,rfl,rfl,rfl,rfl,rfl,rfl,trivial⟩ [] (by show _=[_,V.bx 56 (frC (Bb rs k++[]))]++[];rw[List.append_nil,List.append_nil]) ?_
  rintro⟨i,U⟩ ⟨hi,hU⟩
  have hi:i<=l.length:=hi
  have hU:U.OK 5 ((Bb rs k).length+i) (frC (Bb rs k++D6 l i)):=hU
  refine zA (zB (wP I ?_))
  by_cases hil:i<l.length
  ·refine wU 22 true I (dT (by omega)) (Aa (zE (zA (zR I (zI (zE (zA (zH (zA (zB ?_))))))))))
   obtain⟨gS,oS,hqe,hsd⟩:=hring.row hil
   have hs0:=hsd i hil
   have hs1:=hsd (nxt l.length i) (DW hil)
   have hnl:=DW hil
   have hsuc:=Pg l i
   subst hqe
   refine wP I (wJ ?_)
   refine wL 0 I I (fun W1 hp=>hs0.hp hp) I (wG I I fun _=>(wP I (wS 2 I I I (Aa ?_))))
   rename_i b8
   refine zE ?_
   refine AW (X:= { V':Vec//V'.OK 5 ((Bb rs k).length+(i+1)) (frC (Bb rs k++D6 l (i+1))) }) [true,true,true,true,true,true,true,true,true,true,true,false,false,false] (fun V'=>[(1,Af b1),(4,V'.1.val ((Bb rs k).length+(i+1))),(13,slv (some ⟨gR,oR,none⟩) rs.length cap),(14, .int .i64 (rs.length:Nat)),(15, .int .i64 (k:Nat)),(6,slv (some ⟨gS,oS,none⟩) l.length c),(19,slv (some ⟨gS,oS,none⟩) l.length c),(20, .int .i64 (l.length:Nat)),(21, .int .i64 (i:Nat))])
    (fun V'=>[⟨b1,36,[slv (some ⟨gR,oR,none⟩) rs.length cap],true,none⟩,V'.1.bx 56 (frC (Bb rs k++D6 l (i+1)))])
    3 [⟨b1,36,[slv (some ⟨gR,oR,none⟩) rs.length cap],true,none⟩,U.bx 56 (frC (Bb rs k++D6 l i)),⟨b8,97,(sd l i).cells,true,none⟩] Tryz.mixed (by kernel_rfl) ?_ ?_
   ·refine qP I (qB 2 I I I (qP I (qP I (qP I (qV 30 ((i+1:Nat):Int) I (Aw (by omega)) (qP I (qP I (DB I I I I I (by omega) ?_))))))))
    refine qV 33 (nxt l.length i:Nat) I (by rw[Int.tmod_eq_emod_of_nonneg (by omega)];exact(Int.natCast_emod _ _).symm) (qJ ?_)
    refine qL 0 I I (fun W1 hp=>hs1.hp hp) I (qC I I (fun W1 hp=>V5 (sd l i) (sd l (nxt l.length i)) (hrl _ (List.mem_of_getElem? (Hk hil))) W1 (hd.hp hp) (ht.hp hp)) (BU (wX (wZ (Ao Tryz.hZ tH I I I I I I I I I I I fun bN=> ?_)))))
    refine Aa (Ag (wX (wZ ?_)))
    refine AK (V:=U) (len:=(Bb rs k).length+i) (xs:=frC (Bb rs k++D6 l i)) 1 3 Tryz.vec48 ((Bb rs k).length+(i+1)) (frC (Bb rs k++D6 l (i+1))) rfl rfl rfl rfl rfl rfl rfl rfl rfl rfl rfl hU rfl rfl rfl (by rw[hsuc, <-List.append_assoc,P9 (Bb rs k++D6 l i)];rfl) (by simp only[maxLen];omega) (by omega) rfl ?_;intro gV cV jV hV1
    refine Aa (Ag (wY (wZ (wP I (Aa (Ag (AT I (by kernel_rfl) ?_)))))))
    exact A4 ⟨⟨some gV,cV,jV⟩,hV1⟩ ⟨I,I,I,I,I,I,I,I,I,tO⟩ [0,1] (by decide) I
   intro V'
   exact zN (zE (zB (wP I (wV 39 ((i+1:Nat):Int) I (Aw (by omega)) (wP I (Aa (Aj (i+1,V'.1) ⟨hil,V'.2⟩ (by show l.length-(i+1)<l.length-i;omega) ⟨I,I,I,I,I,I,I,I,I,tO⟩ [] I)))))))
  have e:i=l.length:=by omega
  subst e
  refine wU 22 false I (dF (by omega)) (Aa (zE (zA (zS I (zJ (zK (zK (zL (zN (zE (zB ?_)))))))))))
  have hall:Bb rs (k+1)=Bb rs k++D6 l l.length:=by rw[hle];rfl
  have hall2:(Bb rs (k+1)).length=(Bb rs k).length+l.length:=by rw[hall,List.length_append,Ny]
  exact wP I (wV 40 ((k+1:Nat):Int) I (Aw (by omega)) (wP I (Aa (Aj (k+1,U) ⟨hlt,by show U.OK 5 (Bb rs (k+1)).length (frC (Bb rs (k+1)));rw[hall2,hall];exact hU⟩ (by show rs.length-(k+1)<rs.length-k;omega) ⟨I,by show some (U.val _)=some (U.val (Bb rs (k+1)).length);rw[hall2],I,I,I,tO⟩ [] (by show _=[_,U.bx 56 (frC (Bb rs (k+1)))]++[];rw[hall];rfl)))))
 have e:k=rs.length:=by omega
 subst e
 exact wU 16 false I (dF (by omega)) (Aa (zE (zA (zS I (zJ (zK (zK (zL (zE (zA (zB (wP I (wP I (wP I (Aa (zE (zO (A0 tH I (.tmp I) (.tmp I) V I hV fun W1 hp=>As.of_hp (hp.pick (l:=[V.bx 56 (frC (Bb rs rs.length))]) [1] (by decide) I)))))))))))))))))))
theorem DL {q:Rat} {n:Nat} (h:(Ac q).length<=n) (hn:1<=n):szQ q n:=by
 have hi:(itoa q.num).length<=n/\(decDigits q.den).length<=n:=by
  unfold Ac Gt at h
  split at h
  ·rename_i e
   exact⟨h,by rw[e];exact Nat.le_trans (Cp 1 1 (by decide) (by decide)) hn⟩
  ·rw[List.length_append,List.length_cons] at h
   omega
 have h2:(decDigits q.num.natAbs).length<=n:=by
  have h1:=hi.1
  unfold itoa at h1
  split at h1
  ·exact Nat.le_of_succ_le h1
  ·rwa [show q.num.toNat=q.num.natAbs by omega] at h1
 exact⟨Nat.lt_of_lt_of_le (EP _) (Nat.pow_le_pow_right (by decide) h2),Nat.lt_of_lt_of_le (EP _) (Nat.pow_le_pow_right (by decide) hi.2)⟩
theorem DF {a:List UInt8} (h:(rdR a).2=0): ∃q,okQ q/\a=Ac q:=by
 unfold rdR at h
 cases hf:frm a with
 |none=>rw[hf] at h;exact absurd h (by decide)
 |some x=>
  obtain⟨z,d⟩:=x
  rw[hf] at h
  simp only at h
  by_cases h1:z.natAbs<Bi/\d<Bi
  ·rw[if_pos h1] at h
   by_cases h2:Nat.gcd z.natAbs d=1
   ·obtain⟨h3,h4⟩:=MP hf
    exact⟨⟨z,d,by omega,h2⟩,⟨h1.1,by unfold okN;rw[Int.natAbs_natCast];exact h1.2⟩,h4⟩
   ·rw[if_neg h2] at h;exact absurd h (by decide)
  ·rw[if_neg h1] at h;exact absurd h (by decide)
theorem BF (p q:Rat) (h:Sz2 p q) (W:World) (hv:AE W) (ht:A7 W):
  Ad Tryz.prog 82 #[str (Ac p),str (Ac q)] W (fun _:Unit=> .int .i64 (CU p q)) (fun _=>True) (fun _=>[]):=by
 refine Ab (args:=[str (Ac p),str (Ac q)]) Tryz.func82 I I I (zA (zB (wP I (Aa (zE (zA (zB (wP I (wP I (wC I I (fun W hp=>(E6 p q h W (hv.hp hp) (ht.hp hp)).cast (by rw[Mp])) (wP I (wP I (wP I (wP I (wP I (Aa (zE (zA (zB (wP I (wP I (Aa (zE ?_)))))))))))))))))))))))
 exact zO (wR1 I I I)
theorem Ox (q:Rat) (h:szQ q 12) (W:World) (hv:AE W) (ht:A7 W):
  Ad Tryz.prog 186 #[str (Ac q)] W (fun _:Unit=> .int .i64 0) (fun _=>True) (fun _=>[]):=by
 have hk:=h.ok (by decide)
 have l1:=Cp 12 q.num.natAbs (by decide) h.1
 have l2:=Cp 12 q.den (by decide) h.2
 refine Ab (args:=[str (Ac q)]) Tryz.func186 I I I (zA (zB (wP I (Aa (zE (zA (zB (wP I (wC I I (fun W hp=>Et q hk W (hv.hp hp) (ht.hp hp)) (wP I (wP I (wP I (wP I (wP I (wP I (wP I (Aa (zE (zA (zA (zB (wP I (wP I ?_)))))))))))))))))))))))
 refine Aa (zE (zS I (zI (zE (zA (zA (zB (wP I (wC I I (fun W _=>(BA (itoa q.num) [45] W).cast (by rw[AV])) (wP I (Al 17 (.int .i64 ((decDigits q.num.natAbs).length:Nat)) I (congrArg (fun n:Nat=>Value.int .i64 (n:Int)) (A3 _)) (wP I (wU 18 false I (dF (by omega)) (wP I (wP I (wP I (Al 21 (.int .i64 ((decDigits q.den).length:Nat)) I (congrArg (fun n:Nat=>Value.int .i64 (n:Int)) ((A3 _).trans (by rw[Fh]))) (wP I (wU 22 false I (dF (by omega)) (wP I (Aa (zE (zS I ?_)))))))))))))))))))))))
 exact zI (zE (zA (zB (wP I (Aa (zE (zO (wR1 I I I))))))))
def ner:List (List UInt8)->Int
 |[]=>0
 |a::l=>if (rdR a).2=0 then ner l else(rdR a).2
theorem S6 {l:List (List UInt8)} {i:Nat} (h:i<l.length):ner (l.drop i)=if (rdR l[i]).2=0 then ner (l.drop (i+1)) else(rdR l[i]).2:=by
 rw[List.drop_eq_getElem_cons h];rfl
theorem FU: ∀ {l:List (List UInt8)},ner l=0-> ∀a∈l,(rdR a).2=0
 |[],_,_,h=>by cases h
 |b::l,h,a,ha=>by
  unfold ner at h
  by_cases hb:(rdR b).2=0
  ·rw[if_pos hb] at h
   rcases List.mem_cons.1 ha with rfl|ha
   ·exact hb
   ·exact FU h a ha
  ·rw[if_neg hb] at h
   exact absurd h hb
theorem I6 (W:World) (p:Option Addr) (cap:Nat) (l:List (List UInt8)) (hA:EA W p l) (hn:l.length<=100000) (hs: ∀a∈l,a.length<=12) (hv:AE W) (ht:A7 W):
  Ad Tryz.prog 114 #[slv p l.length cap] W (fun _:Unit=> .int .i64 (ner l)) (fun _=>True) (fun _=>[]):=by
 refine Ab (args:=[slv p l.length cap]) Tryz.func114 I I I (zA (zB (wP I (Aa (zE (zA (zA (zB (wP I (wP I (wP I (Aa (zE (zH (Ar (X:=Nat) (fun i=>[(0,slv p l.length cap),(2, .int .i64 0),(9,slv p l.length cap),(10, .int .i64 (l.length:Nat)),(11, .int .i64 (i:Nat))]) (fun _=>[]) (fun i=>i<=l.length/\ner l=ner (l.drop i)) (fun i=>l.length-i) 0 ⟨Nat.zero_le _,I⟩ ⟨I,I,I,I,I,tO⟩ [] I ?_)))))))))))))))
 rintro i ⟨hi,he⟩
 have hi:i<=l.length:=hi
 have he:ner l=ner (l.drop i):=he
 refine zA (zB (wP I ?_))
 by_cases hlt:i<l.length
 ·refine wU 12 true I (dT (by omega)) (Aa (zE (zA (zR I (zI (zE (zA (zH (zA (zB ?_))))))))))
  obtain⟨b,off,rfl,hrow⟩:=hA.row hlt
  have hr:=hrow i hlt
  have hz:=hs l[i] (List.getElem_mem _)
  rw[S6 hlt] at he
  obtain⟨x,hx⟩: ∃x,x=l[i]:=⟨_,rfl⟩
  rw[<-hx] at hr hz he
  refine wJ ?_
  refine wL 0 I I (fun W1 hp=>hr.hp hp) I (wP I (Aa (zE (zA (zB (wP I (wC I I (fun W1 hp=>Bz x (by omega) W1 (hv.hp hp) (ht.hp hp)) (wP I (Aa (zE (zA (zB (wP I (wP I ?_))))))))))))))
  by_cases h1:(rdR x).2=0
  rotate_left
  ·refine wU 18 true I (bne_iff_ne.2 h1) (Aa (zE (zR I (zA (zB (wP I (wP I (Aa (zE (zO (zQ (zP (zP (zQ (zP ?_)))))))))))))))
   rw[if_neg h1] at he
   exact wR1 I I (by rw[he])
  rw[if_pos h1] at he
  exact wU 18 false I (bne_eq_false_iff_eq.2 h1) (Aa (zE (zS I (zI (zN (zE (zB (wP I (wV 20 ((i+1:Nat):Int) I (Aw (by omega)) (wP I (Aa (Aj (i+1) ⟨hlt,he⟩ (by show l.length-(i+1)<l.length-i;omega) ⟨I,I,I,I,I,tO⟩ [] I))))))))))))
 refine wU 12 false I (dF (by omega)) (Aa (zE (zA (zS I (zJ (zK (zK (zL (zE (zA (zA (zB ?_))))))))))))
 rw[List.drop_of_length_le (by omega)] at he
 have hall:=FU he
 refine wP I (wP I (wP I (Aa (zE (zH (Ar (X:=Nat) (fun i=>[(2, .int .i64 0),(21,slv p l.length cap),(22, .int .i64 (l.length:Nat)),(23, .int .i64 (i:Nat))]) (fun _=>[]) (fun i=>i<=l.length) (fun i=>l.length-i) 0 (Nat.zero_le _) ⟨I,I,I,I,tO⟩ [] I ?_))))))
 intro i hi
 have hi:i<=l.length:=hi
 refine zA (zB (wP I ?_))
 by_cases hlt:i<l.length
 ·refine wU 24 true I (dT (by omega)) (Aa (zE (zA (zR I (zI (zE (zA (zH (zA (zB ?_))))))))))
  obtain⟨b,off,rfl,hrow⟩:=hA.row hlt
  have hr:=hrow i hlt
  obtain⟨q,_,hx⟩:=DF (hall l[i] (List.getElem_mem _))
  have hz:=DL (q:=q) (by rw[<-hx];exact hs l[i] (List.getElem_mem _)) (by decide)
  rw[hx] at hr
  refine wJ ?_
  refine wL 0 I I (fun W1 hp=>hr.hp hp) I (wP I (Aa (zE (zA (zB (wP I (wC I I (fun W1 hp=>Ox q hz W1 (hv.hp hp) (ht.hp hp)) (wP I (Aa (zE (zA (zB (wP I (wP I (Aa (zE (zS I (zI (zN (zE (zB (wP I (wV 32 ((i+1:Nat):Int) I (Aw (by omega)) ?_)))))))))))))))))))))))
  exact wP I (Aa (Aj (i+1) hlt (by show l.length-(i+1)<l.length-i;omega) ⟨I,I,I,I,tO⟩ [] I))
 exact wU 24 false I (dF (by omega)) (Aa (zE (zA (zS I (zJ (zK (zK (zL (zE (zA (zB (wP I (Aa (zE (zO (wR1 I I (by rw[he];rfl)))))))))))))))))
def LJ (a b:Int):Bool:=decide (1<=a/\a<=48/\1<=b/\b<=48)
theorem Ku (a b:Int) (W:World):
  Ad Tryz.prog 122 #[.int .i64 a, .int .i64 b] W (fun _:Unit=> .bool (LJ a b)) (fun _=>True) (fun _=>[]):=by
 refine Ab (args:=[.int .i64 a, .int .i64 b]) Tryz.func122 I I I (zA (zB (wP I (Aa (zE (zA (zB (wP I (wP I ?_)))))))))
 by_cases h1:1<=a
 rotate_left
 ·refine wU 6 false I (dF (by omega)) (wP I ?_)
  iterate 2 refine Ae I I ?_
  refine wP I (wP I ?_)
  iterate 2 refine Ae I I ?_
  refine wP I (wP I ?_)
  iterate 2 refine Ae I I ?_
  exact wP I (wP I (Aa (zE (zO (wR1 I I (congrArg Value.bool (dF (by omega)).symm))))))
 refine wU 6 true I (dT (by omega)) (wP I (wP I (wP I ?_)))
 by_cases h2:a<=48
 rotate_left
 ·refine wU 9 false I (dF (by omega)) (wP I (wP I ?_))
  iterate 2 refine Ae I I ?_
  refine wP I (wP I ?_)
  iterate 2 refine Ae I I ?_
  exact wP I (wP I (Aa (zE (zO (wR1 I I (congrArg Value.bool (dF (by omega)).symm))))))
 refine wU 9 true I (dT (by omega)) (wP I (wP I (wP I (wP I ?_))))
 by_cases h3:1<=b
 rotate_left
 ·refine wU 13 false I (dF (by omega)) (wP I (wP I ?_))
  iterate 2 refine Ae I I ?_
  exact wP I (wP I (Aa (zE (zO (wR1 I I (congrArg Value.bool (dF (by omega)).symm))))))
 refine wU 13 true I (dT (by omega)) (wP I (wP I (wP I (wP I ?_))))
 by_cases h4:b<=48
 rotate_left
 ·exact wU 17 false I (dF (by omega)) (wP I (wP I (Aa (zE (zO (wR1 I I (congrArg Value.bool (dF (by omega)).symm)))))))
 exact wU 17 true I (dT (by omega)) (wP I (wP I (Aa (zE (zO (wR1 I I (congrArg Value.bool (dT ⟨h1,h2,h3,h4⟩).symm)))))))
abbrev dmS (s:Int) (x h e:List UInt8) (a b:Int):Value:= .agg #[.int .i64 s,str x,str h,str e, .int .i64 a, .int .i64 b]
abbrev GC (s:Int) (l r lo hi:List UInt8):Value:= .agg #[.int .i64 s,str l,str r,str lo,str hi]
theorem F8 {a b:Int} (ha:1<=a/\a<=48) (hb:1<=b/\b<=48):szQ (nrm a b) 2:=H4 a (by omega) (by show a.natAbs<100;omega) (by show b.natAbs<100;omega)
theorem PQ (s a b:Int) (x:List UInt8) (h e:Rat) (ha:1<=a/\a<=48) (hb:1<=b/\b<=48) (zh:szQ h 8) (ze:szQ e 8) (W:World) (hv:AE W) (ht:A7 W):
  Ad Tryz.prog 54 #[dmS s x (Ac h) (Ac e) a b] W (fun _:Unit=> .tuple #[str (Ac (e+h*nrm a b)), .int .i64 0]) (fun _=>True) (fun _=>[]):=by
 have z1:=F8 ha hb
 have z2:=zh.mul z1
 refine Ab (args:=[dmS s x (Ac h) (Ac e) a b]) Tryz.func54 I I I (zA (zB (wF I I fun _=>(wP I (wP I (Aa (zE (zA (zB (wP I (wB 0 I I I (wP I (wB 0 I I I (wC I I (fun W hp=>(EF a b (by omega) (by omega) W (ht.hp hp)).cast (by rw[ofR,if_neg (by omega)])) (wP I (wP I (wP I (wP I (wP I (Aa (zE (zA (zA ?_)))))))))))))))))))))))
 refine zB (wP I (wP I (Aa (zE (zS I (zI (zE (zA (zB (wP I (wB 0 I I I (wP I (wC I I (fun W hp=>Cq h (nrm a b) (sz2 zh z1 (by decide)) W (hv.hp hp) (ht.hp hp)) (wP I (wP I (wP I (wP I (wP I (Aa (zE (zA (zA (zB ?_)))))))))))))))))))))))
 exact wP I (wP I (Aa (zE (zS I (zI (zE (zA (zB (wP I (wB 0 I I I (wP I (wC I I (fun W hp=>Ca e (h*nrm a b) (sz2 ze z2 (by decide)) W (hv.hp hp) (ht.hp hp)) (wP I (wP I (wP I (wP I (Aa (zE (zO (wR2 I I I))))))))))))))))))))
theorem Rm (f:FrP) (z:Rat) (zs:szQ f.sp 2) (zt:szQ f.st 5) (zz:szQ z 19) (W:World) (hv:AE W) (ht:A7 W):
  Ad Tryz.prog 81 #[frV f,str (Ac z)] W (fun _:Unit=> .tuple #[str (Ac ((z-f.st)*f.sp)), .int .i64 0]) (fun _=>True) (fun _=>[]):=by
 have z2:=zz.sub zt
 refine Ab (args:=[frV f,str (Ac z)]) Tryz.func81 I I I (zA (zB (wF I I fun _=>(wP I (wP I (Aa (zE (zA (zB (wP I (wP I (wB 0 I I I (wC I I (fun W hp=>BM z f.st (sz2 zz zt (by decide)) W (hv.hp hp) (ht.hp hp)) (wP I (wP I (wP I (wP I (wP I (Aa (zE (zA (zA (zB ?_)))))))))))))))))))))))
 exact wP I (wP I (Aa (zE (zS I (zI (zE (zA (zB (wP I (wP I (wB 0 I I I (wC I I (fun W hp=>Cq (z-f.st) f.sp (sz2 z2 zs (by decide)) W (hv.hp hp) (ht.hp hp)) (wP I (wP I (wP I (wP I (Aa (zE (zO (wR2 I I I))))))))))))))))))))
theorem Ok (s a b:Int) (e:List UInt8) (x h:Rat) (zx:szQ x 8) (zh:szQ h 8) (W:World) (hv:AE W) (ht:A7 W):
  Ad Tryz.prog 52 #[dmS s (Ac x) (Ac h) e a b] W (fun _:Unit=> .tuple #[str (Ac (x-h)),str (Ac (x+h)), .int .i64 0]) (fun _=>True) (fun _=>[]):=by
 have z1:=sz2 zx zh (by decide)
 refine Ab (args:=[dmS s (Ac x) (Ac h) e a b]) Tryz.func52 I I I (zA (zB (wF I I fun _=>(wP I (wP I (wP I (Aa (zE (zA (zB (wP I (wB 0 I I I (wP I (wB 0 I I I (wC I I (fun W hp=>BM x h z1 W (hv.hp hp) (ht.hp hp)) (wP I (wP I (wP I (wP I (wP I (Aa (zE (zA (zA ?_))))))))))))))))))))))))
 refine zB (wP I (wP I (Aa (zE (zS I (zI (zE (zA (zB (wP I (wB 0 I I I (wP I (wB 0 I I I (wC I I (fun W hp=>Ca x h z1 W (hv.hp hp) (ht.hp hp)) (wP I (wP I (wP I (wP I (wP I (Aa (zE (zA (zB ?_)))))))))))))))))))))))
 exact wP I (wP I (wP I (wP I (wP I (wP I (Aa (zE (zO (wR3 I I I)))))))))
theorem IS (s:Int) (l r lo hi:Rat) (zl:szQ l 8) (zr:szQ r 8) (zo:szQ lo 8) (zi:szQ hi 8) (W:World) (hv:AE W) (ht:A7 W):
  Ad Tryz.prog 104 #[GC s (Ac l) (Ac r) (Ac lo) (Ac hi)] W (fun _:Unit=> .tuple #[str (Ac ((r-l)*(hi-lo))), .int .i64 0]) (fun _=>True) (fun _=>[]):=by
 refine Ab (args:=[GC s (Ac l) (Ac r) (Ac lo) (Ac hi)]) Tryz.func104 I I I (zA (zB (wF I I fun _=>(wP I (wP I (Aa (zE (zA (zB (wP I (wB 0 I I I (wP I (wB 0 I I I (wC I I (fun W hp=>BM r l (sz2 zr zl (by decide)) W (hv.hp hp) (ht.hp hp)) (wP I (wP I (wP I (wP I (wP I (Aa (zE (zA (zA ?_)))))))))))))))))))))))
 refine zB (wP I (wP I (Aa (zE (zS I (zI (zE (zA (zB (wP I (wB 0 I I I (wP I (wB 0 I I I (wC I I (fun W hp=>BM hi lo (sz2 zi zo (by decide)) W (hv.hp hp) (ht.hp hp)) (wP I (wP I (wP I (wP I (wP I (Aa (zE (zA (zA ?_)))))))))))))))))))))))
 exact zB (wP I (wP I (Aa (zE (zS I (zI (zE (zA (zB (wP I (wP I (wC I I (fun W hp=>Cq (r-l) (hi-lo) (sz2 (zr.sub zl) (zi.sub zo) (by decide)) W (hv.hp hp) (ht.hp hp)) (wP I (wP I (wP I (wP I (Aa (zE (zO (wR2 I I I))))))))))))))))))))
theorem szo:szQ (0:Rat) 1:=Ge (z:=0) (by decide) (by decide)
theorem cN {a b c x y:Rat} {i j k m n:Nat} (ha:szQ a i) (hb:szQ b j) (hc:szQ c k) (hx:szQ x m) (hy:szQ y n) (hk:i+m+(j+n)+k+10<=300):HtZ a b c x y:=by
 have p1:=ha.mul hx
 have p2:=hb.mul hy
 refine⟨sz2 ha hx (by omega),sz2 hb hy (by omega),fun q hq=> ?_,fun l hl=> ?_⟩
 ·rcases List.mem_cons.1 hq with rfl|hq
  ·exact p1.ok (by omega)
  ·rcases List.mem_cons.1 hq with rfl|hq
   ·exact p2.ok (by omega)
   ·obtain rfl:=List.mem_singleton.1 hq
    exact hc.ok (by omega)
 ·have s1:=szo.add p1
  have s2:=s1.add p2
  have hl3:l<3:=hl
  have hc3:l=0\/l=1\/l=2:=by omega
  rcases hc3 with rfl|rfl|rfl
  ·exact sz2 szo p1 (by omega)
  ·exact sz2 s1 p2 (by omega)
  ·exact sz2 s2 hc (by omega)
def FrP.off (f:FrP) (d:Rat):Rat:=(f.pos:Rat)+(f.hd:Rat)*d
def FrP.px (f:FrP) (u d:Rat):Rat:=if f.ax then f.off d else u
def FrP.py (f:FrP) (u d:Rat):Rat:=if f.ax then u else f.off d
def FrP.pz (f:FrP) (d:Rat):Rat:=f.st+d/f.sp
def FrP.spot (f:FrP) (u d:Rat):Value:= .agg #[str (Ac (f.px u d)),str (Ac (f.py u d)),str (Ac (f.pz d))]
structure FrP.Go (f:FrP):Prop where
 ok:f.OK
 sp:szQ f.sp 2
 st:szQ f.st 5
 h0:f.sp≠0
theorem FrP.Go.offz {f:FrP} (h:f.Go) {d:Rat} (zd:szQ d 27):szQ (f.off d) 34:=h.ok.posz.add (h.ok.hdz.mul zd)
theorem FrP.Go.sum {f:FrP} (h:f.Go) (u d:Rat):0+(if f.ax then f.slope else 0)*f.px u d+(if f.ax then 0 else f.slope)*f.py u d+f.base=f.pz d:=by
 have h0:=h.h0
 unfold FrP.px FrP.py FrP.pz FrP.base FrP.slope FrP.off
 rcases h.ok.hd2 with e|e<;>rw[e]<;>cases f.ax<;>simp only[Bool.false_eq_true,if_false,if_true]<;>grind
theorem ZF {f:FrP} (h:f.OK) (d:Rat):(if f.hd<0 then(f.pos:Rat)-d else(f.pos:Rat)+d)=f.off d:=by
 unfold FrP.off
 rcases h.hd with e|e
 ·rw[if_neg (by omega),e];grind
 ·rw[if_pos (by omega),e];grind
theorem LA (f:FrP) (h:f.Go) (u d:Rat) (zu:szQ u 17) (zd:szQ d 27) (W:World) (hv:AE W) (ht:A7 W):
  Ad Tryz.prog 123 #[frV f,str (Ac u),str (Ac d)] W (fun _:Unit=> .tuple #[f.spot u d, .int .i64 0]) (fun _=>True) (fun _=>[]):=by
 have zo:=h.offz zd
 have zsl:szQ f.slope 3:=h.ok.hdz.div h.sp (NQ h.h0)
 have zba:szQ f.base 14:=h.st.sub (zsl.mul h.ok.posz)
 have zx:szQ (f.px u d) 34:=by unfold FrP.px;split;exact zo;exact zu.mono (by decide)
 have zy:szQ (f.py u d) 34:=by unfold FrP.py;split;exact zu.mono (by decide);exact zo
 obtain⟨A,hA⟩: ∃A:Rat,A=if f.ax then f.slope else 0:=⟨_,rfl⟩
 obtain⟨B,hB⟩: ∃B:Rat,B=if f.ax then 0 else f.slope:=⟨_,rfl⟩
 have kA:szQ A 3:=by rw[hA];split;exact zsl;exact szo.mono (by decide)
 have kB:szQ B 3:=by rw[hB];split;exact szo.mono (by decide);exact zsl
 have hsum:0+A*f.px u d+B*f.py u d+f.base=f.pz d:=by rw[hA,hB];exact h.sum u d
 have hplane:f.plane= .tuple #[plV A B f.base, .int .i64 0]:=by
  rw[FrP.plane,if_neg (NQ h.h0),hA,hB]
  cases f.ax
  ·simp only[Bool.false_eq_true,if_false,plV,Cv]
  ·simp only[if_true,plV,Cv]
 have z1:=sz2 h.ok.posz zd (by decide)
 refine Ab (args:=[frV f,str (Ac u),str (Ac d)]) Tryz.func123 I I I (zA (zB (wF I I fun _=>(wG I I fun _=>(wP I (Aa ?_))))))
 rename_i b3 b6
 refine zE (zA (zB (wP I (wB 0 I I I (wC I I (fun W hp=>(EF f.pos 1 h.ok.pos64 (by decide) W (ht.hp hp)).cast (by rw[LY])) (wP I (wP I (wP I (wP I (wP I (Aa (zE (zA (zA (zB (wP I (wP I (Aa (zE (zS I (zI (zE (zA ?_)))))))))))))))))))))))
 refine zB (wP I (Aa (zE (zA (zA (zB (wP I (wB 0 I I I (wP I (Aa ?_))))))))))
 obtain⟨g,hg⟩: ∃g:Nat,g=if f.hd<0 then 21 else 19:=⟨_,rfl⟩
 refine A6 ?_
 try refine Av ?_
 refine AA (X:=Unit) (fun _=>[(1,str (Ac u)),(2,str (Ac d)),(3,Af b3),(6,Af b6),(7, .int .i64 0),(8,str (Ac (f.pos:Rat))),(10, .func (.func g) #[] #[])]) (fun _=>[⟨b3,56,(frV f).cells.toList,true,none⟩,⟨b6,45,[str [],str [],str []],true,none⟩]) (fun _=>True) ?_ ?_
 ·refine Ah I (fun hn=> ?_) (fun hn=> ?_)
  ·have hn:f.hd<0:=of_decide_eq_true hn
   rw[if_pos hn] at hg
   exact zB (wP I (Aa (An () tO ⟨I,I,I,I,I,I,by rw[hg];rfl,tO⟩ [] I)))
  ·have hn: ¬f.hd<0:=of_decide_eq_false hn
   rw[if_neg hn] at hg
   exact zI (An () tO ⟨I,I,I,I,I,I,by rw[hg];rfl,tO⟩ [] I)
 intro _ _
 refine zA (zB ?_)
 have hE:AO Tryz.prog g=true:=by rw[hg];split<;>kernel_rfl
 refine wP I (wP I (wP I ?_))
 refine Bp (g:=g) (capt:=[]) I I I I I I hE (fun W hp=>(show Ad Tryz.prog g #[str (Ac (f.pos:Rat)),str (Ac d)] W (fun _:Unit=> .tuple #[str (Ac (f.off d)), .int .i64 0]) (fun _=>True) (fun _=>[]) by
  rw[hg, <-ZF h.ok]
  split
  ·exact BM (f.pos:Rat) d z1 W (hv.hp hp) (ht.hp hp)
  ·exact Ca (f.pos:Rat) d z1 W (hv.hp hp) (ht.hp hp))) ?_
 refine wP I (wP I (wP I (wP I (wP I (Aa (zE (zA (zA (zB (wP I (wP I (Aa (zE (zS I (zI (zE (zA (zB (wP I (wP I (Ap Tryz.hZ tH I I I I I I I I ?_)))))))))))))))))))))
 refine wG I I fun _=>(wS 2 I I I (Aa ?_))
 rename_i b12
 refine zE (zA (zA (zB (wP I (wB 0 I I I (Aa (A6 ?_)))))))
 try refine Av ?_
 refine AA (X:=Unit) (fun _=>[(3,Af b3),(6,Af b6),(7, .int .i64 0),(12,Af b12)]) (fun _=>[⟨b3,56,(frV f).cells.toList,true,none⟩,⟨b6,45,[str [],str [],str []],true,none⟩,⟨b12,62,[str (Ac (f.px u d)),str (Ac (f.py u d))],true,none⟩]) (fun _=>True) ?_ ?_
 ·refine Ah I (fun hax=> ?_) (fun hax=> ?_)
  ·have hax:f.ax=true:=hax
   refine zB (wP I (wP I (Ap Tryz.hZ tH I I I I I I I I ?_)))
   exact wS 2 I I I (Aa (An () tO ⟨I,I,I,I,tO⟩ [] (by rw[FrP.px,FrP.py,if_pos hax,if_pos hax];rfl)))
  ·have hax:f.ax=false:=hax
   exact zI (An () tO ⟨I,I,I,I,tO⟩ [] (by rw[FrP.px,FrP.py,hax];rfl))
 intro _ _
 refine zA (zA (zB (wP I (wB 0 I I I (wP I (wU 49 false I ((AS _ _).trans ((Ry f.sp).trans (dF h.h0))) (Aa (zE (zS I (zI (zE (zA (zB (wB 0 I I I (wC I I (fun W hp=>(PS f h.ok W (hv.hp hp) (ht.hp hp)).cast hplane) (wP I (wP I (wP I (wG I I fun _=>(wS 3 I I I (wP I (Aa (zE ?_)))))))))))))))))))))))
 refine zA (zA (zB (wP I (wP I (Aa (zE (zS I (zI (zE (zA (zB (wB 3 I I I (wB 2 I I I (wC I I (fun W hp=>(Ob A B f.base (f.px u d) (f.py u d) (kA.mono (by decide)) (kB.mono (by decide)) (zba.mono (by decide)) (zx.mono (by decide)) (zy.mono (by decide)) (cN kA kB zba zx zy (by decide)) W (hv.hp hp) (ht.hp hp)).cast (by rw[hsum])) (wP I (wP I (wP I (wP I (wP I (Aa (zE (zA (zB ?_)))))))))))))))))))))))
 refine wP I (wB 2 I I I (wP I (wB 2 I I I (wP I (Ap Tryz.hZ tH I I I I I I I I ?_)))))
 exact wP I (wS 1 I I I (wP I (Aa (zE (zO (A0 tH I (.cell 1 I I I I I) (.tmp I) () I tO fun W _=>As.nil _ _))))))
theorem KP (f:FrP) (h:f.Go) (u z:Rat) (zu:szQ u 17) (zz:szQ z 19) (W:World) (hv:AE W) (ht:A7 W):
  Ad Tryz.prog 53 #[frV f,str (Ac u),str (Ac z)] W (fun _:Unit=> .tuple #[f.spot u ((z-f.st)*f.sp), .int .i64 0]) (fun _=>True) (fun _=>[]):=by
 have zd:szQ ((z-f.st)*f.sp) 27:=(zz.sub h.st).mul h.sp
 refine Ab (args:=[frV f,str (Ac u),str (Ac z)]) Tryz.func53 I I I (zA (zB (wF I I fun _=>(wG I I fun _=>(wP I (Aa (zE (zA (zB (wB 0 I I I (wP I (wC I I (fun W hp=>Rm f z h.sp h.st zz W (hv.hp hp) (ht.hp hp)) (wP I (wP I (wP I (wP I (wP I (Aa (zE (zA (zA (zB (wP I (wP I ?_))))))))))))))))))))))))
 exact Aa (zE (zS I (zI (zE (zA (zB (wB 0 I I I (wP I (wP I (wC I I (fun W hp=>LA f h u ((z-f.st)*f.sp) zu zd W (hv.hp hp) (ht.hp hp)) (wP I (wP I (wS 1 I I I (wP I (Aa (zE (zO (A0 tH I (.cell 1 I I I I I) (.tmp I) () I tO fun W _=>As.nil _ _))))))))))))))))))
end
section
open Go Go.RowKit Go.Am
theorem OZ {n:Nat} {f g:Nat->Bool} (h: ∀i,i<n->f i=g i):(List.range n).all f=(List.range n).all g:=by
 rw[Bool.eq_iff_iff,List.all_eq_true,List.all_eq_true]
 constructor<;>intro h1 i hi
 ·rw[<-h i (List.mem_range.1 hi)];exact h1 i hi
 ·rw[h i (List.mem_range.1 hi)];exact h1 i hi
def VJ (rs:List (List Sd)):Prop:= ∀l∈rs, ∀s∈l,inR s
theorem Yy {rs:List (List Sd)} (h:rs.flatten.any (fun s=> !rgd s)=false): ∀l∈rs, ∀s∈l,rgd s=true:=fun l hl s hs=>by
 cases hr:rgd s with
 |true=>rfl
 |false=>
  have:rs.flatten.any (fun s=> !rgd s)=true:=List.any_eq_true.2 ⟨s,List.mem_flatten.2 ⟨l,hl,hs⟩,by rw[hr];rfl⟩
  rw[h] at this;cases this
theorem XV {n k:Nat} (h:k<n):nxt n (prv n k)=k:=by
 unfold nxt prv
 cases k with
 |zero=>
  rw[Nat.zero_add,Nat.mod_eq_of_lt (show n-1<n by omega),show n-1+1=n by omega,Nat.mod_self]
 |succ k=>rw[show k+1+n-1=k+n by omega,Nat.add_mod_right,Nat.mod_eq_of_lt (show k<n by omega),Nat.mod_eq_of_lt h]
theorem d64 {a b:Int} (h1:0<=a/\a<=65536) (h2:0<=b/\b<=65536):w64 (a-b)=a-b:=Ak (by omega) (by omega)
theorem ET {l:List Sd} (hr: ∀s∈l,inR s) (h:shp l=true) {i:Nat} (hi:i<l.length):
  ¬(((sd l (nxt l.length i)).x-(sd l i).x=0)↔((sd l (nxt l.length i)).y-(sd l i).y=0))/\ ¬(((sd l i).x-(sd l (prv l.length i)).x=0)↔((sd l (nxt l.length i)).x-(sd l i).x=0)):=by
 unfold shp at h
 obtain⟨_,h⟩:=Bool.and_eq_true_iff.1 h
 have h1:=List.all_eq_true.1 h i (List.mem_range.2 hi)
 obtain⟨s1,s2,s3,s4⟩:=Dh hr hi
 obtain⟨n1,n2,n3,n4⟩:=Dh hr (DW hi)
 obtain⟨p1,p2,p3,p4⟩:=Dh hr (G8 hi)
 unfold Hv Tf at h1
 rw[d64 ⟨n1,n2⟩ ⟨s1,s2⟩,d64 ⟨n3,n4⟩ ⟨s3,s4⟩,d64 ⟨s1,s2⟩ ⟨p1,p2⟩] at h1
 obtain⟨h2,h3⟩:=Bool.and_eq_true_iff.1 h1
 refine⟨fun e=> ?_,fun e=> ?_⟩
 ·have:(((sd l (nxt l.length i)).x-(sd l i).x==0)==((sd l (nxt l.length i)).y-(sd l i).y==0))=true:=by rw[beq_iff_eq,Bool.eq_iff_iff,beq_iff_eq,beq_iff_eq];exact e
  rw[this] at h2;cases h2
 ·have:(((sd l i).x-(sd l (prv l.length i)).x==0)==((sd l (nxt l.length i)).x-(sd l i).x==0))=true:=by rw[beq_iff_eq,Bool.eq_iff_iff,beq_iff_eq,beq_iff_eq];exact e
  rw[this] at h3;cases h3
theorem TX {l:List Sd} (h:shp l=true):4<=l.length:=by
 unfold shp at h
 exact of_decide_eq_true (Bool.and_eq_true_iff.1 h).1
theorem Zx {l:List Sd} (hr: ∀s∈l,inR s) (h4:4<=l.length)
  (h: ∀i,i<l.length-> ¬(((sd l (nxt l.length i)).x-(sd l i).x=0)↔((sd l (nxt l.length i)).y-(sd l i).y=0))/\ ¬(((sd l i).x-(sd l (prv l.length i)).x=0)↔((sd l (nxt l.length i)).x-(sd l i).x=0))):shp l=true:=by
 unfold shp
 rw[dT h4,Bool.true_and,List.all_eq_true]
 intro i hi
 have hi:=List.mem_range.1 hi
 obtain⟨h1,h2⟩:=h i hi
 obtain⟨s1,s2,s3,s4⟩:=Dh hr hi
 obtain⟨n1,n2,n3,n4⟩:=Dh hr (DW hi)
 obtain⟨p1,p2,p3,p4⟩:=Dh hr (G8 hi)
 unfold Hv Tf
 rw[d64 ⟨n1,n2⟩ ⟨s1,s2⟩,d64 ⟨n3,n4⟩ ⟨s3,s4⟩,d64 ⟨s1,s2⟩ ⟨p1,p2⟩]
 have e1:(((sd l (nxt l.length i)).x-(sd l i).x==0)==((sd l (nxt l.length i)).y-(sd l i).y==0))=false:=by
  rw[Bool.eq_false_iff];intro e;rw[beq_iff_eq,Bool.eq_iff_iff,beq_iff_eq,beq_iff_eq] at e;exact h1 e
 have e2:(((sd l i).x-(sd l (prv l.length i)).x==0)==((sd l (nxt l.length i)).x-(sd l i).x==0))=false:=by
  rw[Bool.eq_false_iff];intro e;rw[beq_iff_eq,Bool.eq_iff_iff,beq_iff_eq,beq_iff_eq] at e;exact h2 e
 rw[e1,e2];rfl
theorem bQ {a b:Int} (h1: -65536<=a/\a<=65536) (h2: -65536<=b/\b<=65536): -4294967296<=a*b/\a*b<=4294967296:=by
 have h:(a*b).natAbs<=65536*65536:=by
  rw[Int.natAbs_mul]
  exact Nat.mul_le_mul (by omega) (by omega)
 omega
theorem X2 {s t u:Sd} (hs:inR s) (ht:inR t) (hu:inR u):I3 s t u=decide ((t.x-s.x)*(u.y-t.y)-(t.y-s.y)*(u.x-t.x)>0):=by
 obtain⟨s1,s2,s3,s4⟩:=hs
 obtain⟨t1,t2,t3,t4⟩:=ht
 obtain⟨u1,u2,u3,u4⟩:=hu
 unfold I3
 rw[d64 ⟨t1,t2⟩ ⟨s1,s2⟩,d64 ⟨u3,u4⟩ ⟨t3,t4⟩,d64 ⟨t3,t4⟩ ⟨s3,s4⟩,d64 ⟨u1,u2⟩ ⟨t1,t2⟩]
 have m1:=bQ (a:=t.x-s.x) (b:=u.y-t.y) (by omega) (by omega)
 have m2:=bQ (a:=t.y-s.y) (b:=u.x-t.x) (by omega) (by omega)
 rw[Ak (x:=(t.x-s.x)*_) (by omega) (by omega),Ak (x:=(t.y-s.y)*_) (by omega) (by omega),Ak (by omega) (by omega)]
theorem Pj (rs:List (List Sd)) (m:Nat): ∀d, ∃t,AB rs (m+d)=AB rs m++t
 |0=>⟨[],by simp⟩
 |d+1=>by
  obtain⟨t,h⟩:=Pj rs m d
  refine⟨t++Bh (m+d) (rg rs (m+d)).length, ?_⟩
  show AB rs (m+d)++Bh (m+d) (rg rs (m+d)).length=_
  rw[h,List.append_assoc]
theorem Ja {rs:List (List Sd)} {r i:Nat} (hr:r<rs.length) (hi:i<(rg rs r).length):pl rs (tot (rs.take r)+i)=(r,i):=by
 obtain⟨t,h⟩:=Pj rs (r+1) (rs.length-(r+1))
 rw[show r+1+(rs.length-(r+1))=rs.length by omega] at h
 have h2:AB rs (r+1)=AB rs r++Bh r (rg rs r).length:=rfl
 have hlen:=IP rs r (by omega)
 unfold pl
 rw[List.getD_eq_getElem?_getD,h,h2,List.append_assoc,List.getElem?_append_right (by omega),hlen,Nat.add_sub_cancel_left,List.getElem?_append_left (by simp[Bh];exact hi)]
 simp[Bh,hi]
theorem Td {rs:List (List Sd)} {r i:Nat} (hr:r<rs.length) (hi:i<(rg rs r).length):tot (rs.take r)+i<tot rs:=by
 have h1:=Bs hr
 have h2:=Cz rs (r+1)
 omega
theorem K4 (t u t' u':Sd):E9 t u t' u'=E9 t' u' t u:=by
 unfold E9
 rw[Bool.eq_iff_iff]
 simp only[Bool.and_eq_true,decide_eq_true_eq]
 omega
theorem Va {rs:List (List Sd)} (h:crs rs=false) {r i s k:Nat} (hr:r<rs.length) (hi:i<(rg rs r).length) (hs:s<rs.length) (hk:k<(rg rs s).length) (hne:r≠s):
  E9 (bsd rs (r,i)) (esd rs (r,i)) (bsd rs (s,k)) (esd rs (s,k))=false:=by
 have one: ∀ {a b:Nat×Nat} {j j':Nat},pl rs j=a->pl rs j'=b->j<tot rs->j'<j->a.1≠b.1->E9 (bsd rs a) (esd rs a) (bsd rs b) (esd rs b)=false:=by
  intro a b j j' ha hb hj hj' hab
  have h1:((List.range j).any fun k=>Di rs (pl rs j) (pl rs k))=false:=by
   cases he:((List.range j).any fun k=>Di rs (pl rs j) (pl rs k)) with
   |false=>rfl
   |true=>
    have:crs rs=true:=List.any_eq_true.2 ⟨j,List.mem_range.2 hj,he⟩
    rw[h] at this;cases this
  have h2:Di rs (pl rs j) (pl rs j')=false:=by
   cases he:Di rs (pl rs j) (pl rs j') with
   |false=>rfl
   |true=>
    have:((List.range j).any fun k=>Di rs (pl rs j) (pl rs k))=true:=List.any_eq_true.2 ⟨j',List.mem_range.2 hj',he⟩
    rw[h1] at this;cases this
  rw[ha,hb] at h2
  unfold Di nbB at h2
  rw[beq_eq_false_iff_ne.2 hab] at h2
  simpa using h2
 have hj:=Td hr hi
 have hj':=Td hs hk
 rcases Nat.lt_trichotomy (tot (rs.take s)+k) (tot (rs.take r)+i) with hlt|heq|hgt
 ·exact one (Ja hr hi) (Ja hs hk) hj hlt hne
 ·have h1:=Ja hr hi
  rw[<-heq,Ja hs hk] at h1
  exact absurd (congrArg Prod.fst h1).symm hne
 ·rw[K4]
  exact one (Ja hs hk) (Ja hr hi) hj' hgt (fun e=>hne e.symm)
end
section
open Go Go.RowKit Go.Am Go.Lib
set_option maxRecDepth 10000
theorem Zt {z d:Int} (hz:0<=z) (hd:0<d):0<=(nrm z d).num:=by
 obtain⟨e,rfl⟩: ∃e:Nat,d=((e+1:Nat):Int):=⟨(d-1).toNat,by omega⟩
 unfold nrm
 rw[if_neg (by omega),mkRat,dif_neg (by omega),Rat.normalize_eq]
 exact Int.ediv_nonneg hz (by omega)
theorem Z6 {s t:Sd} (h:rgd s=true):(frO s t).OK:=by
 obtain⟨hx,hy,hp,hr⟩:=GV h
 refine⟨?_, ?_, ?_, ?_, ?_, ?_⟩
 ·show 0<=(if _ then s.x else s.y);split<;>omega
 ·show(if _ then s.x else s.y)<=65536;split<;>omega
 ·show M9 _=1\/M9 _= -1
  unfold M9;split
  ·exact .inl I
  ·exact .inr I
 ·show szQ (if s.gable then(0:Rat) else nrm s.run s.rise) 36
  cases hg:s.gable with
  |true=>rw[if_pos rfl];exact⟨by decide,by decide⟩
  |false=>
   obtain⟨h1,h2⟩:=hr hg
   rw[if_neg (by decide)]
   exact szQ.mono (k:=2) (H4 _ (by omega) (by show _<100;omega) (by show _<100;omega)) (by decide)
 ·exact szQ.mono (k:=5) (Ge (by show _<100000;omega) (by decide)) (by decide)
 ·show 0<=(if s.gable then(0:Rat) else nrm s.run s.rise).num
  cases hg:s.gable with
  |true=>rw[if_pos rfl];decide
  |false=>
   obtain⟨h1,h2⟩:=hr hg
   rw[if_neg (by decide)]
   exact Zt (by omega) (by omega)
theorem Z0 {s t:Sd} (h:rgd s=true):(frO s t).sp=0↔s.gable=true:=by
 obtain⟨hx,hy,hp,hr⟩:=GV h
 show(if s.gable then(0:Rat) else nrm s.run s.rise)=0↔_
 cases hg:s.gable with
 |true=>simp
 |false=>
  obtain⟨h1,h2⟩:=hr hg
  refine⟨fun e=> ?_,fun e=>by cases e⟩
  have e:nrm s.run s.rise=0:=by simpa using e
  rw[Gi _ (by omega),Rat.divInt_eq_div] at e
  have r1:(0:Rat)<(s.run:Rat):=by have:=Rat.intCast_lt_intCast.2 (show(0:Int)<s.run by omega);exact this
  have r2:(0:Rat)<(s.rise:Rat):=by have:=Rat.intCast_lt_intCast.2 (show(0:Int)<s.rise by omega);exact this
  have:(s.run:Rat)=0:=by grind
  grind
end
section
open Go Go.RowKit Go.Am
set_option maxRecDepth 10000
def sgI (a:Int):Int:=if a<0 then -1 else if a>0 then 1 else 0
theorem Ml (a:Int):AX Tryz.prog 188 [.int .i64 a] (.int .i64 (sgI a)):=by
 intro W
 refine Ab Tryz.func188 I I I (zA (zB (wP I (Aa (zE (zA (zA (zB (wP I (wP I (Aa (zE (Ah I (fun h=> ?_) (fun h=> ?_))))))))))))))
 ·refine zA (zB (wP I (Aa (zE (zO (zP ?_))))))
  have h':a<0:=by simpa using h
  exact wR1 I I (by unfold sgI;rw[if_pos h'])
 have h1: ¬a<0:=by simpa using h
 refine zI (zE (zA (zA (zB (wP I (wP I (Aa (zE (Ah I (fun h2=> ?_) (fun h2=> ?_))))))))))
 ·refine zA (zB (wP I (Aa (zE (zO (zP ?_))))))
  have h':a>0:=by simpa using h2
  exact wR1 I I (by unfold sgI;rw[if_neg h1,if_pos h'])
 have h3: ¬a>0:=by simpa using h2
 exact zI (zE (zA (zB (wP I (Aa (zE (zO (wR1 I I (by unfold sgI;rw[if_neg h1,if_neg h3])))))))))
def K6 (n a b:Int):Bool:=decide (n<a)||decide (n>b)
theorem JD (n a b:Int):K6 n a b= !btw n a b:=by
 unfold K6 btw
 rw[Bool.eq_iff_iff]
 simp only[Bool.or_eq_true,Bool.not_eq_true',Bool.and_eq_false_iff,decide_eq_true_eq,decide_eq_false_iff_not]
 omega
theorem De (n a b:Int):AX Tryz.prog 115 [.int .i64 n, .int .i64 a, .int .i64 b] (.bool (K6 n a b)):=by
 intro W
 refine Ab Tryz.func115 I I I (zA (zB (wP I (Aa (zE (zA (zB (wP I (wP I (wP I (wP I (AG 10 I (fun h10=> ?_) (fun h10=> ?_)))))))))))))
 ·refine Ae I I ?_
  iterate 2 refine Ae I I ?_
  exact wP I (wP I (Aa (zE (zO (wR1 I I (by simp_all [K6]<;>(intros;omega)))))))
 ·exact wP I (wP I (wP I (wP I (wP I (Aa (zE (zO (wR1 I I (by simp_all [K6]<;>(intros;omega))))))))))
theorem O0 (s:Sd):AX Tryz.prog 46 [s.val] (.bool (rgd s)):=by
 intro W
 refine Ab Tryz.func46 I I I (zA (zB (wF I I fun _=>(wP I (Aa ?_)))))
 rename_i b1
 have no:(K6 s.x 0 65536||K6 s.y 0 65536||K6 s.plate 0 65536||K6 s.over 0 65536)=true->rgd s=false:=fun h=>by
  simp only[JD] at h
  unfold rgd
  rw[show(btw s.x 0 65536&&btw s.y 0 65536&&btw s.plate 0 65536&&btw s.over 0 65536)=false by
   rw[Bool.eq_false_iff];intro h2;simp_all,Bool.and_false]
 have yes:K6 s.x 0 65536=false->K6 s.y 0 65536=false->K6 s.plate 0 65536=false->K6 s.over 0 65536=false->rgd s=(if s.gable then s.rise==0&&s.run==0 else btw s.rise 1 48&&btw s.run 1 48):=fun h1 h2 h3 h4=>by
  rw[JD,Bool.not_eq_false'] at h1 h2 h3 h4
  unfold rgd
  rw[h1,h2,h3,h4];simp
 refine zE (zA (zA (zB (wP I (wB 0 I I I (wC I I (fun W _=>(De ..)) (wP I (AG 6 I (fun h6=> ?_) (fun h6=> ?_)))))))))
 ·refine Ae I I ?_
  iterate 2 refine Ae I I ?_
  refine wP I (wP I ?_)
  iterate 3 refine Ae I I ?_
  refine wP I (wP I ?_)
  iterate 3 refine Ae I I ?_
  exact wP I (Aa (zE (zR I (zA (zB (wP I (Aa (zE (zO (zP (wR1 I I (by rw[no (by simp_all)]))))))))))))
 ·refine wP I (wB 0 I I I (wC I I (fun W _=>(De ..)) (wP I (wP I (AG 11 I (fun h11=> ?_) (fun h11=> ?_))))))
  ·refine Ae I I ?_
   iterate 2 refine Ae I I ?_
   refine wP I (wP I ?_)
   iterate 3 refine Ae I I ?_
   exact wP I (Aa (zE (zR I (zA (zB (wP I (Aa (zE (zO (zP (wR1 I I (by rw[no (by simp_all)]))))))))))))
  ·refine wP I (wB 0 I I I (wC I I (fun W _=>(De ..)) (wP I (wP I (AG 16 I (fun h16=> ?_) (fun h16=> ?_))))))
   ·refine Ae I I ?_
    iterate 2 refine Ae I I ?_
    exact wP I (Aa (zE (zR I (zA (zB (wP I (Aa (zE (zO (zP (wR1 I I (by rw[no (by simp_all)]))))))))))))
   ·refine wP I (wB 0 I I I (wC I I (fun W _=>(De ..)) (wP I (Aa (zE (Ah I (fun h=> ?_) (fun h=> ?_)))))))
    ·exact zA (zB (wP I (Aa (zE (zO (zP (wR1 I I (by rw[no (by simp_all)]))))))))
    refine zI (zE (zA (zA (zB ?_))))
    have e:=yes (by simp_all) (by simp_all) (by simp_all) (by simp_all)
    refine wP I (wB 0 I I I (Aa (zE (Ah I (fun hg=> ?_) (fun hg=> ?_)))))
    ·refine zA (zB (wP I (wB 0 I I I (wP I (wP I (AG 26 I (fun h26=> ?_) (fun h26=> ?_)))))))
     ·exact wP I (wB 0 I I I (wP I (wP I (wP I (Aa (zE (zO (zP (wR1 I I (by rw[e,hg];simp_all))))))))))
     ·refine Ae I I ?_
      iterate 2 refine Ae I I ?_
      exact wP I (wP I (Aa (zE (zO (zP (wR1 I I (by rw[e,hg];simp_all)))))))
    ·refine zI (zE (zA (zB (wP I (wB 0 I I I (wC I I (fun W _=>(De ..)) (wP I (wP I (AG 35 I (fun h35=> ?_) (fun h35=> ?_))))))))))
     ·exact wP I (wB 0 I I I (wC I I (fun W _=>(De ..)) (wP I (wP I (wP I (Aa (zE (zO (wR1 I I (by rw[e,hg];simp_all [JD]))))))))))
     ·refine Ae I I ?_
      iterate 3 refine Ae I I ?_
      exact wP I (wP I (Aa (zE (zO (wR1 I I (by rw[e,hg];simp_all [JD]))))))
theorem GU (W:World) (p:Option Addr) (cap:Nat) (l:List Sd) (i:Nat) (hn:l.length<4611686018427387904) (hR:Cc W p l) (hi:i<l.length):
  Ad Tryz.prog 187 #[slv p l.length cap, .int .i64 (i:Nat)] W (fun _:Unit=> .tuple #[.int .i64 (sd l (nxt l.length i)).x, .int .i64 (sd l (nxt l.length i)).y]) (fun _=>True) (fun _=>[]):=by
 obtain⟨b,off,rfl,hrow⟩:=hR.row hi
 have hi2:=DW hi
 refine Ab (args:=[slv (some ⟨b,off,none⟩) l.length cap, .int .i64 (i:Nat)]) Tryz.func187 I I I (zA (zB (wP I (wP I (Aa (zE (zA (zB (wP I (wP I (wV 8 ((i+1:Nat):Int) I (show w64 ((i:Nat)+1)=((i+1:Nat):Int) by rw[Ak (by omega) (by omega)];omega) (wP I (wP I (FB I I I I I (by omega) ?_))))))))))))))
 refine wV 11 (nxt l.length i:Nat) I (show Int.tmod ((i+1:Nat):Int) (l.length:Nat)=(nxt l.length i:Nat) from(Int.ofNat_tmod _ _).symm) (wP I (Aa (zE (zA (zU (qP I (qP I (qJ ?_))))))))
 refine qP I (qL 0 I I (fun W hp=>(hrow (nxt l.length i) hi2).hp hp) I (qP I (qP I (qJ ?_))))
 exact qP I (qL 1 I I (fun W hp=>(hrow (nxt l.length i) hi2).hp hp) I (qP I (qP I (A8 (Aa (zE (zO (wR2 I I I))))))))
def NI (l:List Sd) (i:Nat):Int:=sgI (w64 ((sd l (nxt l.length i)).x-(sd l i).x))
def NO (l:List Sd) (i:Nat):Int:=sgI (w64 ((sd l (nxt l.length i)).y-(sd l i).y))
theorem Fg (W:World) (p:Option Addr) (cap:Nat) (l:List Sd) (i:Nat) (hn:l.length<4611686018427387904) (hR:Cc W p l) (hi:i<l.length):
  Ad Tryz.prog 116 #[slv p l.length cap, .int .i64 (i:Nat)] W (fun _:Unit=> .tuple #[.int .i64 (NI l i), .int .i64 (NO l i)]) (fun _=>True) (fun _=>[]):=by
 obtain⟨b,off,rfl,hrow⟩:=hR.row hi
 refine Ab (args:=[slv (some ⟨b,off,none⟩) l.length cap, .int .i64 (i:Nat)]) Tryz.func116 I I I (zA (zB (wP I (wP I (Aa (zE (zA (zB (wP I (wP I (wC I I (fun W hp=>GU W _ cap l i hn (hR.hp hp) hi) (wP I (wP I (wP I (wP I (wP I (Aa (zE (zA (zU (qP I (qP I (qP I (qJ ?_))))))))))))))))))))))))
 refine qP I (qL 0 I I (fun W hp=>(hrow i hi).hp hp) I (qP I (qC I I (fun W _=>(Ml ..)) (qP I (qP I (qP I (qJ ?_)))))))
 exact qP I (qL 1 I I (fun W hp=>(hrow i hi).hp hp) I (qP I (qC I I (fun W _=>(Ml ..)) (qP I (qP I (A8 (Aa (zE (zO (wR2 I I I))))))))))
def Le (l:List Sd) (i:Nat):Int:=w64 (w64 (NI l (prv l.length i)*NO l i)-w64 (NO l (prv l.length i)*NI l i))
theorem Nc (W:World) (p:Option Addr) (cap:Nat) (l:List Sd) (i:Nat) (hn:l.length<4611686018427387904) (hR:Cc W p l) (hi:i<l.length):
  Ad Tryz.prog 117 #[slv p l.length cap, .int .i64 (i:Nat)] W (fun _:Unit=> .int .i64 (Le l i)) (fun _=>True) (fun _=>[]):=by
 have hi2:=G8 hi
 refine Ab (args:=[slv p l.length cap, .int .i64 (i:Nat)]) Tryz.func117 I I I (zA (zB (wP I (Aa (zE (zA (zB (wP I (wP I (wP I (wP I (wP I (wP I (wV 15 ((i+l.length-1:Nat):Int) I (show w64 (w64 ((i:Nat)+(l.length:Nat))-1)=((i+l.length-1:Nat):Int) by rw[Ak (x:=(i:Nat)+(l.length:Nat)) (by omega) (by omega),Ak (by omega) (by omega)];omega) (wP I (wP I (FB I I I I I (by omega) ?_)))))))))))))))))
 refine wV 18 (prv l.length i:Nat) I (show Int.tmod ((i+l.length-1:Nat):Int) (l.length:Nat)=(prv l.length i:Nat) from(Int.ofNat_tmod _ _).symm) (wC I I (fun W hp=>Fg W _ cap l (prv l.length i) hn (hR.hp hp) hi2) (wP I (wP I (wP I (wP I (wP I (Aa (zE (zA (zB (wP I (wP I (wC I I (fun W hp=>Fg W _ cap l i hn (hR.hp hp) hi) (wP I (wP I (wP I (wP I (wP I (Aa (zE (zA (zB ?_))))))))))))))))))))))
 iterate 8 refine wP I ?_
 exact Aa (zE (zO (wR1 I I I)))
def twR (l:List Sd):Nat->Int
 |0=>0
 |k+1=>w64 (w64 (twR l k+w64 ((sd l k).x*(sd l (nxt l.length k)).y))-w64 ((sd l (nxt l.length k)).x*(sd l k).y))
theorem Lx (W:World) (p:Option Addr) (cap:Nat) (l:List Sd) (hn:l.length<4611686018427387904) (hR:Cc W p l):
  Ad Tryz.prog 119 #[slv p l.length cap] W (fun _:Unit=> .int .i64 (twR l l.length)) (fun _=>True) (fun _=>[]):=by
 refine Ab (args:=[slv p l.length cap]) Tryz.func119 I I I (zA (zB (wP I (Aa (zE (zA (zB (wP I (Aa (zE (zA (zA (zB (wP I (Aa (zE (zH (Ar (X:=Nat) (fun k=>[(0,slv p l.length cap),(3, .int .i64 (twR l k)),(4, .int .i64 (k:Nat))]) (fun _=>[]) (fun k=>k<=l.length) (fun k=>l.length-k) 0 (Nat.zero_le _) ⟨I,I,I,tO⟩ [] I ?_))))))))))))))))))
 intro k hk
 refine zA (zA (zB (wP I (wP I (wP I (wP I (Aa (zE (Ah I (fun h=> ?_) (fun h=> ?_))))))))))
 rotate_left
 ·have e:k=l.length:=by simp at h;omega
  subst e
  exact zJ (zK (zK (zL (zE (zA (zB (wP I (wP I (Aa (zE (zO (wR1 I I I))))))))))))
 have hk:k<l.length:=by simp at h;omega
 clear h
 obtain⟨b,off,rfl,hrow⟩:=hR.row hk
 refine zI (zE (zA (zH (zA (zB (wP I (wP I (wC I I (fun W hp=>GU W _ cap l k hn (hR.hp hp) hk) (wP I (wP I (wP I (wP I (wP I (Aa (zE (zU (qP I (qP I (qP I (qJ ?_))))))))))))))))))))
 refine qP I (qL 0 I I (fun W hp=>(hrow k hk).hp hp) I (qP I (qP I (qP I (qP I (qP I (qP I (qJ ?_))))))))
 exact qP I (qL 1 I I (fun W hp=>(hrow k hk).hp hp) I (qP I (qP I (qP I (A8 (Aa (zN (zE (zB (wP I (wP I (wP I (Aa (Aj (k+1) hk (by omega) ⟨I,I,congrArg (fun z=>some (Value.int .i64 z)) (AF (x:=(k:Int)+1) (by omega) (by omega)),tO⟩ [] I))))))))))))))
end
end Go.Proofs.YtndkgionklmdfaaGreatDoor
