/-
  Lemmas that the theorem convexMeets_upto_card needs (part 6 of 7).
-/
import Derived.Test.YthndmdimmgkpgaaGreatDoorCke
set_option maxHeartbeats 64000000
namespace Go.Proofs.YthndmdimmgkpgaaGreatDoor
section
open Go Go.RowKit Go.Am Go.Lib
set_option maxRecDepth 10000
-- BOXES 5
theorem OR (p q:Rat) (hp:okQ p) (hq:okQ q) (h0:q.num≠0) (hno: ¬Bg p q) (W:World) (ht:AI W):
  Ai Tryz.prog 152 #[Cd p,Cd q] W (fun _:Unit=> .tuple #[str [], .int .i64 4]) (fun _=>True) (fun _=>[]):=by
 obtain⟨s,hs⟩:=Fy p q hp hq hno
 refine Ac (args:=[Cd p,Cd q]) Tryz.func152 I I I ?_
 repeat (first|refine zA ?_|refine zB ?_|refine zC ?_|refine zD ?_|refine zE ?_|refine zF ?_|refine zG ?_|refine zH ?_|refine zI ?_|refine zJ ?_|refine zK ?_|refine zL ?_|refine zM rfl ?_|refine zN ?_|refine zO ?_|refine zP ?_|refine zQ ?_|refine zR rfl ?_|refine zS rfl ?_|refine zU ?_)
 (refine At rfl rfl rfl rfl ?_;intro)
 (refine At rfl rfl rfl rfl ?_;intro)
 refine wP I (wP I (Aa ?_))
 repeat (first|refine zA ?_|refine zB ?_|refine zC ?_|refine zD ?_|refine zE ?_|refine zF ?_|refine zG ?_|refine zH ?_|refine zI ?_|refine zJ ?_|refine zK ?_|refine zL ?_|refine zM rfl ?_|refine zN ?_|refine zO ?_|refine zP ?_|refine zQ ?_|refine zR rfl ?_|refine zS rfl ?_|refine zU ?_)
 refine wP I ?_
 (first|refine wB 0 rfl rfl rfl ?_|refine wB 1 rfl rfl rfl ?_|refine wB 2 rfl rfl rfl ?_|refine wB 3 rfl rfl rfl ?_|refine wB 4 rfl rfl rfl ?_)
 refine wP I (wU 11 false I ((Be _ [48]).trans (dF fun e=>h0 (Hb.1 e))) (Aa ?_))
 repeat (first|refine zA ?_|refine zB ?_|refine zC ?_|refine zD ?_|refine zE ?_|refine zF ?_|refine zG ?_|refine zH ?_|refine zI ?_|refine zJ ?_|refine zK ?_|refine zL ?_|refine zM rfl ?_|refine zN ?_|refine zO ?_|refine zP ?_|refine zQ ?_|refine zR rfl ?_|refine zS rfl ?_|refine zU ?_)
 (first|refine wB 0 rfl rfl rfl ?_|refine wB 1 rfl rfl rfl ?_|refine wB 2 rfl rfl rfl ?_|refine wB 3 rfl rfl rfl ?_|refine wB 4 rfl rfl rfl ?_)
 (first|refine wB 0 rfl rfl rfl ?_|refine wB 1 rfl rfl rfl ?_|refine wB 2 rfl rfl rfl ?_|refine wB 3 rfl rfl rfl ?_|refine wB 4 rfl rfl rfl ?_)
 refine wC I I (fun W h=>hs W (ht.hp h)) ?_
 iterate 7 refine wP I ?_
 refine Aa ?_
 repeat (first|refine zA ?_|refine zB ?_|refine zC ?_|refine zD ?_|refine zE ?_|refine zF ?_|refine zG ?_|refine zH ?_|refine zI ?_|refine zJ ?_|refine zK ?_|refine zL ?_|refine zM rfl ?_|refine zN ?_|refine zO ?_|refine zP ?_|refine zQ ?_|refine zR rfl ?_|refine zS rfl ?_|refine zU ?_)
 refine wP I (wP I (Aa ?_))
 repeat (first|refine zA ?_|refine zB ?_|refine zC ?_|refine zD ?_|refine zE ?_|refine zF ?_|refine zG ?_|refine zH ?_|refine zI ?_|refine zJ ?_|refine zK ?_|refine zL ?_|refine zM rfl ?_|refine zN ?_|refine zO ?_|refine zP ?_|refine zQ ?_|refine zR rfl ?_|refine zS rfl ?_|refine zU ?_)
 refine wP I (wP I (wP I (Aa ?_)))
 repeat (first|refine zA ?_|refine zB ?_|refine zC ?_|refine zD ?_|refine zE ?_|refine zF ?_|refine zG ?_|refine zH ?_|refine zI ?_|refine zJ ?_|refine zK ?_|refine zL ?_|refine zM rfl ?_|refine zN ?_|refine zO ?_|refine zP ?_|refine zQ ?_|refine zR rfl ?_|refine zS rfl ?_|refine zU ?_)
 exact wR2 I I I
theorem NQ (p q:Rat) (hp:okQ p) (hq:okQ q) (h0:q.num≠0) (W:World) (ht:AI W):
  Ai Tryz.prog 152 #[Cd p,Cd q] W (fun _:Unit=>opV (Bg p q) (p/q)) (fun _=>True) (fun _=>[]):=by
 by_cases h:Bg p q
 ·exact(LB p q hp hq h.1 h.2 W ht).cast (by rw[E7 h,KL,if_neg h0])
 ·exact(OR p q hp hq h0 h W ht).cast (FJ h).symm
theorem ON (p q:Rat) (hkp:okQ p) (hkq:okQ q) (h0:q.num≠0) (W0:World) (hv:BO W0) (ht:AI W0):
  Ai Tryz.prog 105 #[str (Ad p),str (Ad q)] W0 (fun _:Unit=>opV (Bg p q) (p/q)) (fun _=>True) (fun _=>[]):=by
 obtain⟨rs,re,hr⟩:=F4 (Bg p q) (p/q)
 have hlp:=AX hkp
 have hlq:=AX hkq
 have hboth: ∀W,BO W→AI W→Ai Tryz.prog 50 #[str (Ad p),str (Ad q), .func (.func 152) #[] #[]] W (fun _:Unit=> .tuple #[str rs, .int .i64 re]) (fun _=>True) (fun _=>[]):=
  fun W hv ht=>CG p q rs re 152 [] hkp hkq W hv ht (by kernel_rfl) (fun W' hb=>(NQ p q hkp hkq h0 W' (ht.below hb)).cast hr)
 refine Ac (args:=[str (Ad p),str (Ad q)]) Tryz.func105 I I I ?_
 repeat (first|refine zA ?_|refine zB ?_|refine zC ?_|refine zD ?_|refine zE ?_|refine zF ?_|refine zG ?_|refine zH ?_|refine zI ?_|refine zJ ?_|refine zK ?_|refine zL ?_|refine zM rfl ?_|refine zN ?_|refine zO ?_|refine zP ?_|refine zQ ?_|refine zR rfl ?_|refine zS rfl ?_|refine zU ?_)
 refine wP I (wP I (Aa ?_))
 repeat (first|refine zA ?_|refine zB ?_|refine zC ?_|refine zD ?_|refine zE ?_|refine zF ?_|refine zG ?_|refine zH ?_|refine zI ?_|refine zJ ?_|refine zK ?_|refine zL ?_|refine zM rfl ?_|refine zN ?_|refine zO ?_|refine zP ?_|refine zQ ?_|refine zR rfl ?_|refine zS rfl ?_|refine zU ?_)
 refine wP I (wP I (wU 9 true I (by show(!_)=true;rw[Be,dF fun e=>h0 (EB.1 e)];rfl) (Aa ?_)))
 repeat (first|refine zA ?_|refine zB ?_|refine zC ?_|refine zD ?_|refine zE ?_|refine zF ?_|refine zG ?_|refine zH ?_|refine zI ?_|refine zJ ?_|refine zK ?_|refine zL ?_|refine zM rfl ?_|refine zN ?_|refine zO ?_|refine zP ?_|refine zQ ?_|refine zR rfl ?_|refine zS rfl ?_|refine zU ?_)
 refine wP I (wP I ?_)
 have hquick: ∀W,AI W→Ai Tryz.prog 48 #[str (Ad p),str (Ad q), .func (.func 151) #[] #[]] W (fun _:Unit=>if smQ p∧smQ q then .tuple #[str (Ad (p/q)), .bool true] else .tuple #[str [], .bool false]) (fun _=>True) (fun _=>[]):=
  fun W ht=>CB p q (p/q) (p.num*(q.den:Nat)) ((p.den:Nat)*q.num) _ (by kernel_rfl) (by omega) (by omega) (fun hp hq=>by
   have m1:=C6 hp.1 (Cl q hq)
   have m3:=C6 (Cl p hp) hq.1
   exact⟨KD _ _ _ _ hp.1 (Cl p hp) hq.1 (Cl q hq),Int.mul_ne_zero (by have:=p.den_nz;omega) h0,by omega,by omega,IV p q h0⟩) W ht
 by_cases hs:smQ p∧smQ q
 ·refine wC I I (fun W h=>(hquick W (ht.hp h)).cast (if_pos hs)) ?_
  iterate 5 refine wP I ?_
  refine Aa ?_
  repeat (first|refine zA ?_|refine zB ?_|refine zC ?_|refine zD ?_|refine zE ?_|refine zF ?_|refine zG ?_|refine zH ?_|refine zI ?_|refine zJ ?_|refine zK ?_|refine zL ?_|refine zM rfl ?_|refine zN ?_|refine zO ?_|refine zP ?_|refine zQ ?_|refine zR rfl ?_|refine zS rfl ?_|refine zU ?_)
  refine wP I (Aa ?_)
  repeat (first|refine zA ?_|refine zB ?_|refine zC ?_|refine zD ?_|refine zE ?_|refine zF ?_|refine zG ?_|refine zH ?_|refine zI ?_|refine zJ ?_|refine zK ?_|refine zL ?_|refine zM rfl ?_|refine zN ?_|refine zO ?_|refine zP ?_|refine zQ ?_|refine zR rfl ?_|refine zS rfl ?_|refine zU ?_)
  refine wP I (wP I (wP I (Aa ?_)))
  repeat (first|refine zA ?_|refine zB ?_|refine zC ?_|refine zD ?_|refine zE ?_|refine zF ?_|refine zG ?_|refine zH ?_|refine zI ?_|refine zJ ?_|refine zK ?_|refine zL ?_|refine zM rfl ?_|refine zN ?_|refine zO ?_|refine zP ?_|refine zQ ?_|refine zR rfl ?_|refine zS rfl ?_|refine zU ?_)
  exact A7 tH I (.tmp I) (.tmp I) () (E7 (K7 hs).2.2.2).symm tO fun W _=>Ap.nil _ _
 ·refine wC I I (fun W h=>(hquick W (ht.hp h)).cast (if_neg hs)) ?_
  iterate 5 refine wP I ?_
  refine Aa ?_
  repeat (first|refine zA ?_|refine zB ?_|refine zC ?_|refine zD ?_|refine zE ?_|refine zF ?_|refine zG ?_|refine zH ?_|refine zI ?_|refine zJ ?_|refine zK ?_|refine zL ?_|refine zM rfl ?_|refine zN ?_|refine zO ?_|refine zP ?_|refine zQ ?_|refine zR rfl ?_|refine zS rfl ?_|refine zU ?_)
  refine wP I (Aa ?_)
  repeat (first|refine zA ?_|refine zB ?_|refine zC ?_|refine zD ?_|refine zE ?_|refine zF ?_|refine zG ?_|refine zH ?_|refine zI ?_|refine zJ ?_|refine zK ?_|refine zL ?_|refine zM rfl ?_|refine zN ?_|refine zO ?_|refine zP ?_|refine zQ ?_|refine zR rfl ?_|refine zS rfl ?_|refine zU ?_)
  refine wP I (wP I (wC I I (fun W hp=>hboth W (hv.hp hp) (ht.hp hp)) (wP I (wP I (wP I (wP I (Aa ?_)))))))
  repeat (first|refine zA ?_|refine zB ?_|refine zC ?_|refine zD ?_|refine zE ?_|refine zF ?_|refine zG ?_|refine zH ?_|refine zI ?_|refine zJ ?_|refine zK ?_|refine zL ?_|refine zM rfl ?_|refine zN ?_|refine zO ?_|refine zP ?_|refine zQ ?_|refine zR rfl ?_|refine zS rfl ?_|refine zU ?_)
  exact wR2 I I hr.symm
theorem Ka (p q:Rat) (hkp:okQ p) (hkq:okQ q) (h:Bg p q) (W0:World) (hv:BO W0) (ht:AI W0):
  Ai Tryz.prog 119 #[str (Ad p),str (Ad q)] W0 (fun _:Unit=> .tuple #[.int .i64 (FE (p.num*(q.den:Nat)) (q.num*(p.den:Nat))), .int .i64 0]) (fun _=>True) (fun _=>[]):=by
 have hlp:=AX hkp
 have hlq:=AX hkq
 refine Ac (args:=[str (Ad p),str (Ad q)]) Tryz.func119 I I I ?_
 repeat (first|refine zA ?_|refine zB ?_|refine zC ?_|refine zD ?_|refine zE ?_|refine zF ?_|refine zG ?_|refine zH ?_|refine zI ?_|refine zJ ?_|refine zK ?_|refine zL ?_|refine zM rfl ?_|refine zN ?_|refine zO ?_|refine zP ?_|refine zQ ?_|refine zR rfl ?_|refine zS rfl ?_|refine zU ?_)
 refine wP I (wP I (Aa (AH (Ar ?_))))
 refine AC (X:=Unit) (fun _=>[(0,str (Ad p)),(1,str (Ad q)),(4, .int .i64 0),(5, .int .i64 0)]) (fun _=>[]) (fun _=>True) ?_ ?_
 ·repeat (first|refine zA ?_|refine zB ?_|refine zC ?_|refine zD ?_|refine zE ?_|refine zF ?_|refine zG ?_|refine zH ?_|refine zI ?_|refine zJ ?_|refine zK ?_|refine zL ?_|refine zM rfl ?_|refine zN ?_|refine zO ?_|refine zP ?_|refine zQ ?_|refine zR rfl ?_|refine zS rfl ?_|refine zU ?_)
  refine wP I ?_
  by_cases hp:smQ p
  ·refine wC I I (fun W _=>(AP (Ad p) (by omega) W).cast ((BN p).trans (if_pos hp))) (wP I (wP I (wP I ?_)))
   (refine Af Tryz.hZ rfl rfl rfl rfl ?_;intro)
   (first|refine wS 0 rfl rfl rfl ?_|refine wS 1 rfl rfl rfl ?_|refine wS 2 rfl rfl rfl ?_|refine wS 3 rfl rfl rfl ?_|refine wS 4 rfl rfl rfl ?_)
   refine wP I (Aa ?_)
   rename_i b6
   repeat (first|refine zA ?_|refine zB ?_|refine zC ?_|refine zD ?_|refine zE ?_|refine zF ?_|refine zG ?_|refine zH ?_|refine zI ?_|refine zJ ?_|refine zK ?_|refine zL ?_|refine zM rfl ?_|refine zN ?_|refine zO ?_|refine zP ?_|refine zQ ?_|refine zR rfl ?_|refine zS rfl ?_|refine zU ?_)
   refine wP I (Aa ?_)
   repeat (first|refine zA ?_|refine zB ?_|refine zC ?_|refine zD ?_|refine zE ?_|refine zF ?_|refine zG ?_|refine zH ?_|refine zI ?_|refine zJ ?_|refine zK ?_|refine zL ?_|refine zM rfl ?_|refine zN ?_|refine zO ?_|refine zP ?_|refine zQ ?_|refine zR rfl ?_|refine zS rfl ?_|refine zU ?_)
   refine wP I ?_
   by_cases hq:smQ q
   ·refine wC I I (fun W _=>(AP (Ad q) (by omega) W).cast ((BN q).trans (if_pos hq))) (wP I (wP I (wP I ?_)))
    (refine Af Tryz.hZ rfl rfl rfl rfl ?_;intro)
    (first|refine wS 0 rfl rfl rfl ?_|refine wS 1 rfl rfl rfl ?_|refine wS 2 rfl rfl rfl ?_|refine wS 3 rfl rfl rfl ?_|refine wS 4 rfl rfl rfl ?_)
    refine wP I (Aa ?_)
    rename_i b8
    repeat (first|refine zA ?_|refine zB ?_|refine zC ?_|refine zD ?_|refine zE ?_|refine zF ?_|refine zG ?_|refine zH ?_|refine zI ?_|refine zJ ?_|refine zK ?_|refine zL ?_|refine zM rfl ?_|refine zN ?_|refine zO ?_|refine zP ?_|refine zQ ?_|refine zR rfl ?_|refine zS rfl ?_|refine zU ?_)
    refine wP I (Aa ?_)
    repeat (first|refine zA ?_|refine zB ?_|refine zC ?_|refine zD ?_|refine zE ?_|refine zF ?_|refine zG ?_|refine zH ?_|refine zI ?_|refine zJ ?_|refine zK ?_|refine zL ?_|refine zM rfl ?_|refine zN ?_|refine zO ?_|refine zP ?_|refine zQ ?_|refine zR rfl ?_|refine zS rfl ?_|refine zU ?_)
    refine wP I ?_
    (first|refine wB 0 rfl rfl rfl ?_|refine wB 1 rfl rfl rfl ?_|refine wB 2 rfl rfl rfl ?_|refine wB 3 rfl rfl rfl ?_|refine wB 4 rfl rfl rfl ?_)
    refine wP I ?_
    (first|refine wB 0 rfl rfl rfl ?_|refine wB 1 rfl rfl rfl ?_|refine wB 2 rfl rfl rfl ?_|refine wB 3 rfl rfl rfl ?_|refine wB 4 rfl rfl rfl ?_)
    refine wP I (wV 31 (p.num*(q.den:Nat)) I (C0 hp.1 (Cl q hq)) (wP I ?_))
    (first|refine wB 0 rfl rfl rfl ?_|refine wB 1 rfl rfl rfl ?_|refine wB 2 rfl rfl rfl ?_|refine wB 3 rfl rfl rfl ?_|refine wB 4 rfl rfl rfl ?_)
    refine wP I ?_
    (first|refine wB 0 rfl rfl rfl ?_|refine wB 1 rfl rfl rfl ?_|refine wB 2 rfl rfl rfl ?_|refine wB 3 rfl rfl rfl ?_|refine wB 4 rfl rfl rfl ?_)
    refine wP I (wV 36 (q.num*(p.den:Nat)) I (C0 hq.1 (Cl p hp)) (wC I I (fun W _=>Ib _ _ W) (wP I (wP I (Aa ?_)))))
    repeat (first|refine zA ?_|refine zB ?_|refine zC ?_|refine zD ?_|refine zE ?_|refine zF ?_|refine zG ?_|refine zH ?_|refine zI ?_|refine zJ ?_|refine zK ?_|refine zL ?_|refine zM rfl ?_|refine zN ?_|refine zO ?_|refine zP ?_|refine zQ ?_|refine zR rfl ?_|refine zS rfl ?_|refine zU ?_)
    exact wR2 I I I
   ·refine wC I I (fun W _=>(AP (Ad q) (by omega) W).cast ((BN q).trans (if_neg hq))) (wP I (wP I (wP I ?_)))
    (refine Af Tryz.hZ rfl rfl rfl rfl ?_;intro)
    (first|refine wS 0 rfl rfl rfl ?_|refine wS 1 rfl rfl rfl ?_|refine wS 2 rfl rfl rfl ?_|refine wS 3 rfl rfl rfl ?_|refine wS 4 rfl rfl rfl ?_)
    refine wP I (Aa ?_)
    repeat (first|refine zA ?_|refine zB ?_|refine zC ?_|refine zD ?_|refine zE ?_|refine zF ?_|refine zG ?_|refine zH ?_|refine zI ?_|refine zJ ?_|refine zK ?_|refine zL ?_|refine zM rfl ?_|refine zN ?_|refine zO ?_|refine zP ?_|refine zQ ?_|refine zR rfl ?_|refine zS rfl ?_|refine zU ?_)
    refine wP I (Aa ?_)
    repeat (first|refine zA ?_|refine zB ?_|refine zC ?_|refine zD ?_|refine zE ?_|refine zF ?_|refine zG ?_|refine zH ?_|refine zI ?_|refine zJ ?_|refine zK ?_|refine zL ?_|refine zM rfl ?_|refine zN ?_|refine zO ?_|refine zP ?_|refine zQ ?_|refine zR rfl ?_|refine zS rfl ?_|refine zU ?_)
    exact An () tO ⟨I,I,I,I,tO⟩ _ I
  ·refine wC I I (fun W _=>(AP (Ad p) (by omega) W).cast ((BN p).trans (if_neg hp))) (wP I (wP I (wP I ?_)))
   (refine Af Tryz.hZ rfl rfl rfl rfl ?_;intro)
   (first|refine wS 0 rfl rfl rfl ?_|refine wS 1 rfl rfl rfl ?_|refine wS 2 rfl rfl rfl ?_|refine wS 3 rfl rfl rfl ?_|refine wS 4 rfl rfl rfl ?_)
   refine wP I (Aa ?_)
   repeat (first|refine zA ?_|refine zB ?_|refine zC ?_|refine zD ?_|refine zE ?_|refine zF ?_|refine zG ?_|refine zH ?_|refine zI ?_|refine zJ ?_|refine zK ?_|refine zL ?_|refine zM rfl ?_|refine zN ?_|refine zO ?_|refine zP ?_|refine zQ ?_|refine zR rfl ?_|refine zS rfl ?_|refine zU ?_)
   refine wP I (Aa ?_)
   repeat (first|refine zA ?_|refine zB ?_|refine zC ?_|refine zD ?_|refine zE ?_|refine zF ?_|refine zG ?_|refine zH ?_|refine zI ?_|refine zJ ?_|refine zK ?_|refine zL ?_|refine zM rfl ?_|refine zN ?_|refine zO ?_|refine zP ?_|refine zQ ?_|refine zR rfl ?_|refine zS rfl ?_|refine zU ?_)
   exact An () tO ⟨I,I,I,I,tO⟩ _ I
 ·intro _ _
  repeat (first|refine zA ?_|refine zB ?_|refine zC ?_|refine zD ?_|refine zE ?_|refine zF ?_|refine zG ?_|refine zH ?_|refine zI ?_|refine zJ ?_|refine zK ?_|refine zL ?_|refine zM rfl ?_|refine zN ?_|refine zO ?_|refine zP ?_|refine zQ ?_|refine zR rfl ?_|refine zS rfl ?_|refine zU ?_)
  refine wP I (wC I I (fun W hp=>(Cz (Ad p) (by omega) W (hv.hp hp) (ht.hp hp)).cast (GM hkp)) (wP I (wP I (wP I ?_))))
  (refine Af Tryz.hZ rfl rfl rfl rfl ?_;intro)
  (first|refine wS 0 rfl rfl rfl ?_|refine wS 1 rfl rfl rfl ?_|refine wS 2 rfl rfl rfl ?_|refine wS 3 rfl rfl rfl ?_|refine wS 4 rfl rfl rfl ?_)
  refine wP I (Aa ?_)
  rename_i b10
  repeat (first|refine zA ?_|refine zB ?_|refine zC ?_|refine zD ?_|refine zE ?_|refine zF ?_|refine zG ?_|refine zH ?_|refine zI ?_|refine zJ ?_|refine zK ?_|refine zL ?_|refine zM rfl ?_|refine zN ?_|refine zO ?_|refine zP ?_|refine zQ ?_|refine zR rfl ?_|refine zS rfl ?_|refine zU ?_)
  refine wP I (wP I (Aa ?_))
  repeat (first|refine zA ?_|refine zB ?_|refine zC ?_|refine zD ?_|refine zE ?_|refine zF ?_|refine zG ?_|refine zH ?_|refine zI ?_|refine zJ ?_|refine zK ?_|refine zL ?_|refine zM rfl ?_|refine zN ?_|refine zO ?_|refine zP ?_|refine zQ ?_|refine zR rfl ?_|refine zS rfl ?_|refine zU ?_)
  refine wP I (wC I I (fun W hp=>(Cz (Ad q) (by omega) W (hv.hp hp) (ht.hp hp)).cast (GM hkq)) (wP I (wP I (wP I ?_))))
  (refine Af Tryz.hZ rfl rfl rfl rfl ?_;intro)
  (first|refine wS 0 rfl rfl rfl ?_|refine wS 1 rfl rfl rfl ?_|refine wS 2 rfl rfl rfl ?_|refine wS 3 rfl rfl rfl ?_|refine wS 4 rfl rfl rfl ?_)
  refine wP I (Aa ?_)
  rename_i b12
  repeat (first|refine zA ?_|refine zB ?_|refine zC ?_|refine zD ?_|refine zE ?_|refine zF ?_|refine zG ?_|refine zH ?_|refine zI ?_|refine zJ ?_|refine zK ?_|refine zL ?_|refine zM rfl ?_|refine zN ?_|refine zO ?_|refine zP ?_|refine zQ ?_|refine zR rfl ?_|refine zS rfl ?_|refine zU ?_)
  refine wP I (wP I (Aa ?_))
  repeat (first|refine zA ?_|refine zB ?_|refine zC ?_|refine zD ?_|refine zE ?_|refine zF ?_|refine zG ?_|refine zH ?_|refine zI ?_|refine zJ ?_|refine zK ?_|refine zL ?_|refine zM rfl ?_|refine zN ?_|refine zO ?_|refine zP ?_|refine zQ ?_|refine zR rfl ?_|refine zS rfl ?_|refine zU ?_)
  (first|refine wB 0 rfl rfl rfl ?_|refine wB 1 rfl rfl rfl ?_|refine wB 2 rfl rfl rfl ?_|refine wB 3 rfl rfl rfl ?_|refine wB 4 rfl rfl rfl ?_)
  (first|refine wB 0 rfl rfl rfl ?_|refine wB 1 rfl rfl rfl ?_|refine wB 2 rfl rfl rfl ?_|refine wB 3 rfl rfl rfl ?_|refine wB 4 rfl rfl rfl ?_)
  refine wC I I (fun W hp=>CU p q hkp hkq h.1 h.2 W (ht.hp hp)) ?_
  iterate 7 refine wP I ?_
  refine Aa ?_
  repeat (first|refine zA ?_|refine zB ?_|refine zC ?_|refine zD ?_|refine zE ?_|refine zF ?_|refine zG ?_|refine zH ?_|refine zI ?_|refine zJ ?_|refine zK ?_|refine zL ?_|refine zM rfl ?_|refine zN ?_|refine zO ?_|refine zP ?_|refine zQ ?_|refine zR rfl ?_|refine zS rfl ?_|refine zU ?_)
  refine wP I (wP I (Aa ?_))
  repeat (first|refine zA ?_|refine zB ?_|refine zC ?_|refine zD ?_|refine zE ?_|refine zF ?_|refine zG ?_|refine zH ?_|refine zI ?_|refine zJ ?_|refine zK ?_|refine zL ?_|refine zM rfl ?_|refine zN ?_|refine zO ?_|refine zP ?_|refine zQ ?_|refine zR rfl ?_|refine zS rfl ?_|refine zU ?_)
  refine wP I (wP I (wC I I (fun W _=>He _ _ h.1 h.2 W) (wP I (wP I (wP I (wP I (Aa ?_)))))))
  repeat (first|refine zA ?_|refine zB ?_|refine zC ?_|refine zD ?_|refine zE ?_|refine zF ?_|refine zG ?_|refine zH ?_|refine zI ?_|refine zJ ?_|refine zK ?_|refine zL ?_|refine zM rfl ?_|refine zN ?_|refine zO ?_|refine zP ?_|refine zQ ?_|refine zR rfl ?_|refine zS rfl ?_|refine zU ?_)
  exact wR2 I I I
theorem JN (p q:Rat) (hkp:okQ p) (hkq:okQ q) (hno: ¬Bg p q) (W0:World) (hv:BO W0) (ht:AI W0):
  Ai Tryz.prog 119 #[str (Ad p),str (Ad q)] W0 (fun _:Unit=> .tuple #[.int .i64 0, .int .i64 4]) (fun _=>True) (fun _=>[]):=by
 obtain⟨s,hs⟩:=Fy p q hkp hkq hno
 have hlp:=AX hkp
 have hlq:=AX hkq
 refine Ac (args:=[str (Ad p),str (Ad q)]) Tryz.func119 I I I ?_
 repeat (first|refine zA ?_|refine zB ?_|refine zC ?_|refine zD ?_|refine zE ?_|refine zF ?_|refine zG ?_|refine zH ?_|refine zI ?_|refine zJ ?_|refine zK ?_|refine zL ?_|refine zM rfl ?_|refine zN ?_|refine zO ?_|refine zP ?_|refine zQ ?_|refine zR rfl ?_|refine zS rfl ?_|refine zU ?_)
 refine wP I (wP I (Aa (AH (Ar ?_))))
 refine AC (X:=Unit) (fun _=>[(0,str (Ad p)),(1,str (Ad q)),(4, .int .i64 0),(5, .int .i64 0)]) (fun _=>[]) (fun _=>True) ?_ ?_
 ·repeat (first|refine zA ?_|refine zB ?_|refine zC ?_|refine zD ?_|refine zE ?_|refine zF ?_|refine zG ?_|refine zH ?_|refine zI ?_|refine zJ ?_|refine zK ?_|refine zL ?_|refine zM rfl ?_|refine zN ?_|refine zO ?_|refine zP ?_|refine zQ ?_|refine zR rfl ?_|refine zS rfl ?_|refine zU ?_)
  refine wP I ?_
  by_cases hp:smQ p
  ·refine wC I I (fun W _=>(AP (Ad p) (by omega) W).cast ((BN p).trans (if_pos hp))) (wP I (wP I (wP I ?_)))
   (refine Af Tryz.hZ rfl rfl rfl rfl ?_;intro)
   (first|refine wS 0 rfl rfl rfl ?_|refine wS 1 rfl rfl rfl ?_|refine wS 2 rfl rfl rfl ?_|refine wS 3 rfl rfl rfl ?_|refine wS 4 rfl rfl rfl ?_)
   refine wP I (Aa ?_)
   rename_i b6
   repeat (first|refine zA ?_|refine zB ?_|refine zC ?_|refine zD ?_|refine zE ?_|refine zF ?_|refine zG ?_|refine zH ?_|refine zI ?_|refine zJ ?_|refine zK ?_|refine zL ?_|refine zM rfl ?_|refine zN ?_|refine zO ?_|refine zP ?_|refine zQ ?_|refine zR rfl ?_|refine zS rfl ?_|refine zU ?_)
   refine wP I (Aa ?_)
   repeat (first|refine zA ?_|refine zB ?_|refine zC ?_|refine zD ?_|refine zE ?_|refine zF ?_|refine zG ?_|refine zH ?_|refine zI ?_|refine zJ ?_|refine zK ?_|refine zL ?_|refine zM rfl ?_|refine zN ?_|refine zO ?_|refine zP ?_|refine zQ ?_|refine zR rfl ?_|refine zS rfl ?_|refine zU ?_)
   refine wP I ?_
   by_cases hq:smQ q
   ·exact absurd (K7 ⟨hp,hq⟩).2.2.2 hno
   ·refine wC I I (fun W _=>(AP (Ad q) (by omega) W).cast ((BN q).trans (if_neg hq))) (wP I (wP I (wP I ?_)))
    (refine Af Tryz.hZ rfl rfl rfl rfl ?_;intro)
    (first|refine wS 0 rfl rfl rfl ?_|refine wS 1 rfl rfl rfl ?_|refine wS 2 rfl rfl rfl ?_|refine wS 3 rfl rfl rfl ?_|refine wS 4 rfl rfl rfl ?_)
    refine wP I (Aa ?_)
    repeat (first|refine zA ?_|refine zB ?_|refine zC ?_|refine zD ?_|refine zE ?_|refine zF ?_|refine zG ?_|refine zH ?_|refine zI ?_|refine zJ ?_|refine zK ?_|refine zL ?_|refine zM rfl ?_|refine zN ?_|refine zO ?_|refine zP ?_|refine zQ ?_|refine zR rfl ?_|refine zS rfl ?_|refine zU ?_)
    refine wP I (Aa ?_)
    repeat (first|refine zA ?_|refine zB ?_|refine zC ?_|refine zD ?_|refine zE ?_|refine zF ?_|refine zG ?_|refine zH ?_|refine zI ?_|refine zJ ?_|refine zK ?_|refine zL ?_|refine zM rfl ?_|refine zN ?_|refine zO ?_|refine zP ?_|refine zQ ?_|refine zR rfl ?_|refine zS rfl ?_|refine zU ?_)
    exact An () tO ⟨I,I,I,I,tO⟩ _ I
  ·refine wC I I (fun W _=>(AP (Ad p) (by omega) W).cast ((BN p).trans (if_neg hp))) (wP I (wP I (wP I ?_)))
   (refine Af Tryz.hZ rfl rfl rfl rfl ?_;intro)
   (first|refine wS 0 rfl rfl rfl ?_|refine wS 1 rfl rfl rfl ?_|refine wS 2 rfl rfl rfl ?_|refine wS 3 rfl rfl rfl ?_|refine wS 4 rfl rfl rfl ?_)
   refine wP I (Aa ?_)
   repeat (first|refine zA ?_|refine zB ?_|refine zC ?_|refine zD ?_|refine zE ?_|refine zF ?_|refine zG ?_|refine zH ?_|refine zI ?_|refine zJ ?_|refine zK ?_|refine zL ?_|refine zM rfl ?_|refine zN ?_|refine zO ?_|refine zP ?_|refine zQ ?_|refine zR rfl ?_|refine zS rfl ?_|refine zU ?_)
   refine wP I (Aa ?_)
   repeat (first|refine zA ?_|refine zB ?_|refine zC ?_|refine zD ?_|refine zE ?_|refine zF ?_|refine zG ?_|refine zH ?_|refine zI ?_|refine zJ ?_|refine zK ?_|refine zL ?_|refine zM rfl ?_|refine zN ?_|refine zO ?_|refine zP ?_|refine zQ ?_|refine zR rfl ?_|refine zS rfl ?_|refine zU ?_)
   exact An () tO ⟨I,I,I,I,tO⟩ _ I
 ·intro _ _
  repeat (first|refine zA ?_|refine zB ?_|refine zC ?_|refine zD ?_|refine zE ?_|refine zF ?_|refine zG ?_|refine zH ?_|refine zI ?_|refine zJ ?_|refine zK ?_|refine zL ?_|refine zM rfl ?_|refine zN ?_|refine zO ?_|refine zP ?_|refine zQ ?_|refine zR rfl ?_|refine zS rfl ?_|refine zU ?_)
  refine wP I (wC I I (fun W hp=>(Cz (Ad p) (by omega) W (hv.hp hp) (ht.hp hp)).cast (GM hkp)) (wP I (wP I (wP I ?_))))
  (refine Af Tryz.hZ rfl rfl rfl rfl ?_;intro)
  (first|refine wS 0 rfl rfl rfl ?_|refine wS 1 rfl rfl rfl ?_|refine wS 2 rfl rfl rfl ?_|refine wS 3 rfl rfl rfl ?_|refine wS 4 rfl rfl rfl ?_)
  refine wP I (Aa ?_)
  rename_i b10
  repeat (first|refine zA ?_|refine zB ?_|refine zC ?_|refine zD ?_|refine zE ?_|refine zF ?_|refine zG ?_|refine zH ?_|refine zI ?_|refine zJ ?_|refine zK ?_|refine zL ?_|refine zM rfl ?_|refine zN ?_|refine zO ?_|refine zP ?_|refine zQ ?_|refine zR rfl ?_|refine zS rfl ?_|refine zU ?_)
  refine wP I (wP I (Aa ?_))
  repeat (first|refine zA ?_|refine zB ?_|refine zC ?_|refine zD ?_|refine zE ?_|refine zF ?_|refine zG ?_|refine zH ?_|refine zI ?_|refine zJ ?_|refine zK ?_|refine zL ?_|refine zM rfl ?_|refine zN ?_|refine zO ?_|refine zP ?_|refine zQ ?_|refine zR rfl ?_|refine zS rfl ?_|refine zU ?_)
  refine wP I (wC I I (fun W hp=>(Cz (Ad q) (by omega) W (hv.hp hp) (ht.hp hp)).cast (GM hkq)) (wP I (wP I (wP I ?_))))
  (refine Af Tryz.hZ rfl rfl rfl rfl ?_;intro)
  (first|refine wS 0 rfl rfl rfl ?_|refine wS 1 rfl rfl rfl ?_|refine wS 2 rfl rfl rfl ?_|refine wS 3 rfl rfl rfl ?_|refine wS 4 rfl rfl rfl ?_)
  refine wP I (Aa ?_)
  rename_i b12
  repeat (first|refine zA ?_|refine zB ?_|refine zC ?_|refine zD ?_|refine zE ?_|refine zF ?_|refine zG ?_|refine zH ?_|refine zI ?_|refine zJ ?_|refine zK ?_|refine zL ?_|refine zM rfl ?_|refine zN ?_|refine zO ?_|refine zP ?_|refine zQ ?_|refine zR rfl ?_|refine zS rfl ?_|refine zU ?_)
  refine wP I (wP I (Aa ?_))
  repeat (first|refine zA ?_|refine zB ?_|refine zC ?_|refine zD ?_|refine zE ?_|refine zF ?_|refine zG ?_|refine zH ?_|refine zI ?_|refine zJ ?_|refine zK ?_|refine zL ?_|refine zM rfl ?_|refine zN ?_|refine zO ?_|refine zP ?_|refine zQ ?_|refine zR rfl ?_|refine zS rfl ?_|refine zU ?_)
  (first|refine wB 0 rfl rfl rfl ?_|refine wB 1 rfl rfl rfl ?_|refine wB 2 rfl rfl rfl ?_|refine wB 3 rfl rfl rfl ?_|refine wB 4 rfl rfl rfl ?_)
  (first|refine wB 0 rfl rfl rfl ?_|refine wB 1 rfl rfl rfl ?_|refine wB 2 rfl rfl rfl ?_|refine wB 3 rfl rfl rfl ?_|refine wB 4 rfl rfl rfl ?_)
  refine wC I I (fun W hp=>hs W (ht.hp hp)) ?_
  iterate 7 refine wP I ?_
  refine Aa ?_
  repeat (first|refine zA ?_|refine zB ?_|refine zC ?_|refine zD ?_|refine zE ?_|refine zF ?_|refine zG ?_|refine zH ?_|refine zI ?_|refine zJ ?_|refine zK ?_|refine zL ?_|refine zM rfl ?_|refine zN ?_|refine zO ?_|refine zP ?_|refine zQ ?_|refine zR rfl ?_|refine zS rfl ?_|refine zU ?_)
  refine wP I (wP I (Aa ?_))
  repeat (first|refine zA ?_|refine zB ?_|refine zC ?_|refine zD ?_|refine zE ?_|refine zF ?_|refine zG ?_|refine zH ?_|refine zI ?_|refine zJ ?_|refine zK ?_|refine zL ?_|refine zM rfl ?_|refine zN ?_|refine zO ?_|refine zP ?_|refine zQ ?_|refine zR rfl ?_|refine zS rfl ?_|refine zU ?_)
  refine wP I (wP I (wP I (Aa ?_)))
  repeat (first|refine zA ?_|refine zB ?_|refine zC ?_|refine zD ?_|refine zE ?_|refine zF ?_|refine zG ?_|refine zH ?_|refine zI ?_|refine zJ ?_|refine zK ?_|refine zL ?_|refine zM rfl ?_|refine zN ?_|refine zO ?_|refine zP ?_|refine zQ ?_|refine zR rfl ?_|refine zS rfl ?_|refine zU ?_)
  exact wR2 I I I
theorem JM (p q:Rat) (hkp:okQ p) (hkq:okQ q) (W0:World) (hv:BO W0) (ht:AI W0):
  Ai Tryz.prog 119 #[str (Ad p),str (Ad q)] W0 (fun _:Unit=>cmV p q) (fun _=>True) (fun _=>[]):=by
 by_cases h:Bg p q
 ·exact(Ka p q hkp hkq h W0 hv ht).cast (by rw[cmV,if_pos h,Qc])
 ·exact(JN p q hkp hkq h W0 hv ht).cast (by rw[cmV,if_neg h])
-- BOXES 8
-- CODE2
def erI:Bool→Int
 |true=>4
 |false=>0
abbrev caE (c:Nat) (s:Bool):Bx:=⟨c,61,[.int .i64 (erI s)],true,none⟩
abbrev caO (s:Bool):Obj:= .cells #[.int .i64 (erI s)] 61 (0,0)
structure KcP (c:Nat) (s:Bool) (W:World):Prop where
 o:W.heap[c]? =some (caO s)
 k: ∀W',Ie W W' c→BO W'∧AI W'
theorem Ie.refl (W:World) (g:Nat):Ie W W g:=⟨rfl,rfl,rfl,Nat.le_refl _,fun _ _ _=>rfl⟩
theorem KcP.v {c:Nat} {s:Bool} {W:World} (h:KcP c s W):BO W:=(h.k W (Ie.refl W c)).1
theorem KcP.t {c:Nat} {s:Bool} {W:World} (h:KcP c s W):AI W:=(h.k W (Ie.refl W c)).2
theorem KcP.at_ {c:Nat} {s s1:Bool} {W W1:World} {bs:List Bx} (h:KcP c s W) (hp:Hp (Bn W) (AL (As W c)::caE c s1::bs) W1):KcP c s1 W1:=
 ⟨(hp.own.cell 1 (caE c s1) rfl (c,caO s1) (List.mem_cons_self ..)).1,fun _ h2=>h.k _ ((Ke h.o ⟨_,List.mem_cons_self ..⟩ (Hp.take (bxs:=[AL (As W c),caE c s1]) (nb:=bs) hp)).trans h2)⟩
theorem KcP.of {c:Nat} {s:Bool} {W0 W:World} {bxs:List Bx} (hp:Hp W0 bxs W) (k:Nat) (hk:nth bxs k=some (caE c s)) (hv:BO W0) (ht:AI W0):KcP c s W:=by
 rw[B6] at hk
 have hc:=hp.own.cell k _ hk (c,caO s) (List.mem_cons_self ..)
 exact⟨hc.1,fun W2 h2=>⟨hv.below (h2.below hp.below hc.2),ht.below (h2.below hp.below hc.2)⟩⟩
theorem D8 {c:Nat} {s1:Bool} {W W1:World} {bs:List Bx} (hp:Hp (Bn W) (AL (As W c)::caE c s1::bs) W1):Ap (Bn W) W1 [AL (As W c),caE c s1]:=
 (Hp.take (bxs:=[AL (As W c),caE c s1]) (nb:=bs) hp).own
structure BK (g:Nat) (vs:List Value) (c:Nat) {X:Type} (st:X→Bool) (val:X→Value) (Φ:X→Prop) (W:World):Prop where
 out:Calls Tryz.prog g vs.toArray W fun e W'=> ∃x,e= .returned (val x)∧Φ x∧JK W W' c c (caO (st x))
theorem BK.enter {N c:Nat} {s:Bool} {f:Nat} {fn:Func} {cd:Code} {args:List Value} {X:Type} {st:X→Bool} {val:X→Value} {Φ:X→Prop} {W:World} (h:KcP c s W) (hf:Tryz.prog.funcs[f]? =some fn) (hb:fn.body=some cd) (hN:fn.ntmps=N) (hl:Nat.ble args.length N=true)
  (hw:WC none 0 Tryz.prog N [] cd (GI Tryz.prog fn (Bn W) val Φ (fun x=>[AL (As W c),caE c (st x)])) (Ig 0 args) (Hp (Bn W) [AL (As W c),caE c s])):BK f args c st val Φ W:=by
 have key:=CM (X:=X) (val:=val) (Φ:=Φ) (nb:=fun x=>[AL (As W c),caE c (st x)]) (Hp.enterT (B:=caE c s) rfl h.o) hf hb hN hl hw
 refine⟨key.mono ?_⟩
 rintro e W' ⟨x,he,hx,hb,hn⟩
 exact⟨x,he,hx,G2 h.o I hb hn⟩
section
variable {r:Option Nat} {n:Nat} {W0:World} {N:Nat} {D:List Deferred} {ops:List Oper} {Q:Exit→Act→World→Prop} {o:Oper} {rest:List Oper} {env:Env} {bxs:List Bx}
theorem Sc (k c:Nat) {s:Bool} {cl:Call} {f:Operand} {g d:Nat} {vs:List Value} {X:Type} {st:X→Bool} {val:X→Value} {Φ:X→Prop} (hg:A6 ops N env o=some true) (hd:o.dst=some d) (ho:o.op= .call cl) (hc:cl.callee= .value f) (hf:evO N env f=some (.func (.func g) #[] #[])) (ha:Cu (evO N env) cl.args.toList=some vs) (hE:Bi Tryz.prog g=true)
  (hk:nth bxs k=some (caE c s)) (hC: ∀W,Hp W0 bxs W→BK g vs c st val Φ W)
  (h: ∀x,Φ x→WL r n Tryz.prog N D ops Q rest ((d,val x)::env) (Hp W0 (bxs.set k (caE c (st x))))):WL r n Tryz.prog N D ops Q (o::rest) env (Hp W0 bxs):=
 FZ (X:=X) (val:=val) (Φ:=Φ) (capt:=[]) k (B:=caE c s) (L1:=[]) (L2:=[]) (b:=c) (ob:=caO s) (fun x=>caE c (st x)) (g':=fun _=>c) (o':=fun x=>caO (st x))
  hg hd ho hc hf ha hE hk rfl (fun _ _=>rfl) (fun W hp=>by rw[List.append_nil];exact(hC W hp).out) h
theorem AM (k c:Nat) {s s':Bool} {v:Value} {cl:Call} {f:Operand} {g d:Nat} {vs:List Value} (hg:A6 ops N env o=some true) (hd:o.dst=some d) (ho:o.op= .call cl) (hc:cl.callee= .value f) (hf:evO N env f=some (.func (.func g) #[] #[])) (ha:Cu (evO N env) cl.args.toList=some vs) (hE:Bi Tryz.prog g=true)
  (hk:nth bxs k=some (caE c s)) (hC: ∀W,Hp W0 bxs W→BK g vs c (fun _:Unit=>s') (fun _=>v) (fun _=>True) W)
  (h:WL r n Tryz.prog N D ops Q rest ((d,v)::env) (Hp W0 (bxs.set k (caE c s')))):WL r n Tryz.prog N D ops Q (o::rest) env (Hp W0 bxs):=
 Sc k c hg hd ho hc hf ha hE hk hC (fun _ _=>h)
end
@[irreducible] def opR (ok : Prop) [Decidable ok] (r : Rat) (s : Bool) : Rat × Bool := match s with
 |true=>(0,true)
 |false=>if ok then(r,false) else(0,true)
theorem O9 {ok:Prop} [Decidable ok] {r:Rat}:opR ok r true=(0,true):=by unfold opR;rfl
theorem B5 {ok:Prop} [Decidable ok] {r:Rat} (h:ok):opR ok r false=(r,false):=by unfold opR;exact if_pos h
theorem Sw {ok:Prop} [Decidable ok] {r:Rat} (h: ¬ok):opR ok r false=(0,true):=by unfold opR;exact if_neg h
theorem NO:okQ 0:=by
 have h:szQ 0 1:=by unfold szQ;decide+kernel
 exact h.ok (by decide)
theorem MM {ok:Prop} [Decidable ok] {r:Rat} {s:Bool} (h:ok→okQ r):okQ (opR ok r s).1:=by
 cases s with
 |true=>rw[O9];exact NO
 |false=>
  by_cases c:ok
  ·rw[B5 c];exact h c
  ·rw[Sw c];exact NO
def kAd (s:Bool) (p q:Rat):Rat×Bool:=opR (Cj p q) (p+q) s
def kSb (s:Bool) (p q:Rat):Rat×Bool:=opR (BE p q) (p-q) s
def kMu (s:Bool) (p q:Rat):Rat×Bool:=opR (BY p q) (p*q) s
def kDi (s:Bool) (p q:Rat):Rat×Bool:=opR (Bg p q) (p/q) s
theorem KH (s:Bool) (p q:Rat):okQ (kAd s p q).1:=MM Od
theorem E8 (s:Bool) (p q:Rat):okQ (kSb s p q).1:=MM Mr
theorem Hf (s:Bool) (p q:Rat):okQ (kMu s p q).1:=MM M1
@[irreducible] def kOr (s : Bool) (p q : Rat) : Int × Bool := match s with
 |true=>(0,true)
 |false=>if Bg p q then(CV p q,false) else(0,true)
theorem Kx {p q:Rat}:kOr true p q=(0,true):=by unfold kOr;rfl
theorem JA {p q:Rat} (h:Bg p q):kOr false p q=(CV p q,false):=by unfold kOr;exact if_pos h
theorem Pj {p q:Rat} (h: ¬Bg p q):kOr false p q=(0,true):=by unfold kOr;exact if_neg h
theorem Mu (c g:Nat) (a b:List UInt8) (W:World) (h:KcP c true W):
  BK 104 [Ag c, .func (.func g) #[] #[],str a,str b] c (fun _:Unit=>true) (fun _=>str [48]) (fun _=>True) W:=by
 refine BK.enter h Tryz.func104 I I I ?_
 refine zA (zB (wP I (Aa (zE (zA (zA (zB (wP I ?_))))))))
 refine AB I I I I ?_
 exact wP I (wB 1 I I I (wP I (Aa (zE (zR I (zA (zB (wP I (Aa (zE (zO (zP (Av tH I (.tmp I) () I tO fun W1 hp=>D8 hp)))))))))))))
theorem Ow (c g:Nat) (a b v:List UInt8) (z:Bool) (W:World) (h:KcP c false W) (hE:Bi Tryz.prog g=true)
  (hg: ∀W1,BO W1→AI W1→Ai Tryz.prog g #[str a,str b] W1 (fun _:Unit=> .tuple #[str v, .int .i64 (erI z)]) (fun _=>True) (fun _=>[])):
  BK 104 [Ag c, .func (.func g) #[] #[],str a,str b] c (fun _:Unit=>z) (fun _=>if z=true then str [48] else str v) (fun _=>True) W:=by
 refine BK.enter h Tryz.func104 I I I ?_
 refine zA (zB (wP I (Aa (zE (zA (zA (zB (wP I ?_))))))))
 refine AB I I I I ?_
 refine wP I (wB 1 I I I (wP I (Aa (zE (zS I (zI (zE (zA (zB (wP I (wP I (wP I ?_))))))))))))
 refine B7 (capt:=[]) I I I I I I hE (fun W1 hp=>hg W1 (h.at_ (bs:=[]) hp).v (h.at_ (bs:=[]) hp).t) ?_
 iterate 5 refine wP I ?_
 refine Aa (zE (zA (zA (zB (wP I (wP I ?_))))))
 refine AB I I I I ?_
 refine wP I (wS 1 I I I (Aa (zE (zA (zB ?_)))))
 cases z with
 |true=>
  exact wP I (wP I (Aa (zE (zR I (zA (zB (wP I (Aa (zE (zO (zP (Av tH I (.tmp I) () I tO fun W1 hp=>D8 hp))))))))))))
 |false=>
  exact wP I (wP I (Aa (zE (zS I (zI (zE (zA (zB (wP I (wP I (Aa (zE (zO (Av tH I (.tmp I) () I tO fun W1 hp=>D8 hp))))))))))))))
theorem G4 (c g:Nat) (a b:List UInt8) (ok:Prop) [Decidable ok] (r:Rat) (s:Bool) (W:World) (h:KcP c s W) (hE:Bi Tryz.prog g=true)
  (hg: ∀W1,BO W1→AI W1→Ai Tryz.prog g #[str a,str b] W1 (fun _:Unit=>opV ok r) (fun _=>True) (fun _=>[])):
  BK 104 [Ag c, .func (.func g) #[] #[],str a,str b] c (fun _:Unit=>(opR ok r s).2) (fun _=>str (Ad (opR ok r s).1)) (fun _=>True) W:=by
 cases s with
 |true=>
  rw[O9]
  show BK _ _ c _ (fun _=>str (Ad 0)) _ W
  rw[DO]
  exact Mu c g a b W h
 |false=>
  by_cases k:ok
  ·rw[B5 k]
   exact Ow c g a b (Ad r) false W h hE fun W1 hv ht=>(hg W1 hv ht).cast (E7 k)
  ·rw[Sw k]
   show BK _ _ c _ (fun _=>str (Ad 0)) _ W
   rw[DO]
   exact Ow c g a b [] true W h hE fun W1 hv ht=>(hg W1 hv ht).cast (FJ k)
abbrev BD (g:Nat) (vs:List Value) (c:Nat) (x:Rat×Bool) (W:World):Prop:=BK g vs c (fun _:Unit=>x.2) (fun _=>str (Ad x.1)) (fun _=>True) W
theorem F9 (c:Nat) (s:Bool) (p q:Rat) (hp:okQ p) (hq:okQ q) (W:World) (h:KcP c s W):BD 45 [Ag c,str (Ad p),str (Ad q)] c (kAd s p q) W:=by
 refine BK.enter h Tryz.func45 I I I ?_
 refine zA (zB (wP I (Aa (zE (zA (zB (wP I (wP I (wP I ?_)))))))))
 refine AM 1 c I I I I I I (by kernel_rfl) I (fun W1 hp1=>G4 c 16 (Ad p) (Ad q) (Cj p q) (p+q) s W1 (h.at_ (bs:=[]) hp1) (by kernel_rfl) (fun W2 hv ht=>NA p q hp hq W2 hv ht)) ?_
 exact wP I (Aa (zE (zO (Av tH I (.tmp I) () I tO fun W1 hp=>D8 hp))))
theorem Ci (c:Nat) (s:Bool) (p q:Rat) (hp:okQ p) (hq:okQ q) (W:World) (h:KcP c s W):BD 59 [Ag c,str (Ad p),str (Ad q)] c (kSb s p q) W:=by
 refine BK.enter h Tryz.func59 I I I ?_
 refine zA (zB (wP I (Aa (zE (zA (zB (wP I (wP I (wP I ?_)))))))))
 refine AM 1 c I I I I I I (by kernel_rfl) I (fun W1 hp1=>G4 c 126 (Ad p) (Ad q) (BE p q) (p-q) s W1 (h.at_ (bs:=[]) hp1) (by kernel_rfl) (fun W2 hv ht=>N8 p q hp hq W2 hv ht)) ?_
 exact wP I (Aa (zE (zO (Av tH I (.tmp I) () I tO fun W1 hp=>D8 hp))))
theorem CE (c:Nat) (s:Bool) (p q:Rat) (hp:okQ p) (hq:okQ q) (W:World) (h:KcP c s W):BD 60 [Ag c,str (Ad p),str (Ad q)] c (kMu s p q) W:=by
 refine BK.enter h Tryz.func60 I I I ?_
 refine zA (zB (wP I (Aa (zE (zA (zB (wP I (wP I (wP I ?_)))))))))
 refine AM 1 c I I I I I I (by kernel_rfl) I (fun W1 hp1=>G4 c 72 (Ad p) (Ad q) (BY p q) (p*q) s W1 (h.at_ (bs:=[]) hp1) (by kernel_rfl) (fun W2 hv ht=>Pk p q hp hq W2 hv ht)) ?_
 exact wP I (Aa (zE (zO (Av tH I (.tmp I) () I tO fun W1 hp=>D8 hp))))
theorem NG (c:Nat) (s:Bool) (p q:Rat) (hp:okQ p) (hq:okQ q) (h0:q.num≠0) (W:World) (h:KcP c s W):BD 47 [Ag c,str (Ad p),str (Ad q)] c (kDi s p q) W:=by
 refine BK.enter h Tryz.func47 I I I ?_
 refine zA (zB (wP I (Aa (zE (zA (zB (wP I (wP I (wP I ?_)))))))))
 refine AM 1 c I I I I I I (by kernel_rfl) I (fun W1 hp1=>G4 c 105 (Ad p) (Ad q) (Bg p q) (p/q) s W1 (h.at_ (bs:=[]) hp1) (by kernel_rfl) (fun W2 hv ht=>ON p q hp hq h0 W2 hv ht)) ?_
 exact wP I (Aa (zE (zO (Av tH I (.tmp I) () I tO fun W1 hp=>D8 hp))))
abbrev FP (g:Nat) (vs:List Value) (c:Nat) (x:Int×Bool) (W:World):Prop:=BK g vs c (fun _:Unit=>x.2) (fun _=> .int .i64 x.1) (fun _=>True) W
theorem FN (c:Nat) (s:Bool) (p q:Rat) (hp:okQ p) (hq:okQ q) (W:World) (h:KcP c s W):FP 53 [Ag c,str (Ad p),str (Ad q)] c (kOr s p q) W:=by
 cases s with
 |true=>
  rw[Kx]
  refine BK.enter h Tryz.func53 I I I ?_
  refine zA (zB (wP I (Aa (zE (zA (zA (zB (wP I ?_))))))))
  refine AB I I I I ?_
  exact wP I (wB 1 I I I (wP I (Aa (zE (zR I (zA (zB (wP I (Aa (zE (zO (zP (Av tH I (.tmp I) () I tO fun W1 hp=>D8 hp)))))))))))))
 |false=>
  have one: ∀(v:Int) (z:Bool),cmV p q= .tuple #[.int .i64 v, .int .i64 (erI z)]→FP 53 [Ag c,str (Ad p),str (Ad q)] c (v,z) W:=fun v z hvz=>by
   refine BK.enter h Tryz.func53 I I I ?_
   refine zA (zB (wP I (Aa (zE (zA (zA (zB (wP I ?_))))))))
   refine AB I I I I ?_
   refine wP I (wB 1 I I I (wP I (Aa (zE (zS I (zI (zE (zA (zB (wP I (wP I (wC I I (fun W1 hp1=>(JM p q hp hq W1 (h.at_ (bs:=[]) hp1).v (h.at_ (bs:=[]) hp1).t).cast hvz) ?_))))))))))))
   iterate 5 refine wP I ?_
   refine Aa (zE (zA (zB (wP I (wP I ?_)))))
   refine AB I I I I ?_
   exact wP I (wS 1 I I I (Aa (zE (zA (zB (wP I (wP I (Aa (zE (zO (Av tH I (.tmp I) () I tO fun W1 hp=>D8 hp)))))))))))
  by_cases k:Bg p q
  ·rw[JA k]
   exact one (CV p q) false (if_pos k)
  ·rw[Pj k]
   exact one 0 true (if_neg k)
-- BOXES 5
-- CODE2
def tnR (p q r:Ak):Int×Int:=match tA p q r,tB p q r with
 |some x,some y=>if Bg x y then(CV x y,0) else(0,4)
 |_,_=>(0,4)
theorem Vu (p q r:Ak):tnV p q r= .tuple #[.int .i64 (tnR p q r).1, .int .i64 (tnR p q r).2]:=by
 unfold tnV tnR
 cases tA p q r with
 |none=>rfl
 |some x=>cases tB p q r with
  |none=>rfl
  |some y=>
   show cmV x y=_
   unfold cmV
   by_cases c:Bg x y
   ·rw[if_pos c];simp only[if_pos c]
   ·rw[if_neg c];simp only[if_neg c]
def IZ (l:List Ak) (i k:Nat):Int×Int:=tnR (Ae l i) (Ae l (i+1)) (Ae l k)
def LP (l:List Ak) (i k:Nat):Prop:=k≠i∧k≠(i+1)%l.length
structure EM (l:List Ak) (i j:Nat) (c:Bool):Prop where
 e0: ∀a k,(a<i∨a=i∧k<j)→k<l.length→LP l a k→(IZ l a k).2=0
 c0:c=true↔ ∀a k,(a<i∨a=i∧k<j)→k<l.length→LP l a k→0<(IZ l a k).1
theorem EM.zero (l:List Ak):EM l 0 0 true:=⟨fun a k h=>by omega,⟨fun _ a k h=>by omega,fun _=>rfl⟩⟩
theorem EM.skip {l:List Ak} {i j:Nat} {c:Bool} (h:EM l i j c) (hn: ¬LP l i j):EM l i (j+1) c:=by
 have w: ∀a k,(a<i∨a=i∧k<j+1)→LP l a k→a<i∨a=i∧k<j:=by
  intro a k h1 h2
  rcases h1 with h1|⟨rfl,h1⟩
  ·exact Or.inl h1
  ·rcases Nat.lt_or_ge k j with q|q
   ·exact Or.inr ⟨I,q⟩
   ·obtain rfl:k=j:=by omega
    exact absurd h2 hn
 exact⟨fun a k h1 h2 h3=>h.e0 a k (w a k h1 h3) h2 h3,h.c0.trans ⟨fun f a k h1 h2 h3=>f a k (w a k h1 h3) h2 h3,fun f a k h1 h2 h3=>f a k (by omega) h2 h3⟩⟩
theorem EM.step {l:List Ak} {i j:Nat} {c:Bool} (h:EM l i j c) (he:(IZ l i j).2=0) (hj:j<l.length) (ha:LP l i j):EM l i (j+1) (c&&decide (0<(IZ l i j).1)):=by
 have w: ∀a k,(a<i∨a=i∧k<j+1)→(a<i∨a=i∧k<j)∨a=i∧k=j:=by
  intro a k h1;omega
 refine⟨fun a k h1 h2 h3=> ?_, ?_⟩
 ·rcases w a k h1 with q|⟨rfl,rfl⟩
  ·exact h.e0 a k q h2 h3
  ·exact he
 ·rw[Bool.and_eq_true,decide_eq_true_iff,h.c0]
  constructor
  ·rintro⟨f,g⟩ a k h1 h2 h3
   rcases w a k h1 with q|⟨rfl,rfl⟩
   ·exact f a k q h2 h3
   ·exact g
  ·intro f
   exact⟨fun a k h1 h2 h3=>f a k (by omega) h2 h3,f i j (by omega) hj ha⟩
theorem EM.next {l:List Ak} {i j:Nat} {c:Bool} (h:EM l i j c) (hj:l.length≤j):EM l (i+1) 0 c:=by
 have w: ∀a k,(a<i+1∨a=i+1∧k<0)→k<l.length→a<i∨a=i∧k<j:=by intro a k h1 h2;omega
 exact⟨fun a k h1 h2 h3=>h.e0 a k (w a k h1 h2) h2 h3,h.c0.trans ⟨fun f a k h1 h2 h3=>f a k (w a k h1 h2) h2 h3,fun f a k h1 h2 h3=>f a k (by omega) h2 h3⟩⟩
-- BOXES 5
-- CODE2
def cvS (p:Ak):PtS:=(Ad p.1,Ad p.2)
theorem Gl: ∀ {l:List Ak},(∀x∈l,okP x)→nErr (l.map cvS)=0
 |[],_=>rfl
 |x::l,h=>by
  have hx:=h x List.mem_cons_self
  show(if (rdR (Ad x.1)).2≠0 then(rdR (Ad x.1)).2 else if (rdR (Ad x.2)).2≠0 then(rdR (Ad x.2)).2 else nErr (l.map cvS))=0
  rw[IX hx.1,IX hx.2,if_neg (by simp),if_neg (by simp)]
  exact Gl fun y hy=>h y (List.mem_cons_of_mem _ hy)
def Jt (l:List Ak):Prop:= ∀i k,i<l.length→k<l.length→LP l i k→(IZ l i k).2=0∧0<(IZ l i k).1
theorem HE (W:World) (p:Option Addr) (cap:Nat) (l:List Ak) (hA:Ek W p (l.map cvS)) (h3:3≤l.length) (h4:l.length≤4096) (hk: ∀x∈l,okP x) (ht:AI W):
  Ai Tryz.prog 39 #[slv p l.length cap] W (fun e:Int=> .int .i64 e) (fun e=>e=0↔Jt l) (fun _=>[]):=by
 have hml:(l.map cvS).length=l.length:=by simp
 obtain⟨b,off,rfl,hrow0⟩: ∃b off,p=some ⟨b,off,none⟩∧ ∀i (hi:i<(l.map cvS).length),Aj W b (off+i*2) [str (l.map cvS)[i].1,str (l.map cvS)[i].2]:=by
  rcases hA with h|h
  ·have:=congrArg List.length h;simp at this;rw[this] at h3;exact absurd h3 (by decide)
  ·exact h
 have hrow: ∀i,i<l.length→Aj W b (off+i*2) [str (Ad (Ae l i).1),str (Ad (Ae l i).2)]:=fun i hi=>by
  have h:=hrow0 i (by rw[hml];exact hi)
  rw[BM hi]
  simpa[cvS] using h
 have hok: ∀i,i<l.length→okP (Ae l i):=fun i hi=>hk _ (B2 (by omega) i)
 have hnum: ∀W1,AI W1→Ek W1 (some ⟨b,off,none⟩) (l.map cvS)→Ai Tryz.prog 92 #[slv (some ⟨b,off,none⟩) l.length cap] W1 (fun _:Unit=> .int .i64 0) (fun _=>True) (fun _=>[]):=fun W1 t1 a1=>by
  have h:=GD W1 (some ⟨b,off,none⟩) cap (l.map cvS) a1 (by rw[hml];omega) (fun x hx=>by
   obtain⟨q,hq,rfl⟩:=List.mem_map.1 hx
   have a:=AX (hk q hq).1
   have b:=AX (hk q hq).2
   show(Ad q.1).length<_∧(Ad q.2).length<_
   omega) t1
  rw[Gl hk,hml] at h
  exact h
 refine Ac (args:=[slv (some ⟨b,off,none⟩) l.length cap]) Tryz.func39 I I I ?_
 refine zA (zB (wP I (Aa (zE (zA (zA (zB (wP I (wP I (wP I (wU 12 false I (dF (by omega)) (Aa (zE ?_)))))))))))))
 refine zS I (zI (zE (zA (zA (zB (wP I (wP I (wP I (wU 15 false I (dF (by omega)) (Aa (zE (zS I (zI ?_)))))))))))))
 refine zE (zA (zA (zB (wP I (wC I I (fun W1 hp=>hnum W1 (ht.hp hp) (hA.hp hp)) (wP I (Aa (zE (zA (zB (wP I (wP I (Aa ?_)))))))))))))
 refine zE (zS I (zI (zE (zA (zB (wP I (Aa (zE (zA (zA (zB (wP I (Aa ?_)))))))))))))
 refine zE (zH ?_)
 refine A9 (X:=Nat×Bool) (fun s=>[(0,slv (some ⟨b,off,none⟩) l.length cap),(4, .bool s.2),(5, .int .i64 (s.1:Nat))]) (fun _=>[]) (fun s=>s.1≤l.length∧EM l s.1 0 s.2) (fun s=>l.length-s.1) (0,true) ⟨Nat.zero_le _,EM.zero l⟩ ⟨I,I,I,tO⟩ [] I ?_
 rintro⟨i,c⟩ ⟨hi,hU⟩
 have hi:i≤l.length:=hi
 have hU:EM l i 0 c:=hU
 refine zA (zA (zB (wP I (wP I (wP I (wP I ?_))))))
 by_cases hlt:i<l.length
 ·refine wU 24 true I (dT (by omega)) (Aa (zE (zR I (zI (zE (zA (zH (zA (zB (wP I (wP I (wV 28 ((i+1:Nat):Int) I (Ax (by omega)) (wP I (wP I ?_))))))))))))))
  refine Ej I I I I I (by omega) ?_
  obtain⟨m,hm⟩: ∃m,m=(i+1)%l.length:=⟨_,rfl⟩
  have hml2:m<l.length:=by rw[hm];exact Nat.mod_lt _ (by omega)
  refine wV 31 (m:Nat) I (by rw[Int.tmod_eq_emod_of_nonneg (by omega)];omega) (wP I (Aa (zE (zA (zB (wP I (Aa (zE (zH ?_)))))))))
  refine A9 (X:=Nat×Bool) (fun s=>[(0,slv (some ⟨b,off,none⟩) l.length cap),(4, .bool s.2),(5, .int .i64 (i:Nat)),(6, .int .i64 (m:Nat)),(7, .int .i64 (s.1:Nat))]) (fun _=>[]) (fun s=>s.1≤l.length∧EM l i s.1 s.2) (fun s=>l.length-s.1) (0,c) ⟨Nat.zero_le _,hU⟩ ⟨I,I,I,I,I,tO⟩ [] I ?_
  rintro⟨j,d⟩ ⟨hj,hV⟩
  have hj:j≤l.length:=hj
  have hV:EM l i j d:=hV
  refine zA (zA (zB (wP I (wP I (wP I (wP I ?_))))))
  by_cases hjt:j<l.length
  ·refine wU 35 true I (dT (by omega)) (Aa (zE (zR I (zI (zE (zA (zH (zA (zA (zB ?_))))))))))
   have skip: ¬LP l i j→EM l i (j+1) d:=fun h=>hV.skip h
   by_cases hji:j=i
   ·skip
    refine wP I (wP I (wP I (wU 40 true I (by rw[beq_iff_eq];omega) (wP I ?_))))
    iterate 3 refine Ao I I ?_
    exact wP I (Aa (zE (zR I (zJ (zK (zL (zE (zB (wP I (wP I (wV 37 ((j+1:Nat):Int) I (Ax (by omega)) (wP I (Aa (A4 (j+1,d) ⟨hjt,skip fun h=>h.1 hji⟩ (by show l.length-(j+1)<l.length-j;omega) ⟨I,I,I,I,I,tO⟩ [] I))))))))))))))
   refine wP I (wP I (wP I (wU 40 false I (by rw[beq_eq_false_iff_ne];omega) (wP I (wP I (wP I (wP I ?_)))))))
   by_cases hjm:j=m
   ·refine wU 44 true I (by rw[beq_iff_eq];omega) (wP I (Aa (zE (zR I (zJ (zK (zL (zE (zB (wP I (wP I (wV 37 ((j+1:Nat):Int) I (Ax (by omega)) (wP I ?_)))))))))))))
    exact Aa (A4 (j+1,d) ⟨hjt,skip fun h=>h.2 (by rw[←hm];exact hjm)⟩ (by show l.length-(j+1)<l.length-j;omega) ⟨I,I,I,I,I,tO⟩ [] I)
   refine wU 44 false I (by rw[beq_eq_false_iff_ne];omega) (wP I (Aa (zE (zS I (zI (zE (zA (zU ?_))))))))
   have hap:LP l i j:=⟨hji,by rw[←hm];exact hjm⟩
   have em:Ae l m=Ae l (i+1):=by rw[hm,C8]
   have hrm:Aj W b (off+m*2) [str (Ad (Ae l (i+1)).1),str (Ad (Ae l (i+1)).2)]:=by rw[←em];exact hrow m hml2
   have hri:=hrow i hlt
   have hrj:=hrow j hjt
   have ki:=hok i hlt
   have kj:=hok j hjt
   have km:okP (Ae l (i+1)):=by rw[←em];exact hok m hml2
   have hst:=fun he=>hV.step he hjt hap
   have htn:tnV (Ae l i) (Ae l (i+1)) (Ae l j)= .tuple #[.int .i64 (IZ l i j).1, .int .i64 (IZ l i j).2]:=Vu _ _ _
   generalize hs0:(IZ l i j).1=s0 at*
   generalize he0:(IZ l i j).2=e0 at*
   refine qP I (qP I ?_)
   refine qJ ?_
   refine qL 0 I I (fun W1 hp=>hri.hp hp) I (qP I (qP I ?_))
   refine qJ ?_
   refine qL 0 I I (fun W1 hp=>hrm.hp hp) I (qP I (qP I ?_))
   refine qJ ?_
   refine qL 0 I I (fun W1 hp=>hrj.hp hp) I (qC I I (fun W1 hp=>(OI (Ae l i) (Ae l (i+1)) (Ae l j) ki km kj W1 (ht.hp hp)).cast htn) ?_)
   iterate 5 refine qP I ?_
   refine AS (Aa (zE (zA (zA (zB (wP I (wP I ?_)))))))
   by_cases hz:e0=0
   ·subst hz
    refine Ah 63 (.bool false) I I ?_
    refine Aa (zE (zS I (zI (zE (zB ?_)))))
    cases d with
    |true=>
     refine wP I (wP I (wP I (wP I (wU 68 (decide (0<s0)) I (decide_eq_decide.2 (by omega)) (wP I (wP I (Aa (zN (zE (zB (wP I (wP I (wV 37 ((j+1:Nat):Int) I (Ax (by omega)) ?_)))))))))))))
     exact wP I (Aa (A4 (j+1,decide (0<s0)) ⟨hjt,by have h:=hst I;rw[Bool.true_and] at h;exact h⟩ (by show l.length-(j+1)<l.length-j;omega) ⟨I,I,I,I,I,tO⟩ [] I))
    |false=>
     refine wP I (wP I ?_)
     iterate 2 refine Ao I I ?_
     exact wP I (wP I (Aa (zN (zE (zB (wP I (wP I (wV 37 ((j+1:Nat):Int) I (Ax (by omega)) (wP I (Aa (A4 (j+1,false) ⟨hjt,hst I⟩ (by show l.length-(j+1)<l.length-j;omega) ⟨I,I,I,I,I,tO⟩ [] I)))))))))))
   ·refine wU 63 true I (by show(!decide (e0=0))=true;rw[dF hz];rfl) (Aa (zE (zR I (zA (zB (wP I (wP I (Aa (zE (zO (zP (zQ (zP (zP ?_))))))))))))))
    exact zQ (zQ (zP (zP (zQ (zP (Av tH I (.tmp I) e0 I ⟨fun h=>absurd h hz,fun h=>absurd (he0▸(h i j hlt hjt hap).1) hz⟩ fun W _=>Ap.nil _ _))))))
  ·refine wU 35 false I (dF (by omega)) (Aa (zE (zS I (zJ (zK (zK (zL (zN (zE (zB (wP I (wP I (wV 26 ((i+1:Nat):Int) I (Ax (by omega)) ?_)))))))))))))
   exact wP I (Aa (A4 (i+1,d) ⟨hlt,hV.next (by omega)⟩ (by show l.length-(i+1)<l.length-i;omega) ⟨I,I,I,tO⟩ [] I))
 ·refine wU 24 false I (dF (by omega)) (Aa (zE (zS I (zJ (zK (zK (zL (zE (zA (zA (zB ?_)))))))))))
  have hi':i=l.length:=by omega
  cases c with
  |true=>
   exact wP I (wP I (Aa (zE (zS I (zI (zE (zA (zB (wP I (Aa (zE (zO (Av tH I (.tmp I) (0:Int) I ⟨fun _ a k h1 h2 h3=>⟨hU.e0 a k (by omega) h2 h3,hU.c0.1 I a k (by omega) h2 h3⟩,fun _=>rfl⟩ fun W _=>Ap.nil _ _)))))))))))))
  |false=>
   exact wP I (wP I (Aa (zE (zR I (zA (zB (wP I (Aa (zE (zO (zP (Av tH I (.tmp I) (15:Int) I ⟨fun h=>absurd h (by decide),fun h=>absurd (hU.c0.2 fun a k h1 h2 h3=>(h a k (by omega) h2 h3).2) (by decide)⟩ fun W _=>Ap.nil _ _))))))))))))
theorem Nw {ok:Prop} [Decidable ok] {r x:Rat} (h:opO ok r=some x):x=r:=by
 unfold opO at h
 by_cases c:ok
 ·rw[if_pos c] at h;exact(Option.some.inj h).symm
 ·rw[if_neg c] at h;exact absurd h (by simp)
theorem La {a b c d x:Rat} (h:Bd (AF (some a) (some b)) (AF (some c) (some d))=some x):x=(a-b)*(c-d):=by
 cases h1:AF (some a) (some b) with
 |none=>rw[h1] at h;exact absurd h (by rw[Bd];simp;intro p q;simp)
 |some u=>
  cases h2:AF (some c) (some d) with
  |none=>rw[h1,h2] at h;exact absurd h (by rw[Bd];simp;intro p q;simp)
  |some v=>
   rw[h1,h2,Bd] at h
   rw[AF] at h1 h2
   rw[Nw h,Nw h1,Nw h2]
theorem TO {p q r:Ak} (h:(tnR p q r).2=0) (h':0<(tnR p q r).1):0<Dq p q r:=by
 unfold tnR at h h'
 cases ha:tA p q r with
 |none=>rw[ha] at h;exact absurd h (by simp)
 |some x=>
  cases hb:tB p q r with
  |none=>rw[ha,hb] at h;exact absurd h (by simp)
  |some y=>
   rw[ha,hb] at h'
   have ex:=La ha
   have ey:=La hb
   by_cases c:Bg x y
   ·simp only[if_pos c] at h'
    have hd:decide (CV x y>0)=true:=dT h'
    rw[L5,decide_eq_true_iff] at hd
    rw[ex,ey] at hd
    unfold Dq
    grind
   ·simp only[if_neg c] at h'
    exact absurd h' (by decide)
theorem Jt.poly {l:List Ak} (h3:3≤l.length) (h:Jt l):FB l:=by
 refine DV.of_chk h3 Ru fun i k hi hk h1 h2 h4=> ?_
 have ha:LP l i k:=by
  refine⟨h1,fun e=> ?_⟩
  by_cases c:i+1<l.length
  ·rw[Nat.mod_eq_of_lt c] at e;exact h2 e
  ·have e2:i+1=l.length:=by omega
   rw[e2,Nat.mod_self] at e
   exact h4 ⟨e,e2⟩
 have:=h i k hi hk ha
 exact TO this.1 this.2
-- BOXES 4
-- CODE2
theorem Rg {a:List UInt8} (h:(rdR a).2=0): ∃q,okQ q∧a=Ad q:=by
 unfold rdR at h
 cases hf:frm a with
 |none=>rw[hf] at h;exact absurd h (by decide)
 |some x=>
  obtain⟨z,d⟩:=x
  rw[hf] at h
  simp only at h
  by_cases h1:z.natAbs<Bo∧d<Bo
  ·rw[if_pos h1] at h
   by_cases h2:Nat.gcd z.natAbs d=1
   ·obtain⟨h3,h4⟩:=LA hf
    exact⟨⟨z,d,by omega,h2⟩,⟨h1.1,by unfold okN;rw[Int.natAbs_natCast];exact h1.2⟩,h4⟩
   ·rw[if_neg h2] at h;exact absurd h (by decide)
  ·rw[if_neg h1] at h;exact absurd h (by decide)
-- BOXES 4
-- CODE2
theorem Hu: ∀ {l:List PtS},nErr l=0→ ∃m:List Ak,l=m.map cvS∧ ∀x∈m,okP x
 |[],_=>⟨[],rfl,fun _ h=>absurd h (by simp)⟩
 |x::l,h=>by
  have h:(if (rdR x.1).2≠0 then(rdR x.1).2 else if (rdR x.2).2≠0 then(rdR x.2).2 else nErr l)=0:=h
  by_cases h1:(rdR x.1).2=0
  ·rw[if_neg (by simp[h1])] at h
   by_cases h2:(rdR x.2).2=0
   ·rw[if_neg (by simp[h2])] at h
    obtain⟨m,rfl,hm⟩:=Hu h
    obtain⟨q1,o1,e1⟩:=Rg h1
    obtain⟨q2,o2,e2⟩:=Rg h2
    refine⟨(q1,q2)::m, ?_,fun y hy=> ?_⟩
    ·rw[List.map_cons,cvS, ←e1, ←e2]
    ·rcases List.mem_cons.1 hy with rfl|hy
     ·exact⟨o1,o2⟩
     ·exact hm y hy
   ·rw[if_pos h2] at h
    exact absurd h h2
  ·rw[if_pos h1] at h
   exact absurd h h1
def Wl (l:List PtS):Prop:= ∃m:List Ak,l=m.map cvS∧3≤m.length∧(∀x∈m,okP x)∧FB m
theorem Pc (W:World) (p:Option Addr) (cap:Nat) (l:List PtS) (hA:Ek W p l) (h4:l.length≤4096) (hs: ∀x∈l,x.1.length<4611686018427387904∧x.2.length<4611686018427387904) (ht:AI W):
  Ai Tryz.prog 39 #[slv p l.length cap] W (fun e:Int=> .int .i64 e) (fun e=>e=0→Wl l) (fun _=>[]):=by
 by_cases h3:3≤l.length
 rotate_left
 ·refine Ac (args:=[slv p l.length cap]) Tryz.func39 I I I ?_
  refine zA (zB (wP I (Aa (zE (zA (zA (zB (wP I (wP I (wP I (wU 12 true I (dT (by omega)) (Aa (zE ?_)))))))))))))
  exact zR I (zA (zB (wP I (Aa (zE (zO (zP (Av tH I (.tmp I) (5:Int) I (fun h=>absurd h (by decide)) fun W _=>Ap.nil _ _))))))))
 by_cases h0:nErr l=0
 ·obtain⟨m,rfl,hm⟩:=Hu h0
  rw[List.length_map] at h3 h4
  have h:=HE W p cap m hA h3 h4 hm ht
  rw[List.length_map]
  refine⟨h.out.mono ?_⟩
  rintro e W' ⟨x,he,hx,hb⟩
  exact⟨x,he,fun h0=>⟨m,I,h3,hm,(hx.1 h0).poly h3⟩,hb⟩
 ·refine Ac (args:=[slv p l.length cap]) Tryz.func39 I I I ?_
  refine zA (zB (wP I (Aa (zE (zA (zA (zB (wP I (wP I (wP I (wU 12 false I (dF (by omega)) (Aa (zE ?_)))))))))))))
  refine zS I (zI (zE (zA (zA (zB (wP I (wP I (wP I (wU 15 false I (dF (by omega)) (Aa (zE (zS I (zI ?_)))))))))))))
  refine zE (zA (zA (zB (wP I (wC I I (fun W1 hp=>GD W1 p cap l (hA.hp hp) (by omega) hs (ht.hp hp)) (wP I (Aa (zE (zA (zB (wP I (wP I (wU 19 true I (bne_iff_ne.2 h0) ?_)))))))))))))
  exact Aa (zE (zR I (zA (zB (wP I (wP I (Aa (zE (zO (zP (Av tH I (.tmp I) (nErr l) I (fun h=>absurd h h0) fun W _=>Ap.nil _ _)))))))))))
abbrev Ls:=Option Addr×Nat×List PtS
abbrev lsV (x:Ls):Value:=slv x.1 x.2.2.length x.2.1
structure LsP (W:World) (g off:Nat) (xs:List Ls):Prop where
 r:Aj W g off (xs.map lsV)
 p: ∀x∈xs,Ek W x.1 x.2.2
theorem LsP.hp {W0 W:World} {bxs:List Bx} {g off:Nat} {xs:List Ls} (h:LsP W0 g off xs) (hp:Hp W0 bxs W):LsP W g off xs:=⟨h.r.hp hp,fun x hx=>(h.p x hx).hp hp⟩
theorem LsP.row {W:World} {g off:Nat} {xs:List Ls} (h:LsP W g off xs) {i:Nat} (hi:i<xs.length):Aj W g (off+i*1) [lsV xs[i]]:=by
 refine⟨h.r.lt,fun j u hu=> ?_⟩
 have hj:j=0:=by have:=(List.getElem?_eq_some_iff.1 hu).1;simpa using this
 subst hj
 have:=h.r.get i (lsV xs[i]) (by rw[List.getElem?_map,List.getElem?_eq_getElem hi];rfl)
 rw[Nat.mul_one,Nat.add_zero,this]
 simpa using hu
theorem RD {α:Type} {F:α→Bool} {l:List α} {i:Nat} (h:i<l.length):(l.drop i).any F=(F l[i]||(l.drop (i+1)).any F):=by
 rw[List.drop_eq_getElem_cons h,List.any_cons]
def Jq (x:Ls):Bool:=GV x.2.2
theorem Md (xs:List Ls) (hn:xs.length≤100000) (hl: ∀x∈xs,x.2.2.length<4611686018427387904) (g off cap:Nat) (W:World) (hS:LsP W g off xs):
  Ai Tryz.prog 124 #[slv (some ⟨g,off,none⟩) xs.length cap, .func (.func 58) #[] #[]] W (fun z:Int=> .int .i64 z) (fun z=>0≤z↔xs.any Jq=true) (fun _=>[]):=by
 refine Ac (args:=[slv (some ⟨g,off,none⟩) xs.length cap, .func (.func 58) #[] #[]]) Tryz.func124 I I I ?_
 refine zA (zB (wP I (Aa (zE (zA (zA (zB (wP I (wP I (wP I (Aa (zE (zH ?_)))))))))))))
 refine A9 (X:=Nat) (fun i=>[(0,slv (some ⟨g,off,none⟩) xs.length cap),(1, .func (.func 58) #[] #[]),(6,slv (some ⟨g,off,none⟩) xs.length cap),(7, .int .i64 (xs.length:Nat)),(8, .int .i64 (i:Nat))]) (fun _=>[]) (fun i=>i≤xs.length∧xs.any Jq=(xs.drop i).any Jq) (fun i=>xs.length-i) 0 ⟨Nat.zero_le _,by rw[List.drop_zero]⟩ ⟨I,I,I,I,I,tO⟩ [] I ?_
 intro i hi
 obtain⟨hi,hA⟩:i≤xs.length∧xs.any Jq=(xs.drop i).any Jq:=hi
 refine zA (zB (wP I ?_))
 by_cases hlt:i<xs.length
 rotate_left
 ·refine wU 9 false I (dF (by omega)) (Aa (zE (zA (zS I (zJ (zK (zK (zL (zE (zA (zB (wP I (Aa ?_)))))))))))))
  refine zE (zO ?_)
  rw[List.drop_of_length_le (by omega)] at hA
  exact Av tH I (.tmp I) (-1:Int) I (by rw[hA];exact⟨fun h=>absurd h (by decide),fun h=>absurd (show false=true from h) (by decide)⟩) fun W _=>Ap.nil _ _
 refine wU 9 true I (dT (by omega)) (Aa (zE (zA (zR I (zI (zE (zA (zH (zA (zB ?_))))))))))
 have hr:=hS.row hlt
 rw[RD hlt] at hA
 have hx:xs[i]∈xs:=List.getElem_mem _
 obtain⟨x,hq⟩: ∃x,x=xs[i]:=⟨_,rfl⟩
 rw[←hq] at hr hA hx
 refine wP I (wP I (Aa (zE (zA (zB (wP I (wP I (wP I ?_))))))))
 refine wJ ?_
 refine wL 0 I I (fun W1 hp=>hr.hp hp) I ?_
 refine B7 (capt:=[]) I I I I I I (by kernel_rfl) (fun W1 hp=>LX W1 x.1 x.2.1 x.2.2 ((hS.p x hx).hp hp) (hl x hx)) ?_
 refine Aa (zE ?_)
 refine Aw I (fun hc=> ?_) (fun hc=> ?_)
 ·have hc:Jq x=true:=hc
  exact zA (zB (wP I (wP I (Aa (zE (zO (zQ (zP (zP (zQ (zP (Av tH I (.tmp I) ((i:Nat):Int) I ⟨fun _=>by rw[hA,hc];rfl,fun _=>by omega⟩ fun W _=>Ap.nil _ _))))))))))))
 ·have hc:Jq x=false:=hc
  rw[hc,Bool.false_or] at hA
  exact zI (zN (zE (zB (wP I (wV 18 ((i+1:Nat):Int) I (Ax (by omega)) (wP I (Aa (A4 (i+1) ⟨hlt,hA⟩ (by show xs.length-(i+1)<xs.length-i;omega) ⟨I,I,I,I,I,tO⟩ [] I))))))))
theorem Jj (xs:List Ls) (hn:xs.length≤100000) (hl: ∀x∈xs,x.2.2.length<4611686018427387904) (g off cap:Nat) (W:World) (hS:LsP W g off xs):
  Ai Tryz.prog 57 #[slv (some ⟨g,off,none⟩) xs.length cap, .func (.func 58) #[] #[]] W (fun _:Unit=> .bool (xs.any Jq)) (fun _=>True) (fun _=>[]):=by
 refine Ac (args:=[slv (some ⟨g,off,none⟩) xs.length cap, .func (.func 58) #[] #[]]) Tryz.func57 I I I ?_
 refine zA (zB (wP I (Aa (zE (zA (zB (wP I (wP I ?_))))))))
 refine wD (X:=Int) I I (fun W1 hp=>Md xs hn hl g off cap W1 (hS.hp hp)) ?_
 intro z hz
 have hz:0≤z↔xs.any Jq=true:=hz
 refine wP I ?_
 refine Ah 8 (.bool (xs.any Jq)) I (congrArg Value.bool (by
  cases h:xs.any Jq with
  |true=>exact dT (hz.2 h)
  |false=>exact dF fun h2=>by rw[hz.1 h2] at h;cases h)) ?_
 exact wP I (Aa (zE (zO (wR1 I I I))))
theorem MQ (xs:List Ls) (hn:xs.length≤100000) (hl: ∀x∈xs,x.2.2.length<4611686018427387904) (g off cap:Nat) (W:World) (hS:LsP W g off xs):
  Ai Tryz.prog 20 #[slv (some ⟨g,off,none⟩) xs.length cap] W (fun _:Unit=> .bool (xs.any Jq)) (fun _=>True) (fun _=>[]):=by
 refine Ac (args:=[slv (some ⟨g,off,none⟩) xs.length cap]) Tryz.func20 I I I ?_
 refine zA (zB (wP I (Aa (zE (zA (zB (wP I ?_)))))))
 refine B7 (capt:=[]) I I I I I I (by kernel_rfl) (fun W1 hp=>Jj xs hn hl g off cap W1 (hS.hp hp)) ?_
 exact wP I (Aa (zE (zO (wR1 I I I))))
theorem OE {l:List PtS} (h:GV l=false):l.length≤8∧ ∀x∈l,x.1.length≤604∧x.2.length≤604:=by
 unfold GV at h
 rw[Bool.or_eq_false_iff] at h
 refine⟨by have:=of_decide_eq_false h.2;omega,fun x hx=> ?_⟩
 have h1:=List.any_eq_false.1 h.1 x hx
 have h2:JY x=false:=by cases e:JY x with
  |true=>exact absurd e h1
  |false=>rfl
 unfold JY at h2
 rw[Bool.or_eq_false_iff] at h2
 have one: ∀a:List UInt8,GE a=false→a.length≤604:=fun a ha=>by
  unfold GE at ha
  rw[Bool.or_eq_false_iff] at ha
  have:=of_decide_eq_false ha.2
  omega
 exact⟨one _ h2.1,one _ h2.2⟩
-- BOXES 8
-- CODE2
abbrev caF (c:Nat) (s:Bool):Bx:=⟨c,61,[.int .i64 (erI s)],false,none⟩
def kLf (s:Bool) (p q r:Ak):Int×Bool:=
 kOr (kMu (kMu (kSb (kSb (kSb (kSb s q.1 p.1).2 r.2 p.2).2 q.2 p.2).2 r.1 p.1).2 (kSb s q.1 p.1).1 (kSb (kSb s q.1 p.1).2 r.2 p.2).1).2 (kSb (kSb (kSb s q.1 p.1).2 r.2 p.2).2 q.2 p.2).1 (kSb (kSb (kSb (kSb s q.1 p.1).2 r.2 p.2).2 q.2 p.2).2 r.1 p.1).1).2
  (kMu (kSb (kSb (kSb (kSb s q.1 p.1).2 r.2 p.2).2 q.2 p.2).2 r.1 p.1).2 (kSb s q.1 p.1).1 (kSb (kSb s q.1 p.1).2 r.2 p.2).1).1
  (kMu (kMu (kSb (kSb (kSb (kSb s q.1 p.1).2 r.2 p.2).2 q.2 p.2).2 r.1 p.1).2 (kSb s q.1 p.1).1 (kSb (kSb s q.1 p.1).2 r.2 p.2).1).2 (kSb (kSb (kSb s q.1 p.1).2 r.2 p.2).2 q.2 p.2).1 (kSb (kSb (kSb (kSb s q.1 p.1).2 r.2 p.2).2 q.2 p.2).2 r.1 p.1).1).1
structure R5 (p q r:Ak):Prop where
 a:BE q.1 p.1
 b:BE r.2 p.2
 c:BE q.2 p.2
 d:BE r.1 p.1
 m:BY (q.1-p.1) (r.2-p.2)
 n:BY (q.2-p.2) (r.1-p.1)
 o:Bg ((q.1-p.1)*(r.2-p.2)) ((q.2-p.2)*(r.1-p.1))
theorem D3 {ok:Prop} [Decidable ok] {r:Rat} {s:Bool}:(opR ok r s).2=false↔s=false∧ok:=by
 cases s with
 |true=>rw[O9];simp
 |false=>
  by_cases c:ok
  ·rw[B5 c];simp[c]
  ·rw[Sw c];simp[c]
theorem UD {s:Bool} {p q:Rat}:(kOr s p q).2=false↔s=false∧Bg p q:=by
 cases s with
 |true=>rw[Kx];simp
 |false=>
  by_cases c:Bg p q
  ·rw[JA c];simp[c]
  ·rw[Pj c];simp[c]
theorem UO {p q r:Ak} (h:R5 p q r):kLf false p q r=(OU p q r,false):=by
 have a:kSb false q.1 p.1=(q.1-p.1,false):=B5 h.a
 have b:kSb false r.2 p.2=(r.2-p.2,false):=B5 h.b
 have c:kSb false q.2 p.2=(q.2-p.2,false):=B5 h.c
 have d:kSb false r.1 p.1=(r.1-p.1,false):=B5 h.d
 unfold kLf
 simp only[a,b,c,d]
 have m:kMu false (q.1-p.1) (r.2-p.2)=((q.1-p.1)*(r.2-p.2),false):=B5 h.m
 have n:kMu false (q.2-p.2) (r.1-p.1)=((q.2-p.2)*(r.1-p.1),false):=B5 h.n
 simp only[m,n]
 rw[JA h.o];rfl
theorem VV {s:Bool} {p q r:Ak}:(kLf s p q r).2=false↔s=false∧R5 p q r:=by
 constructor
 ·intro h
  unfold kLf at h
  have h7:=UD.1 h
  have h6:=D3.1 h7.1
  have h5:=D3.1 h6.1
  have h4:=D3.1 h5.1
  have h3:=D3.1 h4.1
  have h2:=D3.1 h3.1
  have h1:=D3.1 h2.1
  obtain⟨rfl,a⟩:=h1
  have ea:kSb false q.1 p.1=(q.1-p.1,false):=B5 a
  have b:=h2.2
  have c:=h3.2
  have d:=h4.2
  have eb:kSb false r.2 p.2=(r.2-p.2,false):=B5 b
  have ec:kSb false q.2 p.2=(q.2-p.2,false):=B5 c
  have ed:kSb false r.1 p.1=(r.1-p.1,false):=B5 d
  have m:=h5.2
  have n:=h6.2
  have o:=h7.2
  simp only[ea,eb,ec,ed] at m n o
  have em:kMu false (q.1-p.1) (r.2-p.2)=((q.1-p.1)*(r.2-p.2),false):=B5 m
  have en:kMu false (q.2-p.2) (r.1-p.1)=((q.2-p.2)*(r.1-p.1),false):=B5 n
  simp only[em,en] at o
  exact⟨I,a,b,c,d,m,n,o⟩
 ·rintro⟨rfl,h⟩
  rw[UO h]
theorem I3 (c:Nat) (s:Bool) (p q r:Ak) (hp:okP p) (hq:okP q) (hr:okP r) (W:World) (h:KcP c s W):FP 55 [Ag c,cvV p,cvV q,cvV r] c (kLf s p q r) W:=by
 obtain⟨x1,e1⟩: ∃x,x=kSb s q.1 p.1:=⟨_,rfl⟩
 obtain⟨x2,e2⟩: ∃x,x=kSb x1.2 r.2 p.2:=⟨_,rfl⟩
 obtain⟨x3,e3⟩: ∃x,x=kSb x2.2 q.2 p.2:=⟨_,rfl⟩
 obtain⟨x4,e4⟩: ∃x,x=kSb x3.2 r.1 p.1:=⟨_,rfl⟩
 obtain⟨x5,e5⟩: ∃x,x=kMu x4.2 x1.1 x2.1:=⟨_,rfl⟩
 obtain⟨x6,e6⟩: ∃x,x=kMu x5.2 x3.1 x4.1:=⟨_,rfl⟩
 obtain⟨x7,e7⟩: ∃x,x=kOr x6.2 x5.1 x6.1:=⟨_,rfl⟩
 have eL:kLf s p q r=x7:=by rw[e7,e6,e5,e4,e3,e2,e1];rfl
 have o1:okQ x1.1:=by rw[e1];exact E8 _ _ _
 have o2:okQ x2.1:=by rw[e2];exact E8 _ _ _
 have o3:okQ x3.1:=by rw[e3];exact E8 _ _ _
 have o4:okQ x4.1:=by rw[e4];exact E8 _ _ _
 have o5:okQ x5.1:=by rw[e5];exact Hf _ _ _
 have o6:okQ x6.1:=by rw[e6];exact Hf _ _ _
 have c1: ∀W1,KcP c s W1→BD 59 [Ag c,str (Ad q.1),str (Ad p.1)] c x1 W1:=fun W1 h=>by rw[e1];exact Ci c s _ _ hq.1 hp.1 W1 h
 have c2: ∀W1,KcP c x1.2 W1→BD 59 [Ag c,str (Ad r.2),str (Ad p.2)] c x2 W1:=fun W1 h=>by rw[e2];exact Ci c _ _ _ hr.2 hp.2 W1 h
 have c3: ∀W1,KcP c x2.2 W1→BD 59 [Ag c,str (Ad q.2),str (Ad p.2)] c x3 W1:=fun W1 h=>by rw[e3];exact Ci c _ _ _ hq.2 hp.2 W1 h
 have c4: ∀W1,KcP c x3.2 W1→BD 59 [Ag c,str (Ad r.1),str (Ad p.1)] c x4 W1:=fun W1 h=>by rw[e4];exact Ci c _ _ _ hr.1 hp.1 W1 h
 have c5: ∀W1,KcP c x4.2 W1→BD 60 [Ag c,str (Ad x1.1),str (Ad x2.1)] c x5 W1:=fun W1 h=>by rw[e5];exact CE c _ _ _ o1 o2 W1 h
 have c6: ∀W1,KcP c x5.2 W1→BD 60 [Ag c,str (Ad x3.1),str (Ad x4.1)] c x6 W1:=fun W1 h=>by rw[e6];exact CE c _ _ _ o3 o4 W1 h
 have c7: ∀W1,KcP c x6.2 W1→FP 53 [Ag c,str (Ad x5.1),str (Ad x6.1)] c x7 W1:=fun W1 h=>by rw[e7];exact FN c _ _ _ o5 o6 W1 h
 rw[eL]
 clear eL e1 e2 e3 e4 e5 e6 e7
 refine BK.enter h Tryz.func55 I I I ?_
 refine zA (zB ?_)
 (refine At rfl rfl rfl rfl ?_;intro)
 (refine At rfl rfl rfl rfl ?_;intro)
 (refine At rfl rfl rfl rfl ?_;intro)
 refine wP I (Aa ?_)
 rename_i b5 b6 b7
 refine zE (Ar ?_)
 refine AE (X:=Unit) [true,true,true,true,true,false,true,true,true,true,true,false,false,false] (fun _=>[(0,Ag c),(5,Ag b5),(6,Ag b6),(7,Ag b7),(9,str (Ad x1.1)),(10,str (Ad x2.1))]) (fun _=>[AL (As W c),caE c x2.2,ptB b5 (Ad p.1) (Ad p.2),ptB b6 (Ad q.1) (Ad q.2),ptB b7 (Ad r.1) (Ad r.2)])
  4 [AL (As W c),caF c s,ptB b5 (Ad p.1) (Ad p.2),ptB b6 (Ad q.1) (Ad q.2),ptB b7 (Ad r.1) (Ad r.2)] Tryz.mixed (by kernel_rfl) ?_ ?_
 ·refine qP I (qP I (qB 3 I I I (qP I (qB 2 I I I (qP I (qP I (qB 4 I I I (qP I (qB 2 I I I (Bq (wX (wZ ?_))))))))))))
  refine AM 1 c I I I I I I (by kernel_rfl) I (fun W1 hp1=>c1 W1 (h.at_ (bs:=[ptB b5 (Ad p.1) (Ad p.2),ptB b6 (Ad q.1) (Ad q.2),ptB b7 (Ad r.1) (Ad r.2)]) hp1)) ?_
  refine Aa (Ab (wX (wZ ?_)))
  refine AM 1 c I I I I I I (by kernel_rfl) I (fun W1 hp1=>c2 W1 (h.at_ (bs:=[ptB b5 (Ad p.1) (Ad p.2),ptB b6 (Ad q.1) (Ad q.2),ptB b7 (Ad r.1) (Ad r.2)]) hp1)) ?_
  refine Aa (Ab (wX (wZ (wP I (Aa (Ab (wX (wZ (wP I (Aa (Ab ?_)))))))))))
  refine Au I (by((repeat (first|refine A3.same ?_|refine A3.off I ?_));exact tO)) ?_
  exact Al () ⟨I,I,I,I,I,I,tO⟩ [0,1,2,3,4] (by decide) I
 intro _
 refine zE (Ar ?_)
 refine AE (X:=Unit) [true,true,true,true,true,false,true,true,true,true,true,false,false,false] (fun _=>[(0,Ag c),(9,str (Ad x1.1)),(10,str (Ad x2.1)),(11,str (Ad x3.1)),(12,str (Ad x4.1))]) (fun _=>[AL (As W c),caE c x4.2])
  4 [AL (As W c),caF c x2.2,ptB b5 (Ad p.1) (Ad p.2),ptB b6 (Ad q.1) (Ad q.2),ptB b7 (Ad r.1) (Ad r.2)] Tryz.mixed (by kernel_rfl) ?_ ?_
 ·refine qP I (qP I (qB 3 I I I (qP I (qB 2 I I I (qP I (qP I (qB 4 I I I (qP I (qB 2 I I I (Bq (wX (wZ ?_))))))))))))
  refine AM 1 c I I I I I I (by kernel_rfl) I (fun W1 hp1=>c3 W1 (h.at_ (bs:=[ptB b5 (Ad p.1) (Ad p.2),ptB b6 (Ad q.1) (Ad q.2),ptB b7 (Ad r.1) (Ad r.2)]) hp1)) ?_
  refine Aa (Ab (wX (wZ ?_)))
  refine AM 1 c I I I I I I (by kernel_rfl) I (fun W1 hp1=>c4 W1 (h.at_ (bs:=[ptB b5 (Ad p.1) (Ad p.2),ptB b6 (Ad q.1) (Ad q.2),ptB b7 (Ad r.1) (Ad r.2)]) hp1)) ?_
  refine Aa (Ab (wX (wZ (wP I (Aa (Ab (wX (wZ (wP I (Aa (Ab ?_)))))))))))
  refine Au I (by((repeat (first|refine A3.same ?_|refine A3.off I ?_));exact tO)) ?_
  exact Al () ⟨I,I,I,I,I,tO⟩ [0,1] (by decide) I
 intro _
 refine zE (zA (zB (wP I (wP I (wP I (wP I ?_))))))
 refine AM 1 c I I I I I I (by kernel_rfl) I (fun W1 hp1=>c5 W1 (h.at_ (bs:=[]) hp1)) ?_
 refine wP I (wP I (wP I ?_))
 refine AM 1 c I I I I I I (by kernel_rfl) I (fun W1 hp1=>c6 W1 (h.at_ (bs:=[]) hp1)) ?_
 refine AM 1 c I I I I I I (by kernel_rfl) I (fun W1 hp1=>c7 W1 (h.at_ (bs:=[]) hp1)) ?_
 exact wP I (Aa (zE (zO (Av tH I (.tmp I) () I tO fun W1 hp=>D8 hp))))
-- BOXES 8
-- CODE2
structure FC (g:Nat) (vs:List Value) (c:Nat) {X:Type} (st:X→Bool) (val:X→Value) (Φ:X→Prop) (nb:X→List Bx) (W:World):Prop where
 out:Calls Tryz.prog g vs.toArray W fun e W'=> ∃x,e= .returned (val x)∧Φ x∧JK W W' c c (caO (st x))∧Ap W W' (nb x)
theorem SA {W W':World} {c:Nat} {s':Bool} {nb:List Bx} (hn:Ap (Bn W) W' (AL (As W c)::caE c s'::nb)):Ap W W' nb:=by
 have up: ∀ {k:Nat} {B:Bx},nb[k]? =some B→(AL (As W c)::caE c s'::nb)[k+2]? =some B:=fun {k B} h=>by
  rw[List.getElem?_cons_succ,List.getElem?_cons_succ];exact h
 refine⟨fun k B hk p hp=>⟨(hn.cell (k+2) B (up hk) p hp).1,Nat.le_of_not_lt fun hlt=> ?_⟩,fun k B hk=>hn.nd (k+2) B (up hk),fun i j B C hi hj hne=>hn.apart (i+2) (j+2) B C (up hi) (up hj) (by omega)⟩
 by_cases e:p.1=c
 ·exact hn.apart (k+2) 1 B (caE c s') (up hk) I (by omega) p hp (c,caO s') (List.mem_cons_self ..) e
 ·have h1:W.heap[p.1]? =some W.heap[p.1]:=Array.getElem?_eq_getElem hlt
  exact hn.apart (k+2) 0 B _ (up hk) I (by omega) p hp (p.1,W.heap[p.1]) (CN.2 ⟨e,h1⟩) I
theorem FC.enter {N c:Nat} {s:Bool} {f:Nat} {fn:Func} {cd:Code} {args:List Value} {X:Type} {st:X→Bool} {val:X→Value} {Φ:X→Prop} {nb:X→List Bx} {W:World} (h:KcP c s W) (hf:Tryz.prog.funcs[f]? =some fn) (hb:fn.body=some cd) (hN:fn.ntmps=N) (hl:Nat.ble args.length N=true)
  (hw:WC none 0 Tryz.prog N [] cd (GI Tryz.prog fn (Bn W) val Φ (fun x=>AL (As W c)::caE c (st x)::nb x)) (Ig 0 args) (Hp (Bn W) [AL (As W c),caE c s])):FC f args c st val Φ nb W:=by
 have key:=CM (X:=X) (val:=val) (Φ:=Φ) (nb:=fun x=>AL (As W c)::caE c (st x)::nb x) (Hp.enterT (B:=caE c s) rfl h.o) hf hb hN hl hw
 refine⟨key.mono ?_⟩
 rintro e W' ⟨x,he,hx,hb,hn⟩
 have h2:Ap (Bn W) W' [AL (As W c),caE c (st x)]:=hn.sub id (fun k B hk _=>by
  cases k with
  |zero=>simpa using hk
  |succ k=>cases k with
   |zero=>simpa using hk
   |succ k=>simp at hk) (fun _ _ _ _ _ _ e=>e)
 exact⟨x,he,hx,G2 h.o I hb h2,SA hn⟩
theorem S8 {W0 W W':World} {bxs nb:List Bx} {k c:Nat} {s s':Bool} (hp:Hp W0 bxs W) (hk:bxs[k]? =some (caE c s)) (hN:JK W W' c c (caO s')) (hn:Ap W W' nb):Hp W0 (bxs.set k (caE c s')++nb) W':=by
 have h1:Hp W0 (bxs.set k (caE c s')) W':=hp.near (B:=caE c s) (B':=caE c s') (L1:=[]) (L2:=[]) hk rfl rfl hN
 have hlt: ∀ {i:Nat} {B:Bx},(bxs.set k (caE c s'))[i]? =some B→ ∀p∈B.blk,p.1<W.heap.size:=fun {i B} hi p hpB=>by
  rw[List.getElem?_set] at hi
  split at hi
  ·rename_i e
   split at hi
   ·cases hi
    obtain rfl:=List.mem_singleton.1 (show p∈[(c,caO s')] from hpB)
    exact hp.own.lt hk (p:=(c,caO s)) (List.mem_cons_self ..)
   ·cases hi
  ·exact hp.own.lt hi hpB
 refine⟨h1.below,⟨fun i B hi p hpB=> ?_,fun i B hi=> ?_,fun i j B C hi hj hne p hpB q hq=> ?_⟩⟩
 ·rcases Dc hi with⟨_,hi⟩|⟨_,hi⟩
  ·exact h1.own.cell _ _ hi p hpB
  ·have:=hn.cell _ _ hi p hpB
   exact⟨this.1,Nat.le_trans hp.below.size this.2⟩
 ·rcases Dc hi with⟨_,hi⟩|⟨_,hi⟩
  ·exact h1.own.nd _ _ hi
  ·exact hn.nd _ _ hi
 ·rcases Dc hi with⟨_,hi⟩|⟨hli,hi⟩<;>rcases Dc hj with⟨_,hj⟩|⟨hlj,hj⟩
  ·exact h1.own.apart _ _ _ _ hi hj hne p hpB q hq
  ·have a:=hlt hi p hpB
   have b:=(hn.cell _ _ hj q hq).2
   omega
  ·have a:=hlt hj q hq
   have b:=(hn.cell _ _ hi p hpB).2
   omega
  ·exact hn.apart _ _ _ _ hi hj (by omega) p hpB q hq
section
variable {r:Option Nat} {n:Nat} {W0:World} {N:Nat} {D:List Deferred} {ops:List Oper} {Q:Exit→Act→World→Prop} {o:Oper} {rest:List Oper} {env:Env} {bxs:List Bx}
theorem Gd (k c:Nat) {s:Bool} {cl:Call} {f:Operand} {g d:Nat} {capt vs:List Value} {X:Type} {st:X→Bool} {val:X→Value} {Φ:X→Prop} {nb:X→List Bx} (hg:A6 ops N env o=some true) (hd:o.dst=some d) (ho:o.op= .call cl) (hc:cl.callee= .value f) (hf:evO N env f=some (.func (.func g) #[] capt.toArray)) (ha:Cu (evO N env) cl.args.toList=some vs) (hE:Bi Tryz.prog g=true)
  (hk:nth bxs k=some (caE c s)) (hC: ∀W,Hp W0 bxs W→FC g (vs++capt) c st val Φ nb W)
  (h: ∀x,Φ x→WL r n Tryz.prog N D ops Q rest ((d,val x)::env) (Hp W0 (bxs.set k (caE c (st x))++nb x))):WL r n Tryz.prog N D ops Q (o::rest) env (Hp W0 bxs):= .mk fun a W h1 h2 hp=>by
 rw[B6] at hk
 refine BT hg h1 (fun c e=>by rw[ho] at e;cases e) ?_
 rw[Hn ho hc (AA h1 _ _ hf) (Et (AA h1) ha) hE]
 simp only[Oper.uponIn,hd]
 refine⟨fun hx=>(by cases hx),El ((hC W hp).out.mono ?_)⟩
 rintro e W' ⟨x,rfl,hx,hN,hn⟩
 exact(h x hx).out a W' h1 h2 (S8 hp hk hN hn)
end
theorem BK.toN {g c:Nat} {vs:List Value} {X:Type} {st:X→Bool} {val:X→Value} {Φ:X→Prop} {W:World} (h:BK g vs c st val Φ W):FC g vs c st val Φ (fun _=>[]) W:=by
 refine⟨h.out.mono ?_⟩
 rintro e W' ⟨x,he,hx,hn⟩
 exact⟨x,he,hx,hn,Ap.nil _ _⟩
def kLs (s:Bool) (p q:Ak):Int×Bool:=if (kOr s p.1 q.1).1=0 then kOr (kOr s p.1 q.1).2 p.2 q.2 else kOr s p.1 q.1
def LV (p q:Ak):Prop:=Bg p.1 q.1∧(p.1=q.1→Bg p.2 q.2)
theorem K0 {p q:Rat}:CV p q=0↔p=q:=by
 rcases H2 p q with⟨a,e⟩|⟨a,e⟩|⟨a,e⟩
 ·rw[e];exact⟨fun h=>absurd h (by decide),fun h=>by rw[h] at a;exact absurd a Rat.lt_irrefl⟩
 ·rw[e];exact⟨fun _=>a,fun _=>rfl⟩
 ·rw[e];exact⟨fun h=>absurd h (by decide),fun h=>by rw[h] at a;exact absurd a Rat.lt_irrefl⟩
theorem Wd {p q:Ak}:kLs true p q=(0,true):=by unfold kLs;rw[Kx,if_pos rfl,Kx]
theorem Sy {p q:Ak}:(kLs false p q).2=false↔LV p q:=by
 unfold kLs LV
 by_cases h:Bg p.1 q.1
 ·rw[JA h]
  by_cases e:p.1=q.1
  ·rw[if_pos (K0.2 e),UD]
   exact⟨fun k=>⟨h,fun _=>k.2⟩,fun k=>⟨I,k.2 e⟩⟩
  ·rw[if_neg (fun c=>e (K0.1 c))];simp[h,e]
 ·rw[Pj h,if_pos rfl,Kx];simp[h]
theorem Wb {p q:Ak} (h:LV p q):kLs false p q=(OJ p q,false):=by
 unfold kLs OJ
 rw[JA h.1]
 by_cases e:CV p.1 q.1=0
 ·rw[if_pos e,if_pos e,JA (h.2 (K0.1 e))]
 ·rw[if_neg e,if_neg e]
theorem Nz (c:Nat) (s:Bool) (p q:Ak) (hp:okP p) (hq:okP q) (W:World) (h:KcP c s W):FP 71 [Ag c,cvV p,cvV q] c (kLs s p q) W:=by
 obtain⟨x1,e1⟩: ∃x,x=kOr s p.1 q.1:=⟨_,rfl⟩
 obtain⟨x2,e2⟩: ∃x,x=kOr x1.2 p.2 q.2:=⟨_,rfl⟩
 have eL:kLs s p q=if x1.1=0 then x2 else x1:=by rw[e2,e1];rfl
 have c1: ∀W1,KcP c s W1→FP 53 [Ag c,str (Ad p.1),str (Ad q.1)] c x1 W1:=fun W1 h=>by rw[e1];exact FN c _ _ _ hp.1 hq.1 W1 h
 have c2: ∀W1,KcP c x1.2 W1→FP 53 [Ag c,str (Ad p.2),str (Ad q.2)] c x2 W1:=fun W1 h=>by rw[e2];exact FN c _ _ _ hp.2 hq.2 W1 h
 rw[eL]
 clear eL e1 e2
 refine BK.enter h Tryz.func71 I I I ?_
 refine zA (zB ?_)
 (refine At rfl rfl rfl rfl ?_;intro)
 (refine At rfl rfl rfl rfl ?_;intro)
 refine wP I (Aa ?_)
 rename_i b4 b5
 refine zE (zA (zA (zB (wP I (wP I (wB 2 I I I (wP I (wB 3 I I I ?_))))))))
 refine AM 1 c I I I I I I (by kernel_rfl) I (fun W1 hp1=>c1 W1 (h.at_ (bs:=[ptB b4 (Ad p.1) (Ad p.2),ptB b5 (Ad q.1) (Ad q.2)]) hp1)) ?_
 refine wP I (Aa (zE (zA (zB (wP I (wP I ?_))))))
 by_cases h0:x1.1=0
 ·rw[if_pos h0]
  refine wU 15 false I (bne_eq_false_iff_eq.2 h0) (Aa (zE (zS I (zI (zE (zA (zB (wP I (wP I (wB 2 I I I (wP I (wB 3 I I I ?_))))))))))))
  refine AM 1 c I I I I I I (by kernel_rfl) I (fun W1 hp1=>c2 W1 (h.at_ (bs:=[ptB b4 (Ad p.1) (Ad p.2),ptB b5 (Ad q.1) (Ad q.2)]) hp1)) ?_
  exact wP I (Aa (zE (zO (Av tH I (.tmp I) () I tO fun W1 hp=>D8 hp))))
 ·rw[if_neg h0]
  exact wU 15 true I (bne_iff_ne.2 h0) (Aa (zE (zR I (zA (zB (wP I (wP I (Aa (zE (zO (zP (Av tH I (.tmp I) () I tO fun W1 hp=>D8 hp))))))))))))
def vlE (s:Bool) (f:AW) (q:Ak):Rat×Bool:=
 kSb (kAd (kMu (kMu s f.a q.1).2 f.b q.2).2 (kMu s f.a q.1).1 (kMu (kMu s f.a q.1).2 f.b q.2).1).2 (kAd (kMu (kMu s f.a q.1).2 f.b q.2).2 (kMu s f.a q.1).1 (kMu (kMu s f.a q.1).2 f.b q.2).1).1 f.c
structure Ii (f:AW) (q:Ak):Prop where
 a:BY f.a q.1
 b:BY f.b q.2
 c:Cj (f.a*q.1) (f.b*q.2)
 d:BE (f.a*q.1+f.b*q.2) f.c
theorem QC {f:AW} {q:Ak} (h:Ii f q):vlE false f q=(f.at q,false):=by
 have a:kMu false f.a q.1=(f.a*q.1,false):=B5 h.a
 have b:kMu false f.b q.2=(f.b*q.2,false):=B5 h.b
 have c:kAd false (f.a*q.1) (f.b*q.2)=(f.a*q.1+f.b*q.2,false):=B5 h.c
 unfold vlE
 simp only[a,b,c]
 exact B5 h.d
theorem Wn {s:Bool} {f:AW} {q:Ak}:(vlE s f q).2=false↔s=false∧Ii f q:=by
 constructor
 ·intro h
  unfold vlE at h
  have h4:=D3.1 h
  have h3:=D3.1 h4.1
  have h2:=D3.1 h3.1
  have h1:=D3.1 h2.1
  obtain⟨rfl,a⟩:=h1
  have ea:kMu false f.a q.1=(f.a*q.1,false):=B5 a
  have b:=h2.2
  have c:=h3.2
  have d:=h4.2
  have eb:kMu false f.b q.2=(f.b*q.2,false):=B5 b
  simp only[ea,eb] at c d
  have ec:kAd false (f.a*q.1) (f.b*q.2)=(f.a*q.1+f.b*q.2,false):=B5 c
  simp only[ec] at d
  exact⟨I,a,b,c,d⟩
 ·rintro⟨rfl,h⟩
  rw[QC h]
theorem SE (s:Bool) (f:AW) (q:Ak):okQ (vlE s f q).1:=E8 _ _ _
structure MX (b4 b5 b6 b7 c:Nat) (f:AW) (W:World):Prop where
 r4:Aj W b4 0 [Ag c]
 r5:Aj W b5 0 [str (Ad f.a)]
 r6:Aj W b6 0 [str (Ad f.b)]
 r7:Aj W b7 0 [str (Ad f.c)]
theorem Oo {W W1:World} {c b:Nat} {bs:List Bx} (hb:b≠c) (hlt:b<W.heap.size) (hp:Hp (Bn W) (AL (As W c)::bs) W1):W1.heap[b]? =W.heap[b]? :=by
 have h1:W.heap[b]? =some W.heap[b]:=Array.getElem?_eq_getElem hlt
 rw[h1]
 exact(hp.own.cell 0 _ I (b,W.heap[b]) (CN.2 ⟨hb,h1⟩)).1
theorem Kc {W W1:World} {c b off:Nat} {s:Bool} {v:Value} {bs:List Bx} (hr:Aj W b off [v]) (hne: ∀z,v≠ .int .i64 z) (ho:W.heap[c]? =some (caO s)) (hp:Hp (Bn W) (AL (As W c)::bs) W1):Aj W1 b off [v]:=by
 have hb:b≠c:=fun e=>by
  subst e
  have h0:=hr.get 0 v rfl
  simp only[World.cell?,ho] at h0
  generalize off+0=k at h0
  cases k with
  |zero=>
   have:some (Value.int .i64 (erI s))=some v:=by simpa using h0
   exact hne _ (Option.some.inj this).symm
  |succ k=>simp at h0
 have h2:=Oo hb hr.lt hp
 refine⟨(Array.getElem?_eq_some_iff.1 (h2.trans (Array.getElem?_eq_getElem hr.lt))).1,fun j u hu=> ?_⟩
 have h1:=hr.get j u hu
 simp only[World.cell?] at h1⊢
 rw[h2]
 exact h1
theorem MX.oth {b4 b5 b6 b7 c:Nat} {f:AW} {s:Bool} {W W1:World} {bs:List Bx} (h:MX b4 b5 b6 b7 c f W) (ho:W.heap[c]? =some (caO s)) (hp:Hp (Bn W) (AL (As W c)::bs) W1):MX b4 b5 b6 b7 c f W1:=
 ⟨Kc h.r4 (fun z=>by simp) ho hp,Kc h.r5 (fun z=>by simp) ho hp,Kc h.r6 (fun z=>by simp) ho hp,Kc h.r7 (fun z=>by simp) ho hp⟩
theorem L6 (b4 b5 b6 b7 c:Nat) (s:Bool) (f:AW) (q:Ak) (hf:okQ f.a∧okQ f.b∧okQ f.c) (hq:okP q) (W:World) (hL:MX b4 b5 b6 b7 c f W) (h:KcP c s W):
  BD 132 [cvV q,Ag b4,Ag b5,Ag b6,Ag b7] c (vlE s f q) W:=by
 obtain⟨x1,e1⟩: ∃x,x=kMu s f.a q.1:=⟨_,rfl⟩
 obtain⟨x2,e2⟩: ∃x,x=kMu x1.2 f.b q.2:=⟨_,rfl⟩
 obtain⟨x3,e3⟩: ∃x,x=kAd x2.2 x1.1 x2.1:=⟨_,rfl⟩
 obtain⟨x4,e4⟩: ∃x,x=kSb x3.2 x3.1 f.c:=⟨_,rfl⟩
 have eL:vlE s f q=x4:=by rw[e4,e3,e2,e1];rfl
 have o1:okQ x1.1:=by rw[e1];exact Hf _ _ _
 have o2:okQ x2.1:=by rw[e2];exact Hf _ _ _
 have o3:okQ x3.1:=by rw[e3];exact KH _ _ _
 have c1: ∀W1,KcP c s W1→BD 60 [Ag c,str (Ad f.a),str (Ad q.1)] c x1 W1:=fun W1 h=>by rw[e1];exact CE c _ _ _ hf.1 hq.1 W1 h
 have c2: ∀W1,KcP c x1.2 W1→BD 60 [Ag c,str (Ad f.b),str (Ad q.2)] c x2 W1:=fun W1 h=>by rw[e2];exact CE c _ _ _ hf.2.1 hq.2 W1 h
 have c3: ∀W1,KcP c x2.2 W1→BD 45 [Ag c,str (Ad x1.1),str (Ad x2.1)] c x3 W1:=fun W1 h=>by rw[e3];exact F9 c _ _ _ o1 o2 W1 h
 have c4: ∀W1,KcP c x3.2 W1→BD 59 [Ag c,str (Ad x3.1),str (Ad f.c)] c x4 W1:=fun W1 h=>by rw[e4];exact Ci c _ _ _ o3 hf.2.2 W1 h
 rw[eL]
 clear eL e1 e2 e3 e4
 refine BK.enter h Tryz.func132 I I I ?_
 refine zA (zB ?_)
 (refine At rfl rfl rfl rfl ?_;intro)
 refine wP I (Aa ?_)
 rename_i b
 refine zE (Ar ?_)
 refine AE (X:=Unit) [true,true,true,true,false,true,true,true,true,false,false,false] (fun _=>[(1,Ag b4),(2,Ag b5),(3,Ag b6),(4,Ag b7),(7,str (Ad x1.1)),(8,str (Ad x2.1))]) (fun _=>[AL (As W c),caE c x2.2])
  4 [AL (As W c),caF c s,ptB b (Ad q.1) (Ad q.2)] Tryz.mixed (by kernel_rfl) ?_ ?_
 ·refine qL 0 I I (fun W1 hp=>(hL.oth h.o hp).r4) I (qL 0 I I (fun W1 hp=>(hL.oth h.o hp).r5) I (qP I (qB 2 I I I (qL 0 I I (fun W1 hp=>(hL.oth h.o hp).r4) I (qL 0 I I (fun W1 hp=>(hL.oth h.o hp).r6) I (qP I (qB 2 I I I (Bq (wX (wZ ?_))))))))))
  refine AM 1 c I I I I I I (by kernel_rfl) I (fun W1 hp1=>c1 W1 (h.at_ (bs:=[ptB b (Ad q.1) (Ad q.2)]) hp1)) ?_
  refine Aa (Ab (wX (wZ ?_)))
  refine AM 1 c I I I I I I (by kernel_rfl) I (fun W1 hp1=>c2 W1 (h.at_ (bs:=[ptB b (Ad q.1) (Ad q.2)]) hp1)) ?_
  refine Aa (Ab (wX (wZ (wP I (Aa (Ab (wX (wZ (wP I (Aa (Ab ?_)))))))))))
  refine Au I (by((repeat (first|refine A3.same ?_|refine A3.off I ?_));exact tO)) ?_
  exact Al () ⟨I,I,I,I,I,I,tO⟩ [0,1] (by decide) I
 intro _
 refine zE (Ar ?_)
 refine AE (X:=Unit) [true,true,true,true,false,true,false,false] (fun _=>[(6,str (Ad x4.1))]) (fun _=>[AL (As W c),caE c x4.2])
  3 [AL (As W c),caF c x2.2] Tryz.mixed (by kernel_rfl) ?_ ?_
 ·refine qL 0 I I (fun W1 hp=>(hL.oth h.o hp).r4) I (qL 0 I I (fun W1 hp=>(hL.oth h.o hp).r4) I (qP I (qP I (qL 0 I I (fun W1 hp=>(hL.oth h.o hp).r7) I (Bq (wX (wZ ?_)))))))
  refine AM 1 c I I I I I I (by kernel_rfl) I (fun W1 hp1=>c3 W1 (h.at_ (bs:=[]) hp1)) ?_
  refine Aa (Ab (wX (wZ ?_)))
  refine AM 1 c I I I I I I (by kernel_rfl) I (fun W1 hp1=>c4 W1 (h.at_ (bs:=[]) hp1)) ?_
  refine Aa (Ab (wX (wZ (wP I (Aa (Ab ?_))))))
  refine Au I (by((repeat (first|refine A3.same ?_|refine A3.off I ?_));exact tO)) ?_
  exact Al () ⟨I,tO⟩ [0,1] (by decide) I
 intro _
 exact zE (zO (Av tH I (.tmp I) () I tO fun W1 hp=>D8 hp))
-- BOXES 9
-- CODE2
theorem Cf.oth {W W1:World} {p:Option Addr} {l:List Ak} {c:Nat} {s:Bool} {bs:List Bx} (h:Cf W p l) (ho:W.heap[c]? =some (caO s)) (hp:Hp (Bn W) (AL (As W c)::bs) W1):Cf W1 p l:=by
 rcases h with h|⟨b,off,e,h⟩
 ·exact .inl h
 refine .inr ⟨b,off,e,fun i hi=> ?_⟩
 have hr:=h i hi
 have hne:b≠c:=fun e=>by
  subst e
  have h0:=hr.get 0 (str (Ad l[i].1)) rfl
  simp only[World.cell?,ho] at h0
  generalize off+i*2+0=k at h0
  cases k with
  |zero=>simp at h0
  |succ k=>simp at h0
 have h2:=Oo hne hr.lt hp
 refine⟨(Array.getElem?_eq_some_iff.1 (h2.trans (Array.getElem?_eq_getElem hr.lt))).1,fun j u hu=> ?_⟩
 have h1:=hr.get j u hu
 simp only[World.cell?] at h1⊢
 rw[h2]
 exact h1
theorem Cf.oth_at {W:World} {p:Option Addr} {l:List Ak} {c:Nat} {s:Bool} (h:Cf W p l) (ho:W.heap[c]? =some (caO s)) (h0:0<l.length): ∃g off,p=some ⟨g,off,none⟩∧ ∀ {W1:World} {bs:List Bx},Hp (Bn W) (AL (As W c)::bs) W1→ ∀j,j<l.length→Aj W1 g (off+j*2) [str (Ad (Ae l j).1),str (Ad (Ae l j).2)]:=by
 obtain⟨g,off,hpe,_⟩:=h.at_ h0
 refine⟨g,off,hpe,fun hp j hj=> ?_⟩
 obtain⟨g',off',e',h2⟩:=(h.oth ho hp).at_ hj
 rw[hpe] at e'
 cases e'
 rw[BM hj]
 exact h2 j hj
def vsE (s:Bool) (f:AW) (l:List Ak):Nat→List Rat×Bool
 |0=>([],s)
 |i+1=>((vsE s f l i).1++[(vlE (vsE s f l i).2 f (Ae l i)).1],(vlE (vsE s f l i).2 f (Ae l i)).2)
theorem QO (s:Bool) (f:AW) (l:List Ak): ∀i,(vsE s f l i).1.length=i
 |0=>rfl
 |i+1=>by
  show((vsE s f l i).1++[_]).length=i+1
  rw[List.length_append,QO s f l i];rfl
theorem UQ {s:Bool} {f:AW} {l:List Ak}: ∀ {i:Nat},i≤l.length→((vsE s f l i).2=false↔s=false∧ ∀j,j<i→Ii f (Ae l j))
 |0,_=>⟨fun h=>⟨h,fun _ h=>absurd h (Nat.not_lt_zero _)⟩,fun h=>h.1⟩
 |i+1,hi=>by
  show(vlE (vsE s f l i).2 f (Ae l i)).2=false↔_
  rw[Wn,UQ (by omega)]
  constructor
  ·rintro⟨⟨a,b⟩,c⟩
   refine⟨a,fun j hj=> ?_⟩
   by_cases e:j=i
   ·subst e;exact c
   ·exact b j (by omega)
  ·rintro⟨a,b⟩
   exact⟨⟨a,fun j hj=>b j (by omega)⟩,b i (by omega)⟩
theorem UJ {f:AW} {l:List Ak}: ∀ {i:Nat},i≤l.length→(∀j,j<i→Ii f (Ae l j))→vsE false f l i=((l.take i).map f.at,false)
 |0,_,_=>rfl
 |i+1,hi,h=>by
  have ih:=UJ (f:=f) (l:=l) (i:=i) (by omega) (fun j hj=>h j (by omega))
  show((vsE false f l i).1++[(vlE (vsE false f l i).2 f (Ae l i)).1],(vlE (vsE false f l i).2 f (Ae l i)).2)=_
  rw[ih,QC (h i (by omega)),List.take_add_one,List.getElem?_eq_getElem (show i<l.length by omega),List.map_append,BM (show i<l.length by omega)]
  rfl
theorem Ff (c:Nat) (s:Bool) (f:AW) (hf:okQ f.a∧okQ f.b∧okQ f.c) (l:List Ak) (hq: ∀x∈l,okP x) (hn:l.length≤4096) (p:Option Addr) (cap:Nat) (b4 b5 b6 b7:Nat) (W:World) (hA:Cf W p l) (hL:MX b4 b5 b6 b7 c f W) (h:KcP c s W):
  FC 66 [slv p l.length cap, .func (.func 132) #[] #[Ag b4,Ag b5,Ag b6,Ag b7]] c (fun _:Vec=>(vsE s f l l.length).2) (fun V=>V.val l.length) (fun V=>V.OK 1 l.length (vsC (vsE s f l l.length).1)) (fun V=>[V.bx 23 (vsC (vsE s f l l.length).1)]) W:=by
 refine FC.enter h Tryz.func66 I I I ?_
 repeat (first|refine zA ?_|refine zB ?_|refine zC ?_|refine zD ?_|refine zE ?_|refine zF ?_|refine zG ?_|refine zH ?_|refine zI ?_|refine zJ ?_|refine zK ?_|refine zL ?_|refine zM rfl ?_|refine zN ?_|refine zO ?_|refine zP ?_|refine zQ ?_|refine zR rfl ?_|refine zS rfl ?_|refine zU ?_)
 refine wP I (Aa ?_)
 repeat (first|refine zA ?_|refine zB ?_|refine zC ?_|refine zD ?_|refine zE ?_|refine zF ?_|refine zG ?_|refine zH ?_|refine zI ?_|refine zJ ?_|refine zK ?_|refine zL ?_|refine zM rfl ?_|refine zN ?_|refine zO ?_|refine zP ?_|refine zQ ?_|refine zR rfl ?_|refine zS rfl ?_|refine zU ?_)
 refine wP I (Aa ?_)
 repeat (first|refine zA ?_|refine zB ?_|refine zC ?_|refine zD ?_|refine zE ?_|refine zF ?_|refine zG ?_|refine zH ?_|refine zI ?_|refine zJ ?_|refine zK ?_|refine zL ?_|refine zM rfl ?_|refine zN ?_|refine zO ?_|refine zP ?_|refine zQ ?_|refine zR rfl ?_|refine zS rfl ?_|refine zU ?_)
 refine wP I (wP I (wP I (Aa ?_)))
 repeat (first|refine zA ?_|refine zB ?_|refine zC ?_|refine zD ?_|refine zE ?_|refine zF ?_|refine zG ?_|refine zH ?_|refine zI ?_|refine zJ ?_|refine zK ?_|refine zL ?_|refine zM rfl ?_|refine zN ?_|refine zO ?_|refine zP ?_|refine zQ ?_|refine zR rfl ?_|refine zS rfl ?_|refine zU ?_)
 refine De ?_
 refine A9 (X:=Nat×Vec) (fun x=>[(1, .func (.func 132) #[] #[Ag b4,Ag b5,Ag b6,Ag b7]),(5,x.2.val x.1),(8,slv p l.length cap),(9, .int .i64 (l.length:Nat)),(10, .int .i64 (x.1:Nat))])
  (fun x=>[AL (As W c),caE c (vsE s f l x.1).2,x.2.bx 23 (vsC (vsE s f l x.1).1)]) (fun x=>x.1≤l.length∧x.2.OK 1 x.1 (vsC (vsE s f l x.1).1)) (fun x=>l.length-x.1) (0,Vec.empty) ⟨Nat.zero_le _,Vec.OK.empty 1⟩ ⟨rfl,rfl,rfl,rfl,rfl,trivial⟩ [] rfl ?_
 rintro⟨i,V⟩ ⟨hi,hV⟩
 have hi:i≤l.length:=hi
 have hV:V.OK 1 i (vsC (vsE s f l i).1):=hV
 repeat (first|refine zA ?_|refine zB ?_|refine zC ?_|refine zD ?_|refine zE ?_|refine zF ?_|refine zG ?_|refine zH ?_|refine zI ?_|refine zJ ?_|refine zK ?_|refine zL ?_|refine zM rfl ?_|refine zN ?_|refine zO ?_|refine zP ?_|refine zQ ?_|refine zR rfl ?_|refine zS rfl ?_|refine zU ?_)
 refine wP I ?_
 by_cases hlt:i<l.length
 rotate_left
 ·obtain rfl:i=l.length:=by omega
  refine wU 11 false I (dF (by omega)) (Aa ?_)
  repeat (first|refine zA ?_|refine zB ?_|refine zC ?_|refine zD ?_|refine zE ?_|refine zF ?_|refine zG ?_|refine zH ?_|refine zI ?_|refine zJ ?_|refine zK ?_|refine zL ?_|refine zM rfl ?_|refine zN ?_|refine zO ?_|refine zP ?_|refine zQ ?_|refine zR rfl ?_|refine zS rfl ?_|refine zU ?_)
  refine wP I (wP I (Aa ?_))
  repeat (first|refine zA ?_|refine zB ?_|refine zC ?_|refine zD ?_|refine zE ?_|refine zF ?_|refine zG ?_|refine zH ?_|refine zI ?_|refine zJ ?_|refine zK ?_|refine zL ?_|refine zM rfl ?_|refine zN ?_|refine zO ?_|refine zP ?_|refine zQ ?_|refine zR rfl ?_|refine zS rfl ?_|refine zU ?_)
  exact Av tH I (.tmp I) V I hV fun W1 hp=>(Hp.take (bxs:=[AL (As W c),caE c (vsE s f l l.length).2,V.bx 23 (vsC (vsE s f l l.length).1)]) (nb:=[]) (by simpa using hp)).own
 refine wU 11 true I (dT (by omega)) (Aa ?_)
 repeat (first|refine zA ?_|refine zB ?_|refine zC ?_|refine zD ?_|refine zE ?_|refine zF ?_|refine zG ?_|refine zH ?_|refine zI ?_|refine zJ ?_|refine zK ?_|refine zL ?_|refine zM rfl ?_|refine zN ?_|refine zO ?_|refine zP ?_|refine zQ ?_|refine zR rfl ?_|refine zS rfl ?_|refine zU ?_)
 obtain⟨g,off,rfl,hrow⟩:=hA.oth_at h.o (show 0<l.length by omega)
 have okx:okP (Ae l i):=hq _ (B2 (by omega) i)
 obtain⟨y,hy⟩: ∃y,y=vlE (vsE s f l i).2 f (Ae l i):=⟨_,rfl⟩
 have hsu:vsE s f l (i+1)=((vsE s f l i).1++[y.1],y.2):=by rw[hy];rfl
 have c1: ∀W1,MX b4 b5 b6 b7 c f W1→KcP c (vsE s f l i).2 W1→BD 132 [cvV (Ae l i),Ag b4,Ag b5,Ag b6,Ag b7] c y W1:=fun W1 h1 h2=>by rw[hy];exact L6 b4 b5 b6 b7 c _ f _ hf okx W1 h1 h2
 (first|refine wJ ?_|refine qJ ?_)
 (first|refine wL 0 rfl rfl (fun W1 hp=>hrow hp i hlt) rfl ?_|refine wL 1 rfl rfl (fun W1 hp=>hrow hp i hlt) rfl ?_|refine wL 2 rfl rfl (fun W1 hp=>hrow hp i hlt) rfl ?_|refine wL 3 rfl rfl (fun W1 hp=>hrow hp i hlt) rfl ?_|refine wL 4 rfl rfl (fun W1 hp=>hrow hp i hlt) rfl ?_|refine wL 5 rfl rfl (fun W1 hp=>hrow hp i hlt) rfl ?_|refine wL 6 rfl rfl (fun W1 hp=>hrow hp i hlt) rfl ?_|refine wL 7 rfl rfl (fun W1 hp=>hrow hp i hlt) rfl ?_|refine qL 0 rfl rfl (fun W1 hp=>hrow hp i hlt) rfl ?_|refine qL 1 rfl rfl (fun W1 hp=>hrow hp i hlt) rfl ?_|refine qL 2 rfl rfl (fun W1 hp=>hrow hp i hlt) rfl ?_|refine qL 3 rfl rfl (fun W1 hp=>hrow hp i hlt) rfl ?_|refine qL 4 rfl rfl (fun W1 hp=>hrow hp i hlt) rfl ?_|refine qL 5 rfl rfl (fun W1 hp=>hrow hp i hlt) rfl ?_|refine qL 6 rfl rfl (fun W1 hp=>hrow hp i hlt) rfl ?_|refine qL 7 rfl rfl (fun W1 hp=>hrow hp i hlt) rfl ?_)
 (refine Af Tryz.hZ rfl rfl rfl rfl ?_;intro)
 (first|refine wS 0 rfl rfl rfl ?_|refine wS 1 rfl rfl rfl ?_|refine wS 2 rfl rfl rfl ?_|refine wS 3 rfl rfl rfl ?_|refine wS 4 rfl rfl rfl ?_|refine wS 5 rfl rfl rfl ?_|refine wS 6 rfl rfl rfl ?_|refine wS 7 rfl rfl rfl ?_|refine wS 8 rfl rfl rfl ?_)
 refine Aa ?_
 rename_i b7v
 repeat (first|refine zA ?_|refine zB ?_|refine zC ?_|refine zD ?_|refine zE ?_|refine zF ?_|refine zG ?_|refine zH ?_|refine zI ?_|refine zJ ?_|refine zK ?_|refine zL ?_|refine zM rfl ?_|refine zN ?_|refine zO ?_|refine zP ?_|refine zQ ?_|refine zR rfl ?_|refine zS rfl ?_|refine zU ?_)
 refine wP I (wP I ?_)
 (first|refine wB 0 rfl rfl rfl ?_|refine wB 1 rfl rfl rfl ?_|refine wB 2 rfl rfl rfl ?_|refine wB 3 rfl rfl rfl ?_|refine wB 4 rfl rfl rfl ?_|refine wB 5 rfl rfl rfl ?_|refine wB 6 rfl rfl rfl ?_|refine wB 7 rfl rfl rfl ?_|refine wB 8 rfl rfl rfl ?_)
 refine Gd 1 c (capt:=[Ag b4,Ag b5,Ag b6,Ag b7]) I I I I I I (by kernel_rfl) I (fun W1 hp=>(c1 W1 (hL.oth h.o hp) (h.at_ (bs:=[V.bx 23 (vsC (vsE s f l i).1),ptB b7v (Ad (Ae l i).1) (Ad (Ae l i).2)]) hp)).toN) ?_
 intro _ _
 refine A8 Tryz.hZ tH I I I I I I I I I I I fun bS=> ?_
 refine Bk (V:=V) (len:=i) (xs:=vsC (vsE s f l i).1) 2 4 Tryz.vec87 (i+1) (vsC (vsE s f l (i+1)).1) I I I I I I I I I I I hV I I I (by rw[hsu,Rh];rfl) (by simp only[maxLen];omega) (by omega) I ?_
 intro gV cV jV hV1
 refine wP I (Aa ?_)
 repeat (first|refine zA ?_|refine zB ?_|refine zC ?_|refine zD ?_|refine zE ?_|refine zF ?_|refine zG ?_|refine zH ?_|refine zI ?_|refine zJ ?_|refine zK ?_|refine zL ?_|refine zM rfl ?_|refine zN ?_|refine zO ?_|refine zP ?_|refine zQ ?_|refine zR rfl ?_|refine zS rfl ?_|refine zU ?_)
 refine wP I (wV 20 ((i+1:Nat):Int) I (Ax (by omega)) (wP I (Aa ?_)))
 repeat (first|refine zA ?_|refine zB ?_|refine zC ?_|refine zD ?_|refine zE ?_|refine zF ?_|refine zG ?_|refine zH ?_|refine zI ?_|refine zJ ?_|refine zK ?_|refine zL ?_|refine zM rfl ?_|refine zN ?_|refine zO ?_|refine zP ?_|refine zQ ?_|refine zR rfl ?_|refine zS rfl ?_|refine zU ?_)
 exact A4 (i+1,(⟨some gV,cV,jV⟩:Vec)) ⟨hlt,hV1⟩ (by show l.length-(i+1)<l.length-i;omega) ⟨I,I,I,I,I,tO⟩ [_,_] (by rw[hsu];rfl)
theorem RL (c:Nat) (s:Bool) (p q:Rat) (hp:okQ p) (hq:okQ q) (h0:s=false→q.num≠0) (W:World) (h:KcP c s W):BD 47 [Ag c,str (Ad p),str (Ad q)] c (kDi s p q) W:=by
 cases s with
 |false=>exact NG c false p q hp hq (h0 rfl) W h
 |true=>
  have e:kDi true p q=(0,true):=by unfold kDi;exact O9
  rw[e]
  refine BK.enter h Tryz.func47 I I I ?_
  repeat (first|refine zA ?_|refine zB ?_|refine zC ?_|refine zD ?_|refine zE ?_|refine zF ?_|refine zG ?_|refine zH ?_|refine zI ?_|refine zJ ?_|refine zK ?_|refine zL ?_|refine zM rfl ?_|refine zN ?_|refine zO ?_|refine zP ?_|refine zQ ?_|refine zR rfl ?_|refine zS rfl ?_|refine zU ?_)
  refine wP I (Aa ?_)
  repeat (first|refine zA ?_|refine zB ?_|refine zC ?_|refine zD ?_|refine zE ?_|refine zF ?_|refine zG ?_|refine zH ?_|refine zI ?_|refine zJ ?_|refine zK ?_|refine zL ?_|refine zM rfl ?_|refine zN ?_|refine zO ?_|refine zP ?_|refine zQ ?_|refine zR rfl ?_|refine zS rfl ?_|refine zU ?_)
  refine wP I (wP I (wP I ?_))
  refine AM 1 c I I I I I I (by kernel_rfl) I (fun W1 hp1=>Mu c 105 (Ad p) (Ad q) W1 (h.at_ (bs:=[]) hp1)) ?_
  refine wP I (Aa ?_)
  repeat (first|refine zA ?_|refine zB ?_|refine zC ?_|refine zD ?_|refine zE ?_|refine zF ?_|refine zG ?_|refine zH ?_|refine zI ?_|refine zJ ?_|refine zK ?_|refine zL ?_|refine zM rfl ?_|refine zN ?_|refine zO ?_|refine zP ?_|refine zQ ?_|refine zR rfl ?_|refine zS rfl ?_|refine zU ?_)
  exact Av tH I (.tmp I) () (by rw[←DO]) tO fun W1 hp=>D8 hp
theorem SP (s:Bool) (p q:Rat) (h0:s=false→q≠0):okQ (kDi s p q).1:=by
 cases s with
 |true=>
  have e:kDi true p q=(0,true):=by unfold kDi;exact O9
  rw[e];exact NO
 |false=>
  refine MM fun h=> ?_
  have hn:q.num≠0:=Nq (h0 rfl)
  rw[←IV p q hn]
  refine Kf (Int.mul_ne_zero (by have:=p.den_nz;omega) hn) h.1 ?_
  rw[Int.mul_comm];exact h.2
def ctX (s:Bool) (t x y:Rat):Rat×Bool:=kAd (kMu (kSb s y x).2 t (kSb s y x).1).2 x (kMu (kSb s y x).2 t (kSb s y x).1).1
def ctE (s:Bool) (p q:Ak) (u v:Rat):Ak×Bool:=
 (((ctX (kDi (kSb s u v).2 u (kSb s u v).1).2 (kDi (kSb s u v).2 u (kSb s u v).1).1 p.1 q.1).1,(ctX (ctX (kDi (kSb s u v).2 u (kSb s u v).1).2 (kDi (kSb s u v).2 u (kSb s u v).1).1 p.1 q.1).2 (kDi (kSb s u v).2 u (kSb s u v).1).1 p.2 q.2).1),(ctX (ctX (kDi (kSb s u v).2 u (kSb s u v).1).2 (kDi (kSb s u v).2 u (kSb s u v).1).1 p.1 q.1).2 (kDi (kSb s u v).2 u (kSb s u v).1).1 p.2 q.2).2)
structure OF (t x y:Rat):Prop where
 a:BE y x
 b:BY t (y-x)
 c:Cj x (t*(y-x))
theorem Su {t x y:Rat} (h:OF t x y):ctX false t x y=(x+t*(y-x),false):=by
 have a:kSb false y x=(y-x,false):=B5 h.a
 have b:kMu false t (y-x)=(t*(y-x),false):=B5 h.b
 unfold ctX
 simp only[a,b]
 exact B5 h.c
theorem UP {s:Bool} {t x y:Rat}:(ctX s t x y).2=false↔s=false∧OF t x y:=by
 constructor
 ·intro h
  unfold ctX at h
  have h3:=D3.1 h
  have h2:=D3.1 h3.1
  have h1:=D3.1 h2.1
  obtain⟨rfl,a⟩:=h1
  have ea:kSb false y x=(y-x,false):=B5 a
  have b:=h2.2
  have c:=h3.2
  simp only[ea] at b c
  have eb:kMu false t (y-x)=(t*(y-x),false):=B5 b
  simp only[eb] at c
  exact⟨I,a,b,c⟩
 ·rintro⟨rfl,h⟩
  rw[Su h]
structure MC (p q:Ak) (u v:Rat):Prop where
 s:BE u v
 d:Bg u (u-v)
 x:OF (u/(u-v)) p.1 q.1
 y:OF (u/(u-v)) p.2 q.2
theorem UB {p q:Ak} {u v:Rat} (h:MC p q u v):ctE false p q u v=(HZ (u/(u-v)) p q,false):=by
 have a:kSb false u v=(u-v,false):=B5 h.s
 have b:kDi false u (u-v)=(u/(u-v),false):=B5 h.d
 unfold ctE
 simp only[a,b,Su h.x,Su h.y]
 rfl
theorem Wf {s:Bool} {p q:Ak} {u v:Rat}:(ctE s p q u v).2=false↔s=false∧MC p q u v:=by
 constructor
 ·intro h
  unfold ctE at h
  have h4:=UP.1 h
  have h3:=UP.1 h4.1
  have h2:=D3.1 h3.1
  have h1:=D3.1 h2.1
  obtain⟨rfl,a⟩:=h1
  have ea:kSb false u v=(u-v,false):=B5 a
  have b:=h2.2
  have c:=h3.2
  have d:=h4.2
  simp only[ea] at b c d
  have eb:kDi false u (u-v)=(u/(u-v),false):=B5 b
  simp only[eb] at c d
  exact⟨I,a,b,c,d⟩
 ·rintro⟨rfl,h⟩
  rw[UB h]
theorem Vg (s:Bool) (p q:Ak) (u v:Rat):okP (ctE s p q u v).1:=⟨KH _ _ _,KH _ _ _⟩
theorem Po (c:Nat) (s:Bool) (p q:Ak) (u v:Rat) (hp:okP p) (hq:okP q) (hu:okQ u) (hv:okQ v) (h0:s=false→u-v≠0) (W:World) (h:KcP c s W):
  BK 69 [Ag c,cvV p,cvV q,str (Ad u),str (Ad v)] c (fun _:Unit=>(ctE s p q u v).2) (fun _=>cvV (ctE s p q u v).1) (fun _=>True) W:=by
 obtain⟨x1,e1⟩: ∃x,x=kSb s u v:=⟨_,rfl⟩
 obtain⟨x2,e2⟩: ∃x,x=kDi x1.2 u x1.1:=⟨_,rfl⟩
 obtain⟨x3,e3⟩: ∃x,x=kSb x2.2 q.1 p.1:=⟨_,rfl⟩
 obtain⟨x4,e4⟩: ∃x,x=kMu x3.2 x2.1 x3.1:=⟨_,rfl⟩
 obtain⟨x5,e5⟩: ∃x,x=kAd x4.2 p.1 x4.1:=⟨_,rfl⟩
 obtain⟨x6,e6⟩: ∃x,x=kSb x5.2 q.2 p.2:=⟨_,rfl⟩
 obtain⟨x7,e7⟩: ∃x,x=kMu x6.2 x2.1 x6.1:=⟨_,rfl⟩
 obtain⟨x8,e8⟩: ∃x,x=kAd x7.2 p.2 x7.1:=⟨_,rfl⟩
 have eL:ctE s p q u v=((x5.1,x8.1),x8.2):=by rw[e8,e7,e6,e5,e4,e3,e2,e1];rfl
 have hd:x1.2=false→x1.1≠0:=fun k=>by
  rw[e1] at k⊢
  obtain⟨rfl,k2⟩:=D3.1 k
  have e:kSb false u v=(u-v,false):=B5 k2
  rw[e]
  exact h0 I
 have o1:okQ x1.1:=by rw[e1];exact E8 _ _ _
 have o2:okQ x2.1:=by rw[e2];exact SP _ _ _ hd
 have o3:okQ x3.1:=by rw[e3];exact E8 _ _ _
 have o4:okQ x4.1:=by rw[e4];exact Hf _ _ _
 have o6:okQ x6.1:=by rw[e6];exact E8 _ _ _
 have o7:okQ x7.1:=by rw[e7];exact Hf _ _ _
 have c1: ∀W1,KcP c s W1→BD 59 [Ag c,str (Ad u),str (Ad v)] c x1 W1:=fun W1 h=>by rw[e1];exact Ci c _ _ _ hu hv W1 h
 have c2: ∀W1,KcP c x1.2 W1→BD 47 [Ag c,str (Ad u),str (Ad x1.1)] c x2 W1:=fun W1 h=>by rw[e2];exact RL c _ _ _ hu o1 (fun k=>Nq (hd k)) W1 h
 have c3: ∀W1,KcP c x2.2 W1→BD 59 [Ag c,str (Ad q.1),str (Ad p.1)] c x3 W1:=fun W1 h=>by rw[e3];exact Ci c _ _ _ hq.1 hp.1 W1 h
 have c4: ∀W1,KcP c x3.2 W1→BD 60 [Ag c,str (Ad x2.1),str (Ad x3.1)] c x4 W1:=fun W1 h=>by rw[e4];exact CE c _ _ _ o2 o3 W1 h
 have c5: ∀W1,KcP c x4.2 W1→BD 45 [Ag c,str (Ad p.1),str (Ad x4.1)] c x5 W1:=fun W1 h=>by rw[e5];exact F9 c _ _ _ hp.1 o4 W1 h
 have c6: ∀W1,KcP c x5.2 W1→BD 59 [Ag c,str (Ad q.2),str (Ad p.2)] c x6 W1:=fun W1 h=>by rw[e6];exact Ci c _ _ _ hq.2 hp.2 W1 h
 have c7: ∀W1,KcP c x6.2 W1→BD 60 [Ag c,str (Ad x2.1),str (Ad x6.1)] c x7 W1:=fun W1 h=>by rw[e7];exact CE c _ _ _ o2 o6 W1 h
 have c8: ∀W1,KcP c x7.2 W1→BD 45 [Ag c,str (Ad p.2),str (Ad x7.1)] c x8 W1:=fun W1 h=>by rw[e8];exact F9 c _ _ _ hp.2 o7 W1 h
 rw[eL]
 clear eL e1 e2 e3 e4 e5 e6 e7 e8 hd
 refine BK.enter h Tryz.func69 I I I ?_
 repeat (first|refine zA ?_|refine zB ?_|refine zC ?_|refine zD ?_|refine zE ?_|refine zF ?_|refine zG ?_|refine zH ?_|refine zI ?_|refine zJ ?_|refine zK ?_|refine zL ?_|refine zM rfl ?_|refine zN ?_|refine zO ?_|refine zP ?_|refine zQ ?_|refine zR rfl ?_|refine zS rfl ?_|refine zU ?_)
 (refine At rfl rfl rfl rfl ?_;intro)
 (refine At rfl rfl rfl rfl ?_;intro)
 (refine Af Tryz.hZ rfl rfl rfl rfl ?_;intro)
 refine Aa ?_
 rename_i b6 b7 b10
 repeat (first|refine zA ?_|refine zB ?_|refine zC ?_|refine zD ?_|refine zE ?_|refine zF ?_|refine zG ?_|refine zH ?_|refine zI ?_|refine zJ ?_|refine zK ?_|refine zL ?_|refine zM rfl ?_|refine zN ?_|refine zO ?_|refine zP ?_|refine zQ ?_|refine zR rfl ?_|refine zS rfl ?_|refine zU ?_)
 iterate 5 refine wP I ?_
 refine AM 1 c I I I I I I (by kernel_rfl) I (fun W1 hp1=>c1 W1 (h.at_ (bs:=[ptB b6 (Ad p.1) (Ad p.2),ptB b7 (Ad q.1) (Ad q.2),ptB b10 [] []]) hp1)) ?_
 refine AM 1 c I I I I I I (by kernel_rfl) I (fun W1 hp1=>c2 W1 (h.at_ (bs:=[ptB b6 (Ad p.1) (Ad p.2),ptB b7 (Ad q.1) (Ad q.2),ptB b10 [] []]) hp1)) ?_
 refine wP I (Aa ?_)
 repeat (first|refine zC ?_|refine zD ?_|refine zE ?_|refine zF ?_|refine zG ?_|refine zH ?_|refine zI ?_|refine zJ ?_|refine zK ?_|refine zL ?_|refine zM rfl ?_|refine zN ?_|refine zO ?_|refine zP ?_|refine zQ ?_|refine zR rfl ?_|refine zS rfl ?_)
 repeat (first|refine Ar ?_|refine Bj ?_)
 refine AE (X:=Unit) [true,true,true,true,true,true,true,true,true,true,false,false,false,false] (fun _=>[(0,Ag c),(6,Ag b6),(7,Ag b7),(10,Ag b10),(11,str (Ad x2.1)),(12,str (Ad x5.1))]) (fun _=>[AL (As W c),caE c x5.2,ptB b6 (Ad p.1) (Ad p.2),ptB b7 (Ad q.1) (Ad q.2),ptB b10 [] []])
  4 [AL (As W c),caF c x2.2,ptB b6 (Ad p.1) (Ad p.2),ptB b7 (Ad q.1) (Ad q.2),ptB b10 [] []] Tryz.mixed (by kernel_rfl) ?_ ?_
 ·refine qP I (qP I ?_)
  (first|refine qB 0 rfl rfl rfl ?_|refine qB 1 rfl rfl rfl ?_|refine qB 2 rfl rfl rfl ?_|refine qB 3 rfl rfl rfl ?_|refine qB 4 rfl rfl rfl ?_|refine qB 5 rfl rfl rfl ?_|refine qB 6 rfl rfl rfl ?_|refine qB 7 rfl rfl rfl ?_|refine qB 8 rfl rfl rfl ?_)
  refine qP I (qP I (qP I (qP I ?_)))
  (first|refine qB 0 rfl rfl rfl ?_|refine qB 1 rfl rfl rfl ?_|refine qB 2 rfl rfl rfl ?_|refine qB 3 rfl rfl rfl ?_|refine qB 4 rfl rfl rfl ?_|refine qB 5 rfl rfl rfl ?_|refine qB 6 rfl rfl rfl ?_|refine qB 7 rfl rfl rfl ?_|refine qB 8 rfl rfl rfl ?_)
  refine qP I ?_
  (first|refine qB 0 rfl rfl rfl ?_|refine qB 1 rfl rfl rfl ?_|refine qB 2 rfl rfl rfl ?_|refine qB 3 rfl rfl rfl ?_|refine qB 4 rfl rfl rfl ?_|refine qB 5 rfl rfl rfl ?_|refine qB 6 rfl rfl rfl ?_|refine qB 7 rfl rfl rfl ?_|refine qB 8 rfl rfl rfl ?_)
  refine Bq ?_
  first|refine wX ?_|refine wY ?_
  refine wZ ?_
  refine AM 1 c I I I I I I (by kernel_rfl) I (fun W1 hp1=>c3 W1 (h.at_ (bs:=[ptB b6 (Ad p.1) (Ad p.2),ptB b7 (Ad q.1) (Ad q.2),ptB b10 [] []]) hp1)) ?_
  refine Aa (Ab ?_)
  first|refine wX ?_|refine wY ?_
  refine wZ ?_
  refine AM 1 c I I I I I I (by kernel_rfl) I (fun W1 hp1=>c4 W1 (h.at_ (bs:=[ptB b6 (Ad p.1) (Ad p.2),ptB b7 (Ad q.1) (Ad q.2),ptB b10 [] []]) hp1)) ?_
  refine Aa (Ab ?_)
  first|refine wX ?_|refine wY ?_
  refine wZ ?_
  refine AM 1 c I I I I I I (by kernel_rfl) I (fun W1 hp1=>c5 W1 (h.at_ (bs:=[ptB b6 (Ad p.1) (Ad p.2),ptB b7 (Ad q.1) (Ad q.2),ptB b10 [] []]) hp1)) ?_
  refine Aa (Ab ?_)
  first|refine wX ?_|refine wY ?_
  refine wZ (wP I (Aa (Ab ?_)))
  first|refine Au rfl (by((repeat (first|refine A3.same ?_|refine A3.off rfl ?_));exact trivial)) ?_|refine AD rfl (by kernel_rfl) ?_
  exact Al () ⟨I,I,I,I,I,I,tO⟩ [0,1,2,3,4] (by decide) I
 intro _
 repeat (first|refine zC ?_|refine zD ?_|refine zE ?_|refine zF ?_|refine zG ?_|refine zH ?_|refine zI ?_|refine zJ ?_|refine zK ?_|refine zL ?_|refine zM rfl ?_|refine zN ?_|refine zO ?_|refine zP ?_|refine zQ ?_|refine zR rfl ?_|refine zS rfl ?_)
 repeat (first|refine Ar ?_|refine Bj ?_)
 refine AE (X:=Unit) [true,true,true,true,true,true,true,true,true,true,false,false,false,false] (fun _=>[(10,Ag b10),(12,str (Ad x5.1)),(13,str (Ad x8.1))]) (fun _=>[AL (As W c),caE c x8.2,ptB b10 [] []])
  4 [AL (As W c),caF c x5.2,ptB b6 (Ad p.1) (Ad p.2),ptB b7 (Ad q.1) (Ad q.2),ptB b10 [] []] Tryz.mixed (by kernel_rfl) ?_ ?_
 ·refine qP I (qP I ?_)
  (first|refine qB 0 rfl rfl rfl ?_|refine qB 1 rfl rfl rfl ?_|refine qB 2 rfl rfl rfl ?_|refine qB 3 rfl rfl rfl ?_|refine qB 4 rfl rfl rfl ?_|refine qB 5 rfl rfl rfl ?_|refine qB 6 rfl rfl rfl ?_|refine qB 7 rfl rfl rfl ?_|refine qB 8 rfl rfl rfl ?_)
  refine qP I (qP I (qP I (qP I ?_)))
  (first|refine qB 0 rfl rfl rfl ?_|refine qB 1 rfl rfl rfl ?_|refine qB 2 rfl rfl rfl ?_|refine qB 3 rfl rfl rfl ?_|refine qB 4 rfl rfl rfl ?_|refine qB 5 rfl rfl rfl ?_|refine qB 6 rfl rfl rfl ?_|refine qB 7 rfl rfl rfl ?_|refine qB 8 rfl rfl rfl ?_)
  refine qP I ?_
  (first|refine qB 0 rfl rfl rfl ?_|refine qB 1 rfl rfl rfl ?_|refine qB 2 rfl rfl rfl ?_|refine qB 3 rfl rfl rfl ?_|refine qB 4 rfl rfl rfl ?_|refine qB 5 rfl rfl rfl ?_|refine qB 6 rfl rfl rfl ?_|refine qB 7 rfl rfl rfl ?_|refine qB 8 rfl rfl rfl ?_)
  refine Bq ?_
  first|refine wX ?_|refine wY ?_
  refine wZ ?_
  refine AM 1 c I I I I I I (by kernel_rfl) I (fun W1 hp1=>c6 W1 (h.at_ (bs:=[ptB b6 (Ad p.1) (Ad p.2),ptB b7 (Ad q.1) (Ad q.2),ptB b10 [] []]) hp1)) ?_
  refine Aa (Ab ?_)
  first|refine wX ?_|refine wY ?_
  refine wZ ?_
  refine AM 1 c I I I I I I (by kernel_rfl) I (fun W1 hp1=>c7 W1 (h.at_ (bs:=[ptB b6 (Ad p.1) (Ad p.2),ptB b7 (Ad q.1) (Ad q.2),ptB b10 [] []]) hp1)) ?_
  refine Aa (Ab ?_)
  first|refine wX ?_|refine wY ?_
  refine wZ ?_
  refine AM 1 c I I I I I I (by kernel_rfl) I (fun W1 hp1=>c8 W1 (h.at_ (bs:=[ptB b6 (Ad p.1) (Ad p.2),ptB b7 (Ad q.1) (Ad q.2),ptB b10 [] []]) hp1)) ?_
  refine Aa (Ab ?_)
  first|refine wX ?_|refine wY ?_
  refine wZ (wP I (Aa (Ab ?_)))
  first|refine Au rfl (by((repeat (first|refine A3.same ?_|refine A3.off rfl ?_));exact trivial)) ?_|refine AD rfl (by kernel_rfl) ?_
  exact Al () ⟨I,I,I,tO⟩ [0,1,4] (by decide) I
 intro _
 repeat (first|refine zA ?_|refine zB ?_|refine zC ?_|refine zD ?_|refine zE ?_|refine zF ?_|refine zG ?_|refine zH ?_|refine zI ?_|refine zJ ?_|refine zK ?_|refine zL ?_|refine zM rfl ?_|refine zN ?_|refine zO ?_|refine zP ?_|refine zQ ?_|refine zR rfl ?_|refine zS rfl ?_|refine zU ?_)
 refine wP I (wP I ?_)
 refine Ay Tryz.hZ tH I I I I I I I I ?_
 (first|refine wS 0 rfl rfl rfl ?_|refine wS 1 rfl rfl rfl ?_|refine wS 2 rfl rfl rfl ?_|refine wS 3 rfl rfl rfl ?_|refine wS 4 rfl rfl rfl ?_|refine wS 5 rfl rfl rfl ?_|refine wS 6 rfl rfl rfl ?_|refine wS 7 rfl rfl rfl ?_|refine wS 8 rfl rfl rfl ?_)
 refine Aa ?_
 repeat (first|refine zA ?_|refine zB ?_|refine zC ?_|refine zD ?_|refine zE ?_|refine zF ?_|refine zG ?_|refine zH ?_|refine zI ?_|refine zJ ?_|refine zK ?_|refine zL ?_|refine zM rfl ?_|refine zN ?_|refine zO ?_|refine zP ?_|refine zQ ?_|refine zR rfl ?_|refine zS rfl ?_|refine zU ?_)
 exact Av tH I (.cell 2 I I I I I) () I tO fun W1 hp=>D8 hp
def bgE (s:Bool) (D:List Ak):Nat→Nat×Bool
 |0=>(0,s)
 |i+1=>(if (kLs (bgE s D i).2 (Ae D (i+1)) (Ae D (bgE s D i).1)).1<0 then i+1 else(bgE s D i).1,(kLs (bgE s D i).2 (Ae D (i+1)) (Ae D (bgE s D i).1)).2)
def PE (D:List Ak):Prop:= ∀i,i+1<D.length→LV (Ae D (i+1)) (Ae D (Bm D (i+1)))
theorem Qt (s:Bool) (D:List Ak): ∀i,(bgE s D i).1≤i
 |0=>Nat.le_refl _
 |i+1=>by
  have ih:=Qt s D i
  show(if _ then i+1 else(bgE s D i).1)≤i+1
  split
  ·exact Nat.le_refl _
  ·exact Nat.le_succ_of_le ih
theorem SI (D:List Ak):Bm D 1=0:=by show(if Cb (Ae D 0) (Ae D 0)=true then 0 else 0)=0;split<;>rfl
theorem KO {D:List Ak}: ∀ {i:Nat},(∀j,j<i→LV (Ae D (j+1)) (Ae D (Bm D (j+1))))→bgE false D i=(Bm D (i+1),false)
 |0,_=>by rw[SI];rfl
 |i+1,h=>by
  have ih:=KO (D:=D) (i:=i) fun j hj=>h j (by omega)
  show(if (kLs (bgE false D i).2 (Ae D (i+1)) (Ae D (bgE false D i).1)).1<0 then i+1 else(bgE false D i).1,(kLs (bgE false D i).2 (Ae D (i+1)) (Ae D (bgE false D i).1)).2)=_
  rw[ih,Wb (h i (by omega))]
  have e:Bm D (i+1+1)=if Cb (Ae D (i+1)) (Ae D (Bm D (i+1)))=true then i+1 else Bm D (i+1):=rfl
  rw[e, ←MF]
  simp only[decide_eq_true_eq]
theorem UH {s:Bool} {D:List Ak}: ∀ {i:Nat},(bgE s D i).2=false↔s=false∧ ∀j,j<i→LV (Ae D (j+1)) (Ae D (Bm D (j+1)))
 |0=>⟨fun h=>⟨h,fun _ h=>absurd h (Nat.not_lt_zero _)⟩,fun h=>h.1⟩
 |i+1=>by
  have ih:=UH (s:=s) (D:=D) (i:=i)
  show(kLs (bgE s D i).2 (Ae D (i+1)) (Ae D (bgE s D i).1)).2=false↔_
  constructor
  ·intro h
   cases hb:(bgE s D i).2 with
   |true=>rw[hb,Wd] at h;exact absurd h (by decide)
   |false=>
    obtain⟨rfl,hj⟩:=ih.1 hb
    rw[KO hj] at h
    have h:=Sy.1 h
    refine⟨I,fun j hji=> ?_⟩
    by_cases e:j=i
    ·subst e;exact h
    ·exact hj j (by omega)
  ·rintro⟨rfl,hj⟩
   have h1:=KO (D:=D) (i:=i) fun j hji=>hj j (by omega)
   rw[h1]
   exact Sy.2 (hj i (by omega))
theorem Mb (c:Nat) (s:Bool) (D:List Ak) (hq: ∀x∈D,okP x) (h0:0<D.length) (hn:D.length≤100000) (g cap:Nat) (hcap:D.length≤cap) (W:World) (hA:Cf W (some ⟨g,0,none⟩) D) (h:KcP c s W):
  FC 99 [Ag c,slv (some ⟨g,0,none⟩) D.length cap] c (fun x:Vec×List Ak×Bool=>x.2.2) (fun x=>x.1.val x.2.1.length) (fun x=>x.1.OK 2 x.2.1.length (ptC x.2.1)∧x.2.1.length=D.length∧(∀y∈x.2.1,okP y)∧(x.2.2=false↔s=false∧PE D)∧(x.2.2=false→x.2.1=Bp D)) (fun x=>[x.1.bx 35 (ptC x.2.1)]) W:=by
 obtain⟨g',off,hpe,hrow⟩:=hA.oth_at h.o h0
 obtain⟨rfl,rfl⟩:g=g'∧off=0:=by
  have:=Option.some.inj hpe
  simp only[Addr.mk.injEq] at this
  exact⟨this.1,this.2.1.symm⟩
 have ok: ∀j,okP (Ae D j):=fun j=>hq _ (B2 h0 j)
 refine FC.enter h Tryz.func99 I I I ?_
 repeat (first|refine zA ?_|refine zB ?_|refine zC ?_|refine zD ?_|refine zE ?_|refine zF ?_|refine zG ?_|refine zH ?_|refine zI ?_|refine zJ ?_|refine zK ?_|refine zL ?_|refine zM rfl ?_|refine zN ?_|refine zO ?_|refine zP ?_|refine zQ ?_|refine zR rfl ?_|refine zS rfl ?_|refine zU ?_)
 refine wP I (Aa ?_)
 repeat (first|refine zA ?_|refine zB ?_|refine zC ?_|refine zD ?_|refine zE ?_|refine zF ?_|refine zG ?_|refine zH ?_|refine zI ?_|refine zJ ?_|refine zK ?_|refine zL ?_|refine zM rfl ?_|refine zN ?_|refine zO ?_|refine zP ?_|refine zQ ?_|refine zR rfl ?_|refine zS rfl ?_|refine zU ?_)
 refine wP I (Aa ?_)
 repeat (first|refine zA ?_|refine zB ?_|refine zC ?_|refine zD ?_|refine zE ?_|refine zF ?_|refine zG ?_|refine zH ?_|refine zI ?_|refine zJ ?_|refine zK ?_|refine zL ?_|refine zM rfl ?_|refine zN ?_|refine zO ?_|refine zP ?_|refine zQ ?_|refine zR rfl ?_|refine zS rfl ?_|refine zU ?_)
 refine wP I (Aa ?_)
 repeat (first|refine zA ?_|refine zB ?_|refine zC ?_|refine zD ?_|refine zE ?_|refine zF ?_|refine zG ?_|refine zH ?_|refine zI ?_|refine zJ ?_|refine zK ?_|refine zL ?_|refine zM rfl ?_|refine zN ?_|refine zO ?_|refine zP ?_|refine zQ ?_|refine zR rfl ?_|refine zS rfl ?_|refine zU ?_)
 refine A9 (X:=Nat) (fun i=>[(0,Ag c),(1,slv (some ⟨g,0,none⟩) D.length cap),(5, .int .i64 ((bgE s D i).1:Nat)),(6, .int .i64 ((i+1:Nat):Int))]) (fun i=>[AL (As W c),caE c (bgE s D i).2]) (fun i=>i+1≤D.length) (fun i=>D.length-i) 0 h0 ⟨I,I,I,I,tO⟩ [] I ?_
 intro i hi
 have hi:i+1≤D.length:=hi
 have hle:=Qt s D i
 repeat (first|refine zA ?_|refine zB ?_|refine zC ?_|refine zD ?_|refine zE ?_|refine zF ?_|refine zG ?_|refine zH ?_|refine zI ?_|refine zJ ?_|refine zK ?_|refine zL ?_|refine zM rfl ?_|refine zN ?_|refine zO ?_|refine zP ?_|refine zQ ?_|refine zR rfl ?_|refine zS rfl ?_|refine zU ?_)
 refine wP I (wP I (wP I (wP I ?_)))
 by_cases hlt:i+1<D.length
 ·refine wU 10 true I (dT (by omega)) (Aa ?_)
  repeat (first|refine zC ?_|refine zD ?_|refine zE ?_|refine zF ?_|refine zG ?_|refine zH ?_|refine zI ?_|refine zJ ?_|refine zK ?_|refine zL ?_|refine zM rfl ?_|refine zN ?_|refine zO ?_|refine zP ?_|refine zQ ?_|refine zR rfl ?_|refine zS rfl ?_)
  obtain⟨m,hm⟩: ∃m,m=bgE s D i:=⟨_,rfl⟩
  obtain⟨y,hy⟩: ∃y,y=kLs m.2 (Ae D (i+1)) (Ae D m.1):=⟨_,rfl⟩
  have hsu:bgE s D (i+1)=(if y.1<0 then i+1 else m.1,y.2):=by rw[hy,hm];rfl
  have c1: ∀W1,KcP c m.2 W1→FP 71 [Ag c,cvV (Ae D (i+1)),cvV (Ae D m.1)] c y W1:=fun W1 h=>by rw[hy];exact Nz c _ _ _ (ok _) (ok _) W1 h
  rw[←hm] at hle
  rw[←hm]
  repeat (first|refine Ar ?_|refine Bj ?_)
  refine AE (X:=Unit) [true,true,true,true,true,true,true,true,true,false,false] (fun _=>[(0,Ag c),(1,slv (some ⟨g,0,none⟩) D.length cap),(5, .int .i64 (m.1:Nat)),(6, .int .i64 ((i+1:Nat):Int)),(23, .bool (decide (y.1<0)))]) (fun _=>[AL (As W c),caE c y.2])
   2 [AL (As W c),caF c m.2] Tryz.mixed (by kernel_rfl) ?_ ?_
  ·refine qP I (qP I (qP I ?_))
   refine qJ ?_
   (first|refine wL 0 rfl rfl (fun W1 hp=>hrow hp (i+1) hlt) rfl ?_|refine wL 1 rfl rfl (fun W1 hp=>hrow hp (i+1) hlt) rfl ?_|refine wL 2 rfl rfl (fun W1 hp=>hrow hp (i+1) hlt) rfl ?_|refine wL 3 rfl rfl (fun W1 hp=>hrow hp (i+1) hlt) rfl ?_|refine wL 4 rfl rfl (fun W1 hp=>hrow hp (i+1) hlt) rfl ?_|refine wL 5 rfl rfl (fun W1 hp=>hrow hp (i+1) hlt) rfl ?_|refine wL 6 rfl rfl (fun W1 hp=>hrow hp (i+1) hlt) rfl ?_|refine wL 7 rfl rfl (fun W1 hp=>hrow hp (i+1) hlt) rfl ?_|refine qL 0 rfl rfl (fun W1 hp=>hrow hp (i+1) hlt) rfl ?_|refine qL 1 rfl rfl (fun W1 hp=>hrow hp (i+1) hlt) rfl ?_|refine qL 2 rfl rfl (fun W1 hp=>hrow hp (i+1) hlt) rfl ?_|refine qL 3 rfl rfl (fun W1 hp=>hrow hp (i+1) hlt) rfl ?_|refine qL 4 rfl rfl (fun W1 hp=>hrow hp (i+1) hlt) rfl ?_|refine qL 5 rfl rfl (fun W1 hp=>hrow hp (i+1) hlt) rfl ?_|refine qL 6 rfl rfl (fun W1 hp=>hrow hp (i+1) hlt) rfl ?_|refine qL 7 rfl rfl (fun W1 hp=>hrow hp (i+1) hlt) rfl ?_)
   refine qP I (qP I ?_)
   refine qJ ?_
   (first|refine wL 0 rfl rfl (fun W1 hp=>hrow hp m.1 (by omega)) rfl ?_|refine wL 1 rfl rfl (fun W1 hp=>hrow hp m.1 (by omega)) rfl ?_|refine wL 2 rfl rfl (fun W1 hp=>hrow hp m.1 (by omega)) rfl ?_|refine wL 3 rfl rfl (fun W1 hp=>hrow hp m.1 (by omega)) rfl ?_|refine wL 4 rfl rfl (fun W1 hp=>hrow hp m.1 (by omega)) rfl ?_|refine wL 5 rfl rfl (fun W1 hp=>hrow hp m.1 (by omega)) rfl ?_|refine wL 6 rfl rfl (fun W1 hp=>hrow hp m.1 (by omega)) rfl ?_|refine wL 7 rfl rfl (fun W1 hp=>hrow hp m.1 (by omega)) rfl ?_|refine qL 0 rfl rfl (fun W1 hp=>hrow hp m.1 (by omega)) rfl ?_|refine qL 1 rfl rfl (fun W1 hp=>hrow hp m.1 (by omega)) rfl ?_|refine qL 2 rfl rfl (fun W1 hp=>hrow hp m.1 (by omega)) rfl ?_|refine qL 3 rfl rfl (fun W1 hp=>hrow hp m.1 (by omega)) rfl ?_|refine qL 4 rfl rfl (fun W1 hp=>hrow hp m.1 (by omega)) rfl ?_|refine qL 5 rfl rfl (fun W1 hp=>hrow hp m.1 (by omega)) rfl ?_|refine qL 6 rfl rfl (fun W1 hp=>hrow hp m.1 (by omega)) rfl ?_|refine qL 7 rfl rfl (fun W1 hp=>hrow hp m.1 (by omega)) rfl ?_)
   refine Bq ?_
   first|refine wX ?_|refine wY ?_
   refine wZ ?_
   refine AM 1 c I I I I I I (by kernel_rfl) I (fun W1 hp1=>c1 W1 (h.at_ (bs:=[]) hp1)) ?_
   refine Aa (Ab ?_)
   first|refine wX ?_|refine wY ?_
   refine wZ (wP I (Aa (Ab ?_)))
   first|refine Au rfl (by((repeat (first|refine A3.same ?_|refine A3.off rfl ?_));exact trivial)) ?_|refine AD rfl (by kernel_rfl) ?_
   exact Al () ⟨I,I,I,I,I,tO⟩ [0,1] (by decide) I
  intro _
  repeat (first|refine zA ?_|refine zB ?_|refine zC ?_|refine zD ?_|refine zE ?_|refine zF ?_|refine zG ?_|refine zH ?_|refine zI ?_|refine zJ ?_|refine zK ?_|refine zL ?_|refine zM rfl ?_|refine zN ?_|refine zO ?_|refine zP ?_|refine zQ ?_|refine zR rfl ?_|refine zS rfl ?_|refine zU ?_)
  refine Aw I (fun hc=> ?_) (fun hc=> ?_)
  ·rw[if_pos (of_decide_eq_true hc)] at hsu
   repeat (first|refine zA ?_|refine zB ?_|refine zC ?_|refine zD ?_|refine zE ?_|refine zF ?_|refine zG ?_|refine zH ?_|refine zI ?_|refine zJ ?_|refine zK ?_|refine zL ?_|refine zM rfl ?_|refine zN ?_|refine zO ?_|refine zP ?_|refine zQ ?_|refine zR rfl ?_|refine zS rfl ?_|refine zU ?_)
   refine wP I (wP I (Aa ?_))
   repeat (first|refine zA ?_|refine zB ?_|refine zC ?_|refine zD ?_|refine zE ?_|refine zF ?_|refine zG ?_|refine zH ?_|refine zI ?_|refine zJ ?_|refine zK ?_|refine zL ?_|refine zM rfl ?_|refine zN ?_|refine zO ?_|refine zP ?_|refine zQ ?_|refine zR rfl ?_|refine zS rfl ?_|refine zU ?_)
   refine wP I (wP I (wV 12 ((i+1+1:Nat):Int) I (Ax (by omega)) (wP I (Aa ?_))))
   repeat (first|refine zA ?_|refine zB ?_|refine zC ?_|refine zD ?_|refine zE ?_|refine zF ?_|refine zG ?_|refine zH ?_|refine zI ?_|refine zJ ?_|refine zK ?_|refine zL ?_|refine zM rfl ?_|refine zN ?_|refine zO ?_|refine zP ?_|refine zQ ?_|refine zR rfl ?_|refine zS rfl ?_|refine zU ?_)
   exact A4 (i+1) hlt (by show D.length-(i+1)<D.length-i;omega) ⟨I,I,congrArg (fun n:Nat=>some (Value.int .i64 (n:Int))) (congrArg Prod.fst hsu).symm,I,tO⟩ [] (by rw[hsu];rfl)
  ·rw[if_neg (of_decide_eq_false hc)] at hsu
   repeat (first|refine zA ?_|refine zB ?_|refine zC ?_|refine zD ?_|refine zE ?_|refine zF ?_|refine zG ?_|refine zH ?_|refine zI ?_|refine zJ ?_|refine zK ?_|refine zL ?_|refine zM rfl ?_|refine zN ?_|refine zO ?_|refine zP ?_|refine zQ ?_|refine zR rfl ?_|refine zS rfl ?_|refine zU ?_)
   refine wP I (wP I (wV 12 ((i+1+1:Nat):Int) I (Ax (by omega)) (wP I (Aa ?_))))
   repeat (first|refine zA ?_|refine zB ?_|refine zC ?_|refine zD ?_|refine zE ?_|refine zF ?_|refine zG ?_|refine zH ?_|refine zI ?_|refine zJ ?_|refine zK ?_|refine zL ?_|refine zM rfl ?_|refine zN ?_|refine zO ?_|refine zP ?_|refine zQ ?_|refine zR rfl ?_|refine zS rfl ?_|refine zU ?_)
   exact A4 (i+1) hlt (by show D.length-(i+1)<D.length-i;omega) ⟨I,I,congrArg (fun n:Nat=>some (Value.int .i64 (n:Int))) (congrArg Prod.fst hsu).symm,I,tO⟩ [] (by rw[hsu];rfl)
 have e:i+1=D.length:=by omega
 obtain⟨m,s2,hm⟩: ∃m s2,bgE s D i=(m,s2):=⟨_,_,rfl⟩
 have hls:m<D.length:=by rw[hm] at hle;have hle:m≤i:=hle;omega
 have hst:s2=false↔s=false∧PE D:=by
  have:=UH (s:=s) (D:=D) (i:=i)
  rw[hm] at this
  exact this.trans ⟨fun h=>⟨h.1,fun j hj=>h.2 j (by omega)⟩,fun h=>⟨h.1,fun j hj=>h.2 j (by omega)⟩⟩
 have hB:s2=false→D.drop m++D.take m=Bp D:=fun h=>by
  obtain⟨rfl,hb⟩:=hst.1 h
  have:=KO (D:=D) (i:=i) fun j hj=>hb j (by omega)
  rw[hm,e] at this
  have e2:m=Bm D D.length:=congrArg Prod.fst this
  rw[e2];rfl
 rw[hm]
 have hl1:(D.drop m).length=D.length-m:=List.length_drop
 have hl2:(D.take m).length=m:=by rw[List.length_take];omega
 have hlr:(D.drop m++D.take m).length=D.length:=by rw[List.length_append,hl1,hl2];omega
 have hokr: ∀y∈D.drop m++D.take m,okP y:=fun y hy=>by
  rcases List.mem_append.1 hy with h|h
  ·exact hq y (List.mem_of_mem_drop h)
  ·exact hq y (List.mem_of_mem_take h)
 have cells: ∀ {W1:World} {bs:List Bx},Hp (Bn W) (AL (As W c)::bs) W1→Aj W1 g 0 (ptC (D.take m))∧Aj W1 g (m*2) (ptC (D.drop m)):=fun {W1 bs} hp=>by
  have hc:=(hA.oth h.o hp).cells
  have hrw:Aj W1 g 0 (ptC D):=by
   rcases hc with h|⟨b,off,e,h⟩
   ·exfalso
    have h2:D.length*2=0:=by rw[←AG,h];rfl
    omega
   ·cases e;exact h
  have hsplit:ptC D=ptC (D.take m)++ptC (D.drop m):=by rw[←Cx,List.take_append_drop]
  rw[hsplit] at hrw
  have h2:=Ep hrw
  rw[AG,hl2,Nat.zero_add] at h2
  exact⟨Cc hrw,h2⟩
 refine wU 10 false I (dF (by omega)) (Aa ?_)
 repeat (first|refine zC ?_|refine zD ?_|refine zE ?_|refine zF ?_|refine zG ?_|refine zH ?_|refine zI ?_|refine zJ ?_|refine zK ?_|refine zL ?_|refine zM rfl ?_|refine zN ?_|refine zO ?_|refine zP ?_|refine zQ ?_|refine zR rfl ?_|refine zS rfl ?_)
 repeat (first|refine Ar ?_|refine Bj ?_)
 refine AE (X:= { V:Vec//V.OK 2 D.length (ptC (D.drop m++D.take m)) }) [true,true,false,true,true,false,false,false,false] (fun V=>[(4,V.1.val D.length)]) (fun V=>[AL (As W c),caE c s2,V.1.bx 35 (ptC (D.drop m++D.take m))])
  5 [AL (As W c),caE c s2] Tryz.mixed (by kernel_rfl) ?_ ?_
 ·refine qP I (qP I (qP I (qP I (Bq ?_))))
  first|refine wX ?_|refine wY ?_
  refine RS.cons ?_ (RS.cons ?_ (RS.nil))
  ·refine Cp m tH I I I I I I I I (by omega) (by omega) ?_;refine Ah 27 (.slice (some ⟨g,m*2,none⟩) (D.length-m) (cap-m)) I (by rw[if_neg (by omega),Nat.zero_add]) ?_
   refine Aa (Ab ?_)
   first|refine wX ?_|refine wY ?_
   refine wZ ?_
   refine By m tH I I I I I I I I (by omega) ?_
   refine Aa (Ab ?_)
   first|refine wX ?_|refine wY ?_
   refine wZ ?_
   refine A8 Tryz.hZ tH I I I I I I I I I I I fun bL1=> ?_
   refine Aa (Ab ?_)
   first|refine wX ?_|refine wY ?_
   refine wZ ?_
   refine wD (X:=Vec) rfl rfl (fun W1 hp=>Ee W1 bL1 2 (some ⟨g,m*2,none⟩) (some ⟨g,0,none⟩) (D.length-m) m (cap-m) cap (ptC (D.drop m)) (ptC (D.take m)) (Aj.of_bx hp 2 rfl rfl) (.inr ⟨g,m*2,rfl,(cells hp).2⟩) (.inr ⟨g,0,rfl,(cells hp).1⟩) (by rw[AG,hl1]) (by rw[AG,hl2]) (BA _) (BA _) (by omega) (by omega)) ?_;intro V1 hV1;refine Ah 32 (V1.val D.length) rfl (by rw[show D.length-m+m=D.length by omega]) ?_
   refine Aa (Ab ?_)
   first|refine wX ?_|refine wY ?_
   refine wZ (wP I (Aa (Ab ?_)))
   rw[show D.length-m+m=D.length by omega, ←Cx] at hV1;rw[←Cx];first|refine Au rfl (by((repeat (first|refine A3.same ?_|refine A3.off rfl ?_));exact trivial)) ?_|refine AD rfl (by kernel_rfl) ?_
   exact Al ⟨V1,hV1⟩ ⟨I,tO⟩ [0,1,3] (by decide) I
  ·refine By m tH I I I I I I I I (by omega) ?_
   refine Aa (Ab ?_)
   first|refine wX ?_|refine wY ?_
   refine wZ ?_
   refine Cp m tH I I I I I I I I (by omega) (by omega) ?_;refine Ah 27 (.slice (some ⟨g,m*2,none⟩) (D.length-m) (cap-m)) I (by rw[if_neg (by omega),Nat.zero_add]) ?_
   refine Aa (Ab ?_)
   first|refine wX ?_|refine wY ?_
   refine wZ ?_
   refine A8 Tryz.hZ tH I I I I I I I I I I I fun bL1=> ?_
   refine Aa (Ab ?_)
   first|refine wX ?_|refine wY ?_
   refine wZ ?_
   refine wD (X:=Vec) rfl rfl (fun W1 hp=>Ee W1 bL1 2 (some ⟨g,m*2,none⟩) (some ⟨g,0,none⟩) (D.length-m) m (cap-m) cap (ptC (D.drop m)) (ptC (D.take m)) (Aj.of_bx hp 2 rfl rfl) (.inr ⟨g,m*2,rfl,(cells hp).2⟩) (.inr ⟨g,0,rfl,(cells hp).1⟩) (by rw[AG,hl1]) (by rw[AG,hl2]) (BA _) (BA _) (by omega) (by omega)) ?_;intro V1 hV1;refine Ah 32 (V1.val D.length) rfl (by rw[show D.length-m+m=D.length by omega]) ?_
   refine Aa (Ab ?_)
   first|refine wX ?_|refine wY ?_
   refine wZ (wP I (Aa (Ab ?_)))
   rw[show D.length-m+m=D.length by omega, ←Cx] at hV1;rw[←Cx];first|refine Au rfl (by((repeat (first|refine A3.same ?_|refine A3.off rfl ?_));exact trivial)) ?_|refine AD rfl (by kernel_rfl) ?_
   exact Al ⟨V1,hV1⟩ ⟨I,tO⟩ [0,1,3] (by decide) I
 rintro⟨V,hV⟩
 have hV:V.OK 2 D.length (ptC (D.drop m++D.take m)):=hV
 repeat (first|refine zA ?_|refine zB ?_|refine zC ?_|refine zD ?_|refine zE ?_|refine zF ?_|refine zG ?_|refine zH ?_|refine zI ?_|refine zJ ?_|refine zK ?_|refine zL ?_|refine zM rfl ?_|refine zN ?_|refine zO ?_|refine zP ?_|refine zQ ?_|refine zR rfl ?_|refine zS rfl ?_|refine zU ?_)
 exact Av tH I (.tmp I) (V,D.drop m++D.take m,s2) (by rw[hlr]) ⟨by rw[hlr];exact hV,hlr,hokr,hst,hB⟩ fun W1 hp=>(Hp.take (bxs:=[AL (As W c),caE c s2,V.bx 35 (ptC (D.drop m++D.take m))]) (nb:=[]) (by simpa using hp)).own
-- BOXES 14
-- CODE2
def clM (f:AW) (l:List Ak) (D:List Ak) (k:Nat):List Ak:=D++(if f.at (Ae l k)≤0 then[Ae l k] else[])
def clE (f:AW) (l:List Ak):Nat→List Ak×Bool
 |0=>([],false)
 |k+1=>if f.at (Ae l k)*f.at (Ae l (k+1))<0 then(clM f l (clE f l k).1 k++[(ctE (clE f l k).2 (Ae l k) (Ae l (k+1)) (f.at (Ae l k)) (f.at (Ae l (k+1)))).1],(ctE (clE f l k).2 (Ae l k) (Ae l (k+1)) (f.at (Ae l k)) (f.at (Ae l (k+1)))).2) else(clM f l (clE f l k).1 k,(clE f l k).2)
def PN (f:AW) (l:List Ak) (k:Nat):Prop:= ∀j,j<k→f.at (Ae l j)*f.at (Ae l (j+1))<0→MC (Ae l j) (Ae l (j+1)) (f.at (Ae l j)) (f.at (Ae l (j+1)))
structure CQ (f:AW) (l:List Ak):Prop where
 v: ∀j,j<l.length→Ii f (Ae l j)
 c:PN f l l.length
 b:FK f l=true→PE (AT f l)
theorem QA (f:AW) (l D:List Ak) (k:Nat):D.length≤(clM f l D k).length∧(clM f l D k).length≤D.length+1:=by
 unfold clM
 rw[List.length_append]
 split<;>simp
theorem Ki (f:AW) (l:List Ak): ∀k,(clE f l k).1.length≤2*k
 |0=>Nat.le_refl _
 |k+1=>by
  have ih:=Ki f l k
  have hm:=QA f l (clE f l k).1 k
  unfold clE
  split
  ·show(clM f l (clE f l k).1 k++[_]).length≤_
   rw[List.length_append]
   show(clM f l (clE f l k).1 k).length+1≤_
   omega
  ·show(clM f l (clE f l k).1 k).length≤_
   omega
theorem MA {f:AW} {l:List Ak} (hq: ∀x∈l,okP x) (h0:0<l.length): ∀k, ∀y∈(clE f l k).1,okP y
 |0=>fun y hy=>absurd hy List.not_mem_nil
 |k+1=>by
  have ih:=MA (f:=f) hq h0 k
  have hm: ∀y∈clM f l (clE f l k).1 k,okP y:=fun y hy=>by
   unfold clM at hy
   rcases List.mem_append.1 hy with h|h
   ·exact ih y h
   ·split at h
    ·rw[List.mem_singleton.1 h];exact hq _ (B2 h0 k)
    ·exact absurd h List.not_mem_nil
  intro y hy
  unfold clE at hy
  split at hy
  ·rcases List.mem_append.1 (show y∈clM f l (clE f l k).1 k++[_] from hy) with h|h
   ·exact hm y h
   ·rw[List.mem_singleton.1 h];exact Vg _ _ _ _ _
  ·exact hm y hy
theorem Oz {f:AW} {l:List Ak}: ∀ {k:Nat},PN f l k→clE f l k=(Ct f l k,false)
 |0,_=>rfl
 |k+1,h=>by
  have ih:=Oz (f:=f) (l:=l) (k:=k) fun j hj=>h j (by omega)
  rw[EU]
  unfold clE
  rw[ih]
  by_cases c:f.at (Ae l k)*f.at (Ae l (k+1))<0
  ·rw[if_pos c,if_pos c]
   show(clM f l (Ct f l k) k++[(ctE false _ _ _ _).1],(ctE false _ _ _ _).2)=_
   rw[UB (h k (by omega) c)]
   rfl
  ·rw[if_neg c,if_neg c,List.append_nil];rfl
theorem UE {f:AW} {l:List Ak}: ∀ {k:Nat},(clE f l k).2=false↔PN f l k
 |0=>⟨fun _ j hj=>absurd hj (Nat.not_lt_zero _),fun _=>rfl⟩
 |k+1=>by
  refine⟨fun h=> ?_,fun h=>by rw[Oz h]⟩
  have ih:=UE (f:=f) (l:=l) (k:=k)
  unfold clE at h
  by_cases c:f.at (Ae l k)*f.at (Ae l (k+1))<0
  ·rw[if_pos c] at h
   have h2:=Wf.1 h
   intro j hj cj
   by_cases e:j=k
   ·subst e;exact h2.2
   ·exact ih.1 h2.1 j (by omega) cj
  ·rw[if_neg c] at h
   intro j hj cj
   by_cases e:j=k
   ·subst e;exact absurd cj c
   ·exact ih.1 h j (by omega) cj
theorem KF {f:AW} {l:List Ak}: ∀ {k i:Nat},i<k→f.at (Ae l i)≤0→0<(Ct f l k).length
 |0,i,hi,_=>absurd hi (Nat.not_lt_zero _)
 |k+1,i,hi,h=>by
  rw[EU,List.length_append]
  have hm:0<(CP f l k).length:=by
   unfold CP
   rw[List.length_append]
   by_cases e:i=k
   ·subst e
    rw[if_pos h]
    show 0<_+1
    omega
   ·have:=KF (k:=k) (by omega) h
    omega
  omega
structure ClR (f:AW) (l:List Ak) (s:Bool) (x:Vec×List Ak×Bool):Prop where
 ok:x.1.OK 2 x.2.1.length (ptC x.2.1)
 len:x.2.1.length≤2*l.length
 okp: ∀y∈x.2.1,okP y
 st:x.2.2=false↔s=false∧CQ f l
 val:x.2.2=false→x.2.1=Bs f l
theorem ClR.nilT {f:AW} {l:List Ak} {s:Bool} (h: ¬(s=false∧CQ f l)):ClR f l s (Vec.empty,[],true):=
 ⟨Vec.OK.empty 2,Nat.zero_le _,fun _ h=>absurd h List.not_mem_nil,⟨fun e=>(by cases e),fun e=>absurd e h⟩,fun e=>by cases e⟩
theorem ME (c:Nat) (s:Bool) (f:AW) (hf:okQ f.a∧okQ f.b∧okQ f.c) (l:List Ak) (hq: ∀x∈l,okP x) (hn0:0<l.length) (hn:l.length≤4096) (p:Option Addr) (cap:Nat) (W:World) (hA:Cf W p l) (h:KcP c s W):
  FC 42 [Ag c,slv p l.length cap,str (Ad f.a),str (Ad f.b),str (Ad f.c)] c (fun x:Vec×List Ak×Bool=>x.2.2) (fun x=>x.1.val x.2.1.length) (fun x=>ClR f l s x) (fun x=>[x.1.bx 35 (ptC x.2.1)]) W:=by
 have hzz:(l.length:Int)≠0:=by omega
 obtain⟨⟨vs,s1⟩,hvs⟩: ∃x,x=vsE s f l l.length:=⟨_,rfl⟩
 have hvl:vs.length=l.length:=by
  have:=QO s f l l.length
  rw[←hvs] at this;exact this
 have hs1:s1=false↔s=false∧ ∀j,j<l.length→Ii f (Ae l j):=by
  have:=UQ (s:=s) (f:=f) (l:=l) (Nat.le_refl l.length)
  rw[←hvs] at this;exact this
 refine FC.enter h Tryz.func42 I I I ?_
 refine zA (zB ?_)
 (refine At rfl rfl rfl rfl ?_;intro)
 (refine At rfl rfl rfl rfl ?_;intro)
 refine wP I (Aa ?_)
 rename_i b5 b6
 refine zE (Ar ?_)
 refine AE (X:= { s:Nat×Vec//s.2.OK 1 l.length (vsC vs) }) [true,true,true,true,true,false,false,false,false] (fun s=>[(5,Ag b5),(6,Ag b6),(11,Ag s.1.1)]) (fun s=>[AL (As W c),caE c s1,ckB b5 c,lsB b6 (slv p l.length cap),nmB s.1.1 (s.1.2.val l.length),s.1.2.bx 23 (vsC vs)])
  4 [AL (As W c),caF c s,ckB b5 c,lsB b6 (slv p l.length cap)] Tryz.mixed (by kernel_rfl) ?_ ?_
 ·refine qB 3 I I I (qB 2 I I I (qP I (qP I (qP I (Bq (wX ?_))))))
  refine RS.cons ?_ (RS.cons ?_ (RS.nil))
  ·refine wD (X:=Nat×Nat×Nat×Nat) rfl rfl (fun W1 _=>Dp c f W1) ?_;rintro⟨v4,v5,v6,v7⟩ _
   refine Aa (Ab (wX ?_))
   refine RS.cons ?_ (RS.cons ?_ (RS.nil))
   ·refine Gd (s:=s) (capt:=[]) (X:=Vec) (st:=fun _=>s1) (val:=fun V=>V.val l.length) (Φ:=fun V=>V.OK 1 l.length (vsC vs)) (nb:=fun V=>[V.bx 23 (vsC vs)]) 1 c rfl rfl rfl rfl rfl rfl (by kernel_rfl) rfl (fun W1 hp=>by have h1:MX v4 v5 v6 v7 c f W1:=(by first|exact⟨Aj.of_bx hp 4 rfl rfl,Aj.of_bx hp 5 rfl rfl,Aj.of_bx hp 6 rfl rfl,Aj.of_bx hp 7 rfl rfl⟩|exact⟨Aj.of_bx hp 5 rfl rfl,Aj.of_bx hp 6 rfl rfl,Aj.of_bx hp 7 rfl rfl,Aj.of_bx hp 8 rfl rfl⟩);have h2:=Ff c s f hf l hq hn p cap v4 v5 v6 v7 W1 (hA.oth h.o hp) h1 (h.at_ (bs:=[]) (hp.pick (l:=[AL (As W c),caE c s]) [0,1] (by decide) rfl));rw[←hvs] at h2;exact h2) ?_;rintro⟨pV1,cV1,jV1⟩ hV1;obtain⟨gV1,rfl⟩: ∃g,pV1=some g:=Option.ne_none_iff_exists'.1 (fun e=>absurd (hV1.nil e) (by omega))
    refine Aa (Ab (wX (wZ ?_)))
    refine Af Tryz.hZ rfl rfl rfl rfl ?_;intro b11
    refine Aa (Ab (wX (wZ (wS 9 I I I (Aa (Ab ?_))))))
    refine Au I (by((repeat (first|refine A3.same ?_|refine A3.off I ?_));exact tO)) ?_
    exact Al (⟨(b11,⟨some gV1,cV1,jV1⟩),hV1⟩: { s:Nat×Vec//s.2.OK 1 l.length (vsC vs) }) ⟨I,I,I,tO⟩ [0,1,2,3,9,8] (by decide) I
   ·refine Af Tryz.hZ rfl rfl rfl rfl ?_;intro b11
    refine Aa (Ab (wX (wZ ?_)))
    refine Gd (s:=s) (capt:=[]) (X:=Vec) (st:=fun _=>s1) (val:=fun V=>V.val l.length) (Φ:=fun V=>V.OK 1 l.length (vsC vs)) (nb:=fun V=>[V.bx 23 (vsC vs)]) 1 c rfl rfl rfl rfl rfl rfl (by kernel_rfl) rfl (fun W1 hp=>by have h1:MX v4 v5 v6 v7 c f W1:=(by first|exact⟨Aj.of_bx hp 4 rfl rfl,Aj.of_bx hp 5 rfl rfl,Aj.of_bx hp 6 rfl rfl,Aj.of_bx hp 7 rfl rfl⟩|exact⟨Aj.of_bx hp 5 rfl rfl,Aj.of_bx hp 6 rfl rfl,Aj.of_bx hp 7 rfl rfl,Aj.of_bx hp 8 rfl rfl⟩);have h2:=Ff c s f hf l hq hn p cap v4 v5 v6 v7 W1 (hA.oth h.o hp) h1 (h.at_ (bs:=[]) (hp.pick (l:=[AL (As W c),caE c s]) [0,1] (by decide) rfl));rw[←hvs] at h2;exact h2) ?_;rintro⟨pV1,cV1,jV1⟩ hV1;obtain⟨gV1,rfl⟩: ∃g,pV1=some g:=Option.ne_none_iff_exists'.1 (fun e=>absurd (hV1.nil e) (by omega))
    refine Aa (Ab (wX (wZ (wS 8 I I I (Aa (Ab ?_))))))
    refine Au I (by((repeat (first|refine A3.same ?_|refine A3.off I ?_));exact tO)) ?_
    exact Al (⟨(b11,⟨some gV1,cV1,jV1⟩),hV1⟩: { s:Nat×Vec//s.2.OK 1 l.length (vsC vs) }) ⟨I,I,I,tO⟩ [0,1,2,3,8,9] (by decide) I
  ·refine Af Tryz.hZ rfl rfl rfl rfl ?_;intro b11
   refine Aa (Ab (wX (wZ ?_)))
   refine wD (X:=Nat×Nat×Nat×Nat) rfl rfl (fun W1 _=>Dp c f W1) ?_;rintro⟨v4,v5,v6,v7⟩ _
   refine Aa (Ab (wX (wZ ?_)))
   refine Gd (s:=s) (capt:=[]) (X:=Vec) (st:=fun _=>s1) (val:=fun V=>V.val l.length) (Φ:=fun V=>V.OK 1 l.length (vsC vs)) (nb:=fun V=>[V.bx 23 (vsC vs)]) 1 c rfl rfl rfl rfl rfl rfl (by kernel_rfl) rfl (fun W1 hp=>by have h1:MX v4 v5 v6 v7 c f W1:=(by first|exact⟨Aj.of_bx hp 4 rfl rfl,Aj.of_bx hp 5 rfl rfl,Aj.of_bx hp 6 rfl rfl,Aj.of_bx hp 7 rfl rfl⟩|exact⟨Aj.of_bx hp 5 rfl rfl,Aj.of_bx hp 6 rfl rfl,Aj.of_bx hp 7 rfl rfl,Aj.of_bx hp 8 rfl rfl⟩);have h2:=Ff c s f hf l hq hn p cap v4 v5 v6 v7 W1 (hA.oth h.o hp) h1 (h.at_ (bs:=[]) (hp.pick (l:=[AL (As W c),caE c s]) [0,1] (by decide) rfl));rw[←hvs] at h2;exact h2) ?_;rintro⟨pV1,cV1,jV1⟩ hV1;obtain⟨gV1,rfl⟩: ∃g,pV1=some g:=Option.ne_none_iff_exists'.1 (fun e=>absurd (hV1.nil e) (by omega))
   refine Aa (Ab (wX (wZ (wS 4 I I I (Aa (Ab ?_))))))
   refine Au I (by((repeat (first|refine A3.same ?_|refine A3.off I ?_));exact tO)) ?_
   exact Al (⟨(b11,⟨some gV1,cV1,jV1⟩),hV1⟩: { s:Nat×Vec//s.2.OK 1 l.length (vsC vs) }) ⟨I,I,I,tO⟩ [0,1,2,3,4,9] (by decide) I
 rintro⟨⟨b11,⟨pV,cV,jV⟩⟩,hV⟩
 obtain⟨gV,rfl⟩: ∃g,pV=some g:=by
  cases pV with
  |none=>have:=hV.nil rfl;omega
  |some g=>exact⟨g,rfl⟩
 have hcapV:=(hV.cap (by simp)).1
 cases s1 with
 |true=>
  refine zE (zA (zA (zB (wB 2 I I I ?_))))
  refine AB I I I I ?_
  exact wP I (wB 1 I I I (wP I (Aa (zE (zR I (zA (zB (wP I (Aa (zE (zO (zP (Av tH I (.tmp I) (Vec.empty,[],true) I (ClR.nilT fun e=>absurd (hs1.2 ⟨e.1,e.2.v⟩) (by decide)) fun W1 hp=>(hp.pick (l:=[AL (As W c),caE c true]) [0,1] (by decide) I).newGone.own)))))))))))))
 |false=>
 obtain⟨rfl,hvok⟩:=hs1.1 rfl
 obtain rfl:vs=l.map f.at:=by
  have:=UJ (f:=f) (l:=l) (Nat.le_refl l.length) hvok
  rw[←hvs,List.take_length] at this
  exact congrArg Prod.fst this
 have okv: ∀j,j<l.length→okQ (f.at (Ae l j)):=fun j hj=>by
  have:=SE false f (Ae l j)
  rwa [QC (hvok j hj)] at this
 have okvs: ∀j,okQ (f.at (Ae l j)):=fun j=>by
  rw[←C8 l j];exact okv _ (Nat.mod_lt _ hn0)
 have okl: ∀j,okP (Ae l j):=fun j=>hq _ (B2 hn0 j)
 refine zE (zA (zA (zB (wB 2 I I I ?_))))
 refine AB I I I I ?_
 refine wP I (wB 1 I I I (wP I (Aa (zE (zS I (zI (zE (zA (zB ?_)))))))))
 (refine Af Tryz.hZ rfl rfl rfl rfl ?_;intro)
 refine Aa ?_
 rename_i b12
 refine zE (zA (zA (zB (wB 3 I I I ?_))))
 refine wD (X:=Nat) I I (fun W1 _=>C3 p l.length cap W1) ?_
 intro bp _
 refine Aa (zE (zH ?_))
 refine De ?_
 refine DM (X:=Nat×Vec) (fun x=>[AL (As W c),caE c (clE f l x.1).2,ckB b5 c,lsB b6 (slv p l.length cap),nmB b11 (.slice (some ⟨gV,0,none⟩) l.length cV),⟨gV,23,vsC (l.map f.at)++jV,true,none⟩,lsB b12 (x.2.val (clE f l x.1).1.length),lsB bp (slv p l.length cap),x.2.bx 35 (ptC (clE f l x.1).1)])
  (fun j x=>x.1=j∧x.2.OK 2 (clE f l x.1).1.length (ptC (clE f l x.1).1)) (fun _ _=>False) (0,Vec.empty) rfl (by kernel_rfl) (CF l bp p cap (by omega)) (fun _=>rfl)
  ⟨rfl,Vec.OK.empty 2⟩ [] rfl (fun k x W1 _ hp=>⟨Aj.of_bx hp 7 rfl rfl,hA.oth h.o hp⟩) ?_ ?_ (fun _ _ _ _ _ h=>h.elim)
 ·rintro k ⟨k',O⟩ d l' rec L hk ⟨e1,hO⟩ hrec
  obtain rfl:k'=k:=e1
  have hk:k'<l.length:=hk
  have hO:O.OK 2 (clE f l k').1.length (ptC (clE f l k').1):=hO
  have hol:=Ki f l k'
  have hml:=(QA f l (clE f l k').1 k').2
  have hsl:=Ki f l (k'+1)
  have hk2:(k'+1)%l.length<l.length:=Nat.mod_lt _ hn0
  have ev: ∀i (hi:i<l.length),(l.map f.at)[i]'(by rw[hvl];exact hi)=f.at (Ae l i):=fun i hi=>by rw[List.getElem_map,BM hi]
  have hr1: ∀ {W0 W1:World} {bxs:List Bx} (hp:Hp W0 bxs W1) (m:Nat) (hm:nth bxs m=some ⟨gV,23,vsC (l.map f.at)++jV,true,none⟩),Aj W1 gV (0+k'*1) [str (Ad (f.at (Ae l k')))]:=fun hp m hm=>by
   have:=Mi hp m hm (i:=k') (by rw[hvl];exact hk)
   rwa [ev k' hk] at this
  have hr2: ∀ {W0 W1:World} {bxs:List Bx} (hp:Hp W0 bxs W1) (m:Nat) (hm:nth bxs m=some ⟨gV,23,vsC (l.map f.at)++jV,true,none⟩),Aj W1 gV (0+((k'+1)%l.length)*1) [str (Ad (f.at (Ae l (k'+1))))]:=fun hp m hm=>by
   have:=Mi hp m hm (i:=(k'+1)%l.length) (by rw[hvl];exact hk2)
   rwa [ev _ hk2,C8] at this
  obtain⟨u,hu⟩: ∃u,u=f.at (Ae l k'):=⟨_,rfl⟩
  obtain⟨v,hvv⟩: ∃v,v=f.at (Ae l (k'+1)):=⟨_,rfl⟩
  obtain⟨D,s2,hD⟩: ∃D s2,clE f l k'=(D,s2):=⟨_,_,rfl⟩
  obtain⟨M,hM⟩: ∃M,M=clM f l D k':=⟨_,rfl⟩
  have hmu:M=D++(if u≤0 then[Ae l k'] else[]):=by rw[hM,hu];rfl
  have hsu:clE f l (k'+1)=if u*v<0 then(M++[(ctE s2 (Ae l k') (Ae l (k'+1)) u v).1],(ctE s2 (Ae l k') (Ae l (k'+1)) u v).2) else(M,s2):=by
   rw[hM,hu,hvv,clE,hD]
  have oku:okQ u:=hu▸okvs k'
  have okw:okQ v:=hvv▸okvs (k'+1)
  rw[hD] at hO hol hml
  rw[←hM] at hml
  rw[←hu] at hr1
  rw[←hvv] at hr2
  rw[hD]
  have hO:O.OK 2 D.length (ptC D):=hO
  have hol:D.length≤2*k':=hol
  have hml:M.length≤D.length+1:=hml
  clear hM hD
  refine zA (zB (wP I (Aa (zE (zB ?_)))))
  (refine Af Tryz.hZ rfl rfl rfl rfl ?_;intro)
  refine wS 12 I I I (Aa ?_)
  rename_i b14
  refine C9 11 hrec I ?_
  refine Bj (zA (zU (qB 5 I I I (qP I ?_))))
  refine qJ ?_
  refine qL 0 I I (fun W1 hp=>hr1 hp 6 I) I (qC I I (fun W1 _=>Dd u W1) (qB 5 I I I (qP I (qP I (qV 40 ((k'+1:Nat):Int) I (Ax (by omega)) (qB 4 I I I (qP I ?_)))))))
  refine Dv I I I I I hzz ?_
  refine DY 43 (.int .i64 (((k'+1)%l.length:Nat):Int)) I I ?_
  refine qJ ?_
  refine qL 0 I I (fun W1 hp=>hr2 hp 6 I) I (qC I I (fun W1 _=>Dd v W1) (qP I (qP I (AS (Aa (zE (zA (zA (zB (wP I (wP I (wU 48 (decide (u≤0)) I (Kr u) (Aa ?_)))))))))))))
  refine AH ?_
  refine AC (X:=Vec) (fun _=>[(5,Ag b5),(6,Ag b6),(11,Ag b11),(12,Ag b12),(13, .int .i64 (k':Nat)),(14,Ag b14),(15, .int .i64 (E5 u)),(16, .int .i64 (E5 v))])
   (fun O=>[AL L,AL (As W c),caE c s2,ckB b5 c,lsB b6 (slv p l.length cap),nmB b11 (.slice (some ⟨gV,0,none⟩) l.length cV),⟨gV,23,vsC (l.map f.at)++jV,true,none⟩,lsB b12 (O.val M.length),lsB bp (slv p l.length cap),O.bx 35 (ptC M),Bz d,Ba l' rec .busy none,⟨b14,66,(sdV (Ae l k') (Ae l (k'+1))).cells.toList,true,none⟩])
   (fun O=>O.OK 2 M.length (ptC M)) ?_ ?_
  ·refine Aw I (fun hc1=> ?_) (fun hc1=> ?_)
   ·rw[if_pos (of_decide_eq_true hc1)] at hmu
    have hlm:D.length+1=M.length:=by rw[hmu,List.length_append];rfl
    refine zB (wB 7 I I I ?_)
    refine CJ Tryz.underlying66 Tryz.sizeOf35 I I I I I ⟨by decide,by decide⟩ ?_
    refine wB 12 I I I ?_
    refine A8 Tryz.hZ tH I I I I I I I I I I I fun bS=> ?_
    refine Bk (V:=O) (len:=D.length) (xs:=ptC D) 9 13 Tryz.vec22 M.length (ptC M) I I I I I I I I I I I hO I I hlm (by rw[hmu,Cx];rfl) (by simp only[maxLen];omega) (by omega) I ?_
    intro gO cO jO hO1
    exact wS 7 I I I (Aa (An ⟨some gO,cO,jO⟩ hO1 ⟨I,I,I,I,I,I,I,I,tO⟩ [_] I))
   ·rw[if_neg (of_decide_eq_false hc1),List.append_nil] at hmu
    exact zI (An O (by rw[hmu];exact hO) ⟨I,I,I,I,I,I,I,I,tO⟩ [] (by rw[hmu];rfl))
  intro O1 hO1
  have hO1:O1.OK 2 M.length (ptC M):=hO1
  refine zA (zB (wP I (wP I (wP I (wP I (wU 57 (decide (u*v<0)) I (ML u v) (Aa (zE ?_))))))))
  refine Aw I (fun hc2=> ?_) (fun hc2=> ?_)
  ·have hc2':u*v<0:=of_decide_eq_true hc2
   rw[if_pos hc2'] at hsu
   have hne:u-v≠0:=fun e=>by
    rcases D4.1 hc2' with h|h<;>grind
   obtain⟨⟨C,s3⟩,hC⟩: ∃x,x=ctE s2 (Ae l k') (Ae l (k'+1)) u v:=⟨_,rfl⟩
   have c1: ∀W1,KcP c s2 W1→BK 69 [Ag c,cvV (Ae l k'),cvV (Ae l (k'+1)),str (Ad u),str (Ad v)] c (fun _:Unit=>s3) (fun _=>cvV C) (fun _=>True) W1:=fun W1 h=>by
    have:=Po c s2 (Ae l k') (Ae l (k'+1)) u v (okl _) (okl _) oku okw (fun _=>hne) W1 h
    rw[←hC] at this
    exact this
   rw[←hC] at hsu
   have hsu:clE f l (k'+1)=(M++[C],s3):=hsu
   have hlm:M.length+1=(M++[C]).length:=by rw[List.length_append];rfl
   refine AE (X:= { O:Vec//O.OK 2 (M++[C]).length (ptC (M++[C])) }) [true,true,true,true,true,true,true,true,true,true,true,true,true,true,true,true,true,true,false,false,false,false] (fun _=>[(5,Ag b5)])
    (fun O=>[AL L,AL (As W c),caE c s3,ckB b5 c,lsB b6 (slv p l.length cap),nmB b11 (.slice (some ⟨gV,0,none⟩) l.length cV),⟨gV,23,vsC (l.map f.at)++jV,true,none⟩,lsB b12 (O.1.val (M++[C]).length),lsB bp (slv p l.length cap),O.1.bx 35 (ptC (M++[C])),Bz d,Ba l' rec .busy none])
    4 [AL L,AL (As W c),caF c s2,ckB b5 c,lsB b6 (slv p l.length cap),nmB b11 (.slice (some ⟨gV,0,none⟩) l.length cV),⟨gV,23,vsC (l.map f.at)++jV,true,none⟩,lsB b12 (O1.val M.length),lsB bp (slv p l.length cap),O1.bx 35 (ptC M),Bz d,Ba l' rec .busy none,⟨b14,66,(sdV (Ae l k') (Ae l (k'+1))).cells.toList,true,none⟩] Tryz.mixed (by kernel_rfl) ?_ ?_
   ·refine qB 7 I I I (qB 3 I I I ?_)
    refine AR Tryz.underlying66 Tryz.sizeOf35 I I I I I ⟨by decide,by decide⟩ ?_
    refine qB 12 I I I ?_
    refine AR Tryz.underlying66 Tryz.sizeOf35 I I I I I ⟨by decide,by decide⟩ ?_
    refine qB 12 I I I (qB 5 I I I (qP I ?_))
    refine qJ ?_
    refine qL 0 I I (fun W1 hp=>hr1 hp 6 I) I (qB 5 I I I (qP I (qP I (qV 70 ((k'+1:Nat):Int) I (Ax (by omega)) (qB 4 I I I (qP I ?_))))))
    refine Dv I I I I I hzz ?_
    refine DY 73 (.int .i64 (((k'+1)%l.length:Nat):Int)) I I ?_
    refine qJ ?_
    refine qL 0 I I (fun W1 hp=>hr2 hp 6 I) I (Bq (wX (wZ ?_)))
    refine AM 2 c I I I I I I (by kernel_rfl) I (fun W1 hp1=>c1 W1 (h.at_ (bs:=[]) (hp1.pick (l:=[AL (As W c),caE c s2]) [1,2] (by decide) I))) ?_
    refine Aa (Ab (wX (wZ ?_)))
    refine A8 Tryz.hZ tH I I I I I I I I I I I fun bS=> ?_
    refine Aa (Ab (wX (wZ ?_)))
    refine Bk (V:=O1) (len:=M.length) (xs:=ptC M) 9 13 Tryz.vec22 (M++[C]).length (ptC (M++[C])) rfl rfl rfl rfl rfl rfl rfl rfl rfl rfl rfl hO1 rfl rfl hlm (by rw[Cx];rfl) (by simp only[maxLen];omega) (by omega) rfl ?_;intro gO cO jO hO2
    refine Aa (Ab (wY (wZ (wS 7 I I I (Aa (Ab ?_))))))
    refine AD I (by kernel_rfl) ?_
    exact Al (⟨⟨some gO,cO,jO⟩,hO2⟩: { O:Vec//O.OK 2 (M++[C]).length (ptC (M++[C])) }) ⟨I,tO⟩ [0,1,2,3,4,5,6,7,8,9,10,11] (by decide) I
   rintro⟨O2,hO2⟩
   exact zN (BW 11 (k'+1,O2) hrec I ⟨I,by show O2.OK 2 (clE f l (k'+1)).1.length (ptC (clE f l (k'+1)).1);rw[hsu];exact hO2⟩ [] (by rw[hsu];rfl))
  ·rw[if_neg (of_decide_eq_false hc2)] at hsu
   exact zI (zN (BW 11 (k'+1,O1) hrec I ⟨I,by show O1.OK 2 (clE f l (k'+1)).1.length (ptC (clE f l (k'+1)).1);rw[hsu];exact hO1⟩ [_] (by rw[hsu];rfl)))
 ·rintro⟨k',O⟩ d l' rec ⟨e1,hO⟩
  obtain rfl:k'=l.length:=e1
  have hO:O.OK 2 (clE f l l.length).1.length (ptC (clE f l l.length).1):=hO
  have hol:=Ki f l l.length
  have hst:=UE (f:=f) (l:=l) (k:=l.length)
  have hy:=Oz (f:=f) (l:=l) (k:=l.length)
  have hokD:=MA (f:=f) hq hn0 l.length
  obtain⟨D,s2,hD⟩: ∃D s2,clE f l l.length=(D,s2):=⟨_,_,rfl⟩
  rw[hD] at hO hol hst hy hokD
  rw[hD]
  have hO:O.OK 2 D.length (ptC D):=hO
  have hol:D.length≤2*l.length:=hol
  have hst:s2=false↔PN f l l.length:=hst
  have hokD: ∀y∈D,okP y:=hokD
  refine zN (zE (zA (zA (zB ?_))))
  cases s2 with
  |true=>
   refine wB 2 I I I ?_
   refine AB I I I I ?_
   refine wP I (wB 1 I I I (wP I (wP I ?_)))
   iterate 3 refine Ao I I ?_
   refine wP I (Aa (zE (zR I (zA (zB (wP I (Aa (zE (zO (zP ?_))))))))))
   refine BU 9 I ?_
   exact Av tH I (.tmp I) (Vec.empty,[],true) I (ClR.nilT fun e=>absurd (hst.2 e.2.c) (by decide)) fun W1 hp=>(hp.pick (l:=[AL (As W c),caE c true]) [0,1] (by decide) I).newGone.own
  |false=>
  have hcs:=hst.1 rfl
  obtain rfl:D=AT f l:=congrArg Prod.fst (hy hcs)
  refine wB 2 I I I ?_
  refine AB I I I I ?_
  refine wP I (wB 1 I I I (wP I (wP I (wB 4 I I I ?_))))
  refine wC I I (fun W1 hp=>(by
   have h:=Gg 98 (by kernel_rfl) (fun q=>decide (q<0)) IF (l.map f.at) (by rw[hvl];omega) (some ⟨gV,0,none⟩) cV W1 (.inr ⟨gV,0,rfl,by
    have:=Cc (Aj.of_bx hp 5 rfl rfl:Aj W1 gV 0 (vsC (l.map f.at)++jV))
    rw[List.map_map];exact this⟩)
   rwa [hvl,Ra] at h)) ?_
  cases hneg:FK f l with
  |false=>
   refine wP I (wP I (Aa (zE (zR I (zA (zB (wP I (Aa (zE (zO (zP ?_)))))))))))
   refine BU 9 I ?_
   have e0:Bs f l=[]:=by unfold Bs;rw[hneg];rfl
   exact Av tH rfl (.tmp rfl) (Vec.empty,[],false) rfl ⟨Vec.OK.empty 2,Nat.zero_le _,fun _ h=>absurd h List.not_mem_nil,⟨fun _=>⟨rfl,hvok,hcs,fun e=>by rw[hneg] at e;cases e⟩,fun _=>rfl⟩,fun _=>e0.symm⟩ fun W1 hp=>(hp.pick (l:=[AL (As W c),caE c false]) [0,1] (by decide) rfl).newGone.own
  |true=>
   have e0:Bs f l=Bp (AT f l):=by unfold Bs;rw[hneg];rfl
   obtain⟨q,hqm,hqn⟩:=GB.1 hneg
   have hpos:0<(AT f l).length:=by
    obtain⟨i,hi,e⟩:=Hv hqm
    exact KF hi (by rw[e];exact Rat.le_of_lt hqn)
   obtain⟨pO,cO,jO⟩:=O
   obtain⟨gO,rfl⟩: ∃g,pO=some g:=Option.ne_none_iff_exists'.1 (fun e=>by have hz:(AT f l).length=0:=hO.nil e;omega)
   have hcO:=(hO.cap (by simp)).1
   refine wP I (wP I (Aa (zE (zS I (zI (zE (zA (zB (wB 2 I I I (wB 6 I I I ?_))))))))))
   refine Gd (s:=false) (capt:=[]) 1 c I I I I I I (by kernel_rfl) I (fun W1 hp=>Mb c false (AT f l) hokD hpos (by omega) gO cO hcO W1 (Cf.of_row (Aj.of_bx hp 8 I I:Aj W1 gO 0 (ptC (AT f l)++jO))) (h.at_ (bs:=[]) (hp.pick (l:=[AL (As W c),caE c false]) [0,1] (by decide) I))) ?_
   rintro⟨V2,D2,s3⟩ ⟨hV2,hl2,ho2,hs2,hd2⟩
   have hs2:s3=false↔false=false∧PE (AT f l):=hs2
   have hd2:s3=false→D2=Bp (AT f l):=hd2
   have hl2:D2.length=(AT f l).length:=hl2
   refine wP I (Aa (zE (zO ?_)))
   refine BU 9 I ?_
   exact Av tH I (.tmp I) (V2,D2,s3) I ⟨hV2,by show D2.length≤_;omega,ho2,⟨fun e=>⟨I,hvok,hcs,fun _=>(hs2.1 e).2⟩,fun e=>hs2.2 ⟨I,e.2.b hneg⟩⟩,fun e=>by rw[e0];exact hd2 e⟩ fun W1 hp=>(hp.pick (l:=[AL (As W c),caE c s3,V2.bx 35 (ptC D2)]) [0,1,11] (by decide) I).own
-- BOXES 6
-- CODE2
theorem US (x y:Rat):cmV x y= .tuple #[.int .i64 (kOr false x y).1, .int .i64 (erI (kOr false x y).2)]:=by
 unfold cmV
 by_cases h:Bg x y
 ·rw[if_pos h,JA h];rfl
 ·rw[if_neg h,Pj h];rfl
theorem Lb (p q:Ak) (hp:okP p) (hq:okP q) (W:World) (ht:AI W):
  Ai Tryz.prog 80 #[cvV p,cvV q] W (fun _:Unit=> .tuple #[.int .i64 (kLs false p q).1, .int .i64 (erI (kLs false p q).2)]) (fun _=>True) (fun _=>[]):=by
 obtain⟨⟨n,e⟩,h1⟩: ∃x,x=kOr false p.1 q.1:=⟨_,rfl⟩
 have v1:cmV p.1 q.1= .tuple #[.int .i64 n, .int .i64 (erI e)]:=by rw[US, ←h1]
 have eL:kLs false p q=if n=0 then kOr e p.2 q.2 else(n,e):=by unfold kLs;rw[←h1]
 rw[eL]
 clear eL h1
 refine Ac (args:=[cvV p,cvV q]) Tryz.func80 I I I ?_
 refine zA (zB ?_)
 (refine At rfl rfl rfl rfl ?_;intro)
 (refine At rfl rfl rfl rfl ?_;intro)
 refine wP I (wP I (Aa (zE (zA (zB (wP I (wB 0 I I I (wP I (wB 1 I I I (wC I I (fun W1 h=>(G5 p.1 q.1 hp.1 hq.1 W1 (ht.hp h)).cast v1) ?_))))))))))
 iterate 5 refine wP I ?_
 refine Aa (zE (zA (zA (zB (wP I (wP I ?_))))))
 by_cases h0:n=0
 ·rw[if_pos h0]
  refine wU 17 false I (bne_eq_false_iff_eq.2 h0) ?_
  cases e with
  |true=>
   refine wP I (wP I (wP I (wP I (Aa (zE (zR I (zA (zB (wP I (wP I (wP I (wP I (Aa ?_)))))))))))))
   exact zE (zO (zP (wR2 I I (by rw[Kx,h0]))))
  |false=>
   refine wP I (wP I (wP I (wP I (Aa (zE (zS I (zI (zE (zA (zB (wP I (wB 0 I I I (wP I ?_)))))))))))))
   exact wB 1 I I I (wC I I (fun W1 h=>(G5 p.2 q.2 hp.2 hq.2 W1 (ht.hp h)).cast (US p.2 q.2)) (wP I (wP I (wP I (wP I (Aa (zE (zO (wR2 I I I)))))))))
 ·rw[if_neg h0]
  refine wU 17 true I (bne_iff_ne.2 h0) (wP I ?_)
  iterate 2 refine Ao I I ?_
  exact wP I (Aa (zE (zR I (zA (zB (wP I (wP I (wP I (wP I (Aa (zE (zO (zP (wR2 I I I))))))))))))))
theorem Ut {q:Rat} (h:okQ q):Bg q 0:=by
 refine⟨?_, ?_⟩
 ·show okN (q.num*(1:Nat))
  rw[show q.num*((1:Nat):Int)=q.num by omega]
  exact h.1
 ·show okN (0*(q.den:Nat))
  rw[Int.zero_mul]
  exact NO.1
theorem ET (q:Rat) (hq:okQ q) (W:World) (ht:AI W):
  Ai Tryz.prog 130 #[nmV (some q)] W (fun _:Unit=> .int .i64 (CV q 0)) (fun _=>True) (fun _=>[]):=by
 refine Ac (args:=[nmV (some q)]) Tryz.func130 I I I ?_
 refine zA (zB ?_)
 (refine At rfl rfl rfl rfl ?_;intro)
 refine wP I (Aa (zE (zA (zB (wP I (wB 0 I I I ?_))))))
 refine wC I I (fun W1 h=>(by
  have h1:=(G5 q 0 hq NO W1 (ht.hp h)).cast (if_pos (Ut hq):cmV q 0= .tuple #[.int .i64 (CV q 0), .int .i64 0])
  rw[DO] at h1
  exact h1)) ?_
 iterate 5 refine wP I ?_
 exact Aa (zE (zA (zB (wP I (wP I (Aa (zE (zO (wR1 I I I)))))))))
theorem SL (u v:Rat):decide (w64 (CV u 0*CV v 0)<0)=decide (u*v<0):=by
 rw[decide_eq_decide,D4]
 rcases H2 u 0 with⟨a,ea⟩|⟨a,ea⟩|⟨a,ea⟩<;>rcases H2 v 0 with⟨b,eb⟩|⟨b,eb⟩|⟨b,eb⟩<;>rw[ea,eb]
 ·exact⟨fun h=>absurd h (by decide),fun h=>by rcases h with h|h<;>grind⟩
 ·exact⟨fun h=>absurd h (by decide),fun h=>by rcases h with h|h<;>grind⟩
 ·exact⟨fun _=> .inl ⟨a,b⟩,fun _=>by decide⟩
 ·exact⟨fun h=>absurd h (by decide),fun h=>by rcases h with h|h<;>grind⟩
 ·exact⟨fun h=>absurd h (by decide),fun h=>by rcases h with h|h<;>grind⟩
 ·exact⟨fun h=>absurd h (by decide),fun h=>by rcases h with h|h<;>grind⟩
 ·exact⟨fun _=> .inr ⟨a,b⟩,fun _=>by decide⟩
 ·exact⟨fun h=>absurd h (by decide),fun h=>by rcases h with h|h<;>grind⟩
 ·exact⟨fun h=>absurd h (by decide),fun h=>by rcases h with h|h<;>grind⟩
theorem BL {ok:Prop} [Decidable ok] {r:Rat} (h:ok):opO ok r=some r:=by unfold opO;exact if_pos h
theorem D0 {ok:Prop} [Decidable ok] {r:Rat} (h: ¬ok):opO ok r=none:=by unfold opO;exact if_neg h
def vlO (f:AW) (q:Ak):Option Rat:=AF (FQ (Bd (some f.a) (some q.1)) (Bd (some f.b) (some q.2))) (some f.c)
theorem KN (b:Option Rat):FQ none b=none:=by cases b<;>rfl
theorem Ss (a:Option Rat):FQ a none=none:=by cases a<;>rfl
theorem Gf (b:Option Rat):Bd none b=none:=by cases b<;>rfl
theorem UF {f:AW} {q:Ak} (h:Ii f q):vlO f q=some (f.at q):=by
 unfold vlO
 rw[show Bd (some f.a) (some q.1)=some (f.a*q.1) from BL h.a,show Bd (some f.b) (some q.2)=some (f.b*q.2) from BL h.b,show FQ (some (f.a*q.1)) (some (f.b*q.2))=some (f.a*q.1+f.b*q.2) from BL h.c]
 exact BL h.d
theorem VH {f:AW} {q:Ak} (h: ¬Ii f q):vlO f q=none:=by
 unfold vlO
 by_cases a:BY f.a q.1
 ·rw[show Bd (some f.a) (some q.1)=some (f.a*q.1) from BL a]
  by_cases b:BY f.b q.2
  ·rw[show Bd (some f.b) (some q.2)=some (f.b*q.2) from BL b]
   by_cases c:Cj (f.a*q.1) (f.b*q.2)
   ·rw[show FQ (some (f.a*q.1)) (some (f.b*q.2))=some (f.a*q.1+f.b*q.2) from BL c]
    exact D0 fun d=>h ⟨a,b,c,d⟩
   ·rw[show FQ (some (f.a*q.1)) (some (f.b*q.2))=none from D0 c];rfl
  ·rw[show Bd (some f.b) (some q.2)=none from D0 b];rfl
 ·rw[show Bd (some f.a) (some q.1)=none from D0 a,KN];rfl
def nsC (l:List Rat):List Value:=l.flatMap fun q=>[str (Ad q), .int .i64 0]
theorem U9 (l:List Rat):(nsC l).length=l.length*2:=by
 unfold nsC
 induction l with
 |nil=>rfl
 |cons x l ih=>rw[List.flatMap_cons,List.length_append,ih];show 2+l.length*2=(l.length+1)*2;omega
theorem TU (l m:List Rat):nsC (l++m)=nsC l++nsC m:=List.flatMap_append
def VW (f:AW) (l:List Ak) (L:List Rat) (e:Bool):Prop:=(e=false∧L=l.map f.at∧ ∀j,j<l.length→Ii f (Ae l j))∨(e=true∧L=[]∧ ¬ ∀j,j<l.length→Ii f (Ae l j))
theorem KQ (f:AW) (hf:okQ f.a∧okQ f.b∧okQ f.c) (l:List Ak) (hq: ∀x∈l,okP x) (hn0:0<l.length) (hn:l.length≤4096) (L:List Rat) (e:Bool) (hr:VW f l L e) (p:Option Addr) (cap:Nat) (W:World) (hA:Cf W p l) (ht:AI W):
  Ai Tryz.prog 129 #[slv p l.length cap,str (Ad f.a),str (Ad f.b),str (Ad f.c)] W (fun V:Vec=> .tuple #[V.val L.length, .int .i64 (erI e)]) (fun V=>V.OK 2 L.length (nsC L)) (fun V=>[V.bx 84 (nsC L)]):=by
 obtain⟨b,off,rfl,hrow⟩:=hA.at_ hn0
 refine Ac (args:=[slv (some ⟨b,off,none⟩) l.length cap,str (Ad f.a),str (Ad f.b),str (Ad f.c)]) Tryz.func129 I I I ?_
 refine zA (zB (wP I (wP I (Aa (zE (zA (zB ?_)))))))
 refine BF tH I I I I I ?_
 intro b0
 refine wP I (Aa (zE (zA (zA (zB (wP I (Aa (zE (zH ?_)))))))))
 refine A9 (X:=Nat×Vec) (fun x=>[(0,slv (some ⟨b,off,none⟩) l.length cap),(1,str (Ad f.a)),(2,str (Ad f.b)),(3,str (Ad f.c)),(10,x.2.val x.1),(11, .int .i64 (x.1:Nat))]) (fun x=>[x.2.bx 84 (nsC ((l.take x.1).map f.at))])
  (fun x=>x.1≤l.length∧x.2.OK 2 x.1 (nsC ((l.take x.1).map f.at))∧ ∀j,j<x.1→Ii f (Ae l j)) (fun x=>l.length-x.1) (0,⟨some b0,0,[]⟩) ⟨Nat.zero_le _,⟨rfl,(fun h=>by cases h),fun _=>⟨Nat.le_refl _,Nat.zero_le _,rfl⟩⟩,fun _ h=>absurd h (Nat.not_lt_zero _)⟩ ⟨rfl,rfl,rfl,rfl,rfl,rfl,trivial⟩ [] rfl ?_
 rintro⟨i,V⟩ ⟨hi,hV,hok⟩
 have hi:i≤l.length:=hi
 have hV:V.OK 2 i (nsC ((l.take i).map f.at)):=hV
 have hok: ∀j,j<i→Ii f (Ae l j):=hok
 refine zA (zA (zB (wP I (wP I (wP I (wP I ?_))))))
 by_cases hlt:i<l.length
 rotate_left
 ·obtain rfl:i=l.length:=by omega
  obtain⟨rfl,rfl⟩:e=false∧L=l.map f.at:=by
   rcases hr with h|h
   ·exact⟨h.1,h.2.1⟩
   ·exact absurd hok h.2.2
  have hml:(l.map f.at).length=l.length:=List.length_map _
  rw[List.take_length] at hV
  refine wU 17 false I (dF (by omega)) (Aa (zE (zS I (zJ (zK (zK (zL (zE (zA (zB (wP I (wP I (wP I ?_)))))))))))))
  refine Aa (zE (zO ?_))
  exact A7 tH I (.tmp I) (.tmp I) V (by rw[hml];rfl) (by rw[hml];exact hV) fun W1 hp=>by
   rw[List.take_length] at hp
   exact Ap.of_hp hp
 refine wU 17 true I (dT (by omega)) (Aa (zE (zR I (zI (zE ?_)))))
 obtain⟨P,hP⟩: ∃P,P=Ae l i:=⟨_,rfl⟩
 have okPP:okP P:=by rw[hP];exact hq _ (B2 hn0 i)
 have hr1:Aj W b (off+i*2) [str (Ad P.1),str (Ad P.2)]:=by
  have:=hrow i hlt
  rw[hP,BM hlt];exact this
 obtain⟨sa,ea,va,ca⟩:=EG (vlO f P)
 refine Ar (Bj (Ar ?_))
 refine AE (X:=Nat) [true,true,true,true,true,true,true,true,true,true,true,true,true,true,true,true,true,true,true,true,true,true,false,false] (fun bv=>[(0,slv (some ⟨b,off,none⟩) l.length cap),(1,str (Ad f.a)),(2,str (Ad f.b)),(3,str (Ad f.c)),(10,V.val i),(11, .int .i64 (i:Nat)),(12,Ag bv)]) (fun bv=>[V.bx 84 (nsC ((l.take i).map f.at)),⟨bv,84,[str sa, .int .i64 ea],true,none⟩])
  2 [V.bx 84 (nsC ((l.take i).map f.at))] Tryz.mixed (by kernel_rfl) ?_ ?_
 ·refine qP I (qC I I (fun W hp=>AY f.a W) (qP I (qP I ?_)))
  refine qJ ?_
  refine qP I (qL 0 I I (fun W1 hp=>hr1.hp hp) I (qC I I (fun W hp=>AY P.1 W) (qC I I (fun W h=>Cy (some f.a) (some P.1) hf.1 okPP.1 W (ht.hp h)) (qP I (qC I I (fun W hp=>AY f.b W) (qP I (qP I ?_)))))))
  refine qJ ?_
  refine qP I (qL 1 I I (fun W1 hp=>hr1.hp hp) I (qC I I (fun W hp=>AY P.2 W) (qC I I (fun W h=>Cy (some f.b) (some P.2) hf.2.1 okPP.2 W (ht.hp h)) (qC I I (fun W h=>F6 (Bd (some f.a) (some P.1)) (Bd (some f.b) (some P.2)) (DJ _ _) (DJ _ _) W (ht.hp h)) (qP I (qC I I (fun W hp=>AY f.c W) (qC I I (fun W h=>(BQ (FQ (Bd (some f.a) (some P.1)) (Bd (some f.b) (some P.2))) (some f.c) (Tn _ _) hf.2.2 W (ht.hp h)).cast va) (Bq (wX (wZ ?_))))))))))
  refine Af Tryz.hZ rfl rfl rfl rfl ?_;intro bv
  refine Aa (Ab (wX (wZ (wS 1 I I I (Aa (Ab ?_))))))
  refine Au I (by((repeat (first|refine A3.same ?_|refine A3.off I ?_));exact tO)) ?_
  exact Al bv ⟨I,I,I,I,I,I,I,tO⟩ [0,1] (by decide) I
 intro bv
 refine zE (zA (zA (zB ?_)))
 by_cases hv:Ii f P
 ·obtain⟨rfl,rfl⟩:sa=Ad (f.at P)∧ea=0:=by
   rcases ca with⟨h,_,_⟩|⟨x,h,h1,h2⟩
   ·rw[UF hv] at h;cases h
   ·rw[UF hv] at h;cases h;exact⟨h1,h2⟩
  have hsu:(l.take (i+1)).map f.at=(l.take i).map f.at++[f.at P]:=by
   rw[hP,BM hlt,List.take_add_one,List.getElem?_eq_getElem hlt,List.map_append];rfl
  refine wP I (wB 1 I I I (wP I (Aa (zE (zS I (zI (zE (zB (wP I (wB 1 I I I ?_))))))))))
  refine A8 Tryz.hZ tH I I I I I I I I I I I fun bS=> ?_
  refine Bk (V:=V) (len:=i) (xs:=nsC ((l.take i).map f.at)) 0 2 Tryz.vec141 (i+1) (nsC ((l.take (i+1)).map f.at)) I I I I I I I I I I I hV I I I (by rw[hsu,TU];rfl) (by simp only[maxLen];omega) (by omega) I ?_
  intro gV cV jV hV1
  refine wP I (Aa (zN (zE (zB (wP I (wP I (wV 19 ((i+1:Nat):Int) I (Ax (by omega)) (wP I (Aa ?_)))))))))
  exact A4 (i+1,(⟨some gV,cV,jV⟩:Vec)) ⟨hlt,hV1,fun j hj=>by
   by_cases c:j=i
   ·subst c;rw[←hP];exact hv
   ·exact hok j (by have hj:j<i+1:=hj;omega)⟩ (by show l.length-(i+1)<l.length-i;omega) ⟨I,I,I,I,I,I,tO⟩ [_,_] I
 ·obtain⟨rfl,rfl⟩:sa=[]∧ea=4:=by
   rcases ca with⟨_,h1,h2⟩|⟨x,h,_,_⟩
   ·exact⟨h1,h2⟩
   ·rw[VH hv] at h;cases h
  obtain⟨rfl,rfl⟩:e=true∧L=[]:=by
   rcases hr with h|h
   ·exact absurd (by rw[hP];exact h.2.2 i hlt) hv
   ·exact⟨h.1,h.2.1⟩
  refine wP I (wB 1 I I I (wP I (Aa (zE (zR I (zA (zU (qP I (qB 1 I I I (qP I (qP I (AS (Aa ?_)))))))))))))
  exact zE (zO (zP (zQ (zP (zP (zQ (zP (A7 tH rfl (.tmp rfl) (.tmp rfl) Vec.empty rfl (Vec.OK.empty 2) fun W1 hp=>Own.one (fun p hp=>by cases hp) List.nodup_nil))))))))
-- BOXES 9
-- CODE2
abbrev nmR (b:Nat) (s:List UInt8) (e:Int):Bx:=⟨b,84,[str s, .int .i64 e],true,none⟩
def uQ (u v:Rat):Option Rat:=Ts (some u) (AF (some u) (some v))
def cxO (t:Option Rat) (x y:Rat):Option Rat:=FQ (some x) (Bd t (AF (some y) (some x)))
theorem U8 {u v:Rat} (s:BE u v) (d:Bg u (u-v)):uQ u v=some (u/(u-v)):=by
 unfold uQ
 rw[show AF (some u) (some v)=some (u-v) from BL s]
 exact BL d
theorem Wg {u v:Rat} (h: ¬(BE u v∧Bg u (u-v))):uQ u v=none:=by
 unfold uQ
 by_cases s:BE u v
 ·rw[show AF (some u) (some v)=some (u-v) from BL s]
  exact D0 fun d=>h ⟨s,d⟩
 ·rw[show AF (some u) (some v)=none from D0 s];rfl
theorem Vq (x y:Rat):cxO none x y=none:=by unfold cxO;rw[Gf];rfl
theorem QW {t x y:Rat} (h:OF t x y):cxO (some t) x y=some (x+t*(y-x)):=by
 unfold cxO
 rw[show AF (some y) (some x)=some (y-x) from BL h.a,show Bd (some t) (some (y-x))=some (t*(y-x)) from BL h.b]
 exact BL h.c
theorem UI {t x y:Rat} (h: ¬OF t x y):cxO (some t) x y=none:=by
 unfold cxO
 by_cases a:BE y x
 ·rw[show AF (some y) (some x)=some (y-x) from BL a]
  by_cases b:BY t (y-x)
  ·rw[show Bd (some t) (some (y-x))=some (t*(y-x)) from BL b]
   exact D0 fun c=>h ⟨a,b,c⟩
  ·rw[show Bd (some t) (some (y-x))=none from D0 b];rfl
 ·rw[show AF (some y) (some x)=none from D0 a];rfl
theorem Tb {u v:Rat} (h0:u-v≠0):okO (uQ u v):=by
 by_cases h:BE u v∧Bg u (u-v)
 ·rw[U8 h.1 h.2]
  have:=SP false u (u-v) (fun _=>h0)
  have e:kDi false u (u-v)=(u/(u-v),false):=B5 h.2
  rw[e] at this
  exact this
 ·rw[Wg h];trivial
def VZ (p q:Ak) (u v:Rat) (S:PtS) (e:Bool):Prop:=(e=false∧MC p q u v∧S=ptS (HZ (u/(u-v)) p q))∨(e=true∧ ¬MC p q u v∧S=([],[]))
theorem OD (p q:Ak) (u v:Rat) (hp:okP p) (hq:okP q) (hu:okQ u) (hv:okQ v) (h0:u-v≠0) (S:PtS) (e:Bool) (hr:VZ p q u v S e) (W:World) (ht:AI W):
  Ai Tryz.prog 131 #[cvV p,cvV q,nmV (some u),nmV (some v)] W (fun _:Unit=> .tuple #[.agg #[str S.1,str S.2], .int .i64 (erI e)]) (fun _=>True) (fun _=>[]):=by
 obtain⟨st,et,vt,ct⟩:=EG (uQ u v)
 obtain⟨sx,ex,vx,cx⟩:=EG (cxO (uQ u v) p.1 q.1)
 obtain⟨sy,ey,vy,cy⟩:=EG (cxO (uQ u v) p.2 q.2)
 have hn: ∀z,AF (some u) (some v)=some z→z.num≠0:=fun z hz=>by
  by_cases s:BE u v
  ·rw[show AF (some u) (some v)=some (u-v) from BL s] at hz
   cases hz
   exact Nq h0
  ·rw[show AF (some u) (some v)=none from D0 s] at hz;cases hz
 have hot:=Tb h0
 refine Ac (args:=[cvV p,cvV q,nmV (some u),nmV (some v)]) Tryz.func131 I I I ?_
 repeat (first|refine zA ?_|refine zB ?_|refine zC ?_|refine zD ?_|refine zE ?_|refine zF ?_|refine zG ?_|refine zH ?_|refine zI ?_|refine zJ ?_|refine zK ?_|refine zL ?_|refine zM rfl ?_|refine zN ?_|refine zO ?_|refine zP ?_|refine zQ ?_|refine zR rfl ?_|refine zS rfl ?_|refine zU ?_)
 (refine At rfl rfl rfl rfl ?_;intro)
 (refine At rfl rfl rfl rfl ?_;intro)
 (refine At rfl rfl rfl rfl ?_;intro)
 (refine At rfl rfl rfl rfl ?_;intro)
 (refine Af Tryz.hZ rfl rfl rfl rfl ?_;intro)
 refine wP I (Aa ?_)
 rename_i b4 b5 b6 b7 b8
 repeat (first|refine zC ?_|refine zD ?_|refine zE ?_|refine zF ?_|refine zG ?_|refine zH ?_|refine zI ?_|refine zJ ?_|refine zK ?_|refine zL ?_|refine zM rfl ?_|refine zN ?_|refine zO ?_|refine zP ?_|refine zQ ?_|refine zR rfl ?_|refine zS rfl ?_)
 repeat (first|refine Ar ?_|refine Bj ?_)
 refine AE (X:=Nat) [true,true,true,true,true,false,false] (fun b=>[(4,Ag b4),(5,Ag b5),(8,Ag b8),(9, .int .i64 0),(10,Ag b)]) (fun b=>[ptB b4 (Ad p.1) (Ad p.2),ptB b5 (Ad q.1) (Ad q.2),ptB b8 [] [],nmR b st et])
  2 [ptB b4 (Ad p.1) (Ad p.2),ptB b5 (Ad q.1) (Ad q.2),nmR b6 (Ad u) 0,nmR b7 (Ad v) 0,ptB b8 [] []] Tryz.mixed (by kernel_rfl) ?_ ?_
 ·(first|refine qB 0 rfl rfl rfl ?_|refine qB 1 rfl rfl rfl ?_|refine qB 2 rfl rfl rfl ?_|refine qB 3 rfl rfl rfl ?_|refine qB 4 rfl rfl rfl ?_|refine qB 5 rfl rfl rfl ?_|refine qB 6 rfl rfl rfl ?_|refine qB 7 rfl rfl rfl ?_|refine qB 8 rfl rfl rfl ?_)
  (first|refine qB 0 rfl rfl rfl ?_|refine qB 1 rfl rfl rfl ?_|refine qB 2 rfl rfl rfl ?_|refine qB 3 rfl rfl rfl ?_|refine qB 4 rfl rfl rfl ?_|refine qB 5 rfl rfl rfl ?_|refine qB 6 rfl rfl rfl ?_|refine qB 7 rfl rfl rfl ?_|refine qB 8 rfl rfl rfl ?_)
  (first|refine qB 0 rfl rfl rfl ?_|refine qB 1 rfl rfl rfl ?_|refine qB 2 rfl rfl rfl ?_|refine qB 3 rfl rfl rfl ?_|refine qB 4 rfl rfl rfl ?_|refine qB 5 rfl rfl rfl ?_|refine qB 6 rfl rfl rfl ?_|refine qB 7 rfl rfl rfl ?_|refine qB 8 rfl rfl rfl ?_)
  refine qC I I (fun W h=>BQ (some u) (some v) hu hv W (ht.hp h)) (qC I I (fun W h=>(OX (some u) (AF (some u) (some v)) hu (Di _ _) hn W (ht.hp h)).cast vt) (Bq ?_))
  first|refine wX ?_|refine wY ?_
  refine wZ ?_
  refine Af Tryz.hZ rfl rfl rfl rfl ?_;intro b
  refine Aa (Ab ?_)
  first|refine wX ?_|refine wY ?_
  refine wZ (wS 5 I I I (Aa (Ab ?_)))
  first|refine Au rfl (by((repeat (first|refine A3.same ?_|refine A3.off rfl ?_));exact trivial)) ?_|refine AD rfl (by kernel_rfl) ?_
  exact Al b ⟨I,I,I,I,I,tO⟩ [0,1,4,5] (by decide) I
 intro b10
 repeat (first|refine zC ?_|refine zD ?_|refine zE ?_|refine zF ?_|refine zG ?_|refine zH ?_|refine zI ?_|refine zJ ?_|refine zK ?_|refine zL ?_|refine zM rfl ?_|refine zN ?_|refine zO ?_|refine zP ?_|refine zQ ?_|refine zR rfl ?_|refine zS rfl ?_)
 repeat (first|refine Ar ?_|refine Bj ?_)
 refine AE (X:=Nat) [true,true,true,true,true,true,true,true,true,true,true,true,true,false,false] (fun b=>[(4,Ag b4),(5,Ag b5),(8,Ag b8),(9, .int .i64 0),(10,Ag b10),(11,Ag b)]) (fun b=>[ptB b4 (Ad p.1) (Ad p.2),ptB b5 (Ad q.1) (Ad q.2),ptB b8 [] [],nmR b10 st et,nmR b sx ex])
  2 [ptB b4 (Ad p.1) (Ad p.2),ptB b5 (Ad q.1) (Ad q.2),ptB b8 [] [],nmR b10 st et] Tryz.mixed (by kernel_rfl) ?_ ?_
 ·refine qP I ?_
  (first|refine qB 0 rfl rfl rfl ?_|refine qB 1 rfl rfl rfl ?_|refine qB 2 rfl rfl rfl ?_|refine qB 3 rfl rfl rfl ?_|refine qB 4 rfl rfl rfl ?_|refine qB 5 rfl rfl rfl ?_|refine qB 6 rfl rfl rfl ?_|refine qB 7 rfl rfl rfl ?_|refine qB 8 rfl rfl rfl ?_)
  refine qC I I (fun W hp=>AY p.1 W) ?_
  (first|refine qB 0 rfl rfl rfl ?_|refine qB 1 rfl rfl rfl ?_|refine qB 2 rfl rfl rfl ?_|refine qB 3 rfl rfl rfl ?_|refine qB 4 rfl rfl rfl ?_|refine qB 5 rfl rfl rfl ?_|refine qB 6 rfl rfl rfl ?_|refine qB 7 rfl rfl rfl ?_|refine qB 8 rfl rfl rfl ?_)
  refine qP I ?_
  (first|refine qB 0 rfl rfl rfl ?_|refine qB 1 rfl rfl rfl ?_|refine qB 2 rfl rfl rfl ?_|refine qB 3 rfl rfl rfl ?_|refine qB 4 rfl rfl rfl ?_|refine qB 5 rfl rfl rfl ?_|refine qB 6 rfl rfl rfl ?_|refine qB 7 rfl rfl rfl ?_|refine qB 8 rfl rfl rfl ?_)
  refine qC I I (fun W hp=>AY q.1 W) (qP I ?_)
  (first|refine qB 0 rfl rfl rfl ?_|refine qB 1 rfl rfl rfl ?_|refine qB 2 rfl rfl rfl ?_|refine qB 3 rfl rfl rfl ?_|refine qB 4 rfl rfl rfl ?_|refine qB 5 rfl rfl rfl ?_|refine qB 6 rfl rfl rfl ?_|refine qB 7 rfl rfl rfl ?_|refine qB 8 rfl rfl rfl ?_)
  refine qC I I (fun W hp=>AY p.1 W) (qC I I (fun W h=>BQ (some q.1) (some p.1) hq.1 hp.1 W (ht.hp h)) (qC I I (fun W h=>by have h1:=Cy (uQ u v) (AF (some q.1) (some p.1)) hot (Di _ _) W (ht.hp h);rw[vt] at h1;exact h1) (qC I I (fun W h=>(F6 (some p.1) (Bd (uQ u v) (AF (some q.1) (some p.1))) hp.1 (DJ _ _) W (ht.hp h)).cast vx) (Bq ?_))))
  first|refine wX ?_|refine wY ?_
  refine wZ ?_
  refine Af Tryz.hZ rfl rfl rfl rfl ?_;intro b
  refine Aa (Ab ?_)
  first|refine wX ?_|refine wY ?_
  refine wZ (wS 4 I I I (Aa (Ab ?_)))
  first|refine Au rfl (by((repeat (first|refine A3.same ?_|refine A3.off rfl ?_));exact trivial)) ?_|refine AD rfl (by kernel_rfl) ?_
  exact Al b ⟨I,I,I,I,I,I,tO⟩ [0,1,2,3,4] (by decide) I
 intro b11
 repeat (first|refine zC ?_|refine zD ?_|refine zE ?_|refine zF ?_|refine zG ?_|refine zH ?_|refine zI ?_|refine zJ ?_|refine zK ?_|refine zL ?_|refine zM rfl ?_|refine zN ?_|refine zO ?_|refine zP ?_|refine zQ ?_|refine zR rfl ?_|refine zS rfl ?_)
 repeat (first|refine Ar ?_|refine Bj ?_)
 refine AE (X:=Nat) [true,true,true,true,true,true,true,true,true,true,true,true,true,false,false] (fun b=>[(8,Ag b8),(9, .int .i64 0),(11,Ag b11),(12,Ag b)]) (fun b=>[ptB b8 [] [],nmR b11 sx ex,nmR b sy ey])
  2 [ptB b4 (Ad p.1) (Ad p.2),ptB b5 (Ad q.1) (Ad q.2),ptB b8 [] [],nmR b10 st et,nmR b11 sx ex] Tryz.mixed (by kernel_rfl) ?_ ?_
 ·refine qP I ?_
  (first|refine qB 0 rfl rfl rfl ?_|refine qB 1 rfl rfl rfl ?_|refine qB 2 rfl rfl rfl ?_|refine qB 3 rfl rfl rfl ?_|refine qB 4 rfl rfl rfl ?_|refine qB 5 rfl rfl rfl ?_|refine qB 6 rfl rfl rfl ?_|refine qB 7 rfl rfl rfl ?_|refine qB 8 rfl rfl rfl ?_)
  refine qC I I (fun W hp=>AY p.2 W) ?_
  (first|refine qB 0 rfl rfl rfl ?_|refine qB 1 rfl rfl rfl ?_|refine qB 2 rfl rfl rfl ?_|refine qB 3 rfl rfl rfl ?_|refine qB 4 rfl rfl rfl ?_|refine qB 5 rfl rfl rfl ?_|refine qB 6 rfl rfl rfl ?_|refine qB 7 rfl rfl rfl ?_|refine qB 8 rfl rfl rfl ?_)
  refine qP I ?_
  (first|refine qB 0 rfl rfl rfl ?_|refine qB 1 rfl rfl rfl ?_|refine qB 2 rfl rfl rfl ?_|refine qB 3 rfl rfl rfl ?_|refine qB 4 rfl rfl rfl ?_|refine qB 5 rfl rfl rfl ?_|refine qB 6 rfl rfl rfl ?_|refine qB 7 rfl rfl rfl ?_|refine qB 8 rfl rfl rfl ?_)
  refine qC I I (fun W hp=>AY q.2 W) (qP I ?_)
  (first|refine qB 0 rfl rfl rfl ?_|refine qB 1 rfl rfl rfl ?_|refine qB 2 rfl rfl rfl ?_|refine qB 3 rfl rfl rfl ?_|refine qB 4 rfl rfl rfl ?_|refine qB 5 rfl rfl rfl ?_|refine qB 6 rfl rfl rfl ?_|refine qB 7 rfl rfl rfl ?_|refine qB 8 rfl rfl rfl ?_)
  refine qC I I (fun W hp=>AY p.2 W) (qC I I (fun W h=>BQ (some q.2) (some p.2) hq.2 hp.2 W (ht.hp h)) (qC I I (fun W h=>by have h1:=Cy (uQ u v) (AF (some q.2) (some p.2)) hot (Di _ _) W (ht.hp h);rw[vt] at h1;exact h1) (qC I I (fun W h=>(F6 (some p.2) (Bd (uQ u v) (AF (some q.2) (some p.2))) hp.2 (DJ _ _) W (ht.hp h)).cast vy) (Bq ?_))))
  first|refine wX ?_|refine wY ?_
  refine wZ ?_
  refine Af Tryz.hZ rfl rfl rfl rfl ?_;intro b
  refine Aa (Ab ?_)
  first|refine wX ?_|refine wY ?_
  refine wZ (wS 5 I I I (Aa (Ab ?_)))
  first|refine Au rfl (by((repeat (first|refine A3.same ?_|refine A3.off rfl ?_));exact trivial)) ?_|refine AD rfl (by kernel_rfl) ?_
  exact Al b ⟨I,I,I,I,tO⟩ [2,4,5] (by decide) I
 intro b12
 repeat (first|refine zA ?_|refine zB ?_|refine zC ?_|refine zD ?_|refine zE ?_|refine zF ?_|refine zG ?_|refine zH ?_|refine zI ?_|refine zJ ?_|refine zK ?_|refine zL ?_|refine zM rfl ?_|refine zN ?_|refine zO ?_|refine zP ?_|refine zQ ?_|refine zR rfl ?_|refine zS rfl ?_|refine zU ?_)
 have hno: ¬MC p q u v→e=true∧S=([],[]):=fun h=>by
  rcases hr with c|c
  ·exact absurd c.2.1 h
  ·exact⟨c.1,c.2.2⟩
 rcases cx with⟨kx,rfl,rfl⟩|⟨x,kx,rfl,rfl⟩
 ·obtain⟨rfl,rfl⟩:=hno fun h=>by
   rw[U8 h.s h.d,QW h.x] at kx;cases kx
  repeat (first|refine zA ?_|refine zB ?_|refine zC ?_|refine zD ?_|refine zE ?_|refine zF ?_|refine zG ?_|refine zH ?_|refine zI ?_|refine zJ ?_|refine zK ?_|refine zL ?_|refine zM rfl ?_|refine zN ?_|refine zO ?_|refine zP ?_|refine zQ ?_|refine zR rfl ?_|refine zS rfl ?_|refine zU ?_)
  refine wP I ?_
  (first|refine wB 0 rfl rfl rfl ?_|refine wB 1 rfl rfl rfl ?_|refine wB 2 rfl rfl rfl ?_|refine wB 3 rfl rfl rfl ?_|refine wB 4 rfl rfl rfl ?_|refine wB 5 rfl rfl rfl ?_|refine wB 6 rfl rfl rfl ?_|refine wB 7 rfl rfl rfl ?_|refine wB 8 rfl rfl rfl ?_)
  refine wP I (Aa ?_)
  repeat (first|refine zC ?_|refine zD ?_|refine zE ?_|refine zF ?_|refine zG ?_|refine zH ?_|refine zI ?_|refine zJ ?_|refine zK ?_|refine zL ?_|refine zM rfl ?_|refine zN ?_|refine zO ?_|refine zP ?_|refine zQ ?_|refine zR rfl ?_|refine zS rfl ?_)
  repeat (first|refine Ar ?_|refine Bj ?_)
  refine AE (X:=Unit) [true,true,true,false,false] (fun _=>[(8,Ag b8),(9, .int .i64 4)]) (fun _=>[ptB b8 [] []])
   2 [⟨b8,35,[str [],str []],false,none⟩,nmR b11 [] 4,nmR b12 sy ey] Tryz.mixed (by kernel_rfl) ?_ ?_
  ·refine EZ Tryz.hZ tH I I I I I I I I ?_
   refine qP I ?_
   (first|refine qB 0 rfl rfl rfl ?_|refine qB 1 rfl rfl rfl ?_|refine qB 2 rfl rfl rfl ?_|refine qB 3 rfl rfl rfl ?_|refine qB 4 rfl rfl rfl ?_|refine qB 5 rfl rfl rfl ?_|refine qB 6 rfl rfl rfl ?_|refine qB 7 rfl rfl rfl ?_|refine qB 8 rfl rfl rfl ?_)
   refine Bq ?_
   first|refine wX ?_|refine wY ?_
   refine wZ (wS 0 I I I (Aa (Ab ?_)))
   first|refine wX ?_|refine wY ?_
   refine wZ (wP I (Aa (Ab ?_)))
   first|refine Au rfl (by((repeat (first|refine A3.same ?_|refine A3.off rfl ?_));exact trivial)) ?_|refine AD rfl (by kernel_rfl) ?_
   exact Al () ⟨I,I,tO⟩ [0] (by decide) I
  intro _
  repeat (first|refine zA ?_|refine zB ?_|refine zC ?_|refine zD ?_|refine zE ?_|refine zF ?_|refine zG ?_|refine zH ?_|refine zI ?_|refine zJ ?_|refine zK ?_|refine zL ?_|refine zM rfl ?_|refine zN ?_|refine zO ?_|refine zP ?_|refine zQ ?_|refine zR rfl ?_|refine zS rfl ?_|refine zU ?_)
  exact A7 tH I (.cell 0 I I I I I) (.tmp I) () I tO fun W _=>Ap.nil _ _
 rcases cy with⟨ky,rfl,rfl⟩|⟨y,ky,rfl,rfl⟩
 ·obtain⟨rfl,rfl⟩:=hno fun h=>by
   rw[U8 h.s h.d,QW h.y] at ky;cases ky
  repeat (first|refine zA ?_|refine zB ?_|refine zC ?_|refine zD ?_|refine zE ?_|refine zF ?_|refine zG ?_|refine zH ?_|refine zI ?_|refine zJ ?_|refine zK ?_|refine zL ?_|refine zM rfl ?_|refine zN ?_|refine zO ?_|refine zP ?_|refine zQ ?_|refine zR rfl ?_|refine zS rfl ?_|refine zU ?_)
  refine wP I ?_
  (first|refine wB 0 rfl rfl rfl ?_|refine wB 1 rfl rfl rfl ?_|refine wB 2 rfl rfl rfl ?_|refine wB 3 rfl rfl rfl ?_|refine wB 4 rfl rfl rfl ?_|refine wB 5 rfl rfl rfl ?_|refine wB 6 rfl rfl rfl ?_|refine wB 7 rfl rfl rfl ?_|refine wB 8 rfl rfl rfl ?_)
  refine wP I (Aa ?_)
  repeat (first|refine zA ?_|refine zB ?_|refine zC ?_|refine zD ?_|refine zE ?_|refine zF ?_|refine zG ?_|refine zH ?_|refine zI ?_|refine zJ ?_|refine zK ?_|refine zL ?_|refine zM rfl ?_|refine zN ?_|refine zO ?_|refine zP ?_|refine zQ ?_|refine zR rfl ?_|refine zS rfl ?_|refine zU ?_)
  refine wP I ?_
  (first|refine wB 0 rfl rfl rfl ?_|refine wB 1 rfl rfl rfl ?_|refine wB 2 rfl rfl rfl ?_|refine wB 3 rfl rfl rfl ?_|refine wB 4 rfl rfl rfl ?_|refine wB 5 rfl rfl rfl ?_|refine wB 6 rfl rfl rfl ?_|refine wB 7 rfl rfl rfl ?_|refine wB 8 rfl rfl rfl ?_)
  refine wP I (Aa ?_)
  repeat (first|refine zC ?_|refine zD ?_|refine zE ?_|refine zF ?_|refine zG ?_|refine zH ?_|refine zI ?_|refine zJ ?_|refine zK ?_|refine zL ?_|refine zM rfl ?_|refine zN ?_|refine zO ?_|refine zP ?_|refine zQ ?_|refine zR rfl ?_|refine zS rfl ?_)
  repeat (first|refine Ar ?_|refine Bj ?_)
  refine AE (X:=Unit) [true,true,true,false,false] (fun _=>[(8,Ag b8),(9, .int .i64 4)]) (fun _=>[ptB b8 [] []])
   2 [⟨b8,35,[str [],str []],false,none⟩,nmR b11 (Ad x) 0,nmR b12 [] 4] Tryz.mixed (by kernel_rfl) ?_ ?_
  ·refine EZ Tryz.hZ tH I I I I I I I I ?_
   refine qP I ?_
   (first|refine qB 0 rfl rfl rfl ?_|refine qB 1 rfl rfl rfl ?_|refine qB 2 rfl rfl rfl ?_|refine qB 3 rfl rfl rfl ?_|refine qB 4 rfl rfl rfl ?_|refine qB 5 rfl rfl rfl ?_|refine qB 6 rfl rfl rfl ?_|refine qB 7 rfl rfl rfl ?_|refine qB 8 rfl rfl rfl ?_)
   refine Bq ?_
   first|refine wX ?_|refine wY ?_
   refine wZ (wS 0 I I I (Aa (Ab ?_)))
   first|refine wX ?_|refine wY ?_
   refine wZ (wP I (Aa (Ab ?_)))
   first|refine Au rfl (by((repeat (first|refine A3.same ?_|refine A3.off rfl ?_));exact trivial)) ?_|refine AD rfl (by kernel_rfl) ?_
   exact Al () ⟨I,I,tO⟩ [0] (by decide) I
  intro _
  repeat (first|refine zA ?_|refine zB ?_|refine zC ?_|refine zD ?_|refine zE ?_|refine zF ?_|refine zG ?_|refine zH ?_|refine zI ?_|refine zJ ?_|refine zK ?_|refine zL ?_|refine zM rfl ?_|refine zN ?_|refine zO ?_|refine zP ?_|refine zQ ?_|refine zR rfl ?_|refine zS rfl ?_|refine zU ?_)
  exact A7 tH I (.cell 0 I I I I I) (.tmp I) () I tO fun W _=>Ap.nil _ _
 have hsd:BE u v∧Bg u (u-v):=Decidable.byContradiction fun h=>by
  rw[Wg h,Vq] at kx;cases kx
 rw[U8 hsd.1 hsd.2] at kx ky
 have hcx:OF (u/(u-v)) p.1 q.1:=Classical.byContradiction fun h=>by rw[UI h] at kx;cases kx
 have hcy:OF (u/(u-v)) p.2 q.2:=Classical.byContradiction fun h=>by rw[UI h] at ky;cases ky
 rw[QW hcx] at kx
 rw[QW hcy] at ky
 cases kx
 cases ky
 obtain⟨rfl,rfl⟩:e=false∧S=ptS (HZ (u/(u-v)) p q):=by
  rcases hr with c|c
  ·exact⟨c.1,c.2.2⟩
  ·exact absurd ⟨hsd.1,hsd.2,hcx,hcy⟩ c.2.1
 repeat (first|refine zA ?_|refine zB ?_|refine zC ?_|refine zD ?_|refine zE ?_|refine zF ?_|refine zG ?_|refine zH ?_|refine zI ?_|refine zJ ?_|refine zK ?_|refine zL ?_|refine zM rfl ?_|refine zN ?_|refine zO ?_|refine zP ?_|refine zQ ?_|refine zR rfl ?_|refine zS rfl ?_|refine zU ?_)
 refine wP I ?_
 (first|refine wB 0 rfl rfl rfl ?_|refine wB 1 rfl rfl rfl ?_|refine wB 2 rfl rfl rfl ?_|refine wB 3 rfl rfl rfl ?_|refine wB 4 rfl rfl rfl ?_|refine wB 5 rfl rfl rfl ?_|refine wB 6 rfl rfl rfl ?_|refine wB 7 rfl rfl rfl ?_|refine wB 8 rfl rfl rfl ?_)
 refine wP I (Aa ?_)
 repeat (first|refine zA ?_|refine zB ?_|refine zC ?_|refine zD ?_|refine zE ?_|refine zF ?_|refine zG ?_|refine zH ?_|refine zI ?_|refine zJ ?_|refine zK ?_|refine zL ?_|refine zM rfl ?_|refine zN ?_|refine zO ?_|refine zP ?_|refine zQ ?_|refine zR rfl ?_|refine zS rfl ?_|refine zU ?_)
 refine wP I ?_
 (first|refine wB 0 rfl rfl rfl ?_|refine wB 1 rfl rfl rfl ?_|refine wB 2 rfl rfl rfl ?_|refine wB 3 rfl rfl rfl ?_|refine wB 4 rfl rfl rfl ?_|refine wB 5 rfl rfl rfl ?_|refine wB 6 rfl rfl rfl ?_|refine wB 7 rfl rfl rfl ?_|refine wB 8 rfl rfl rfl ?_)
 refine wP I (Aa ?_)
 repeat (first|refine zA ?_|refine zB ?_|refine zC ?_|refine zD ?_|refine zE ?_|refine zF ?_|refine zG ?_|refine zH ?_|refine zI ?_|refine zJ ?_|refine zK ?_|refine zL ?_|refine zM rfl ?_|refine zN ?_|refine zO ?_|refine zP ?_|refine zQ ?_|refine zR rfl ?_|refine zS rfl ?_|refine zU ?_)
 refine wP I ?_
 (first|refine wB 0 rfl rfl rfl ?_|refine wB 1 rfl rfl rfl ?_|refine wB 2 rfl rfl rfl ?_|refine wB 3 rfl rfl rfl ?_|refine wB 4 rfl rfl rfl ?_|refine wB 5 rfl rfl rfl ?_|refine wB 6 rfl rfl rfl ?_|refine wB 7 rfl rfl rfl ?_|refine wB 8 rfl rfl rfl ?_)
 refine wP I ?_
 (first|refine wB 0 rfl rfl rfl ?_|refine wB 1 rfl rfl rfl ?_|refine wB 2 rfl rfl rfl ?_|refine wB 3 rfl rfl rfl ?_|refine wB 4 rfl rfl rfl ?_|refine wB 5 rfl rfl rfl ?_|refine wB 6 rfl rfl rfl ?_|refine wB 7 rfl rfl rfl ?_|refine wB 8 rfl rfl rfl ?_)
 refine Ay Tryz.hZ tH I I I I I I I I ?_
 (first|refine wS 0 rfl rfl rfl ?_|refine wS 1 rfl rfl rfl ?_|refine wS 2 rfl rfl rfl ?_|refine wS 3 rfl rfl rfl ?_|refine wS 4 rfl rfl rfl ?_|refine wS 5 rfl rfl rfl ?_|refine wS 6 rfl rfl rfl ?_|refine wS 7 rfl rfl rfl ?_|refine wS 8 rfl rfl rfl ?_)
 refine wP I (Aa ?_)
 repeat (first|refine zA ?_|refine zB ?_|refine zC ?_|refine zD ?_|refine zE ?_|refine zF ?_|refine zG ?_|refine zH ?_|refine zI ?_|refine zJ ?_|refine zK ?_|refine zL ?_|refine zM rfl ?_|refine zN ?_|refine zO ?_|refine zP ?_|refine zQ ?_|refine zR rfl ?_|refine zS rfl ?_|refine zU ?_)
 exact A7 tH I (.cell 0 I I I I I) (.tmp I) () I tO fun W _=>Ap.nil _ _
-- BOXES 9
-- CODE2
def Wo (D:List Ak) (L:List Ak) (e:Bool):Prop:=(e=false∧PE D∧L=Bp D)∨(e=true∧ ¬PE D∧L=[])
theorem KE (D:List Ak) (hq: ∀x∈D,okP x) (h0:0<D.length) (hn:D.length≤100000) (L:List Ak) (e:Bool) (hr:Wo D L e) (g cap:Nat) (hcap:D.length≤cap) (W:World) (hA:Cf W (some ⟨g,0,none⟩) D) (ht:AI W):
  Ai Tryz.prog 95 #[slv (some ⟨g,0,none⟩) D.length cap] W (fun V:Vec=> .tuple #[V.val L.length, .int .i64 (erI e)]) (fun V=>V.OK 2 L.length (ptC L)) (fun V=>[V.bx 35 (ptC L)]):=by
 have hrw:Aj W g 0 (ptC D):=by
  rcases hA.cells with h|⟨b,off,e,h⟩
  ·exfalso
   have h2:D.length*2=0:=by rw[←AG,h];rfl
   omega
  ·cases e;exact h
 have hrow: ∀j,j<D.length→Aj W g (0+j*2) [str (Ad (Ae D j).1),str (Ad (Ae D j).2)]:=fun j hj=>by
  obtain⟨g',off',e',h2⟩:=hA.at_ hj
  cases e'
  rw[BM hj]
  exact h2 j hj
 have ok: ∀j,okP (Ae D j):=fun j=>hq _ (B2 h0 j)
 refine Ac (args:=[slv (some ⟨g,0,none⟩) D.length cap]) Tryz.func95 I I I ?_
 refine zA (zB (wP I (wP I (Aa (zE (zA (zB (wP I (Aa (zE (zA (zA (zB ?_)))))))))))))
 refine wP I (Aa (zE (zH ?_)))
 refine A9 (X:=Nat) (fun i=>[(0,slv (some ⟨g,0,none⟩) D.length cap),(4, .int .i64 (Bm D (i+1):Nat)),(5, .int .i64 ((i+1:Nat):Int))]) (fun _=>[]) (fun i=>i+1≤D.length∧ ∀j,j<i→LV (Ae D (j+1)) (Ae D (Bm D (j+1)))) (fun i=>D.length-i) 0 ⟨h0,fun _ h=>absurd h (Nat.not_lt_zero _)⟩ ⟨I,(by rw[SI];rfl),I,tO⟩ [] I ?_
 rintro i ⟨hi,hok⟩
 have hi:i+1≤D.length:=hi
 have hok: ∀j,j<i→LV (Ae D (j+1)) (Ae D (Bm D (j+1))):=hok
 have hle:Bm D (i+1)≤i:=by
  have h1:=Qt false D i
  rw[KO hok] at h1
  exact h1
 obtain⟨m,hm⟩: ∃m,m=Bm D (i+1):=⟨_,rfl⟩
 rw[←hm] at hle
 rw[←hm]
 refine zA (zA (zB (wP I (wP I (wP I (wP I ?_))))))
 by_cases hlt:i+1<D.length
 ·refine wU 11 true I (dT (by omega)) (Aa ?_)
  obtain⟨⟨y,s⟩,hy⟩: ∃y,y=kLs false (Ae D (i+1)) (Ae D m):=⟨_,rfl⟩
  have hso:s=false↔LV (Ae D (i+1)) (Ae D m):=by
   have:=Sy (p:=Ae D (i+1)) (q:=Ae D m)
   rw[←hy] at this;exact this
  have c1: ∀W1,AI W1→Ai Tryz.prog 80 #[cvV (Ae D (i+1)),cvV (Ae D m)] W1 (fun _:Unit=> .tuple #[.int .i64 y, .int .i64 (erI s)]) (fun _=>True) (fun _=>[]):=fun W1 h=>by
   have:=Lb (Ae D (i+1)) (Ae D m) (ok _) (ok _) W1 h
   rw[←hy] at this;exact this
  refine zE (zR I (zI (zE (Ar (Bj (Ar (zU (qP I (qP I ?_)))))))))
  refine qJ ?_
  refine qL 0 I I (fun W1 hp=>(hrow (i+1) hlt).hp hp) I (qP I (qP I ?_))
  refine qJ ?_
  refine qL 0 I I (fun W1 hp=>(hrow m (by omega)).hp hp) I (qC I I (fun W1 hp=>c1 W1 (ht.hp hp)) ?_)
  iterate 5 refine qP I ?_
  refine AS (Aa ?_)
  cases s with
  |true=>
   obtain⟨rfl,rfl⟩:e=true∧L=[]:=by
    rcases hr with c|c
    ·have hb:=c.2.1 i hlt
     rw[←hm] at hb
     exact absurd (hso.2 hb) (by decide)
    ·exact⟨c.1,c.2.2⟩
   refine zE (zA (zA (zB (wP I (wP I (Aa (zE (zR I (zA (zB (wP I (wP I (wP I ?_)))))))))))))
   exact Aa (zE (zO (zP (zQ (zP (zP (zQ (zP (A7 tH rfl (.tmp rfl) (.tmp rfl) Vec.empty rfl (Vec.OK.empty 2) fun W1 hp=>Own.one (fun p hp=>by cases hp) List.nodup_nil)))))))))
  |false=>
   have hls:=hso.1 rfl
   have hok1: ∀j,j<i+1→LV (Ae D (j+1)) (Ae D (Bm D (j+1))):=fun j hj=>by
    by_cases c:j=i
    ·subst c;rw[←hm];exact hls
    ·exact hok j (by omega)
   have hsu:Bm D (i+1+1)=if y<0 then i+1 else m:=by
    have h1:=KO (D:=D) (i:=i+1) hok1
    have h2:=KO hok
    have h3:bgE false D (i+1)=(if (kLs (bgE false D i).2 (Ae D (i+1)) (Ae D (bgE false D i).1)).1<0 then i+1 else(bgE false D i).1,(kLs (bgE false D i).2 (Ae D (i+1)) (Ae D (bgE false D i).1)).2):=rfl
    rw[h2, ←hm, ←hy,h1] at h3
    exact congrArg Prod.fst h3
   refine zE (zA (zA (zB (wP I (wP I (Aa (zE (zS I (zI (zE (zA (zB (wP I (wP I ?_))))))))))))))
   by_cases hy0:y<0
   ·rw[if_pos hy0] at hsu
    refine wU 30 true I (dT hy0) (Aa (zE (zR I (zB (wP I (wP I (Aa (zN (zE (zB (wP I (wP I (wV 13 ((i+1+1:Nat):Int) I (Ax (by omega)) ?_)))))))))))))
    exact wP I (Aa (A4 (i+1) ⟨hlt,hok1⟩ (by show D.length-(i+1)<D.length-i;omega) ⟨I,congrArg (fun n:Nat=>some (Value.int .i64 (n:Int))) hsu.symm,I,tO⟩ [] I))
   ·rw[if_neg hy0] at hsu
    exact wU 30 false I (dF hy0) (Aa (zE (zS I (zI (zN (zE (zB (wP I (wP I (wV 13 ((i+1+1:Nat):Int) I (Ax (by omega)) (wP I (Aa (A4 (i+1) ⟨hlt,hok1⟩ (by show D.length-(i+1)<D.length-i;omega) ⟨I,congrArg (fun n:Nat=>some (Value.int .i64 (n:Int))) hsu.symm,I,tO⟩ [] I)))))))))))))
 have eD:i+1=D.length:=by omega
 have hB:PE D:=fun j hj=>hok j (by omega)
 obtain⟨rfl,rfl⟩:e=false∧L=Bp D:=by
  rcases hr with c|c
  ·exact⟨c.1,c.2.2⟩
  ·exact absurd hB c.2.1
 have hbe:Bp D=D.drop m++D.take m:=by rw[hm,eD];rfl
 have hmD:m<D.length:=by omega
 have hl1:(D.drop m).length=D.length-m:=List.length_drop
 have hl2:(D.take m).length=m:=by rw[List.length_take];omega
 have hlr:(Bp D).length=D.length:=by rw[hbe,List.length_append,hl1,hl2];omega
 have hsplit:ptC D=ptC (D.take m)++ptC (D.drop m):=by rw[←Cx,List.take_append_drop]
 have hr2:Aj W g (m*2) (ptC (D.drop m)):=by
  rw[hsplit] at hrw
  have h2:=Ep hrw
  rw[AG,hl2,Nat.zero_add] at h2
  exact h2
 have hr1:Aj W g 0 (ptC (D.take m)):=by
  rw[hsplit] at hrw
  exact Cc hrw
 have hlen:0+(D.length-m)+m=D.length:=by omega
 have hcel:[]++ptC (D.drop m)++ptC (D.take m)=ptC (Bp D):=by rw[List.nil_append, ←Cx, ←hbe]
 refine wU 11 false I (dF (by omega)) (Aa (zE (zS I (zJ (zK (zK (zL (zE (Ar ?_)))))))))
 refine AE (X:= { V:Vec//V.OK 2 D.length (ptC (Bp D)) }) [false,true,true,false,false,true,true,false,false,false,false] (fun V=>[(2,V.1.val D.length),(3, .int .i64 0)]) (fun V=>[V.1.bx 35 (ptC (Bp D))])
  7 [] Tryz.mixed (by kernel_rfl) ?_ ?_
 ·refine qP I (qP I (qP I (qP I (Bq (wX ?_)))))
  refine RS.cons ?_ (RS.cons ?_ (RS.cons ?_ (RS.nil)))
  ·refine BF tH rfl rfl rfl rfl rfl ?_;intro b0
   refine Aa (Ab (wX ?_))
   refine RS.cons ?_ (RS.cons ?_ (RS.nil))
   ·refine Cp m tH I I I I I I I I (by omega) (by omega) ?_;refine Ah 35 (.slice (some ⟨g,m*2,none⟩) (D.length-m) (cap-m)) I (by rw[if_neg (by omega),Nat.zero_add]) ?_
    refine Aa (Ab (wX ?_))
    refine RS.cons ?_ (RS.cons ?_ (RS.nil))
    ·refine Bt (len:=0) (V:=⟨some b0,0,[]⟩) (xs:=[]) (news:=ptC (D.drop m)) 0 Tryz.vec22 rfl rfl rfl rfl rfl rfl rfl rfl rfl ⟨rfl,(fun h=>by cases h),fun _=>⟨Nat.le_refl _,Nat.zero_le _,rfl⟩⟩ (by rw[AG,hl1]) (fun W1 hp j u hj=>by rw[Addr.add_none];exact(hr2.hp hp).get j u hj) (BA _) (by simp only[maxLen];omega) (by omega) ?_;intro V1 hV1 _
     refine Aa (Ab (wX (wZ ?_)))
     refine By m tH I I I I I I I I (by omega) ?_
     refine Aa (Ab (wX (wZ ?_)))
     refine Bt (len:=0+(D.length-m)) (V:=V1) (xs:=[]++ptC (D.drop m)) (news:=ptC (D.take m)) 0 Tryz.vec22 rfl rfl rfl rfl rfl rfl rfl rfl rfl hV1 (by rw[AG,hl2]) (fun W1 hp j u hj=>by rw[Addr.add_none];exact(hr1.hp hp).get j u hj) (BA _) (by simp only[maxLen];omega) (by omega) ?_;intro V2 hV2 _
     refine Aa (Ab (wX (wZ (wP I (Aa (Ab (wX (wZ (wP I (Aa (Ab ?_)))))))))))
     rw[hlen,hcel] at hV2;rw[hlen,hcel];first|refine Au rfl (by((repeat (first|refine A3.same ?_|refine A3.off rfl ?_));exact trivial)) ?_|refine AD rfl (by kernel_rfl) ?_
     exact Al ⟨V2,hV2⟩ ⟨I,I,tO⟩ [0] (by decide) I
    ·refine By m tH I I I I I I I I (by omega) ?_
     refine Aa (Ab (wX (wZ ?_)))
     refine Bt (len:=0) (V:=⟨some b0,0,[]⟩) (xs:=[]) (news:=ptC (D.drop m)) 0 Tryz.vec22 rfl rfl rfl rfl rfl rfl rfl rfl rfl ⟨rfl,(fun h=>by cases h),fun _=>⟨Nat.le_refl _,Nat.zero_le _,rfl⟩⟩ (by rw[AG,hl1]) (fun W1 hp j u hj=>by rw[Addr.add_none];exact(hr2.hp hp).get j u hj) (BA _) (by simp only[maxLen];omega) (by omega) ?_;intro V1 hV1 _
     refine Aa (Ab (wX (wZ ?_)))
     refine Bt (len:=0+(D.length-m)) (V:=V1) (xs:=[]++ptC (D.drop m)) (news:=ptC (D.take m)) 0 Tryz.vec22 rfl rfl rfl rfl rfl rfl rfl rfl rfl hV1 (by rw[AG,hl2]) (fun W1 hp j u hj=>by rw[Addr.add_none];exact(hr1.hp hp).get j u hj) (BA _) (by simp only[maxLen];omega) (by omega) ?_;intro V2 hV2 _
     refine Aa (Ab (wX (wZ (wP I (Aa (Ab (wX (wZ (wP I (Aa (Ab ?_)))))))))))
     rw[hlen,hcel] at hV2;rw[hlen,hcel];first|refine Au rfl (by((repeat (first|refine A3.same ?_|refine A3.off rfl ?_));exact trivial)) ?_|refine AD rfl (by kernel_rfl) ?_
     exact Al ⟨V2,hV2⟩ ⟨I,I,tO⟩ [0] (by decide) I
   ·refine By m tH I I I I I I I I (by omega) ?_
    refine Aa (Ab (wX (wZ ?_)))
    refine Cp m tH I I I I I I I I (by omega) (by omega) ?_;refine Ah 35 (.slice (some ⟨g,m*2,none⟩) (D.length-m) (cap-m)) I (by rw[if_neg (by omega),Nat.zero_add]) ?_
    refine Aa (Ab (wX (wZ ?_)))
    refine Bt (len:=0) (V:=⟨some b0,0,[]⟩) (xs:=[]) (news:=ptC (D.drop m)) 0 Tryz.vec22 rfl rfl rfl rfl rfl rfl rfl rfl rfl ⟨rfl,(fun h=>by cases h),fun _=>⟨Nat.le_refl _,Nat.zero_le _,rfl⟩⟩ (by rw[AG,hl1]) (fun W1 hp j u hj=>by rw[Addr.add_none];exact(hr2.hp hp).get j u hj) (BA _) (by simp only[maxLen];omega) (by omega) ?_;intro V1 hV1 _
    refine Aa (Ab (wX (wZ ?_)))
    refine Bt (len:=0+(D.length-m)) (V:=V1) (xs:=[]++ptC (D.drop m)) (news:=ptC (D.take m)) 0 Tryz.vec22 rfl rfl rfl rfl rfl rfl rfl rfl rfl hV1 (by rw[AG,hl2]) (fun W1 hp j u hj=>by rw[Addr.add_none];exact(hr1.hp hp).get j u hj) (BA _) (by simp only[maxLen];omega) (by omega) ?_;intro V2 hV2 _
    refine Aa (Ab (wX (wZ (wP I (Aa (Ab (wX (wZ (wP I (Aa (Ab ?_)))))))))))
    rw[hlen,hcel] at hV2;rw[hlen,hcel];first|refine Au rfl (by((repeat (first|refine A3.same ?_|refine A3.off rfl ?_));exact trivial)) ?_|refine AD rfl (by kernel_rfl) ?_
    exact Al ⟨V2,hV2⟩ ⟨I,I,tO⟩ [0] (by decide) I
  ·refine Cp m tH I I I I I I I I (by omega) (by omega) ?_;refine Ah 35 (.slice (some ⟨g,m*2,none⟩) (D.length-m) (cap-m)) I (by rw[if_neg (by omega),Nat.zero_add]) ?_
   refine Aa (Ab (wX ?_))
   refine RS.cons ?_ (RS.cons ?_ (RS.nil))
   ·refine BF tH rfl rfl rfl rfl rfl ?_;intro b0
    refine Aa (Ab (wX ?_))
    refine RS.cons ?_ (RS.cons ?_ (RS.nil))
    ·refine Bt (len:=0) (V:=⟨some b0,0,[]⟩) (xs:=[]) (news:=ptC (D.drop m)) 0 Tryz.vec22 rfl rfl rfl rfl rfl rfl rfl rfl rfl ⟨rfl,(fun h=>by cases h),fun _=>⟨Nat.le_refl _,Nat.zero_le _,rfl⟩⟩ (by rw[AG,hl1]) (fun W1 hp j u hj=>by rw[Addr.add_none];exact(hr2.hp hp).get j u hj) (BA _) (by simp only[maxLen];omega) (by omega) ?_;intro V1 hV1 _
     refine Aa (Ab (wX (wZ ?_)))
     refine By m tH I I I I I I I I (by omega) ?_
     refine Aa (Ab (wX (wZ ?_)))
     refine Bt (len:=0+(D.length-m)) (V:=V1) (xs:=[]++ptC (D.drop m)) (news:=ptC (D.take m)) 0 Tryz.vec22 rfl rfl rfl rfl rfl rfl rfl rfl rfl hV1 (by rw[AG,hl2]) (fun W1 hp j u hj=>by rw[Addr.add_none];exact(hr1.hp hp).get j u hj) (BA _) (by simp only[maxLen];omega) (by omega) ?_;intro V2 hV2 _
     refine Aa (Ab (wX (wZ (wP I (Aa (Ab (wX (wZ (wP I (Aa (Ab ?_)))))))))))
     rw[hlen,hcel] at hV2;rw[hlen,hcel];first|refine Au rfl (by((repeat (first|refine A3.same ?_|refine A3.off rfl ?_));exact trivial)) ?_|refine AD rfl (by kernel_rfl) ?_
     exact Al ⟨V2,hV2⟩ ⟨I,I,tO⟩ [0] (by decide) I
    ·refine By m tH I I I I I I I I (by omega) ?_
     refine Aa (Ab (wX (wZ ?_)))
     refine Bt (len:=0) (V:=⟨some b0,0,[]⟩) (xs:=[]) (news:=ptC (D.drop m)) 0 Tryz.vec22 rfl rfl rfl rfl rfl rfl rfl rfl rfl ⟨rfl,(fun h=>by cases h),fun _=>⟨Nat.le_refl _,Nat.zero_le _,rfl⟩⟩ (by rw[AG,hl1]) (fun W1 hp j u hj=>by rw[Addr.add_none];exact(hr2.hp hp).get j u hj) (BA _) (by simp only[maxLen];omega) (by omega) ?_;intro V1 hV1 _
     refine Aa (Ab (wX (wZ ?_)))
     refine Bt (len:=0+(D.length-m)) (V:=V1) (xs:=[]++ptC (D.drop m)) (news:=ptC (D.take m)) 0 Tryz.vec22 rfl rfl rfl rfl rfl rfl rfl rfl rfl hV1 (by rw[AG,hl2]) (fun W1 hp j u hj=>by rw[Addr.add_none];exact(hr1.hp hp).get j u hj) (BA _) (by simp only[maxLen];omega) (by omega) ?_;intro V2 hV2 _
     refine Aa (Ab (wX (wZ (wP I (Aa (Ab (wX (wZ (wP I (Aa (Ab ?_)))))))))))
     rw[hlen,hcel] at hV2;rw[hlen,hcel];first|refine Au rfl (by((repeat (first|refine A3.same ?_|refine A3.off rfl ?_));exact trivial)) ?_|refine AD rfl (by kernel_rfl) ?_
     exact Al ⟨V2,hV2⟩ ⟨I,I,tO⟩ [0] (by decide) I
   ·refine By m tH I I I I I I I I (by omega) ?_
    refine Aa (Ab (wX (wZ ?_)))
    refine BF tH rfl rfl rfl rfl rfl ?_;intro b0
    refine Aa (Ab (wX (wZ ?_)))
    refine Bt (len:=0) (V:=⟨some b0,0,[]⟩) (xs:=[]) (news:=ptC (D.drop m)) 0 Tryz.vec22 rfl rfl rfl rfl rfl rfl rfl rfl rfl ⟨rfl,(fun h=>by cases h),fun _=>⟨Nat.le_refl _,Nat.zero_le _,rfl⟩⟩ (by rw[AG,hl1]) (fun W1 hp j u hj=>by rw[Addr.add_none];exact(hr2.hp hp).get j u hj) (BA _) (by simp only[maxLen];omega) (by omega) ?_;intro V1 hV1 _
    refine Aa (Ab (wX (wZ ?_)))
    refine Bt (len:=0+(D.length-m)) (V:=V1) (xs:=[]++ptC (D.drop m)) (news:=ptC (D.take m)) 0 Tryz.vec22 rfl rfl rfl rfl rfl rfl rfl rfl rfl hV1 (by rw[AG,hl2]) (fun W1 hp j u hj=>by rw[Addr.add_none];exact(hr1.hp hp).get j u hj) (BA _) (by simp only[maxLen];omega) (by omega) ?_;intro V2 hV2 _
    refine Aa (Ab (wX (wZ (wP I (Aa (Ab (wX (wZ (wP I (Aa (Ab ?_)))))))))))
    rw[hlen,hcel] at hV2;rw[hlen,hcel];first|refine Au rfl (by((repeat (first|refine A3.same ?_|refine A3.off rfl ?_));exact trivial)) ?_|refine AD rfl (by kernel_rfl) ?_
    exact Al ⟨V2,hV2⟩ ⟨I,I,tO⟩ [0] (by decide) I
  ·refine By m tH I I I I I I I I (by omega) ?_
   refine Aa (Ab (wX ?_))
   refine RS.cons ?_ (RS.cons ?_ (RS.nil))
   ·refine BF tH rfl rfl rfl rfl rfl ?_;intro b0
    refine Aa (Ab (wX (wZ ?_)))
    refine Cp m tH I I I I I I I I (by omega) (by omega) ?_;refine Ah 35 (.slice (some ⟨g,m*2,none⟩) (D.length-m) (cap-m)) I (by rw[if_neg (by omega),Nat.zero_add]) ?_
    refine Aa (Ab (wX (wZ ?_)))
    refine Bt (len:=0) (V:=⟨some b0,0,[]⟩) (xs:=[]) (news:=ptC (D.drop m)) 0 Tryz.vec22 rfl rfl rfl rfl rfl rfl rfl rfl rfl ⟨rfl,(fun h=>by cases h),fun _=>⟨Nat.le_refl _,Nat.zero_le _,rfl⟩⟩ (by rw[AG,hl1]) (fun W1 hp j u hj=>by rw[Addr.add_none];exact(hr2.hp hp).get j u hj) (BA _) (by simp only[maxLen];omega) (by omega) ?_;intro V1 hV1 _
    refine Aa (Ab (wX (wZ ?_)))
    refine Bt (len:=0+(D.length-m)) (V:=V1) (xs:=[]++ptC (D.drop m)) (news:=ptC (D.take m)) 0 Tryz.vec22 rfl rfl rfl rfl rfl rfl rfl rfl rfl hV1 (by rw[AG,hl2]) (fun W1 hp j u hj=>by rw[Addr.add_none];exact(hr1.hp hp).get j u hj) (BA _) (by simp only[maxLen];omega) (by omega) ?_;intro V2 hV2 _
    refine Aa (Ab (wX (wZ (wP I (Aa (Ab (wX (wZ (wP I (Aa (Ab ?_)))))))))))
    rw[hlen,hcel] at hV2;rw[hlen,hcel];first|refine Au rfl (by((repeat (first|refine A3.same ?_|refine A3.off rfl ?_));exact trivial)) ?_|refine AD rfl (by kernel_rfl) ?_
    exact Al ⟨V2,hV2⟩ ⟨I,I,tO⟩ [0] (by decide) I
   ·refine Cp m tH I I I I I I I I (by omega) (by omega) ?_;refine Ah 35 (.slice (some ⟨g,m*2,none⟩) (D.length-m) (cap-m)) I (by rw[if_neg (by omega),Nat.zero_add]) ?_
    refine Aa (Ab (wX (wZ ?_)))
    refine BF tH rfl rfl rfl rfl rfl ?_;intro b0
    refine Aa (Ab (wX (wZ ?_)))
    refine Bt (len:=0) (V:=⟨some b0,0,[]⟩) (xs:=[]) (news:=ptC (D.drop m)) 0 Tryz.vec22 rfl rfl rfl rfl rfl rfl rfl rfl rfl ⟨rfl,(fun h=>by cases h),fun _=>⟨Nat.le_refl _,Nat.zero_le _,rfl⟩⟩ (by rw[AG,hl1]) (fun W1 hp j u hj=>by rw[Addr.add_none];exact(hr2.hp hp).get j u hj) (BA _) (by simp only[maxLen];omega) (by omega) ?_;intro V1 hV1 _
    refine Aa (Ab (wX (wZ ?_)))
    refine Bt (len:=0+(D.length-m)) (V:=V1) (xs:=[]++ptC (D.drop m)) (news:=ptC (D.take m)) 0 Tryz.vec22 rfl rfl rfl rfl rfl rfl rfl rfl rfl hV1 (by rw[AG,hl2]) (fun W1 hp j u hj=>by rw[Addr.add_none];exact(hr1.hp hp).get j u hj) (BA _) (by simp only[maxLen];omega) (by omega) ?_;intro V2 hV2 _
    refine Aa (Ab (wX (wZ (wP I (Aa (Ab (wX (wZ (wP I (Aa (Ab ?_)))))))))))
    rw[hlen,hcel] at hV2;rw[hlen,hcel];first|refine Au rfl (by((repeat (first|refine A3.same ?_|refine A3.off rfl ?_));exact trivial)) ?_|refine AD rfl (by kernel_rfl) ?_
    exact Al ⟨V2,hV2⟩ ⟨I,I,tO⟩ [0] (by decide) I
 rintro⟨V,hV⟩
 exact zE (zO (A7 tH I (.tmp I) (.tmp I) V (by rw[hlr];rfl) (by rw[hlr];exact hV) fun W1 hp=>Ap.of_hp hp))
-- BOXES 9
-- CODE2
theorem UC {W0 W:World} {bxs:List Bx} (hp:Hp W0 bxs W) (k:Nat) {g:Nat} {l:List Rat} {junk:List Value} {i:Nat} (hk:nth bxs k=some ⟨g,84,nsC l++junk,true,none⟩) (hi:i<l.length):Aj W g (0+i*2) [str (Ad l[i]), .int .i64 0]:=by
 have h:=Aj.of_bx hp k hk rfl
 have e:nsC l=nsC (l.take i)++([str (Ad l[i]), .int .i64 0]++nsC (l.drop (i+1))):=by
  have e0:l=l.take i++l[i]::l.drop (i+1):=by rw[←List.drop_eq_getElem_cons hi,List.take_append_drop]
  conv=>lhs;rw[e0]
  unfold nsC
  rw[List.flatMap_append,List.flatMap_cons]
 rw[e,List.append_assoc,List.append_assoc] at h
 have h1:=Cc (Ep h)
 rwa [U9,List.length_take,Nat.min_eq_left (by omega)] at h1
theorem Uz (u:Rat):decide (CV u 0<0)=decide (u<0):=by
 refine decide_eq_decide.2 ?_
 rcases H2 u 0 with⟨a,ea⟩|⟨a,ea⟩|⟨a,ea⟩<;>rw[ea]
 ·exact⟨fun _=>a,fun _=>by decide⟩
 ·exact⟨fun h=>absurd h (by decide),fun h=>by grind⟩
 ·exact⟨fun h=>absurd h (by decide),fun h=>by grind⟩
def inB (f:AW) (l:List Ak):Nat→Bool
 |0=>false
 |k+1=>inB f l k||decide (f.at (Ae l k)<0)
theorem Rl {f:AW} {l:List Ak}: ∀ {k:Nat},inB f l k=true↔ ∃j,j<k∧f.at (Ae l j)<0
 |0=>⟨fun h=>(by cases h),fun⟨_,hj,_⟩=>absurd hj (Nat.not_lt_zero _)⟩
 |k+1=>by
  have ih:=Rl (f:=f) (l:=l) (k:=k)
  show(inB f l k||decide (f.at (Ae l k)<0))=true↔_
  rw[Bool.or_eq_true,ih,decide_eq_true_eq]
  constructor
  ·rintro(⟨j,hj,h⟩|h)
   ·exact⟨j,by omega,h⟩
   ·exact⟨k,by omega,h⟩
  ·rintro⟨j,hj,h⟩
   by_cases c:j=k
   ·subst c;exact .inr h
   ·exact .inl ⟨j,by omega,h⟩
theorem Uj (f:AW) (l:List Ak):inB f l l.length=FK f l:=by
 rw[Bool.eq_iff_iff,Rl,GB]
 constructor
 ·rintro⟨j,hj,h⟩
  exact⟨_,B2 (by omega) j,h⟩
 ·rintro⟨q,hq,h⟩
  obtain⟨i,hi,e⟩:=Hv hq
  exact⟨i,hi,by rw[e];exact h⟩
def VP (f:AW) (l:List Ak) (L:List Ak) (e:Bool):Prop:=(e=false∧CQ f l∧L=Bs f l)∨(e=true∧ ¬CQ f l∧L=[])
theorem N3 (f:AW) (hf:okQ f.a∧okQ f.b∧okQ f.c) (l:List Ak) (hq: ∀x∈l,okP x) (hn0:0<l.length) (hn:l.length≤4096) (L:List Ak) (e:Bool) (hr:VP f l L e) (p:Option Addr) (cap:Nat) (W:World) (hA:Cf W p l) (ht:AI W):
  Ai Tryz.prog 65 #[slv p l.length cap,str (Ad f.a),str (Ad f.b),str (Ad f.c)] W (fun V:Vec=> .tuple #[V.val L.length, .int .i64 (erI e)]) (fun V=>V.OK 2 L.length (ptC L)) (fun V=>[V.bx 35 (ptC L)]):=by
 have hzz:(l.length:Int)≠0:=by omega
 have hvl:(l.map f.at).length=l.length:=List.length_map _
 obtain⟨g,off,rfl,hrow0⟩:=hA.at_ hn0
 have hrow: ∀j,j<l.length→Aj W g (off+j*2) [str (Ad (Ae l j).1),str (Ad (Ae l j).2)]:=fun j hj=>by
  rw[BM hj];exact hrow0 j hj
 have okl: ∀j,okP (Ae l j):=fun j=>hq _ (B2 hn0 j)
 have hno: ¬CQ f l→e=true∧L=[]:=fun h=>by
  rcases hr with c|c
  ·exact absurd c.2.1 h
  ·exact⟨c.1,c.2.2⟩
 have nilR: ∀ {W1:World},Ap W W1 [Vec.empty.bx 35 (ptC [])]:=fun {W1}=>Own.one (fun p hp=>by cases hp) List.nodup_nil
 obtain⟨L1,e1,hr1⟩: ∃L1 e1,VW f l L1 e1:=by
  by_cases h: ∀j,j<l.length→Ii f (Ae l j)
  ·exact⟨_,_, .inl ⟨I,I,h⟩⟩
  ·exact⟨_,_, .inr ⟨I,I,h⟩⟩
 refine Ac (args:=[slv (some ⟨g,off,none⟩) l.length cap,str (Ad f.a),str (Ad f.b),str (Ad f.c)]) Tryz.func65 I I I ?_
 refine zA (zB (wP I (wP I (Aa (zE (zA (zB (wP I (wP I (wP I (wP I ?_)))))))))))
 refine wD (X:=Vec) I I (fun W1 hp=>KQ f hf l hq hn0 hn L1 e1 hr1 (some ⟨g,off,none⟩) cap W1 (hA.hp hp) (ht.hp hp)) ?_
 intro V hV
 iterate 5 refine wP I ?_
 refine Aa ?_
 cases e1 with
 |true=>
  obtain⟨rfl,rfl⟩:e=true∧L=[]:=hno fun h=>by
   rcases hr1 with c|c
   ·exact absurd c.1 (by decide)
   ·exact c.2.2 h.v
  refine zE (zA (zA (zB (wP I (wP I (Aa (zE (zR I (zA (zB (wP I (wP I (wP I ?_)))))))))))))
  exact Aa (zE (zO (zP (A7 tH I (.tmp I) (.tmp I) Vec.empty I (Vec.OK.empty 2) fun W1 hp=>nilR))))
 |false=>
 obtain⟨rfl,hvok⟩:L1=l.map f.at∧ ∀j,j<l.length→Ii f (Ae l j):=by
  rcases hr1 with c|c
  ·exact c.2
  ·exact absurd c.1 (by decide)
 rw[hvl] at hV
 rw[hvl]
 obtain⟨pV,cV,jV⟩:=V
 obtain⟨gV,rfl⟩: ∃g,pV=some g:=Option.ne_none_iff_exists'.1 (fun c=>by have:=hV.nil c;omega)
 have okv: ∀j,okQ (f.at (Ae l j)):=fun j=>by
  rw[←C8 l j]
  have:=SE false f (Ae l (j%l.length))
  rwa [QC (hvok _ (Nat.mod_lt _ hn0))] at this
 refine zE (zA (zA (zB (wP I (wP I (Aa (zE (zS I (zI (zE (zA (zB ?_))))))))))))
 refine BF tH I I I I I ?_
 intro b0
 refine wP I (Aa (zE (zA (zB (wP I (Aa (zE (zA (zA (zB (wP I (Aa (zE ?_)))))))))))))
 refine zH ?_
 refine A9 (X:=Nat×Vec) (fun x=>[(0,slv (some ⟨g,off,none⟩) l.length cap),(10, .slice (some ⟨gV,0,none⟩) l.length cV),(12,x.2.val (Ct f l x.1).length),(13, .bool (inB f l x.1)),(14, .int .i64 (x.1:Nat))]) (fun x=>[⟨gV,84,nsC (l.map f.at)++jV,true,none⟩,x.2.bx 35 (ptC (Ct f l x.1))])
  (fun x=>x.1≤l.length∧x.2.OK 2 (Ct f l x.1).length (ptC (Ct f l x.1))∧PN f l x.1) (fun x=>l.length-x.1) (0,⟨some b0,0,[]⟩) ⟨Nat.zero_le _,⟨rfl,(fun h=>by cases h),fun _=>⟨Nat.le_refl _,Nat.zero_le _,rfl⟩⟩,fun _ h=>absurd h (Nat.not_lt_zero _)⟩ ⟨rfl,rfl,rfl,rfl,rfl,trivial⟩ [] rfl ?_
 rintro⟨k',O⟩ ⟨hi,hO,hcs⟩
 have hi:k'≤l.length:=hi
 have hO:O.OK 2 (Ct f l k').length (ptC (Ct f l k')):=hO
 have hcs:PN f l k':=hcs
 have hol:=Fe f l k'
 have hml:=NW f l k'
 refine zA (zA (zB (wP I (wP I (wP I (wP I ?_))))))
 by_cases hk:k'<l.length
 rotate_left
 ·obtain rfl:k'=l.length:=by omega
  refine wU 33 false I (dF (by omega)) (Aa (zE (zS I (zJ (zK (zK (zL (zE (zA (zA (zB ?_)))))))))))
  have hoe:Ct f l l.length=AT f l:=rfl
  rw[hoe] at hO hol
  rw[hoe,Uj]
  cases hneg:FK f l with
  |false=>
   have hok:CQ f l:=⟨hvok,hcs,fun h=>by rw[hneg] at h;cases h⟩
   have e0:Bs f l=[]:=by unfold Bs;rw[hneg];rfl
   obtain⟨rfl,rfl⟩:e=false∧L=[]:=by
    rcases hr with c|c
    ·exact⟨c.1,c.2.2.trans e0⟩
    ·exact absurd hok c.2.1
   exact wP I (wP I (Aa (zE (zR I (zA (zB (wP I (wP I (Aa (zE (zO (zP (A7 tH I (.tmp I) (.tmp I) Vec.empty I (Vec.OK.empty 2) fun W1 hp=>nilR)))))))))))))
  |true=>
   have e0:Bs f l=Bp (AT f l):=by unfold Bs;rw[hneg];rfl
   have hT:Wo (AT f l) L e:=by
    rcases hr with c|c
    ·exact .inl ⟨c.1,c.2.1.b hneg,c.2.2.trans e0⟩
    ·exact .inr ⟨c.1,fun h=>c.2.1 ⟨hvok,hcs,fun _=>h⟩,c.2.2⟩
   have hokD: ∀y∈AT f l,okP y:=by
    have:=MA (f:=f) hq hn0 l.length
    rw[Oz hcs] at this
    exact this
   have hpos:0<(AT f l).length:=by
    obtain⟨q,hqm,hqn⟩:=GB.1 hneg
    obtain⟨i,hi,c⟩:=Hv hqm
    exact KF hi (by rw[c];exact Rat.le_of_lt hqn)
   obtain⟨pO,cO,jO⟩:=O
   obtain⟨gO,rfl⟩: ∃g,pO=some g:=Option.ne_none_iff_exists'.1 (fun c=>by have hz:(AT f l).length=0:=hO.nil c;omega)
   have hcO:=(hO.cap (by simp)).1
   refine wP I (wP I (Aa (zE (zS I (zI (zE (zA (zB (wP I ?_)))))))))
   refine wD (X:=Vec) I I (fun W1 hp=>KE (AT f l) hokD hpos (by omega) L e hT gO cO hcO W1 (Cf.of_row (Aj.of_bx hp 1 I I:Aj W1 gO 0 (ptC (AT f l)++jO))) (ht.hp hp)) ?_
   intro V2 hV2
   exact wP I (wP I (wP I (wP I (Aa (zE (zO (A7 tH I (.tmp I) (.tmp I) V2 I hV2 fun W1 hp=>Ap.of_hp (hp.pick (l:=[V2.bx 35 (ptC L)]) [2] (by decide) I))))))))
 refine wU 33 true I (dT (by omega)) (Aa (zE (zR I (zI (zE (zA (zH (zA (zB ?_)))))))))
 have hk2:(k'+1)%l.length<l.length:=Nat.mod_lt _ hn0
 have ev: ∀i (hi:i<l.length),(l.map f.at)[i]'(by rw[hvl];exact hi)=f.at (Ae l i):=fun i hi=>by rw[List.getElem_map,BM hi]
 have hr1: ∀ {W1:World} {bxs:List Bx} (hp:Hp W bxs W1),nth bxs 0=some ⟨gV,84,nsC (l.map f.at)++jV,true,none⟩→Aj W1 gV (0+k'*2) [str (Ad (f.at (Ae l k'))), .int .i64 0]:=fun hp hm=>by
  have:=UC hp 0 hm (i:=k') (by rw[hvl];exact hk)
  rwa [ev k' hk] at this
 have hr2: ∀ {W1:World} {bxs:List Bx} (hp:Hp W bxs W1),nth bxs 0=some ⟨gV,84,nsC (l.map f.at)++jV,true,none⟩→Aj W1 gV (0+((k'+1)%l.length)*2) [str (Ad (f.at (Ae l (k'+1)))), .int .i64 0]:=fun hp hm=>by
  have:=UC hp 0 hm (i:=(k'+1)%l.length) (by rw[hvl];exact hk2)
  rwa [ev _ hk2,C8] at this
 have hp1:=hrow k' hk
 have hp2:=hrow ((k'+1)%l.length) hk2
 rw[C8] at hp2
 have oku:=okv k'
 have okw:=okv (k'+1)
 have okp:=okl k'
 have okp2:=okl (k'+1)
 obtain⟨P,hP⟩: ∃P,P=Ae l k':=⟨_,rfl⟩
 obtain⟨P2,hP2⟩: ∃P,P=Ae l (k'+1):=⟨_,rfl⟩
 obtain⟨u,hu⟩: ∃u,u=f.at P:=⟨_,rfl⟩
 obtain⟨v,hvv⟩: ∃v,v=f.at P2:=⟨_,rfl⟩
 have hsu:=EU f l k'
 have hmu:CP f l k'=Ct f l k'++(if u≤0 then[P] else[]):=by rw[hu,hP];rfl
 have hib:inB f l (k'+1)=(inB f l k'||decide (u<0)):=by rw[hu,hP];rfl
 have hcsS:(u*v<0→MC P P2 u v)↔PN f l (k'+1):=by
  constructor
  ·intro h j hj cj
   by_cases c:j=k'
   ·subst c;rw[←hP, ←hP2, ←hu, ←hvv] at cj⊢;exact h cj
   ·exact hcs j (by omega) cj
  ·intro h cj
   have:=h k' (by omega)
   rw[←hP, ←hP2, ←hu, ←hvv] at this
   exact this cj
 rw[←hP, ←hP2, ←hu, ←hvv] at hsu
 rw[←hP, ←hu] at hr1 oku
 rw[←hP2, ←hvv] at hr2 okw
 rw[←hP] at hp1 okp
 rw[←hP2] at hp2 okp2
 refine wP I (wP I (wV 37 ((k'+1:Nat):Int) I (Ax (by omega)) (wP I (wP I ?_))))
 refine Ej I I I I I hzz ?_
 refine Ah 40 (.int .i64 (((k'+1)%l.length:Nat):Int)) I I ?_
 refine wP I (Aa (zE (zA (zA (zB (wP I (wP I ?_)))))))
 refine wJ ?_
 refine wL 0 I I (fun W1 hp=>hr1 hp I) I (wC I I (fun W1 hp=>ET u oku W1 (ht.hp hp)) (wP I (wU 46 (decide (u≤0)) I (QN u 0) (Aa (AH ?_)))))
 refine AC (X:=Vec) (fun O=>[(0,slv (some ⟨g,off,none⟩) l.length cap),(10, .slice (some ⟨gV,0,none⟩) l.length cV),(12,O.val (CP f l k').length),(13, .bool (inB f l (k'+1))),(14, .int .i64 (k':Nat)),(15, .int .i64 (((k'+1)%l.length:Nat):Int))])
  (fun O=>[⟨gV,84,nsC (l.map f.at)++jV,true,none⟩,O.bx 35 (ptC (CP f l k'))])
  (fun O=>O.OK 2 (CP f l k').length (ptC (CP f l k'))) ?_ ?_
 ·refine Aw I (fun hc1=> ?_) (fun hc1=> ?_)
  ·rw[if_pos (of_decide_eq_true hc1)] at hmu
   have hlm:(Ct f l k').length+1=(CP f l k').length:=by rw[hmu,List.length_append];rfl
   refine zA (zB (wP I (wP I (wP I ?_))))
   refine wJ ?_
   refine wL 0 I I (fun W1 hp=>hp1.hp hp) I ?_
   refine A8 Tryz.hZ tH I I I I I I I I I I I fun bS=> ?_
   refine Bk (V:=O) (len:=(Ct f l k').length) (xs:=ptC (Ct f l k')) 1 2 Tryz.vec22 (CP f l k').length (ptC (CP f l k')) I I I I I I I I I I I hO I I hlm (by rw[hmu,Cx];rfl) (by simp only[maxLen];omega) (by omega) I ?_
   intro gO cO jO hO1
   refine wP I (Aa ?_)
   cases hin:inB f l k' with
   |true=>
    rw[hin] at hib
    refine zE (zB (wP I (wP I ?_)))
    iterate 6 refine Ao I I ?_
    exact wP I (wP I (Aa (An ⟨some gO,cO,jO⟩ hO1 ⟨I,I,I,(by rw[hib];rfl),I,I,tO⟩ [_] I)))
   |false=>
    rw[hin] at hib
    refine zE (zB (wP I (wP I (wP I (wP I ?_)))))
    refine wJ ?_
    exact wL 0 I I (fun W1 hp=>hr1 hp I) I (wC I I (fun W1 hp=>ET u oku W1 (ht.hp hp)) (wP I (wU 61 (decide (u<0)) I (Uz u) (wP I (wP I (Aa (An ⟨some gO,cO,jO⟩ hO1 ⟨I,I,I,(by rw[hib];rfl),I,I,tO⟩ [_] I)))))))
  ·have hc1':=of_decide_eq_false hc1
   rw[if_neg hc1',List.append_nil] at hmu
   have hib2:inB f l (k'+1)=inB f l k':=by rw[hib,dF (fun h=>hc1' (Rat.le_of_lt h)),Bool.or_false]
   exact zI (An O (by rw[hmu];exact hO) ⟨I,I,(by rw[hmu]<;>rfl),(by rw[hib2]<;>rfl),I,I,tO⟩ [] (by rw[hmu];rfl))
 intro O1 hO1
 have hO1:O1.OK 2 (CP f l k').length (ptC (CP f l k')):=hO1
 refine Ar (zU (qP I (qP I ?_)))
 refine qJ ?_
 refine qL 0 I I (fun W1 hp=>hr1 hp I) I (qC I I (fun W1 hp=>ET u oku W1 (ht.hp hp)) (qP I (qP I ?_)))
 refine qJ ?_
 refine qL 0 I I (fun W1 hp=>hr2 hp I) I (qC I I (fun W1 hp=>ET v okw W1 (ht.hp hp)) (qP I (qP I (qU 74 (decide (u*v<0)) I (SL u v) (AS (Aa (zE ?_)))))))
 refine Aw I (fun hc2=> ?_) (fun hc2=> ?_)
 ·have hc2':u*v<0:=of_decide_eq_true hc2
  rw[if_pos hc2'] at hsu
  have hne:u-v≠0:=fun c=>by
   rcases D4.1 hc2' with h|h<;>grind
  obtain⟨S,e2,hcr⟩: ∃S e2,VZ P P2 u v S e2:=by
   by_cases h:MC P P2 u v
   ·exact⟨_,_, .inl ⟨I,h,I⟩⟩
   ·exact⟨_,_, .inr ⟨I,h,I⟩⟩
  refine Ar ?_
  refine AE (X:=Nat) [true,true,true,true,true,true,true,true,true,true,true,true,true,true,true,true,true,true,true,true,false,false,false] (fun b=>[(0,slv (some ⟨g,off,none⟩) l.length cap),(10, .slice (some ⟨gV,0,none⟩) l.length cV),(12,O1.val (CP f l k').length),(13, .bool (inB f l (k'+1))),(14, .int .i64 (k':Nat)),(16,Ag b),(17, .int .i64 (erI e2))]) (fun b=>[⟨gV,84,nsC (l.map f.at)++jV,true,none⟩,O1.bx 35 (ptC (CP f l k')),ptB b S.1 S.2])
   3 [⟨gV,84,nsC (l.map f.at)++jV,true,none⟩,O1.bx 35 (ptC (CP f l k'))] Tryz.mixed (by kernel_rfl) ?_ ?_
  ·refine qP I (qP I ?_)
   refine qJ ?_
   refine qL 0 I I (fun W1 hp=>hp1.hp hp) I (qP I (qP I ?_))
   refine qJ ?_
   refine qL 0 I I (fun W1 hp=>hp2.hp hp) I (qP I (qP I ?_))
   refine qJ ?_
   refine qL 0 I I (fun W1 hp=>hr1 hp I) I (qP I (qP I ?_))
   refine qJ ?_
   refine qL 0 I I (fun W1 hp=>hr2 hp I) I (qC I I (fun W1 hp=>OD P P2 u v okp okp2 oku okw hne S e2 hcr W1 (ht.hp hp)) (qP I (qP I (qP I (Bq (wX (wZ ?_)))))))
   refine Af Tryz.hZ rfl rfl rfl rfl ?_;intro b
   refine Aa (Ab (wX (wZ (wS 2 I I I (Aa (Ab (wX (wZ (wP I (Aa (Ab ?_)))))))))))
   refine Au I (by((repeat (first|refine A3.same ?_|refine A3.off I ?_));exact tO)) ?_
   exact Al b ⟨I,I,I,I,I,I,I,tO⟩ [0,1,2] (by decide) I
  intro b16
  refine zE (zA (zA (zB ?_)))
  cases e2 with
  |true=>
   obtain⟨rfl,rfl⟩:e=true∧L=[]:=hno fun h=>by
    rcases hcr with c|c
    ·exact absurd c.1 (by decide)
    ·exact c.2.1 ((hcsS.2 fun j hj=>h.c j (by omega)) hc2')
   refine wP I (wP I (Aa (zE (zR I (zA (zB (wP I (wP I (wP I (Aa (zE (zO (zP ?_)))))))))))))
   exact zQ (zP (zP (zQ (zP (A7 tH I (.tmp I) (.tmp I) Vec.empty I (Vec.OK.empty 2) fun W1 hp=>nilR)))))
  |false=>
   obtain⟨hct,rfl⟩:MC P P2 u v∧S=ptS (HZ (u/(u-v)) P P2):=by
    rcases hcr with c|c
    ·exact c.2
    ·exact absurd c.1 (by decide)
   have hlm:(CP f l k').length+1=(Ct f l (k'+1)).length:=by rw[hsu,List.length_append];rfl
   refine wP I (wP I (Aa (zE (zS I (zI (zE (zB (wP I (wB 2 I I I ?_)))))))))
   refine A8 Tryz.hZ tH I I I I I I I I I I I fun bS=> ?_
   refine Bk (V:=O1) (len:=(CP f l k').length) (xs:=ptC (CP f l k')) 1 3 Tryz.vec22 (Ct f l (k'+1)).length (ptC (Ct f l (k'+1))) I I I I I I I I I I I hO1 I I hlm (by rw[hsu,Cx];rfl) (by simp only[maxLen];omega) (by omega) I ?_
   intro gO cO jO hO2
   exact wP I (Aa (zN (zE (zB (wP I (wP I (wV 35 ((k'+1:Nat):Int) I (Ax (by omega)) (wP I (Aa (A4 (k'+1,(⟨some gO,cO,jO⟩:Vec)) ⟨hk,hO2,hcsS.1 fun _=>hct⟩ (by show l.length-(k'+1)<l.length-k';omega) ⟨I,I,I,I,I,tO⟩ [_,_] I))))))))))
 ·have hc2':=of_decide_eq_false hc2
  rw[if_neg hc2',List.append_nil] at hsu
  exact zI (zN (zE (zB (wP I (wP I (wV 35 ((k'+1:Nat):Int) I (Ax (by omega)) (wP I (Aa (A4 (k'+1,O1) ⟨hk,(by show O1.OK 2 (Ct f l (k'+1)).length (ptC (Ct f l (k'+1)));rw[hsu];exact hO1),hcsS.1 fun h=>absurd h hc2'⟩ (by show l.length-(k'+1)<l.length-k';omega) ⟨I,I,(by rw[hsu]<;>rfl),I,I,tO⟩ [] (by rw[hsu];rfl))))))))))
end
end Go.Proofs.YthndmdimmgkpgaaGreatDoor
