/-
  Lemmas that the theorem convexHulls_upto_card needs (part 6 of 8).
-/
import Derived.Test.YthndmdimmgkpgaaGreatDoorCye
set_option maxHeartbeats 64000000
namespace Go.Proofs.YthndmdimmgkpgaaGreatDoor
section
open Go Go.RowKit Go.Am Go.Lib
set_option maxRecDepth 10000
-- BOXES 5
theorem JZ (p q:Rat) (hkp:okQ p) (hkq:okQ q) (h:BK p q) (W0:World) (hv:BP W0) (ht:Bc W0):
  Ap Tryz.prog 119 #[str (Af p),str (Af q)] W0 (fun _:Unit=> .tuple #[.int .i64 (F7 (p.num*(q.den:Nat)) (q.num*(p.den:Nat))), .int .i64 0]) (fun _=>True) (fun _=>[]):=by
 have hlp:=Bm hkp
 have hlq:=Bm hkq
 refine Ae (args:=[str (Af p),str (Af q)]) Tryz.func119 I I I ?_
 repeat (first|refine zA ?_|refine zB ?_|refine zC ?_|refine zD ?_|refine zE ?_|refine zF ?_|refine zG ?_|refine zH ?_|refine zI ?_|refine zJ ?_|refine zK ?_|refine zL ?_|refine zM rfl ?_|refine zN ?_|refine zO ?_|refine zP ?_|refine zQ ?_|refine zR rfl ?_|refine zS rfl ?_|refine zU ?_)
 refine wP I (wP I (Aa (AT (Au ?_))))
 refine AM (X:=Unit) (fun _=>[(0,str (Af p)),(1,str (Af q)),(4, .int .i64 0),(5, .int .i64 0)]) (fun _=>[]) (fun _=>True) ?_ ?_
 ·repeat (first|refine zA ?_|refine zB ?_|refine zC ?_|refine zD ?_|refine zE ?_|refine zF ?_|refine zG ?_|refine zH ?_|refine zI ?_|refine zJ ?_|refine zK ?_|refine zL ?_|refine zM rfl ?_|refine zN ?_|refine zO ?_|refine zP ?_|refine zQ ?_|refine zR rfl ?_|refine zS rfl ?_|refine zU ?_)
  refine wP I ?_
  by_cases hp:smQ p
  ·refine wC I I (fun W _=>(AX (Af p) (by omega) W).cast ((BG p).trans (if_pos hp))) (wP I (wP I (wP I ?_)))
   (refine Ao Tryz.hZ rfl rfl rfl rfl ?_;intro)
   (first|refine wS 0 rfl rfl rfl ?_|refine wS 1 rfl rfl rfl ?_|refine wS 2 rfl rfl rfl ?_|refine wS 3 rfl rfl rfl ?_|refine wS 4 rfl rfl rfl ?_)
   refine wP I (Aa ?_)
   rename_i b6
   repeat (first|refine zA ?_|refine zB ?_|refine zC ?_|refine zD ?_|refine zE ?_|refine zF ?_|refine zG ?_|refine zH ?_|refine zI ?_|refine zJ ?_|refine zK ?_|refine zL ?_|refine zM rfl ?_|refine zN ?_|refine zO ?_|refine zP ?_|refine zQ ?_|refine zR rfl ?_|refine zS rfl ?_|refine zU ?_)
   refine wP I (Aa ?_)
   repeat (first|refine zA ?_|refine zB ?_|refine zC ?_|refine zD ?_|refine zE ?_|refine zF ?_|refine zG ?_|refine zH ?_|refine zI ?_|refine zJ ?_|refine zK ?_|refine zL ?_|refine zM rfl ?_|refine zN ?_|refine zO ?_|refine zP ?_|refine zQ ?_|refine zR rfl ?_|refine zS rfl ?_|refine zU ?_)
   refine wP I ?_
   by_cases hq:smQ q
   ·refine wC I I (fun W _=>(AX (Af q) (by omega) W).cast ((BG q).trans (if_pos hq))) (wP I (wP I (wP I ?_)))
    (refine Ao Tryz.hZ rfl rfl rfl rfl ?_;intro)
    (first|refine wS 0 rfl rfl rfl ?_|refine wS 1 rfl rfl rfl ?_|refine wS 2 rfl rfl rfl ?_|refine wS 3 rfl rfl rfl ?_|refine wS 4 rfl rfl rfl ?_)
    refine wP I (Aa ?_)
    rename_i b8
    repeat (first|refine zA ?_|refine zB ?_|refine zC ?_|refine zD ?_|refine zE ?_|refine zF ?_|refine zG ?_|refine zH ?_|refine zI ?_|refine zJ ?_|refine zK ?_|refine zL ?_|refine zM rfl ?_|refine zN ?_|refine zO ?_|refine zP ?_|refine zQ ?_|refine zR rfl ?_|refine zS rfl ?_|refine zU ?_)
    refine wP I (Aa ?_)
    repeat (first|refine zA ?_|refine zB ?_|refine zC ?_|refine zD ?_|refine zE ?_|refine zF ?_|refine zG ?_|refine zH ?_|refine zI ?_|refine zJ ?_|refine zK ?_|refine zL ?_|refine zM rfl ?_|refine zN ?_|refine zO ?_|refine zP ?_|refine zQ ?_|refine zR rfl ?_|refine zS rfl ?_|refine zU ?_)
    refine wP I ?_
    (first|refine wB 0 rfl rfl rfl ?_|refine wB 1 rfl rfl rfl ?_|refine wB 2 rfl rfl rfl ?_|refine wB 3 rfl rfl rfl ?_|refine wB 4 rfl rfl rfl ?_)
    refine wP I ?_
    (first|refine wB 0 rfl rfl rfl ?_|refine wB 1 rfl rfl rfl ?_|refine wB 2 rfl rfl rfl ?_|refine wB 3 rfl rfl rfl ?_|refine wB 4 rfl rfl rfl ?_)
    refine wP I (wV 31 (p.num*(q.den:Nat)) I (Ck hp.1 (CD q hq)) (wP I ?_))
    (first|refine wB 0 rfl rfl rfl ?_|refine wB 1 rfl rfl rfl ?_|refine wB 2 rfl rfl rfl ?_|refine wB 3 rfl rfl rfl ?_|refine wB 4 rfl rfl rfl ?_)
    refine wP I ?_
    (first|refine wB 0 rfl rfl rfl ?_|refine wB 1 rfl rfl rfl ?_|refine wB 2 rfl rfl rfl ?_|refine wB 3 rfl rfl rfl ?_|refine wB 4 rfl rfl rfl ?_)
    refine wP I (wV 36 (q.num*(p.den:Nat)) I (Ck hq.1 (CD p hp)) (wC I I (fun W _=>HQ _ _ W) (wP I (wP I (Aa ?_)))))
    repeat (first|refine zA ?_|refine zB ?_|refine zC ?_|refine zD ?_|refine zE ?_|refine zF ?_|refine zG ?_|refine zH ?_|refine zI ?_|refine zJ ?_|refine zK ?_|refine zL ?_|refine zM rfl ?_|refine zN ?_|refine zO ?_|refine zP ?_|refine zQ ?_|refine zR rfl ?_|refine zS rfl ?_|refine zU ?_)
    exact wR2 I I I
   ·refine wC I I (fun W _=>(AX (Af q) (by omega) W).cast ((BG q).trans (if_neg hq))) (wP I (wP I (wP I ?_)))
    (refine Ao Tryz.hZ rfl rfl rfl rfl ?_;intro)
    (first|refine wS 0 rfl rfl rfl ?_|refine wS 1 rfl rfl rfl ?_|refine wS 2 rfl rfl rfl ?_|refine wS 3 rfl rfl rfl ?_|refine wS 4 rfl rfl rfl ?_)
    refine wP I (Aa ?_)
    repeat (first|refine zA ?_|refine zB ?_|refine zC ?_|refine zD ?_|refine zE ?_|refine zF ?_|refine zG ?_|refine zH ?_|refine zI ?_|refine zJ ?_|refine zK ?_|refine zL ?_|refine zM rfl ?_|refine zN ?_|refine zO ?_|refine zP ?_|refine zQ ?_|refine zR rfl ?_|refine zS rfl ?_|refine zU ?_)
    refine wP I (Aa ?_)
    repeat (first|refine zA ?_|refine zB ?_|refine zC ?_|refine zD ?_|refine zE ?_|refine zF ?_|refine zG ?_|refine zH ?_|refine zI ?_|refine zJ ?_|refine zK ?_|refine zL ?_|refine zM rfl ?_|refine zN ?_|refine zO ?_|refine zP ?_|refine zQ ?_|refine zR rfl ?_|refine zS rfl ?_|refine zU ?_)
    exact At () tO ⟨I,I,I,I,tO⟩ _ I
  ·refine wC I I (fun W _=>(AX (Af p) (by omega) W).cast ((BG p).trans (if_neg hp))) (wP I (wP I (wP I ?_)))
   (refine Ao Tryz.hZ rfl rfl rfl rfl ?_;intro)
   (first|refine wS 0 rfl rfl rfl ?_|refine wS 1 rfl rfl rfl ?_|refine wS 2 rfl rfl rfl ?_|refine wS 3 rfl rfl rfl ?_|refine wS 4 rfl rfl rfl ?_)
   refine wP I (Aa ?_)
   repeat (first|refine zA ?_|refine zB ?_|refine zC ?_|refine zD ?_|refine zE ?_|refine zF ?_|refine zG ?_|refine zH ?_|refine zI ?_|refine zJ ?_|refine zK ?_|refine zL ?_|refine zM rfl ?_|refine zN ?_|refine zO ?_|refine zP ?_|refine zQ ?_|refine zR rfl ?_|refine zS rfl ?_|refine zU ?_)
   refine wP I (Aa ?_)
   repeat (first|refine zA ?_|refine zB ?_|refine zC ?_|refine zD ?_|refine zE ?_|refine zF ?_|refine zG ?_|refine zH ?_|refine zI ?_|refine zJ ?_|refine zK ?_|refine zL ?_|refine zM rfl ?_|refine zN ?_|refine zO ?_|refine zP ?_|refine zQ ?_|refine zR rfl ?_|refine zS rfl ?_|refine zU ?_)
   exact At () tO ⟨I,I,I,I,tO⟩ _ I
 ·intro _ _
  repeat (first|refine zA ?_|refine zB ?_|refine zC ?_|refine zD ?_|refine zE ?_|refine zF ?_|refine zG ?_|refine zH ?_|refine zI ?_|refine zJ ?_|refine zK ?_|refine zL ?_|refine zM rfl ?_|refine zN ?_|refine zO ?_|refine zP ?_|refine zQ ?_|refine zR rfl ?_|refine zS rfl ?_|refine zU ?_)
  refine wP I (wC I I (fun W hp=>(Cp (Af p) (by omega) W (hv.hp hp) (ht.hp hp)).cast (GX hkp)) (wP I (wP I (wP I ?_))))
  (refine Ao Tryz.hZ rfl rfl rfl rfl ?_;intro)
  (first|refine wS 0 rfl rfl rfl ?_|refine wS 1 rfl rfl rfl ?_|refine wS 2 rfl rfl rfl ?_|refine wS 3 rfl rfl rfl ?_|refine wS 4 rfl rfl rfl ?_)
  refine wP I (Aa ?_)
  rename_i b10
  repeat (first|refine zA ?_|refine zB ?_|refine zC ?_|refine zD ?_|refine zE ?_|refine zF ?_|refine zG ?_|refine zH ?_|refine zI ?_|refine zJ ?_|refine zK ?_|refine zL ?_|refine zM rfl ?_|refine zN ?_|refine zO ?_|refine zP ?_|refine zQ ?_|refine zR rfl ?_|refine zS rfl ?_|refine zU ?_)
  refine wP I (wP I (Aa ?_))
  repeat (first|refine zA ?_|refine zB ?_|refine zC ?_|refine zD ?_|refine zE ?_|refine zF ?_|refine zG ?_|refine zH ?_|refine zI ?_|refine zJ ?_|refine zK ?_|refine zL ?_|refine zM rfl ?_|refine zN ?_|refine zO ?_|refine zP ?_|refine zQ ?_|refine zR rfl ?_|refine zS rfl ?_|refine zU ?_)
  refine wP I (wC I I (fun W hp=>(Cp (Af q) (by omega) W (hv.hp hp) (ht.hp hp)).cast (GX hkq)) (wP I (wP I (wP I ?_))))
  (refine Ao Tryz.hZ rfl rfl rfl rfl ?_;intro)
  (first|refine wS 0 rfl rfl rfl ?_|refine wS 1 rfl rfl rfl ?_|refine wS 2 rfl rfl rfl ?_|refine wS 3 rfl rfl rfl ?_|refine wS 4 rfl rfl rfl ?_)
  refine wP I (Aa ?_)
  rename_i b12
  repeat (first|refine zA ?_|refine zB ?_|refine zC ?_|refine zD ?_|refine zE ?_|refine zF ?_|refine zG ?_|refine zH ?_|refine zI ?_|refine zJ ?_|refine zK ?_|refine zL ?_|refine zM rfl ?_|refine zN ?_|refine zO ?_|refine zP ?_|refine zQ ?_|refine zR rfl ?_|refine zS rfl ?_|refine zU ?_)
  refine wP I (wP I (Aa ?_))
  repeat (first|refine zA ?_|refine zB ?_|refine zC ?_|refine zD ?_|refine zE ?_|refine zF ?_|refine zG ?_|refine zH ?_|refine zI ?_|refine zJ ?_|refine zK ?_|refine zL ?_|refine zM rfl ?_|refine zN ?_|refine zO ?_|refine zP ?_|refine zQ ?_|refine zR rfl ?_|refine zS rfl ?_|refine zU ?_)
  (first|refine wB 0 rfl rfl rfl ?_|refine wB 1 rfl rfl rfl ?_|refine wB 2 rfl rfl rfl ?_|refine wB 3 rfl rfl rfl ?_|refine wB 4 rfl rfl rfl ?_)
  (first|refine wB 0 rfl rfl rfl ?_|refine wB 1 rfl rfl rfl ?_|refine wB 2 rfl rfl rfl ?_|refine wB 3 rfl rfl rfl ?_|refine wB 4 rfl rfl rfl ?_)
  refine wC I I (fun W hp=>CE p q hkp hkq h.1 h.2 W (ht.hp hp)) ?_
  iterate 7 refine wP I ?_
  refine Aa ?_
  repeat (first|refine zA ?_|refine zB ?_|refine zC ?_|refine zD ?_|refine zE ?_|refine zF ?_|refine zG ?_|refine zH ?_|refine zI ?_|refine zJ ?_|refine zK ?_|refine zL ?_|refine zM rfl ?_|refine zN ?_|refine zO ?_|refine zP ?_|refine zQ ?_|refine zR rfl ?_|refine zS rfl ?_|refine zU ?_)
  refine wP I (wP I (Aa ?_))
  repeat (first|refine zA ?_|refine zB ?_|refine zC ?_|refine zD ?_|refine zE ?_|refine zF ?_|refine zG ?_|refine zH ?_|refine zI ?_|refine zJ ?_|refine zK ?_|refine zL ?_|refine zM rfl ?_|refine zN ?_|refine zO ?_|refine zP ?_|refine zQ ?_|refine zR rfl ?_|refine zS rfl ?_|refine zU ?_)
  refine wP I (wP I (wC I I (fun W _=>GC _ _ h.1 h.2 W) (wP I (wP I (wP I (wP I (Aa ?_)))))))
  repeat (first|refine zA ?_|refine zB ?_|refine zC ?_|refine zD ?_|refine zE ?_|refine zF ?_|refine zG ?_|refine zH ?_|refine zI ?_|refine zJ ?_|refine zK ?_|refine zL ?_|refine zM rfl ?_|refine zN ?_|refine zO ?_|refine zP ?_|refine zQ ?_|refine zR rfl ?_|refine zS rfl ?_|refine zU ?_)
  exact wR2 I I I
theorem Kb (p q:Rat) (hkp:okQ p) (hkq:okQ q) (hno: ¬BK p q) (W0:World) (hv:BP W0) (ht:Bc W0):
  Ap Tryz.prog 119 #[str (Af p),str (Af q)] W0 (fun _:Unit=> .tuple #[.int .i64 0, .int .i64 4]) (fun _=>True) (fun _=>[]):=by
 obtain⟨s,hs⟩:=Hh p q hkp hkq hno
 have hlp:=Bm hkp
 have hlq:=Bm hkq
 refine Ae (args:=[str (Af p),str (Af q)]) Tryz.func119 I I I ?_
 repeat (first|refine zA ?_|refine zB ?_|refine zC ?_|refine zD ?_|refine zE ?_|refine zF ?_|refine zG ?_|refine zH ?_|refine zI ?_|refine zJ ?_|refine zK ?_|refine zL ?_|refine zM rfl ?_|refine zN ?_|refine zO ?_|refine zP ?_|refine zQ ?_|refine zR rfl ?_|refine zS rfl ?_|refine zU ?_)
 refine wP I (wP I (Aa (AT (Au ?_))))
 refine AM (X:=Unit) (fun _=>[(0,str (Af p)),(1,str (Af q)),(4, .int .i64 0),(5, .int .i64 0)]) (fun _=>[]) (fun _=>True) ?_ ?_
 ·repeat (first|refine zA ?_|refine zB ?_|refine zC ?_|refine zD ?_|refine zE ?_|refine zF ?_|refine zG ?_|refine zH ?_|refine zI ?_|refine zJ ?_|refine zK ?_|refine zL ?_|refine zM rfl ?_|refine zN ?_|refine zO ?_|refine zP ?_|refine zQ ?_|refine zR rfl ?_|refine zS rfl ?_|refine zU ?_)
  refine wP I ?_
  by_cases hp:smQ p
  ·refine wC I I (fun W _=>(AX (Af p) (by omega) W).cast ((BG p).trans (if_pos hp))) (wP I (wP I (wP I ?_)))
   (refine Ao Tryz.hZ rfl rfl rfl rfl ?_;intro)
   (first|refine wS 0 rfl rfl rfl ?_|refine wS 1 rfl rfl rfl ?_|refine wS 2 rfl rfl rfl ?_|refine wS 3 rfl rfl rfl ?_|refine wS 4 rfl rfl rfl ?_)
   refine wP I (Aa ?_)
   rename_i b6
   repeat (first|refine zA ?_|refine zB ?_|refine zC ?_|refine zD ?_|refine zE ?_|refine zF ?_|refine zG ?_|refine zH ?_|refine zI ?_|refine zJ ?_|refine zK ?_|refine zL ?_|refine zM rfl ?_|refine zN ?_|refine zO ?_|refine zP ?_|refine zQ ?_|refine zR rfl ?_|refine zS rfl ?_|refine zU ?_)
   refine wP I (Aa ?_)
   repeat (first|refine zA ?_|refine zB ?_|refine zC ?_|refine zD ?_|refine zE ?_|refine zF ?_|refine zG ?_|refine zH ?_|refine zI ?_|refine zJ ?_|refine zK ?_|refine zL ?_|refine zM rfl ?_|refine zN ?_|refine zO ?_|refine zP ?_|refine zQ ?_|refine zR rfl ?_|refine zS rfl ?_|refine zU ?_)
   refine wP I ?_
   by_cases hq:smQ q
   ·exact absurd (PT ⟨hp,hq⟩).2.2.2 hno
   ·refine wC I I (fun W _=>(AX (Af q) (by omega) W).cast ((BG q).trans (if_neg hq))) (wP I (wP I (wP I ?_)))
    (refine Ao Tryz.hZ rfl rfl rfl rfl ?_;intro)
    (first|refine wS 0 rfl rfl rfl ?_|refine wS 1 rfl rfl rfl ?_|refine wS 2 rfl rfl rfl ?_|refine wS 3 rfl rfl rfl ?_|refine wS 4 rfl rfl rfl ?_)
    refine wP I (Aa ?_)
    repeat (first|refine zA ?_|refine zB ?_|refine zC ?_|refine zD ?_|refine zE ?_|refine zF ?_|refine zG ?_|refine zH ?_|refine zI ?_|refine zJ ?_|refine zK ?_|refine zL ?_|refine zM rfl ?_|refine zN ?_|refine zO ?_|refine zP ?_|refine zQ ?_|refine zR rfl ?_|refine zS rfl ?_|refine zU ?_)
    refine wP I (Aa ?_)
    repeat (first|refine zA ?_|refine zB ?_|refine zC ?_|refine zD ?_|refine zE ?_|refine zF ?_|refine zG ?_|refine zH ?_|refine zI ?_|refine zJ ?_|refine zK ?_|refine zL ?_|refine zM rfl ?_|refine zN ?_|refine zO ?_|refine zP ?_|refine zQ ?_|refine zR rfl ?_|refine zS rfl ?_|refine zU ?_)
    exact At () tO ⟨I,I,I,I,tO⟩ _ I
  ·refine wC I I (fun W _=>(AX (Af p) (by omega) W).cast ((BG p).trans (if_neg hp))) (wP I (wP I (wP I ?_)))
   (refine Ao Tryz.hZ rfl rfl rfl rfl ?_;intro)
   (first|refine wS 0 rfl rfl rfl ?_|refine wS 1 rfl rfl rfl ?_|refine wS 2 rfl rfl rfl ?_|refine wS 3 rfl rfl rfl ?_|refine wS 4 rfl rfl rfl ?_)
   refine wP I (Aa ?_)
   repeat (first|refine zA ?_|refine zB ?_|refine zC ?_|refine zD ?_|refine zE ?_|refine zF ?_|refine zG ?_|refine zH ?_|refine zI ?_|refine zJ ?_|refine zK ?_|refine zL ?_|refine zM rfl ?_|refine zN ?_|refine zO ?_|refine zP ?_|refine zQ ?_|refine zR rfl ?_|refine zS rfl ?_|refine zU ?_)
   refine wP I (Aa ?_)
   repeat (first|refine zA ?_|refine zB ?_|refine zC ?_|refine zD ?_|refine zE ?_|refine zF ?_|refine zG ?_|refine zH ?_|refine zI ?_|refine zJ ?_|refine zK ?_|refine zL ?_|refine zM rfl ?_|refine zN ?_|refine zO ?_|refine zP ?_|refine zQ ?_|refine zR rfl ?_|refine zS rfl ?_|refine zU ?_)
   exact At () tO ⟨I,I,I,I,tO⟩ _ I
 ·intro _ _
  repeat (first|refine zA ?_|refine zB ?_|refine zC ?_|refine zD ?_|refine zE ?_|refine zF ?_|refine zG ?_|refine zH ?_|refine zI ?_|refine zJ ?_|refine zK ?_|refine zL ?_|refine zM rfl ?_|refine zN ?_|refine zO ?_|refine zP ?_|refine zQ ?_|refine zR rfl ?_|refine zS rfl ?_|refine zU ?_)
  refine wP I (wC I I (fun W hp=>(Cp (Af p) (by omega) W (hv.hp hp) (ht.hp hp)).cast (GX hkp)) (wP I (wP I (wP I ?_))))
  (refine Ao Tryz.hZ rfl rfl rfl rfl ?_;intro)
  (first|refine wS 0 rfl rfl rfl ?_|refine wS 1 rfl rfl rfl ?_|refine wS 2 rfl rfl rfl ?_|refine wS 3 rfl rfl rfl ?_|refine wS 4 rfl rfl rfl ?_)
  refine wP I (Aa ?_)
  rename_i b10
  repeat (first|refine zA ?_|refine zB ?_|refine zC ?_|refine zD ?_|refine zE ?_|refine zF ?_|refine zG ?_|refine zH ?_|refine zI ?_|refine zJ ?_|refine zK ?_|refine zL ?_|refine zM rfl ?_|refine zN ?_|refine zO ?_|refine zP ?_|refine zQ ?_|refine zR rfl ?_|refine zS rfl ?_|refine zU ?_)
  refine wP I (wP I (Aa ?_))
  repeat (first|refine zA ?_|refine zB ?_|refine zC ?_|refine zD ?_|refine zE ?_|refine zF ?_|refine zG ?_|refine zH ?_|refine zI ?_|refine zJ ?_|refine zK ?_|refine zL ?_|refine zM rfl ?_|refine zN ?_|refine zO ?_|refine zP ?_|refine zQ ?_|refine zR rfl ?_|refine zS rfl ?_|refine zU ?_)
  refine wP I (wC I I (fun W hp=>(Cp (Af q) (by omega) W (hv.hp hp) (ht.hp hp)).cast (GX hkq)) (wP I (wP I (wP I ?_))))
  (refine Ao Tryz.hZ rfl rfl rfl rfl ?_;intro)
  (first|refine wS 0 rfl rfl rfl ?_|refine wS 1 rfl rfl rfl ?_|refine wS 2 rfl rfl rfl ?_|refine wS 3 rfl rfl rfl ?_|refine wS 4 rfl rfl rfl ?_)
  refine wP I (Aa ?_)
  rename_i b12
  repeat (first|refine zA ?_|refine zB ?_|refine zC ?_|refine zD ?_|refine zE ?_|refine zF ?_|refine zG ?_|refine zH ?_|refine zI ?_|refine zJ ?_|refine zK ?_|refine zL ?_|refine zM rfl ?_|refine zN ?_|refine zO ?_|refine zP ?_|refine zQ ?_|refine zR rfl ?_|refine zS rfl ?_|refine zU ?_)
  refine wP I (wP I (Aa ?_))
  repeat (first|refine zA ?_|refine zB ?_|refine zC ?_|refine zD ?_|refine zE ?_|refine zF ?_|refine zG ?_|refine zH ?_|refine zI ?_|refine zJ ?_|refine zK ?_|refine zL ?_|refine zM rfl ?_|refine zN ?_|refine zO ?_|refine zP ?_|refine zQ ?_|refine zR rfl ?_|refine zS rfl ?_|refine zU ?_)
  (first|refine wB 0 rfl rfl rfl ?_|refine wB 1 rfl rfl rfl ?_|refine wB 2 rfl rfl rfl ?_|refine wB 3 rfl rfl rfl ?_|refine wB 4 rfl rfl rfl ?_)
  (first|refine wB 0 rfl rfl rfl ?_|refine wB 1 rfl rfl rfl ?_|refine wB 2 rfl rfl rfl ?_|refine wB 3 rfl rfl rfl ?_|refine wB 4 rfl rfl rfl ?_)
  refine wC I I (fun W hp=>hs W (ht.hp hp)) ?_
  iterate 7 refine wP I ?_
  refine Aa ?_
  repeat (first|refine zA ?_|refine zB ?_|refine zC ?_|refine zD ?_|refine zE ?_|refine zF ?_|refine zG ?_|refine zH ?_|refine zI ?_|refine zJ ?_|refine zK ?_|refine zL ?_|refine zM rfl ?_|refine zN ?_|refine zO ?_|refine zP ?_|refine zQ ?_|refine zR rfl ?_|refine zS rfl ?_|refine zU ?_)
  refine wP I (wP I (Aa ?_))
  repeat (first|refine zA ?_|refine zB ?_|refine zC ?_|refine zD ?_|refine zE ?_|refine zF ?_|refine zG ?_|refine zH ?_|refine zI ?_|refine zJ ?_|refine zK ?_|refine zL ?_|refine zM rfl ?_|refine zN ?_|refine zO ?_|refine zP ?_|refine zQ ?_|refine zR rfl ?_|refine zS rfl ?_|refine zU ?_)
  refine wP I (wP I (wP I (Aa ?_)))
  repeat (first|refine zA ?_|refine zB ?_|refine zC ?_|refine zD ?_|refine zE ?_|refine zF ?_|refine zG ?_|refine zH ?_|refine zI ?_|refine zJ ?_|refine zK ?_|refine zL ?_|refine zM rfl ?_|refine zN ?_|refine zO ?_|refine zP ?_|refine zQ ?_|refine zR rfl ?_|refine zS rfl ?_|refine zU ?_)
  exact wR2 I I I
theorem Kc (p q:Rat) (hkp:okQ p) (hkq:okQ q) (W0:World) (hv:BP W0) (ht:Bc W0):
  Ap Tryz.prog 119 #[str (Af p),str (Af q)] W0 (fun _:Unit=>cmV p q) (fun _=>True) (fun _=>[]):=by
 by_cases h:BK p q
 ·exact(JZ p q hkp hkq h W0 hv ht).cast (by rw[cmV,if_pos h,Qy])
 ·exact(Kb p q hkp hkq h W0 hv ht).cast (by rw[cmV,if_neg h])
-- BOXES 8
-- CODE2
def erI:Bool→Int
 |true=>4
 |false=>0
abbrev caE (c:Nat) (s:Bool):Bx:=⟨c,61,[.int .i64 (erI s)],true,none⟩
abbrev caO (s:Bool):Obj:= .cells #[.int .i64 (erI s)] 61 (0,0)
structure KcP (c:Nat) (s:Bool) (W:World):Prop where
 o:W.heap[c]? =some (caO s)
 k: ∀W',CC W W' c→BP W'∧Bc W'
theorem CC.refl (W:World) (g:Nat):CC W W g:=⟨rfl,rfl,rfl,Nat.le_refl _,fun _ _ _=>rfl⟩
theorem KcP.v {c:Nat} {s:Bool} {W:World} (h:KcP c s W):BP W:=(h.k W (CC.refl W c)).1
theorem KcP.t {c:Nat} {s:Bool} {W:World} (h:KcP c s W):Bc W:=(h.k W (CC.refl W c)).2
theorem KcP.at_ {c:Nat} {s s1:Bool} {W W1:World} {bs:List Bx} (h:KcP c s W) (hp:Hp (AE W) (Ax (Ai W c)::caE c s1::bs) W1):KcP c s1 W1:=
 ⟨(hp.own.cell 1 (caE c s1) rfl (c,caO s1) (List.mem_cons_self ..)).1,fun _ h2=>h.k _ ((BV h.o ⟨_,List.mem_cons_self ..⟩ (Hp.take (bxs:=[Ax (Ai W c),caE c s1]) (nb:=bs) hp)).trans h2)⟩
theorem KcP.of {c:Nat} {s:Bool} {W0 W:World} {bxs:List Bx} (hp:Hp W0 bxs W) (k:Nat) (hk:nth bxs k=some (caE c s)) (hv:BP W0) (ht:Bc W0):KcP c s W:=by
 rw[Bv] at hk
 have hc:=hp.own.cell k _ hk (c,caO s) (List.mem_cons_self ..)
 exact⟨hc.1,fun W2 h2=>⟨hv.below (h2.below hp.below hc.2),ht.below (h2.below hp.below hc.2)⟩⟩
theorem FB {c:Nat} {s1:Bool} {W W1:World} {bs:List Bx} (hp:Hp (AE W) (Ax (Ai W c)::caE c s1::bs) W1):A3 (AE W) W1 [Ax (Ai W c),caE c s1]:=
 (Hp.take (bxs:=[Ax (Ai W c),caE c s1]) (nb:=bs) hp).own
structure Ch (g:Nat) (vs:List Value) (c:Nat) {X:Type} (st:X→Bool) (val:X→Value) (Φ:X→Prop) (W:World):Prop where
 out:Calls Tryz.prog g vs.toArray W fun e W'=> ∃x,e= .returned (val x)∧Φ x∧EE W W' c c (caO (st x))
theorem Ch.enter {N c:Nat} {s:Bool} {f:Nat} {fn:Func} {cd:Code} {args:List Value} {X:Type} {st:X→Bool} {val:X→Value} {Φ:X→Prop} {W:World} (h:KcP c s W) (hf:Tryz.prog.funcs[f]? =some fn) (hb:fn.body=some cd) (hN:fn.ntmps=N) (hl:Nat.ble args.length N=true)
  (hw:WC none 0 Tryz.prog N [] cd (GU Tryz.prog fn (AE W) val Φ (fun x=>[Ax (Ai W c),caE c (st x)])) (Jl 0 args) (Hp (AE W) [Ax (Ai W c),caE c s])):Ch f args c st val Φ W:=by
 have key:=Ba (X:=X) (val:=val) (Φ:=Φ) (nb:=fun x=>[Ax (Ai W c),caE c (st x)]) (Hp.enterT (B:=caE c s) rfl h.o) hf hb hN hl hw
 refine⟨key.mono ?_⟩
 rintro e W' ⟨x,he,hx,hb,hn⟩
 exact⟨x,he,hx,BL h.o I hb hn⟩
theorem Ch.same {g c:Nat} {vs:List Value} {s:Bool} {v:Value} {W:World} (h:Ch g vs c (fun _:Unit=>s) (fun _=>v) (fun _=>True) W) (ho:W.heap[c]? =some (caO s)):Ap Tryz.prog g vs.toArray W (fun _:Unit=>v) (fun _=>True) (fun _=>[]):=by
 refine⟨h.out.mono ?_⟩
 rintro e W' ⟨x,he,_,hn⟩
 refine⟨x,he,tO,⟨hn.os,hn.tape,hn.output,hn.size,fun i hi=> ?_⟩,A3.nil _ _⟩
 by_cases e:i=c
 ·subst e;exact hn.new.trans ho.symm
 ·exact hn.old i e hi
section
variable {r:Option Nat} {n:Nat} {W0:World} {N:Nat} {D:List Deferred} {ops:List Oper} {Q:Exit→Act→World→Prop} {o:Oper} {rest:List Oper} {env:Env} {bxs:List Bx}
theorem P9 (k c:Nat) {s:Bool} {cl:Call} {f:Operand} {g d:Nat} {vs:List Value} {X:Type} {st:X→Bool} {val:X→Value} {Φ:X→Prop} (hg:A6 ops N env o=some true) (hd:o.dst=some d) (ho:o.op= .call cl) (hc:cl.callee= .value f) (hf:evO N env f=some (.func (.func g) #[] #[])) (ha:Cf (evO N env) cl.args.toList=some vs) (hE:Bd Tryz.prog g=true)
  (hk:nth bxs k=some (caE c s)) (hC: ∀W,Hp W0 bxs W→Ch g vs c st val Φ W)
  (h: ∀x,Φ x→WL r n Tryz.prog N D ops Q rest ((d,val x)::env) (Hp W0 (bxs.set k (caE c (st x))))):WL r n Tryz.prog N D ops Q (o::rest) env (Hp W0 bxs):=
 Bn (X:=X) (val:=val) (Φ:=Φ) (capt:=[]) k (B:=caE c s) (L1:=[]) (L2:=[]) (b:=c) (ob:=caO s) (fun x=>caE c (st x)) (g':=fun _=>c) (o':=fun x=>caO (st x))
  hg hd ho hc hf ha hE hk rfl (fun _ _=>rfl) (fun W hp=>by rw[List.append_nil];exact(hC W hp).out) h
theorem Ci (k c:Nat) {s s':Bool} {v:Value} {cl:Call} {f:Operand} {g d:Nat} {vs:List Value} (hg:A6 ops N env o=some true) (hd:o.dst=some d) (ho:o.op= .call cl) (hc:cl.callee= .value f) (hf:evO N env f=some (.func (.func g) #[] #[])) (ha:Cf (evO N env) cl.args.toList=some vs) (hE:Bd Tryz.prog g=true)
  (hk:nth bxs k=some (caE c s)) (hC: ∀W,Hp W0 bxs W→Ch g vs c (fun _:Unit=>s') (fun _=>v) (fun _=>True) W)
  (h:WL r n Tryz.prog N D ops Q rest ((d,v)::env) (Hp W0 (bxs.set k (caE c s')))):WL r n Tryz.prog N D ops Q (o::rest) env (Hp W0 bxs):=
 P9 k c hg hd ho hc hf ha hE hk hC (fun _ _=>h)
end
@[irreducible] def opR (ok : Prop) [Decidable ok] (r : Rat) (s : Bool) : Rat × Bool := match s with
 |true=>(0,true)
 |false=>if ok then(r,false) else(0,true)
theorem SK {ok:Prop} [Decidable ok] {r:Rat}:opR ok r true=(0,true):=by unfold opR;rfl
theorem Fh {ok:Prop} [Decidable ok] {r:Rat} (h:ok):opR ok r false=(r,false):=by unfold opR;exact if_pos h
theorem TS {ok:Prop} [Decidable ok] {r:Rat} (h: ¬ok):opR ok r false=(0,true):=by unfold opR;exact if_neg h
theorem Vy:okQ 0:=by
 have h:szQ 0 1:=by unfold szQ;decide+kernel
 exact h.ok (by decide)
theorem Uk {ok:Prop} [Decidable ok] {r:Rat} {s:Bool} (h:ok→okQ r):okQ (opR ok r s).1:=by
 cases s with
 |true=>rw[SK];exact Vy
 |false=>
  by_cases c:ok
  ·rw[Fh c];exact h c
  ·rw[TS c];exact Vy
def kSb (s:Bool) (p q:Rat):Rat×Bool:=opR (J4 p q) (p-q) s
def kMu (s:Bool) (p q:Rat):Rat×Bool:=opR (Gy p q) (p*q) s
theorem Ng (s:Bool) (p q:Rat):okQ (kSb s p q).1:=Uk Sc
theorem TK (s:Bool) (p q:Rat):okQ (kMu s p q).1:=Uk Se
@[irreducible] def kOr (s : Bool) (p q : Rat) : Int × Bool := match s with
 |true=>(0,true)
 |false=>if BK p q then(DN p q,false) else(0,true)
theorem V6 {p q:Rat}:kOr true p q=(0,true):=by unfold kOr;rfl
theorem RA {p q:Rat} (h:BK p q):kOr false p q=(DN p q,false):=by unfold kOr;exact if_pos h
theorem V8 {p q:Rat} (h: ¬BK p q):kOr false p q=(0,true):=by unfold kOr;exact if_neg h
theorem S2 (c g:Nat) (a b:List UInt8) (W:World) (h:KcP c true W):
  Ch 104 [An c, .func (.func g) #[] #[],str a,str b] c (fun _:Unit=>true) (fun _=>str [48]) (fun _=>True) W:=by
 refine Ch.enter h Tryz.func104 I I I ?_
 refine zA (zB (wP I (Aa (zE (zA (zA (zB (wP I ?_))))))))
 refine AP I I I I ?_
 exact wP I (wB 1 I I I (wP I (Aa (zE (zR I (zA (zB (wP I (Aa (zE (zO (zP (A8 tH I (.tmp I) () I tO fun W1 hp=>FB hp)))))))))))))
theorem Od (c g:Nat) (a b v:List UInt8) (z:Bool) (W:World) (h:KcP c false W) (hE:Bd Tryz.prog g=true)
  (hg: ∀W1,BP W1→Bc W1→Ap Tryz.prog g #[str a,str b] W1 (fun _:Unit=> .tuple #[str v, .int .i64 (erI z)]) (fun _=>True) (fun _=>[])):
  Ch 104 [An c, .func (.func g) #[] #[],str a,str b] c (fun _:Unit=>z) (fun _=>if z=true then str [48] else str v) (fun _=>True) W:=by
 refine Ch.enter h Tryz.func104 I I I ?_
 refine zA (zB (wP I (Aa (zE (zA (zA (zB (wP I ?_))))))))
 refine AP I I I I ?_
 refine wP I (wB 1 I I I (wP I (Aa (zE (zS I (zI (zE (zA (zB (wP I (wP I (wP I ?_))))))))))))
 refine AW (capt:=[]) I I I I I I hE (fun W1 hp=>hg W1 (h.at_ (bs:=[]) hp).v (h.at_ (bs:=[]) hp).t) ?_
 iterate 5 refine wP I ?_
 refine Aa (zE (zA (zA (zB (wP I (wP I ?_))))))
 refine AP I I I I ?_
 refine wP I (wS 1 I I I (Aa (zE (zA (zB ?_)))))
 cases z with
 |true=>
  exact wP I (wP I (Aa (zE (zR I (zA (zB (wP I (Aa (zE (zO (zP (A8 tH I (.tmp I) () I tO fun W1 hp=>FB hp))))))))))))
 |false=>
  exact wP I (wP I (Aa (zE (zS I (zI (zE (zA (zB (wP I (wP I (Aa (zE (zO (A8 tH I (.tmp I) () I tO fun W1 hp=>FB hp))))))))))))))
theorem KR (c g:Nat) (a b:List UInt8) (ok:Prop) [Decidable ok] (r:Rat) (s:Bool) (W:World) (h:KcP c s W) (hE:Bd Tryz.prog g=true)
  (hg: ∀W1,BP W1→Bc W1→Ap Tryz.prog g #[str a,str b] W1 (fun _:Unit=>opV ok r) (fun _=>True) (fun _=>[])):
  Ch 104 [An c, .func (.func g) #[] #[],str a,str b] c (fun _:Unit=>(opR ok r s).2) (fun _=>str (Af (opR ok r s).1)) (fun _=>True) W:=by
 cases s with
 |true=>
  rw[SK]
  show Ch _ _ c _ (fun _=>str (Af 0)) _ W
  rw[EI]
  exact S2 c g a b W h
 |false=>
  by_cases k:ok
  ·rw[Fh k]
   exact Od c g a b (Af r) false W h hE fun W1 hv ht=>(hg W1 hv ht).cast (KG k)
  ·rw[TS k]
   show Ch _ _ c _ (fun _=>str (Af 0)) _ W
   rw[EI]
   exact Od c g a b [] true W h hE fun W1 hv ht=>(hg W1 hv ht).cast (Qt k)
abbrev GT (g:Nat) (vs:List Value) (c:Nat) (x:Rat×Bool) (W:World):Prop:=Ch g vs c (fun _:Unit=>x.2) (fun _=>str (Af x.1)) (fun _=>True) W
theorem Fu (c:Nat) (s:Bool) (p q:Rat) (hp:okQ p) (hq:okQ q) (W:World) (h:KcP c s W):GT 59 [An c,str (Af p),str (Af q)] c (kSb s p q) W:=by
 refine Ch.enter h Tryz.func59 I I I ?_
 refine zA (zB (wP I (Aa (zE (zA (zB (wP I (wP I (wP I ?_)))))))))
 refine Ci 1 c I I I I I I (by kernel_rfl) I (fun W1 hp1=>KR c 126 (Af p) (Af q) (J4 p q) (p-q) s W1 (h.at_ (bs:=[]) hp1) (by kernel_rfl) (fun W2 hv ht=>Pe p q hp hq W2 hv ht)) ?_
 exact wP I (Aa (zE (zO (A8 tH I (.tmp I) () I tO fun W1 hp=>FB hp))))
theorem J2 (c:Nat) (s:Bool) (p q:Rat) (hp:okQ p) (hq:okQ q) (W:World) (h:KcP c s W):GT 60 [An c,str (Af p),str (Af q)] c (kMu s p q) W:=by
 refine Ch.enter h Tryz.func60 I I I ?_
 refine zA (zB (wP I (Aa (zE (zA (zB (wP I (wP I (wP I ?_)))))))))
 refine Ci 1 c I I I I I I (by kernel_rfl) I (fun W1 hp1=>KR c 72 (Af p) (Af q) (Gy p q) (p*q) s W1 (h.at_ (bs:=[]) hp1) (by kernel_rfl) (fun W2 hv ht=>Of p q hp hq W2 hv ht)) ?_
 exact wP I (Aa (zE (zO (A8 tH I (.tmp I) () I tO fun W1 hp=>FB hp))))
abbrev Ic (g:Nat) (vs:List Value) (c:Nat) (x:Int×Bool) (W:World):Prop:=Ch g vs c (fun _:Unit=>x.2) (fun _=> .int .i64 x.1) (fun _=>True) W
theorem Ed (c:Nat) (s:Bool) (p q:Rat) (hp:okQ p) (hq:okQ q) (W:World) (h:KcP c s W):Ic 53 [An c,str (Af p),str (Af q)] c (kOr s p q) W:=by
 cases s with
 |true=>
  rw[V6]
  refine Ch.enter h Tryz.func53 I I I ?_
  refine zA (zB (wP I (Aa (zE (zA (zA (zB (wP I ?_))))))))
  refine AP I I I I ?_
  exact wP I (wB 1 I I I (wP I (Aa (zE (zR I (zA (zB (wP I (Aa (zE (zO (zP (A8 tH I (.tmp I) () I tO fun W1 hp=>FB hp)))))))))))))
 |false=>
  have one: ∀(v:Int) (z:Bool),cmV p q= .tuple #[.int .i64 v, .int .i64 (erI z)]→Ic 53 [An c,str (Af p),str (Af q)] c (v,z) W:=fun v z hvz=>by
   refine Ch.enter h Tryz.func53 I I I ?_
   refine zA (zB (wP I (Aa (zE (zA (zA (zB (wP I ?_))))))))
   refine AP I I I I ?_
   refine wP I (wB 1 I I I (wP I (Aa (zE (zS I (zI (zE (zA (zB (wP I (wP I (wC I I (fun W1 hp1=>(Kc p q hp hq W1 (h.at_ (bs:=[]) hp1).v (h.at_ (bs:=[]) hp1).t).cast hvz) ?_))))))))))))
   iterate 5 refine wP I ?_
   refine Aa (zE (zA (zB (wP I (wP I ?_)))))
   refine AP I I I I ?_
   exact wP I (wS 1 I I I (Aa (zE (zA (zB (wP I (wP I (Aa (zE (zO (A8 tH I (.tmp I) () I tO fun W1 hp=>FB hp)))))))))))
  by_cases k:BK p q
  ·rw[RA k]
   exact one (DN p q) false (if_pos k)
  ·rw[V8 k]
   exact one 0 true (if_neg k)
-- BOXES 5
-- CODE2
def cvS (p:Ah):PtS:=(Af p.1,Af p.2)
-- BOXES 4
-- CODE2
theorem R8 {a:List UInt8} (h:(rdR a).2=0): ∃q,okQ q∧a=Af q:=by
 unfold rdR at h
 cases hf:frm a with
 |none=>rw[hf] at h;exact absurd h (by decide)
 |some x=>
  obtain⟨z,d⟩:=x
  rw[hf] at h
  simp only at h
  by_cases h1:z.natAbs<Bk∧d<Bk
  ·rw[if_pos h1] at h
   by_cases h2:Nat.gcd z.natAbs d=1
   ·obtain⟨h3,h4⟩:=KQ hf
    exact⟨⟨z,d,by omega,h2⟩,⟨h1.1,by unfold okN;rw[Int.natAbs_natCast];exact h1.2⟩,h4⟩
   ·rw[if_neg h2] at h;exact absurd h (by decide)
  ·rw[if_neg h1] at h;exact absurd h (by decide)
-- BOXES 4
-- CODE2
theorem MB: ∀ {l:List PtS},I1 l=0→ ∃m:List Ah,l=m.map cvS∧ ∀x∈m,okP x
 |[],_=>⟨[],rfl,fun _ h=>absurd h (by simp)⟩
 |x::l,h=>by
  have h:(if (rdR x.1).2≠0 then(rdR x.1).2 else if (rdR x.2).2≠0 then(rdR x.2).2 else I1 l)=0:=h
  by_cases h1:(rdR x.1).2=0
  ·rw[if_neg (by simp[h1])] at h
   by_cases h2:(rdR x.2).2=0
   ·rw[if_neg (by simp[h2])] at h
    obtain⟨m,rfl,hm⟩:=MB h
    obtain⟨q1,o1,e1⟩:=R8 h1
    obtain⟨q2,o2,e2⟩:=R8 h2
    refine⟨(q1,q2)::m, ?_,fun y hy=> ?_⟩
    ·rw[List.map_cons,cvS, ←e1, ←e2]
    ·rcases List.mem_cons.1 hy with rfl|hy
     ·exact⟨o1,o2⟩
     ·exact hm y hy
   ·rw[if_pos h2] at h
    exact absurd h h2
  ·rw[if_pos h1] at h
   exact absurd h h1
abbrev Ls:=Option Addr×Nat×List PtS
abbrev lsV (x:Ls):Value:=slv x.1 x.2.2.length x.2.1
structure LsP (W:World) (g off:Nat) (xs:List Ls):Prop where
 r:Ar W g off (xs.map lsV)
 p: ∀x∈xs,GN W x.1 x.2.2
theorem LsP.hp {W0 W:World} {bxs:List Bx} {g off:Nat} {xs:List Ls} (h:LsP W0 g off xs) (hp:Hp W0 bxs W):LsP W g off xs:=⟨h.r.hp hp,fun x hx=>(h.p x hx).hp hp⟩
theorem LsP.row {W:World} {g off:Nat} {xs:List Ls} (h:LsP W g off xs) {i:Nat} (hi:i<xs.length):Ar W g (off+i*1) [lsV xs[i]]:=by
 refine⟨h.r.lt,fun j u hu=> ?_⟩
 have hj:j=0:=by have:=(List.getElem?_eq_some_iff.1 hu).1;simpa using this
 subst hj
 have:=h.r.get i (lsV xs[i]) (by rw[List.getElem?_map,List.getElem?_eq_getElem hi];rfl)
 rw[Nat.mul_one,Nat.add_zero,this]
 simpa using hu
theorem Jw {α:Type} {F:α→Bool} {l:List α} {i:Nat} (h:i<l.length):(l.drop i).any F=(F l[i]||(l.drop (i+1)).any F):=by
 rw[List.drop_eq_getElem_cons h,List.any_cons]
def Jb (x:Ls):Bool:=HC x.2.2
theorem Mf (xs:List Ls) (hn:xs.length≤100000) (hl: ∀x∈xs,x.2.2.length<4611686018427387904) (g off cap:Nat) (W:World) (hS:LsP W g off xs):
  Ap Tryz.prog 124 #[slv (some ⟨g,off,none⟩) xs.length cap, .func (.func 58) #[] #[]] W (fun z:Int=> .int .i64 z) (fun z=>0≤z↔xs.any Jb=true) (fun _=>[]):=by
 refine Ae (args:=[slv (some ⟨g,off,none⟩) xs.length cap, .func (.func 58) #[] #[]]) Tryz.func124 I I I ?_
 refine zA (zB (wP I (Aa (zE (zA (zA (zB (wP I (wP I (wP I (Aa (zE (zH ?_)))))))))))))
 refine A9 (X:=Nat) (fun i=>[(0,slv (some ⟨g,off,none⟩) xs.length cap),(1, .func (.func 58) #[] #[]),(6,slv (some ⟨g,off,none⟩) xs.length cap),(7, .int .i64 (xs.length:Nat)),(8, .int .i64 (i:Nat))]) (fun _=>[]) (fun i=>i≤xs.length∧xs.any Jb=(xs.drop i).any Jb) (fun i=>xs.length-i) 0 ⟨Nat.zero_le _,by rw[List.drop_zero]⟩ ⟨I,I,I,I,I,tO⟩ [] I ?_
 intro i hi
 obtain⟨hi,hA⟩:i≤xs.length∧xs.any Jb=(xs.drop i).any Jb:=hi
 refine zA (zB (wP I ?_))
 by_cases hlt:i<xs.length
 rotate_left
 ·refine wU 9 false I (dF (by omega)) (Aa (zE (zA (zS I (zJ (zK (zK (zL (zE (zA (zB (wP I (Aa ?_)))))))))))))
  refine zE (zO ?_)
  rw[List.drop_of_length_le (by omega)] at hA
  exact A8 tH I (.tmp I) (-1:Int) I (by rw[hA];exact⟨fun h=>absurd h (by decide),fun h=>absurd (show false=true from h) (by decide)⟩) fun W _=>A3.nil _ _
 refine wU 9 true I (dT (by omega)) (Aa (zE (zA (zR I (zI (zE (zA (zH (zA (zB ?_))))))))))
 have hr:=hS.row hlt
 rw[Jw hlt] at hA
 have hx:xs[i]∈xs:=List.getElem_mem _
 obtain⟨x,hq⟩: ∃x,x=xs[i]:=⟨_,rfl⟩
 rw[←hq] at hr hA hx
 refine wP I (wP I (Aa (zE (zA (zB (wP I (wP I (wP I ?_))))))))
 refine wJ ?_
 refine wL 0 I I (fun W1 hp=>hr.hp hp) I ?_
 refine AW (capt:=[]) I I I I I I (by kernel_rfl) (fun W1 hp=>LX W1 x.1 x.2.1 x.2.2 ((hS.p x hx).hp hp) (hl x hx)) ?_
 refine Aa (zE ?_)
 refine AA I (fun hc=> ?_) (fun hc=> ?_)
 ·have hc:Jb x=true:=hc
  exact zA (zB (wP I (wP I (Aa (zE (zO (zQ (zP (zP (zQ (zP (A8 tH I (.tmp I) ((i:Nat):Int) I ⟨fun _=>by rw[hA,hc];rfl,fun _=>by omega⟩ fun W _=>A3.nil _ _))))))))))))
 ·have hc:Jb x=false:=hc
  rw[hc,Bool.false_or] at hA
  exact zI (zN (zE (zB (wP I (wV 18 ((i+1:Nat):Int) I (Av (by omega)) (wP I (Aa (A0 (i+1) ⟨hlt,hA⟩ (by show xs.length-(i+1)<xs.length-i;omega) ⟨I,I,I,I,I,tO⟩ [] I))))))))
theorem Jk (xs:List Ls) (hn:xs.length≤100000) (hl: ∀x∈xs,x.2.2.length<4611686018427387904) (g off cap:Nat) (W:World) (hS:LsP W g off xs):
  Ap Tryz.prog 57 #[slv (some ⟨g,off,none⟩) xs.length cap, .func (.func 58) #[] #[]] W (fun _:Unit=> .bool (xs.any Jb)) (fun _=>True) (fun _=>[]):=by
 refine Ae (args:=[slv (some ⟨g,off,none⟩) xs.length cap, .func (.func 58) #[] #[]]) Tryz.func57 I I I ?_
 refine zA (zB (wP I (Aa (zE (zA (zB (wP I (wP I ?_))))))))
 refine wD (X:=Int) I I (fun W1 hp=>Mf xs hn hl g off cap W1 (hS.hp hp)) ?_
 intro z hz
 have hz:0≤z↔xs.any Jb=true:=hz
 refine wP I ?_
 refine Al 8 (.bool (xs.any Jb)) I (congrArg Value.bool (by
  cases h:xs.any Jb with
  |true=>exact dT (hz.2 h)
  |false=>exact dF fun h2=>by rw[hz.1 h2] at h;cases h)) ?_
 exact wP I (Aa (zE (zO (wR1 I I I))))
theorem Nz (xs:List Ls) (hn:xs.length≤100000) (hl: ∀x∈xs,x.2.2.length<4611686018427387904) (g off cap:Nat) (W:World) (hS:LsP W g off xs):
  Ap Tryz.prog 20 #[slv (some ⟨g,off,none⟩) xs.length cap] W (fun _:Unit=> .bool (xs.any Jb)) (fun _=>True) (fun _=>[]):=by
 refine Ae (args:=[slv (some ⟨g,off,none⟩) xs.length cap]) Tryz.func20 I I I ?_
 refine zA (zB (wP I (Aa (zE (zA (zB (wP I ?_)))))))
 refine AW (capt:=[]) I I I I I I (by kernel_rfl) (fun W1 hp=>Jk xs hn hl g off cap W1 (hS.hp hp)) ?_
 exact wP I (Aa (zE (zO (wR1 I I I))))
theorem LY (g:Nat) (hE:Bd Tryz.prog g=true) (F:PtS→Bool) (hg: ∀x W,Ap Tryz.prog g #[.agg #[str x.1,str x.2]] W (fun _:Unit=> .bool (F x)) (fun _=>True) (fun _=>[])) (xs:List PtS) (hn:xs.length≤100000) (p:Option Addr) (cap:Nat) (W:World) (hS:GN W p xs):
  Ap Tryz.prog 81 #[slv p xs.length cap, .func (.func g) #[] #[]] W (fun z:Int=> .int .i64 z) (fun z=>0≤z↔xs.any F=true) (fun _=>[]):=by
 refine Ae (args:=[slv p xs.length cap, .func (.func g) #[] #[]]) Tryz.func81 I I I ?_
 refine zA (zB (wP I (Aa (zE (zA (zA (zB (wP I (wP I (wP I (Aa (zE (zH ?_)))))))))))))
 refine A9 (X:=Nat) (fun i=>[(0,slv p xs.length cap),(1, .func (.func g) #[] #[]),(6,slv p xs.length cap),(7, .int .i64 (xs.length:Nat)),(8, .int .i64 (i:Nat))]) (fun _=>[]) (fun i=>i≤xs.length∧xs.any F=(xs.drop i).any F) (fun i=>xs.length-i) 0 ⟨Nat.zero_le _,by rw[List.drop_zero]⟩ ⟨I,I,I,I,I,tO⟩ [] I ?_
 intro i hi
 obtain⟨hi,hA⟩:i≤xs.length∧xs.any F=(xs.drop i).any F:=hi
 refine zA (zB (wP I ?_))
 by_cases hlt:i<xs.length
 rotate_left
 ·refine wU 9 false I (dF (by omega)) (Aa (zE (zA (zS I (zJ (zK (zK (zL (zE (zA (zB (wP I (Aa ?_)))))))))))))
  refine zE (zO ?_)
  rw[List.drop_of_length_le (by omega)] at hA
  exact A8 tH I (.tmp I) (-1:Int) I (by rw[hA];exact⟨fun h=>absurd h (by decide),fun h=>absurd (show false=true from h) (by decide)⟩) fun W _=>A3.nil _ _
 refine wU 9 true I (dT (by omega)) (Aa (zE (zA (zR I (zI (zE (zA (zH (zA (zB ?_))))))))))
 obtain⟨b,off,rfl,hrow⟩: ∃b off,p=some ⟨b,off,none⟩∧ ∀i (hi:i<xs.length),Ar W b (off+i*2) [str xs[i].1,str xs[i].2]:=by
  rcases hS with h|h
  ·rw[h] at hlt;exact absurd hlt (by simp)
  ·exact h
 have hr:=hrow i hlt
 rw[Jw hlt] at hA
 obtain⟨x,hq⟩: ∃x,x=xs[i]:=⟨_,rfl⟩
 rw[←hq] at hr hA
 refine wP I (wP I (Aa (zE (zA (zB (wP I (wP I (wP I ?_))))))))
 refine wJ ?_
 refine wL 0 I I (fun W1 hp=>hr.hp hp) I ?_
 refine AW (capt:=[]) I I I I I I hE (fun W1 _=>hg x W1) ?_
 refine Aa (zE ?_)
 refine AA I (fun hc=> ?_) (fun hc=> ?_)
 ·have hc:F x=true:=hc
  exact zA (zB (wP I (wP I (Aa (zE (zO (zQ (zP (zP (zQ (zP (A8 tH I (.tmp I) ((i:Nat):Int) I ⟨fun _=>by rw[hA,hc];rfl,fun _=>by omega⟩ fun W _=>A3.nil _ _))))))))))))
 ·have hc:F x=false:=hc
  rw[hc,Bool.false_or] at hA
  exact zI (zN (zE (zB (wP I (wV 18 ((i+1:Nat):Int) I (Av (by omega)) (wP I (Aa (A0 (i+1) ⟨hlt,hA⟩ (by show xs.length-(i+1)<xs.length-i;omega) ⟨I,I,I,I,I,tO⟩ [] I))))))))
theorem Jq (g:Nat) (hE:Bd Tryz.prog g=true) (F:PtS→Bool) (hg: ∀x W,Ap Tryz.prog g #[.agg #[str x.1,str x.2]] W (fun _:Unit=> .bool (F x)) (fun _=>True) (fun _=>[])) (xs:List PtS) (hn:xs.length≤100000) (p:Option Addr) (cap:Nat) (W:World) (hS:GN W p xs):
  Ap Tryz.prog 29 #[slv p xs.length cap, .func (.func g) #[] #[]] W (fun _:Unit=> .bool (xs.any F)) (fun _=>True) (fun _=>[]):=by
 refine Ae (args:=[slv p xs.length cap, .func (.func g) #[] #[]]) Tryz.func29 I I I ?_
 refine zA (zB (wP I (Aa (zE (zA (zB (wP I (wP I ?_))))))))
 refine wD (X:=Int) I I (fun W1 hp=>LY g hE F hg xs hn p cap W1 (hS.hp hp)) ?_
 intro z hz
 have hz:0≤z↔xs.any F=true:=hz
 refine wP I ?_
 refine Al 8 (.bool (xs.any F)) I (congrArg Value.bool (by
  cases h:xs.any F with
  |true=>exact dT (hz.2 h)
  |false=>exact dF fun h2=>by rw[hz.1 h2] at h;cases h)) ?_
 exact wP I (Aa (zE (zO (wR1 I I I))))
theorem KW {l:List PtS} (h:HC l=false):l.length≤8∧ ∀x∈l,x.1.length≤604∧x.2.length≤604:=by
 unfold HC at h
 rw[Bool.or_eq_false_iff] at h
 refine⟨by have:=of_decide_eq_false h.2;omega,fun x hx=> ?_⟩
 have h1:=List.any_eq_false.1 h.1 x hx
 have h2:JW x=false:=by cases e:JW x with
  |true=>exact absurd e h1
  |false=>rfl
 unfold JW at h2
 rw[Bool.or_eq_false_iff] at h2
 have one: ∀a:List UInt8,Gz a=false→a.length≤604:=fun a ha=>by
  unfold Gz at ha
  rw[Bool.or_eq_false_iff] at ha
  have:=of_decide_eq_false ha.2
  omega
 exact⟨one _ h2.1,one _ h2.2⟩
-- BOXES 8
-- CODE2
abbrev caF (c:Nat) (s:Bool):Bx:=⟨c,61,[.int .i64 (erI s)],false,none⟩
def kLf (s:Bool) (p q r:Ah):Int×Bool:=
 kOr (kMu (kMu (kSb (kSb (kSb (kSb s q.1 p.1).2 r.2 p.2).2 q.2 p.2).2 r.1 p.1).2 (kSb s q.1 p.1).1 (kSb (kSb s q.1 p.1).2 r.2 p.2).1).2 (kSb (kSb (kSb s q.1 p.1).2 r.2 p.2).2 q.2 p.2).1 (kSb (kSb (kSb (kSb s q.1 p.1).2 r.2 p.2).2 q.2 p.2).2 r.1 p.1).1).2
  (kMu (kSb (kSb (kSb (kSb s q.1 p.1).2 r.2 p.2).2 q.2 p.2).2 r.1 p.1).2 (kSb s q.1 p.1).1 (kSb (kSb s q.1 p.1).2 r.2 p.2).1).1
  (kMu (kMu (kSb (kSb (kSb (kSb s q.1 p.1).2 r.2 p.2).2 q.2 p.2).2 r.1 p.1).2 (kSb s q.1 p.1).1 (kSb (kSb s q.1 p.1).2 r.2 p.2).1).2 (kSb (kSb (kSb s q.1 p.1).2 r.2 p.2).2 q.2 p.2).1 (kSb (kSb (kSb (kSb s q.1 p.1).2 r.2 p.2).2 q.2 p.2).2 r.1 p.1).1).1
structure JY (p q r:Ah):Prop where
 a:J4 q.1 p.1
 b:J4 r.2 p.2
 c:J4 q.2 p.2
 d:J4 r.1 p.1
 m:Gy (q.1-p.1) (r.2-p.2)
 n:Gy (q.2-p.2) (r.1-p.1)
 o:BK ((q.1-p.1)*(r.2-p.2)) ((q.2-p.2)*(r.1-p.1))
theorem Mo {ok:Prop} [Decidable ok] {r:Rat} {s:Bool}:(opR ok r s).2=false↔s=false∧ok:=by
 cases s with
 |true=>rw[SK];simp
 |false=>
  by_cases c:ok
  ·rw[Fh c];simp[c]
  ·rw[TS c];simp[c]
theorem TN {s:Bool} {p q:Rat}:(kOr s p q).2=false↔s=false∧BK p q:=by
 cases s with
 |true=>rw[V6];simp
 |false=>
  by_cases c:BK p q
  ·rw[RA c];simp[c]
  ·rw[V8 c];simp[c]
theorem VC {p q r:Ah} (h:JY p q r):kLf false p q r=(QB p q r,false):=by
 have a:kSb false q.1 p.1=(q.1-p.1,false):=Fh h.a
 have b:kSb false r.2 p.2=(r.2-p.2,false):=Fh h.b
 have c:kSb false q.2 p.2=(q.2-p.2,false):=Fh h.c
 have d:kSb false r.1 p.1=(r.1-p.1,false):=Fh h.d
 unfold kLf
 simp only[a,b,c,d]
 have m:kMu false (q.1-p.1) (r.2-p.2)=((q.1-p.1)*(r.2-p.2),false):=Fh h.m
 have n:kMu false (q.2-p.2) (r.1-p.1)=((q.2-p.2)*(r.1-p.1),false):=Fh h.n
 simp only[m,n]
 rw[RA h.o];rfl
theorem WF {s:Bool} {p q r:Ah}:(kLf s p q r).2=false↔s=false∧JY p q r:=by
 constructor
 ·intro h
  unfold kLf at h
  have h7:=TN.1 h
  have h6:=Mo.1 h7.1
  have h5:=Mo.1 h6.1
  have h4:=Mo.1 h5.1
  have h3:=Mo.1 h4.1
  have h2:=Mo.1 h3.1
  have h1:=Mo.1 h2.1
  obtain⟨rfl,a⟩:=h1
  have ea:kSb false q.1 p.1=(q.1-p.1,false):=Fh a
  have b:=h2.2
  have c:=h3.2
  have d:=h4.2
  have eb:kSb false r.2 p.2=(r.2-p.2,false):=Fh b
  have ec:kSb false q.2 p.2=(q.2-p.2,false):=Fh c
  have ed:kSb false r.1 p.1=(r.1-p.1,false):=Fh d
  have m:=h5.2
  have n:=h6.2
  have o:=h7.2
  simp only[ea,eb,ec,ed] at m n o
  have em:kMu false (q.1-p.1) (r.2-p.2)=((q.1-p.1)*(r.2-p.2),false):=Fh m
  have en:kMu false (q.2-p.2) (r.1-p.1)=((q.2-p.2)*(r.1-p.1),false):=Fh n
  simp only[em,en] at o
  exact⟨I,a,b,c,d,m,n,o⟩
 ·rintro⟨rfl,h⟩
  rw[VC h]
theorem Il (c:Nat) (s:Bool) (p q r:Ah) (hp:okP p) (hq:okP q) (hr:okP r) (W:World) (h:KcP c s W):Ic 55 [An c,cvV p,cvV q,cvV r] c (kLf s p q r) W:=by
 obtain⟨x1,e1⟩: ∃x,x=kSb s q.1 p.1:=⟨_,rfl⟩
 obtain⟨x2,e2⟩: ∃x,x=kSb x1.2 r.2 p.2:=⟨_,rfl⟩
 obtain⟨x3,e3⟩: ∃x,x=kSb x2.2 q.2 p.2:=⟨_,rfl⟩
 obtain⟨x4,e4⟩: ∃x,x=kSb x3.2 r.1 p.1:=⟨_,rfl⟩
 obtain⟨x5,e5⟩: ∃x,x=kMu x4.2 x1.1 x2.1:=⟨_,rfl⟩
 obtain⟨x6,e6⟩: ∃x,x=kMu x5.2 x3.1 x4.1:=⟨_,rfl⟩
 obtain⟨x7,e7⟩: ∃x,x=kOr x6.2 x5.1 x6.1:=⟨_,rfl⟩
 have eL:kLf s p q r=x7:=by rw[e7,e6,e5,e4,e3,e2,e1];rfl
 have o1:okQ x1.1:=by rw[e1];exact Ng _ _ _
 have o2:okQ x2.1:=by rw[e2];exact Ng _ _ _
 have o3:okQ x3.1:=by rw[e3];exact Ng _ _ _
 have o4:okQ x4.1:=by rw[e4];exact Ng _ _ _
 have o5:okQ x5.1:=by rw[e5];exact TK _ _ _
 have o6:okQ x6.1:=by rw[e6];exact TK _ _ _
 have c1: ∀W1,KcP c s W1→GT 59 [An c,str (Af q.1),str (Af p.1)] c x1 W1:=fun W1 h=>by rw[e1];exact Fu c s _ _ hq.1 hp.1 W1 h
 have c2: ∀W1,KcP c x1.2 W1→GT 59 [An c,str (Af r.2),str (Af p.2)] c x2 W1:=fun W1 h=>by rw[e2];exact Fu c _ _ _ hr.2 hp.2 W1 h
 have c3: ∀W1,KcP c x2.2 W1→GT 59 [An c,str (Af q.2),str (Af p.2)] c x3 W1:=fun W1 h=>by rw[e3];exact Fu c _ _ _ hq.2 hp.2 W1 h
 have c4: ∀W1,KcP c x3.2 W1→GT 59 [An c,str (Af r.1),str (Af p.1)] c x4 W1:=fun W1 h=>by rw[e4];exact Fu c _ _ _ hr.1 hp.1 W1 h
 have c5: ∀W1,KcP c x4.2 W1→GT 60 [An c,str (Af x1.1),str (Af x2.1)] c x5 W1:=fun W1 h=>by rw[e5];exact J2 c _ _ _ o1 o2 W1 h
 have c6: ∀W1,KcP c x5.2 W1→GT 60 [An c,str (Af x3.1),str (Af x4.1)] c x6 W1:=fun W1 h=>by rw[e6];exact J2 c _ _ _ o3 o4 W1 h
 have c7: ∀W1,KcP c x6.2 W1→Ic 53 [An c,str (Af x5.1),str (Af x6.1)] c x7 W1:=fun W1 h=>by rw[e7];exact Ed c _ _ _ o5 o6 W1 h
 rw[eL]
 clear eL e1 e2 e3 e4 e5 e6 e7
 refine Ch.enter h Tryz.func55 I I I ?_
 refine zA (zB ?_)
 (refine AD rfl rfl rfl rfl ?_;intro)
 (refine AD rfl rfl rfl rfl ?_;intro)
 (refine AD rfl rfl rfl rfl ?_;intro)
 refine wP I (Aa ?_)
 rename_i b5 b6 b7
 refine zE (Au ?_)
 refine AU (X:=Unit) [true,true,true,true,true,false,true,true,true,true,true,false,false,false] (fun _=>[(0,An c),(5,An b5),(6,An b6),(7,An b7),(9,str (Af x1.1)),(10,str (Af x2.1))]) (fun _=>[Ax (Ai W c),caE c x2.2,ptB b5 (Af p.1) (Af p.2),ptB b6 (Af q.1) (Af q.2),ptB b7 (Af r.1) (Af r.2)])
  4 [Ax (Ai W c),caF c s,ptB b5 (Af p.1) (Af p.2),ptB b6 (Af q.1) (Af q.2),ptB b7 (Af r.1) (Af r.2)] Tryz.mixed (by kernel_rfl) ?_ ?_
 ·refine qP I (qP I (qB 3 I I I (qP I (qB 2 I I I (qP I (qP I (qB 4 I I I (qP I (qB 2 I I I (B6 (wX (wZ ?_))))))))))))
  refine Ci 1 c I I I I I I (by kernel_rfl) I (fun W1 hp1=>c1 W1 (h.at_ (bs:=[ptB b5 (Af p.1) (Af p.2),ptB b6 (Af q.1) (Af q.2),ptB b7 (Af r.1) (Af r.2)]) hp1)) ?_
  refine Aa (Ab (wX (wZ ?_)))
  refine Ci 1 c I I I I I I (by kernel_rfl) I (fun W1 hp1=>c2 W1 (h.at_ (bs:=[ptB b5 (Af p.1) (Af p.2),ptB b6 (Af q.1) (Af q.2),ptB b7 (Af r.1) (Af r.2)]) hp1)) ?_
  refine Aa (Ab (wX (wZ (wP I (Aa (Ab (wX (wZ (wP I (Aa (Ab ?_)))))))))))
  refine AI I (by((repeat (first|refine AN.same ?_|refine AN.off I ?_));exact tO)) ?_
  exact Ag () ⟨I,I,I,I,I,I,tO⟩ [0,1,2,3,4] (by decide) I
 intro _
 refine zE (Au ?_)
 refine AU (X:=Unit) [true,true,true,true,true,false,true,true,true,true,true,false,false,false] (fun _=>[(0,An c),(9,str (Af x1.1)),(10,str (Af x2.1)),(11,str (Af x3.1)),(12,str (Af x4.1))]) (fun _=>[Ax (Ai W c),caE c x4.2])
  4 [Ax (Ai W c),caF c x2.2,ptB b5 (Af p.1) (Af p.2),ptB b6 (Af q.1) (Af q.2),ptB b7 (Af r.1) (Af r.2)] Tryz.mixed (by kernel_rfl) ?_ ?_
 ·refine qP I (qP I (qB 3 I I I (qP I (qB 2 I I I (qP I (qP I (qB 4 I I I (qP I (qB 2 I I I (B6 (wX (wZ ?_))))))))))))
  refine Ci 1 c I I I I I I (by kernel_rfl) I (fun W1 hp1=>c3 W1 (h.at_ (bs:=[ptB b5 (Af p.1) (Af p.2),ptB b6 (Af q.1) (Af q.2),ptB b7 (Af r.1) (Af r.2)]) hp1)) ?_
  refine Aa (Ab (wX (wZ ?_)))
  refine Ci 1 c I I I I I I (by kernel_rfl) I (fun W1 hp1=>c4 W1 (h.at_ (bs:=[ptB b5 (Af p.1) (Af p.2),ptB b6 (Af q.1) (Af q.2),ptB b7 (Af r.1) (Af r.2)]) hp1)) ?_
  refine Aa (Ab (wX (wZ (wP I (Aa (Ab (wX (wZ (wP I (Aa (Ab ?_)))))))))))
  refine AI I (by((repeat (first|refine AN.same ?_|refine AN.off I ?_));exact tO)) ?_
  exact Ag () ⟨I,I,I,I,I,tO⟩ [0,1] (by decide) I
 intro _
 refine zE (zA (zB (wP I (wP I (wP I (wP I ?_))))))
 refine Ci 1 c I I I I I I (by kernel_rfl) I (fun W1 hp1=>c5 W1 (h.at_ (bs:=[]) hp1)) ?_
 refine wP I (wP I (wP I ?_))
 refine Ci 1 c I I I I I I (by kernel_rfl) I (fun W1 hp1=>c6 W1 (h.at_ (bs:=[]) hp1)) ?_
 refine Ci 1 c I I I I I I (by kernel_rfl) I (fun W1 hp1=>c7 W1 (h.at_ (bs:=[]) hp1)) ?_
 exact wP I (Aa (zE (zO (A8 tH I (.tmp I) () I tO fun W1 hp=>FB hp))))
theorem Jj.of {c:Nat} {p q r:Ah} (hp:okP p) (hq:okP q) (hr:okP r) (h:JY p q r) {W:World} (hk:KcP c false W):Jj c p q r W:=by
 have:=Il c false p q r hp hq hr W hk
 rw[VC h] at this
 exact this.same hk.o
theorem Gs {c:Nat} {p q:Rat} (hp:okQ p) (hq:okQ q) (h:BK p q) {W:World} (hk:KcP c false W):Ap Tryz.prog 53 #[An c,str (Af p),str (Af q)] W (fun _:Unit=> .int .i64 (DN p q)) (fun _=>True) (fun _=>[]):=by
 have:=Ed c false p q hp hq W hk
 rw[RA h] at this
 exact this.same hk.o
theorem KcP.below {c:Nat} {s:Bool} {W W':World} (h:KcP c s W) (hb:Below W.heap.size W W'):KcP c s W':=
 ⟨(hb.block c (Array.getElem?_eq_some_iff.1 h.o).1).trans h.o,fun _ h2=>h.k _ (CC.trans ⟨hb.os,hb.tape,hb.output,hb.size,fun x _ hx=>hb.block x hx⟩ h2)⟩
theorem KcP.hp {c:Nat} {s:Bool} {W0 W:World} {bxs:List Bx} (h:KcP c s W0) (hp:Hp W0 bxs W):KcP c s W:=h.below hp.below
theorem GS.of {c:Nat} {p q:Ah} (hp:okP p) (hq:okP q) (h1:BK p.1 q.1) (h2:BK p.2 q.2) {W:World} (hk:KcP c false W):GS c p q W:=by
 refine Ae (args:=[An c,cvV p,cvV q]) Tryz.func71 I I I ?_
 refine zA (zB ?_)
 (refine AD rfl rfl rfl rfl ?_;intro)
 (refine AD rfl rfl rfl rfl ?_;intro)
 refine wP I (Aa (zE (zA (zA (zB (wP I (wP I (wB 0 I I I (wP I (wB 1 I I I ?_))))))))))
 rcases EZ p.1 q.1 with e|e|e
 ·refine wC I I (fun W hp1=>(Gs hp.1 hq.1 h1 (hk.hp hp1)).cast (congrArg (Value.int .i64) e)) (wP I (Aa (zE (zA (zB (wP I (wP I (Aa (zE (zR I (zA (zB (wP I (wP I ?_))))))))))))))
  exact Aa (zE (zO (zP (wR1 I I (by rw[GP,e,if_neg (by decide)])))))
 ·refine wC I I (fun W hp1=>(Gs hp.1 hq.1 h1 (hk.hp hp1)).cast (congrArg (Value.int .i64) e)) (wP I (Aa (zE (zA (zB (wP I (wP I (Aa (zE (zS I (zI (zE (zA ?_)))))))))))))
  exact zB (wP I (wP I (wB 0 I I I (wP I (wB 1 I I I (wC I I (fun W hp1=>Gs hp.2 hq.2 h2 (hk.hp hp1)) (wP I (Aa (zE (zO (wR1 I I (by rw[GP,if_pos e]))))))))))))
 ·refine wC I I (fun W hp1=>(Gs hp.1 hq.1 h1 (hk.hp hp1)).cast (congrArg (Value.int .i64) e)) (wP I (Aa (zE (zA (zB (wP I (wP I (Aa (zE (zR I (zA (zB (wP I (wP I ?_))))))))))))))
  exact Aa (zE (zO (zP (wR1 I I (by rw[GP,e,if_neg (by decide)])))))
-- BOXES 8
-- CODE2
theorem BU.keep {W W1:World} {p:Option Addr} {l:List Ah} {c:Nat} {s:Bool} (h:BU W p l) (ho:W.heap[c]? =some (caO s)) (hK:CC W W1 c):BU W1 p l:=by
 rcases h with h|⟨b,off,e,h⟩
 ·exact .inl h
 refine .inr ⟨b,off,e,fun i hi=> ?_⟩
 have hr:=h i hi
 have hne:b≠c:=fun e=>by
  subst e
  have h0:=hr.get 0 (str (Af l[i].1)) rfl
  simp only[World.cell?,ho] at h0
  generalize off+i*2+0=k at h0
  cases k with
  |zero=>simp at h0
  |succ k=>simp at h0
 refine⟨Nat.lt_of_lt_of_le hr.lt hK.size,fun j u hu=> ?_⟩
 have h1:=hr.get j u hu
 have h2:=hK.at_ b hne hr.lt
 simp only[World.cell?] at h1⊢
 rw[h2]
 exact h1
theorem BU.kc {W W1:World} {p:Option Addr} {l:List Ah} {c:Nat} {s s1:Bool} {bs:List Bx} (h:BU W p l) (ho:W.heap[c]? =some (caO s)) (hp:Hp (AE W) (Ax (Ai W c)::caE c s1::bs) W1):BU W1 p l:=
 h.keep ho (BV ho ⟨_,List.mem_cons_self ..⟩ (Hp.take (bxs:=[Ax (Ai W c),caE c s1]) (nb:=bs) hp))
structure Tr (l:List Ah) (a b:Nat):Prop where
 x:BK (Ac l a).1 (Ac l b).1
 y:BK (Ac l a).2 (Ac l b).2
 t: ∀d,d<l.length→JY (Ac l a) (Ac l b) (Ac l d)
def Ez (l:List Ah):Prop:= ∀a,a<l.length→ ∀b,b<l.length→Tr l a b
theorem LS (c:Nat) (l:List Ah) (h0:0<l.length) (hn:l.length≤4096) (hq: ∀p∈l,okP p) (p:Option Addr) (cap:Nat) (W:World) (hA:BU W p l) (h:KcP c false W):
  Ch 74 [An c,slv p l.length cap] c (fun s:Bool=>s) (fun s=> .int .i64 (erI s)) (fun s=>s=false↔Ez l) W:=by
 obtain⟨g,off,hpe,_⟩:=hA.at_ h0
 have hrow: ∀ {W1:World} {s1:Bool} {bs:List Bx},Hp (AE W) (Ax (Ai W c)::caE c s1::bs) W1→ ∀j,j<l.length→Ar W1 g (off+j*2) [str (Af (Ac l j).1),str (Af (Ac l j).2)]:=fun hp j hj=>by
  obtain⟨g',off',e',h2⟩:=(hA.kc h.o hp).at_ hj
  rw[hpe] at e'
  cases e'
  rw[AF hj]
  exact h2 j hj
 have ok: ∀j,okP (Ac l j):=fun j=>hq _ (AK h0 j)
 subst hpe
 refine Ch.enter h Tryz.func74 I I I ?_
 refine zA (zB (wP I (Aa (zE (zA (zA (zB (wP I (wP I (wP I (Aa (zE (zH ?_)))))))))))))
 refine A9 (X:=Nat) (fun i=>[(0,An c),(1,slv (some ⟨g,off,none⟩) l.length cap),(11,slv (some ⟨g,off,none⟩) l.length cap),(12, .int .i64 (l.length:Nat)),(13, .int .i64 (i:Nat))]) (fun _=>[Ax (Ai W c),caE c false]) (fun i=>i≤l.length∧ ∀a,a<i→ ∀b,b<l.length→Tr l a b) (fun i=>l.length-i) 0 ⟨Nat.zero_le _,fun _ h=>absurd h (Nat.not_lt_zero _)⟩ ⟨I,I,I,I,I,tO⟩ [] I ?_
 rintro i ⟨hi1,hi2⟩
 have hi1:i≤l.length:=hi1
 have hi2: ∀a,a<i→ ∀b,b<l.length→Tr l a b:=hi2
 refine zA (zB (wP I ?_))
 by_cases hi:i<l.length
 rotate_left
 ·obtain rfl:i=l.length:=by omega
  refine wU 14 false I (dF (by omega)) (Aa (zE (zA (zS I (zJ (zK (zK (zL (zE (zA (zB (wP I (Aa ?_)))))))))))))
  exact zE (zO (A8 tH I (.tmp I) false I ⟨fun _=>hi2,fun _=>rfl⟩ fun W1 hp=>FB hp))
 refine wU 14 true I (dT (by omega)) (Aa (zE (zA (zR I (zI (zE (zA (zH (zA (zB ?_))))))))))
 obtain⟨P,hP⟩: ∃P,P=Ac l i:=⟨_,rfl⟩
 have okPP:okP P:=hP▸ok i
 have rP: ∀ {W1:World} {s1:Bool} {bs:List Bx},Hp (AE W) (Ax (Ai W c)::caE c s1::bs) W1→Ar W1 g (off+i*2) [str (Af P.1),str (Af P.2)]:=fun hp=>by rw[hP];exact hrow hp i hi
 refine wJ ?_
 refine wL 0 I I (fun W1 hp=>rP (s1:=false) (bs:=[]) hp) I ?_
 (refine Ao Tryz.hZ rfl rfl rfl rfl ?_;intro)
 refine wS 2 I I I (Aa ?_)
 rename_i b6
 refine zE (zA (zB (wP I (wP I (wP I (Aa (zE (zH ?_))))))))
 refine A9 (X:=Nat) (fun k=>[(0,An c),(1,slv (some ⟨g,off,none⟩) l.length cap),(6,An b6),(11,slv (some ⟨g,off,none⟩) l.length cap),(12, .int .i64 (l.length:Nat)),(13, .int .i64 (i:Nat)),(17,slv (some ⟨g,off,none⟩) l.length cap),(18, .int .i64 (l.length:Nat)),(19, .int .i64 (k:Nat))]) (fun _=>[Ax (Ai W c),caE c false,ptB b6 (Af P.1) (Af P.2)]) (fun k=>k≤l.length∧ ∀b,b<k→Tr l i b) (fun k=>l.length-k) 0 ⟨Nat.zero_le _,fun _ h=>absurd h (Nat.not_lt_zero _)⟩ ⟨I,I,I,I,I,I,I,I,I,tO⟩ [] I ?_
 rintro k ⟨hk1,hk2⟩
 have hk1:k≤l.length:=hk1
 have hk2: ∀b,b<k→Tr l i b:=hk2
 refine zA (zB (wP I ?_))
 by_cases hk:k<l.length
 rotate_left
 ·obtain rfl:k=l.length:=by omega
  refine wU 20 false I (dF (by omega)) (Aa (zE (zA (zS I (zJ (zK (zK (zL (zN (zE (zB (wP I (wV 57 ((i+1:Nat):Int) I (Av (by omega)) ?_)))))))))))))
  refine wP I (Aa ?_)
  exact A0 (i+1) ⟨hi,fun a ha=>by
   by_cases e:a=i
   ·subst e;exact hk2
   ·exact hi2 a (by omega)⟩ (by show l.length-(i+1)<l.length-i;omega) ⟨I,I,I,I,I,tO⟩ [_] I
 refine wU 20 true I (dT (by omega)) (Aa (zE (zA (zR I (zI (zE (zA (zH (zA (zB ?_))))))))))
 obtain⟨Q,hQ⟩: ∃Q,Q=Ac l k:=⟨_,rfl⟩
 have okQQ:okP Q:=hQ▸ok k
 have rQ: ∀ {W1:World} {s1:Bool} {bs:List Bx},Hp (AE W) (Ax (Ai W c)::caE c s1::bs) W1→Ar W1 g (off+k*2) [str (Af Q.1),str (Af Q.2)]:=fun hp=>by rw[hQ];exact hrow hp k hk
 refine wJ ?_
 refine wL 0 I I (fun W1 hp=>rQ (s1:=false) (bs:=[ptB b6 (Af P.1) (Af P.2)]) hp) I ?_
 (refine Ao Tryz.hZ rfl rfl rfl rfl ?_;intro)
 refine wS 3 I I I (Aa ?_)
 rename_i b8
 obtain⟨x1,e1⟩: ∃x,x=kOr false P.1 Q.1:=⟨_,rfl⟩
 obtain⟨x2,e2⟩: ∃x,x=kOr x1.2 P.2 Q.2:=⟨_,rfl⟩
 have c1: ∀W1,KcP c false W1→Ic 53 [An c,str (Af P.1),str (Af Q.1)] c x1 W1:=fun W1 h=>by rw[e1];exact Ed c _ _ _ okPP.1 okQQ.1 W1 h
 have c2: ∀W1,KcP c x1.2 W1→Ic 53 [An c,str (Af P.2),str (Af Q.2)] c x2 W1:=fun W1 h=>by rw[e2];exact Ed c _ _ _ okPP.2 okQQ.2 W1 h
 have hx:x2.2=false↔BK P.1 Q.1∧BK P.2 Q.2:=by
  rw[e2,TN,e1,TN]
  exact⟨fun h=>⟨h.1.2,h.2⟩,fun h=>⟨⟨I,h.1⟩,h.2⟩⟩
 refine zE (zA (zB (wP I (wP I (wB 2 I I I (wP I (wB 3 I I I ?_)))))))
 refine Ci 1 c I I I I I I (by kernel_rfl) I (fun W1 hp1=>c1 W1 (h.at_ (bs:=[ptB b6 (Af P.1) (Af P.2),ptB b8 (Af Q.1) (Af Q.2)]) hp1)) ?_
 refine Aa (zE (zA (zB (wP I (wP I (wB 2 I I I (wP I (wB 3 I I I ?_))))))))
 refine Ci 1 c I I I I I I (by kernel_rfl) I (fun W1 hp1=>c2 W1 (h.at_ (bs:=[ptB b6 (Af P.1) (Af P.2),ptB b8 (Af Q.1) (Af Q.2)]) hp1)) ?_
 refine Aa (zE (zA (zB (wP I (wP I (wP I (Aa (zE (zH ?_)))))))))
 refine A9 (X:=Nat×Bool) (fun s=>[(0,An c),(1,slv (some ⟨g,off,none⟩) l.length cap),(6,An b6),(8,An b8),(11,slv (some ⟨g,off,none⟩) l.length cap),(12, .int .i64 (l.length:Nat)),(13, .int .i64 (i:Nat)),(17,slv (some ⟨g,off,none⟩) l.length cap),(18, .int .i64 (l.length:Nat)),(19, .int .i64 (k:Nat)),(35,slv (some ⟨g,off,none⟩) l.length cap),(36, .int .i64 (l.length:Nat)),(37, .int .i64 (s.1:Nat))]) (fun s=>[Ax (Ai W c),caE c s.2,ptB b6 (Af P.1) (Af P.2),ptB b8 (Af Q.1) (Af Q.2)])
  (fun s=>s.1≤l.length∧(0<s.1→s.2=false)∧(s.2=false↔BK P.1 Q.1∧BK P.2 Q.2∧ ∀d,d<s.1→JY P Q (Ac l d))) (fun s=>l.length-s.1) (0,x2.2) ⟨Nat.zero_le _,fun h=>absurd h (Nat.not_lt_zero _),hx.trans ⟨fun h=>⟨h.1,h.2,fun _ hd=>absurd hd (Nat.not_lt_zero _)⟩,fun h=>⟨h.1,h.2.1⟩⟩⟩ ⟨rfl,rfl,rfl,rfl,rfl,rfl,rfl,rfl,rfl,rfl,rfl,rfl,rfl,trivial⟩ [] rfl ?_
 rintro⟨j,s⟩ ⟨hj1,hj2,hj3⟩
 have hj1:j≤l.length:=hj1
 have hj2:0<j→s=false:=hj2
 have hj3:s=false↔BK P.1 Q.1∧BK P.2 Q.2∧ ∀d,d<j→JY P Q (Ac l d):=hj3
 refine zA (zB (wP I ?_))
 by_cases hj:j<l.length
 rotate_left
 ·obtain rfl:j=l.length:=by omega
  obtain rfl:s=false:=hj2 h0
  have hall:=hj3.1 rfl
  refine wU 38 false I (dF (by omega)) (Aa (zE (zA (zS I (zJ (zK (zK (zL (zN (zE (zB (wP I (wV 56 ((k+1:Nat):Int) I (Av (by omega)) ?_)))))))))))))
  refine wP I (Aa ?_)
  exact A0 (k+1) ⟨hk,fun b hb=>by
   by_cases e:b=k
   ·subst e;exact⟨by rw[←hP, ←hQ];exact hall.1,by rw[←hP, ←hQ];exact hall.2.1,by rw[←hP, ←hQ];exact hall.2.2⟩
   ·exact hk2 b (by omega)⟩ (by show l.length-(k+1)<l.length-k;omega) ⟨I,I,I,I,I,I,I,I,I,tO⟩ [_] I
 refine wU 38 true I (dT (by omega)) (Aa (zE (zA (zR I (zI (zE (zA (zH (zA (zB ?_))))))))))
 obtain⟨Z,hZ⟩: ∃Z,Z=Ac l j:=⟨_,rfl⟩
 have okZZ:okP Z:=hZ▸ok j
 have rZ: ∀ {W1:World} {s1:Bool} {bs:List Bx},Hp (AE W) (Ax (Ai W c)::caE c s1::bs) W1→Ar W1 g (off+j*2) [str (Af Z.1),str (Af Z.2)]:=fun hp=>by rw[hZ];exact hrow hp j hj
 refine wJ ?_
 refine wL 0 I I (fun W1 hp=>rZ (s1:=s) (bs:=[ptB b6 (Af P.1) (Af P.2),ptB b8 (Af Q.1) (Af Q.2)]) hp) I ?_
 (refine Ao Tryz.hZ rfl rfl rfl rfl ?_;intro)
 refine wS 4 I I I (Aa ?_)
 rename_i b10
 obtain⟨⟨v,s2⟩,e3⟩: ∃x,x=kLf s P Q Z:=⟨_,rfl⟩
 have hs2:s2=false↔s=false∧JY P Q Z:=by
  have:=WF (s:=s) (p:=P) (q:=Q) (r:=Z)
  rw[←e3] at this
  exact this
 have c3: ∀W1,KcP c s W1→Ic 55 [An c,cvV P,cvV Q,cvV Z] c (v,s2) W1:=fun W1 h=>by rw[e3];exact Il c _ _ _ _ okPP okQQ okZZ W1 h
 refine zE (zA (zB (wP I (wB 2 I I I (wB 3 I I I (wB 4 I I I ?_))))))
 refine Ci 1 c I I I I I I (by kernel_rfl) I (fun W1 hp1=>c3 W1 (h.at_ (bs:=[ptB b6 (Af P.1) (Af P.2),ptB b8 (Af Q.1) (Af Q.2),ptB b10 (Af Z.1) (Af Z.2)]) hp1)) ?_
 refine Aa ?_
 cases s2 with
 |true=>
  have hno: ¬Ez l:=fun ha=>by
   have hb:=ha i hi k hk
   have h1:JY P Q Z:=by rw[hP,hQ,hZ];exact hb.t j hj
   have h2:s=false:=hj3.2 ⟨by rw[hP,hQ];exact hb.x,by rw[hP,hQ];exact hb.y,fun d hd=>by rw[hP,hQ];exact hb.t d (by omega)⟩
   exact absurd (hs2.2 ⟨h2,h1⟩) (by decide)
  refine zE (zA (zB (wP I ?_)))
  refine AP I I I I ?_
  refine wP I (wB 1 I I I (wP I (Aa (zE (zR I (zA (zB (wP I ?_))))))))
  refine AP I I I I ?_
  refine wP I (wB 1 I I I (wP I (Aa (zE (zO (zQ (zP (zP (zQ (zQ (zP (zP (zQ (zQ ?_))))))))))))))
  exact zP (zP (zQ (zP (A8 tH I (.tmp I) true I ⟨fun h=>absurd h (by decide),fun h=>absurd h hno⟩ fun W1 hp=>FB hp))))
 |false=>
  obtain⟨rfl,htn⟩:=hs2.1 rfl
  have hall:=hj3.1 rfl
  refine zE (zA (zB (wP I ?_)))
  refine AP I I I I ?_
  refine wP I (wB 1 I I I (wP I (Aa (zE (zS I (zI (zN (zE (zB (wP I (wV 55 ((j+1:Nat):Int) I (Av (by omega)) (wP I (Aa ?_)))))))))))))
  exact A0 (j+1,false) ⟨hj,fun _=>rfl,⟨fun _=>⟨hall.1,hall.2.1,fun d hd=>by
   by_cases e:d=j
   ·subst e;rw[←hZ];exact htn
   ·exact hall.2.2 d (by have hd:d<j+1:=hd;omega)⟩,fun _=>rfl⟩⟩ (by show l.length-(j+1)<l.length-j;omega) ⟨I,I,I,I,I,I,I,I,I,I,I,I,I,tO⟩ [_] I
def LJ (x:PtS):Bool:=decide (30<x.1.length)||decide (30<x.2.length)
theorem MW (x:PtS) (W:World):Ap Tryz.prog 137 #[.agg #[str x.1,str x.2]] W (fun _:Unit=> .bool (LJ x)) (fun _=>True) (fun _=>[]):=by
 have e1: ∀a:List UInt8,decide (((⟨a.toArray⟩:ByteArray).size:Int)>30)=decide (30<a.length):=fun a=>decide_eq_decide.2 (by show((a.toArray.size:Nat):Int)>30↔_;rw[List.size_toArray];omega)
 refine Ae (args:=[.agg #[str x.1,str x.2]]) Tryz.func137 I I I ?_
 refine zA (zB ?_)
 (refine AD rfl rfl rfl rfl ?_;intro)
 refine wP I (Aa (zE (zA (zB (wP I (wB 0 I I I (wP I (wP I (wU 6 (decide (30<x.1.length)) I (e1 x.1) ?_)))))))))
 cases hx:decide (30<x.1.length) with
 |true=>
  refine wP I ?_
  iterate 4 refine Aw I I ?_
  exact wP I (wP I (Aa (zE (zO (wR1 I I (by rw[LJ,hx];rfl))))))
 |false=>
  exact wP I (wP I (wB 0 I I I (wP I (wP I (wU 11 (decide (30<x.2.length)) I (e1 x.2) (wP I (wP I (Aa (zE (zO (wR1 I I (by rw[LJ,hx];rfl))))))))))))
theorem OY (xs:List PtS) (hn:xs.length≤100000) (p:Option Addr) (cap:Nat) (W:World) (hS:GN W p xs):
  Ap Tryz.prog 73 #[slv p xs.length cap] W (fun _:Unit=> .bool (xs.any LJ)) (fun _=>True) (fun _=>[]):=by
 refine Ae (args:=[slv p xs.length cap]) Tryz.func73 I I I ?_
 exact zA (zB (wP I (Aa (zE (zA (zB (wP I (wC I I (fun W1 hp=>Jq 137 (by kernel_rfl) LJ MW xs hn p cap W1 (hS.hp hp)) (wP I (Aa (zE (zO (wR1 I I I)))))))))))))
-- BOXES 9
-- CODE2
theorem KcP.beside {c g:Nat} {s:Bool} {W0 W1 W2:World} {bxs:List Bx} {B:Bx} {o:Obj} (hp:Hp W0 bxs W1) (k j:Nat) (hk:nth bxs k=some (caE c s)) (hj:nth bxs j=some B) (hB:(g,o)∈B.blk) (hne:k≠j) (hv:BP W0) (ht:Bc W0) (h2:CC W1 W2 g):KcP c s W2:=by
 rw[Bv] at hk hj
 have hc:=hp.own.cell k _ hk (c,caO s) (List.mem_cons_self ..)
 have hg:=hp.own.cell j _ hj (g,o) hB
 have ne:c≠g:=hp.own.apart k j _ _ hk hj hne (c,_) (List.mem_cons_self ..) (g,o) hB
 exact⟨(h2.at_ c ne (Array.getElem?_eq_some_iff.1 hc.1).1).trans hc.1,fun W3 h3=>⟨hv.below (h3.below (h2.below hp.below hg.2) hc.2),ht.below (h3.below (h2.below hp.below hg.2) hc.2)⟩⟩
def DT (l:List Ah):List Ah:=BE (FU (BF l))
def U3 (l L:List Ah) (e:Int):Prop:=Ez l∧3≤(DT l).length∧L=DT l∧e=0∨Ez l∧(DT l).length<3∧L=[]∧e=12∨ ¬Ez l∧L=[]∧e=4
theorem Ez.tn {l:List Ah} (h:Ez l) {x y z:Ah} (hx:x∈l) (hy:y∈l) (hz:z∈l):JY x y z:=by
 obtain⟨i,hi,rfl⟩:=Db hx
 obtain⟨j,hj,rfl⟩:=Db hy
 obtain⟨k,hk,rfl⟩:=Db hz
 exact(h i hi j hj).t k hk
theorem Ez.dv {l:List Ah} (h:Ez l) {x y:Ah} (hx:x∈l) (hy:y∈l):BK x.1 y.1∧BK x.2 y.2:=by
 obtain⟨i,hi,rfl⟩:=Db hx
 obtain⟨j,hj,rfl⟩:=Db hy
 exact⟨(h i hi j hj).x,(h i hi j hj).y⟩
theorem GL (l:List Ah) (x:Ah):x∈FU (BF l)↔x∈l:=((FG (Es l)).2 x).trans CP
theorem Tt (l:List Ah):(FU (BF l)).length≤l.length:=by
 exact Nat.le_trans (NO (BF l) (BF l).length) (Nat.le_of_eq (EW l))
-- BOXES 3
-- CODE2
def Sim (l m:List Ah):Prop:=m.length=l.length∧ ∀x,x∈m↔x∈l
theorem Sim.refl (l:List Ah):Sim l l:=⟨rfl,fun _=>Iff.rfl⟩
theorem Sim.trans {l m k:List Ah} (h:Sim l m) (h':Sim m k):Sim l k:=⟨h'.1.trans h.1,fun x=>(h'.2 x).trans (h.2 x)⟩
def CB (M:List Ah) (u v:Nat):List Ah:=(M.set u (Ac M v)).set v (Ac M u)
theorem KP (M:List Ah) (u v:Nat):(CB M u v).length=M.length:=by unfold CB;rw[List.length_set,List.length_set]
theorem Fx {M:List Ah} {u v k:Nat} (hk:k<M.length):Ac (CB M u v) k=if k=v then Ac M u else if k=u then Ac M v else Ac M k:=by
 rw[AF (by rw[KP];exact hk)]
 unfold CB
 rw[List.getElem_set]
 by_cases h:k=v
 ·rw[if_pos h.symm,if_pos h]
 ·rw[if_neg (fun e=>h e.symm),if_neg h,List.getElem_set]
  by_cases h2:k=u
  ·rw[if_pos h2.symm,if_pos h2]
  ·rw[if_neg (fun e=>h2 e.symm),if_neg h2,AF hk]
theorem TV {M:List Ah} {x:Ah}:x∈M↔ ∃k,k<M.length∧Ac M k=x:=⟨fun h=>by
 obtain⟨i,hi,e⟩:=Db h
 exact⟨i,hi,e⟩,fun⟨k,hk,e⟩=>e▸AK (by omega) k⟩
theorem Eo {M:List Ah} {u v:Nat} (hu:u<M.length) (hv:v<M.length):Sim M (CB M u v):=by
 refine⟨KP M u v,fun x=> ?_⟩
 rw[TV,TV,KP]
 constructor
 ·rintro⟨k,hk,e⟩
  rw[Fx hk] at e
  by_cases h:k=v
  ·rw[if_pos h] at e;exact⟨u,hu,e⟩
  ·rw[if_neg h] at e
   by_cases h2:k=u
   ·rw[if_pos h2] at e;exact⟨v,hv,e⟩
   ·rw[if_neg h2] at e;exact⟨k,hk,e⟩
 ·rintro⟨k,hk,e⟩
  by_cases h:k=u
  ·exact⟨v,hv,by rw[Fx hv,if_pos I, ←h];exact e⟩
  ·by_cases h2:k=v
   ·refine⟨u,hu, ?_⟩
    rw[Fx hu]
    by_cases h3:u=v
    ·exact absurd (h2.trans h3.symm) h
    ·rw[if_neg h3,if_pos rfl, ←h2];exact e
   ·exact⟨k,hk,by rw[Fx hk,if_neg h2,if_neg h];exact e⟩
theorem Vp {A M B:List Ah} {u:Nat} (hu:u<M.length) (y:Ah):A++M.set u y++B=A++M.take u++y::(M.drop (u+1)++B):=by
 rw[List.set_eq_take_append_cons_drop,if_pos hu]
 simp
theorem Tf {A M B:List Ah} {u:Nat} (hu:u<M.length):A++M++B=A++M.take u++Ac M u::(M.drop (u+1)++B):=by
 have e:M=M.take u++Ac M u::M.drop (u+1):=by
  rw[AF hu, ←List.drop_eq_getElem_cons hu,List.take_append_drop]
 conv=>lhs;rw[e]
 simp
theorem QU {A M:List Ah} {a u:Nat} (ha:A.length=a) (hu:u<M.length):(ptC (A++M.take u)).length=(a+u)*2:=by
 rw[AS,List.length_append,List.length_take,Nat.min_eq_left (by omega),ha]
theorem Az {A M B:List Ah} {junk:List Value} {a u:Nat} (ha:A.length=a) (hu:u<M.length) (y:Ah):B0 (ptC (A++M++B)++junk) (0+(a+u)*2) (cvV y).cells.toList=ptC (A++M.set u y++B)++junk:=by
 rw[Tf hu,Vp hu,BM,BM (A++M.take u),List.append_assoc,List.append_assoc,
  show 0+(a+u)*2=(ptC (A++M.take u)).length+0 by rw[QU ha hu];omega,Dk]
 rfl
theorem Ay {A M B:List Ah} {junk:List Value} {a u:Nat} (ha:A.length=a) (hu:u<M.length):0+(a+u)*2+2≤(ptC (A++M++B)++junk).length:=by
 rw[List.length_append,AS,List.length_append,List.length_append];omega
theorem CR {W0 W:World} {bxs:List Bx} (hp:Hp W0 bxs W) (k:Nat) {g a u:Nat} {A M B:List Ah} {junk:List Value} (ha:A.length=a) (hk:nth bxs k=some (A5 g (A++M++B) junk)) (hu:u<M.length):Ar W g (0+(a+u)*2) [str (Af (Ac M u).1),str (Af (Ac M u).2)]:=
 Ig hp k (A:=ptC (A++M.take u)) (C:=ptC (M.drop (u+1)++B)++junk) hk (by rw[Tf hu,BM (A++M.take u),List.append_assoc];rfl) (by rw[QU ha hu];omega)
theorem KN (c:Nat) (W:World) (g cap n a:Nat) (A l B:List Ah) (junk:List Value) (ha:A.length=a) (hn:n=(A++l++B).length) (hn4:n≤100000) (hg:W.heap[g]? =some (.cells (ptC (A++l++B)++junk).toArray 35 (0,0)))
  (hf: ∀W',CC W W' g→ ∀x∈l, ∀y∈l,GS c x y W'):
  Calls Tryz.prog 181 #[.slice (some ⟨g,0,none⟩) n cap, .int .i64 (a:Nat), .int .i64 ((a+l.length:Nat):Int),lsF c] W fun e W'=> ∃x:Unit,e= .returned ((fun _=> .tuple #[]) x)∧True∧EE W W' g ((fun _=>g) x) ((fun _=> .cells (ptC (A++BF l++B)++junk).toArray 35 (0,0)) x):=by
 have hnn:n=a+l.length+B.length:=by rw[hn,List.length_append,List.length_append,ha]
 have key:Calls Tryz.prog 181 [.slice (some ⟨g,0,none⟩) n cap, .int .i64 (a:Nat), .int .i64 ((a+l.length:Nat):Int),lsF c].toArray W fun e W'=> ∃x:Unit,e= .returned ((fun _=> .tuple #[]) x)∧(fun _=>True) x∧Below (AE W).heap.size (AE W) W'∧A3 (AE W) W' ((fun _=>[Ax (Ai W g),A5 g (A++BF l++B) junk]) x):=by
  refine Ba (X:=Unit) (val:=fun _=> .tuple #[]) (Φ:=fun _=>True) (nb:=fun _=>[Ax (Ai W g),A5 g (A++BF l++B) junk]) (Hp.enterT (B:=A5 g (A++l++B) junk) I hg) Tryz.func181 I I I ?_
  refine zA (zB (wP I (wP I (wV 11 ((a+1:Nat):Int) I (Av (by omega)) (wP I (Aa (zE (zH ?_))))))))
  refine A9 (X:=Nat) (fun i=>[(0, .slice (some ⟨g,0,none⟩) n cap),(1, .int .i64 (a:Nat)),(2, .int .i64 ((a+l.length:Nat):Int)),(3,lsF c),(8, .int .i64 ((a+i:Nat):Int))]) (fun i=>[Ax (Ai W g),A5 g (A++(BF (l.take i)++l.drop i)++B) junk])
   (fun i=>1≤i∧(i≤l.length∨i=1)) (fun i=>l.length+1-i) 1 ⟨Nat.le_refl _, .inr rfl⟩ ⟨rfl,rfl,rfl,rfl,rfl,trivial⟩ [] (by rw[PH];rfl) ?_
  rintro i ⟨hi1,hi2⟩
  refine zA (zA (zB (wP I (wP I (wP I ?_)))))
  by_cases hlt:i<l.length
  rotate_left
  ·refine wU 14 false I (dF (by omega)) (Aa (zE (zS I (zJ (zK (zK (zL ?_)))))))
   have e:BF (l.take i)++l.drop i=BF l:=by rw[List.take_of_length_le (by omega),List.drop_of_length_le (by omega),List.append_nil]
   refine Hy (X:=Unit) (val:=fun _=> .tuple #[]) (Φ:=fun _=>True) (nb:=fun _=>[Ax (Ai W g),A5 g (A++BF l++B) junk]) (fn:=Tryz.f181) tH I () I tO fun W1 hp=> ?_
   rw[e] at hp
   exact(hp.pick (l:=[Ax (Ai W g),A5 g (A++BF l++B) junk]) [0,1] (by decide) I).own
  refine wU 14 true I (dT (by omega)) (Aa (zE (zR I (zI (zE (zA (zH (zA (zB (wP I (wP I (Aa (zE ?_)))))))))))))
  refine zH ?_
  obtain⟨s,hs⟩: ∃s,s=BF (l.take i):=⟨_,rfl⟩
  obtain⟨x,hx⟩: ∃x,x=l[i]:=⟨_,rfl⟩
  obtain⟨rr,hr⟩: ∃rr,rr=l.drop (i+1):=⟨_,rfl⟩
  have hsl:s.length=i:=by rw[hs,EW,List.length_take];omega
  have hsort:SrC s:=hs▸Es _
  have hdrop:l.drop i=x::rr:=by rw[hx,hr];exact List.drop_eq_getElem_cons hlt
  have hrl:rr.length=l.length-(i+1):=by rw[hr,List.length_drop]
  have hxl:x∈l:=hx▸List.getElem_mem hlt
  have hsm: ∀y∈s,y∈l:=fun y hy=>by rw[hs] at hy;exact List.mem_of_mem_take (CP.1 hy)
  have hnext: ∀j,j≤s.length→(∀y∈s.drop j,A4 x y)→(∀(h:0<j), ¬A4 x s[j-1]!)→s.take j++x::s.drop j++rr=BF (l.take (i+1))++l.drop (i+1):=fun j h1 h2 h3=>by
   rw[Sk l hlt, ←hs, ←hx, ←hr,Sq hsort h1 h2 fun h=>by have:=h3 h;rwa [getElem!_pos s (j-1) (by omega)] at this]
  refine A9 (X:=Nat) (fun j=>[(0, .slice (some ⟨g,0,none⟩) n cap),(1, .int .i64 (a:Nat)),(2, .int .i64 ((a+l.length:Nat):Int)),(3,lsF c),(8, .int .i64 ((a+i:Nat):Int)),(9, .int .i64 ((a+j:Nat):Int))]) (fun j=>[Ax (Ai W g),A5 g (A++(s.take j++x::s.drop j++rr)++B) junk])
   (fun j=>j≤s.length∧ ∀y∈s.drop j,A4 x y) (fun j=>j) i ⟨by omega,by rw[←hsl,List.drop_length];exact fun y hy=>absurd hy List.not_mem_nil⟩ ⟨rfl,rfl,rfl,rfl,rfl,rfl,trivial⟩ [] (by rw[←hs,hdrop, ←hsl,List.take_length,List.drop_length,List.append_assoc s [x] rr];rfl) ?_
  rintro j ⟨hj,hgt⟩
  have hj:j≤s.length:=hj
  have hgt: ∀y∈s.drop j,A4 x y:=hgt
  refine zA (zA (zU (qP I (qP I (qP I ?_)))))
  cases j with
  |zero=>
   refine qU 20 false I (dF (by omega)) (qP I ?_)
   iterate 12 refine C5 I I ?_
   refine qP I (AJ (Aa (zE (zS I (zJ (zK (zK (zL (zN (zE (zB (wP I (wP I ?_)))))))))))))
   refine wV 16 ((a+(i+1):Nat):Int) I (Av (by omega)) (wP I (Aa ?_))
   refine A0 (i+1) ⟨by show 1≤i+1;omega, .inl hlt⟩ (by show l.length+1-(i+1)<l.length+1-i;omega) ⟨I,I,I,I,I,tO⟩ [] ?_
   rw[hnext 0 hj hgt fun h=>absurd h (by decide)];rfl
  |succ m=>
   have hm:m<s.length:=hj
   obtain⟨y,hy⟩: ∃y,y=s[m]:=⟨_,rfl⟩
   have hyl:y∈l:=hsm y (hy▸List.getElem_mem hm)
   have e1:s.take (m+1)=s.take m++[y]:=by rw[List.take_add_one,List.getElem?_eq_getElem hm,hy];rfl
   have e2:s.drop m=y::s.drop (m+1):=by rw[hy];exact List.drop_eq_getElem_cons hm
   have e3:s[m+1-1]! =y:=by rw[Nat.add_sub_cancel,getElem!_pos s m hm,hy]
   have hA:(ptC (A++s.take m)).length=(a+m)*2:=by rw[AS,List.length_append,List.length_take,Nat.min_eq_left (by omega),ha]
   obtain⟨C,hC⟩: ∃C,C=ptC (s.drop (m+1)++rr++B)++junk:=⟨_,rfl⟩
   have row1:ptC (A++(s.take (m+1)++x::s.drop (m+1)++rr)++B)++junk=ptC (A++s.take m)++([str (Af y.1),str (Af y.2),str (Af x.1),str (Af x.2)]++C):=by rw[e1,hC];simp[ptC,List.flatMap_append]
   have row2:ptC (A++(s.take m++x::s.drop m++rr)++B)++junk=ptC (A++s.take m)++([str (Af x.1),str (Af x.2),str (Af y.1),str (Af y.2)]++C):=by rw[e2,hC];simp[ptC,List.flatMap_append]
   refine qU 20 true I (dT (by omega)) (qP I (qP I (qP I (qP I ?_))))
   refine qJ ?_
   refine qL 0 I I (fun W1 hp=>show Ar W1 g (0+(a+(m+1))*2) [str (Af x.1),str (Af x.2)] from Ig hp 1 (A:=ptC (A++s.take m)++[str (Af y.1),str (Af y.2)]) (C:=C) I (by rw[row1];simp) (by rw[List.length_append,hA];simp only[List.length_cons,List.length_nil];omega)) I (qP I (qP I (qP I (qV 29 ((a+m:Nat):Int) I (show w64 (((a+(m+1):Nat):Int)-1)=_ by rw[Ak (by omega) (by omega)];omega) ?_))))
   refine qJ ?_
   refine qL 0 I I (fun W1 hp=>show Ar W1 g (0+(a+m)*2) [str (Af y.1),str (Af y.2)] from Ig hp 1 (A:=ptC (A++s.take m)) (C:=[str (Af x.1),str (Af x.2)]++C) I (by rw[row1];simp) (by rw[hA];simp)) I ?_
   refine CL (first:=[An c]) I I I I I I (by kernel_rfl) (fun W1 hp=>hf W1 (BV hg ⟨_,List.mem_cons_self ..⟩ hp) x hxl y hyl) ?_
   refine qP I (qU 33 (Be x y) I (Dj x y) (qP I (AJ (Aa (zE ?_)))))
   refine AA I (fun h=> ?_) (fun h=> ?_)
   rotate_left
   ·have hc: ¬A4 x y:=fun d=>by rw[Br.2 d] at h;cases h
    refine zJ (zK (zK (zL (zN (zE (zB (wP I (wP I (wV 16 ((a+(i+1):Nat):Int) I (Av (by omega)) (wP I (Aa ?_)))))))))))
    refine A0 (i+1) ⟨by show 1≤i+1;omega, .inl hlt⟩ (by show l.length+1-(i+1)<l.length+1-i;omega) ⟨I,I,I,I,I,tO⟩ [] ?_
    rw[hnext (m+1) hj hgt fun _=>by rw[e3];exact hc];rfl
   have hc:A4 x y:=Br.1 h
   clear h
   refine W5 (bxs':=[Ax (Ai W g),⟨g,35,ptC (A++s.take m)++([str (Af y.1),str (Af y.2),str (Af x.1),str (Af x.2)]++C),true,none⟩]) (by rw[←row1]) ?_
   refine zI (zE (Au (Cc ?_)))
   repeat refine Au ?_
   refine AU (X:=Unit) [true,true,false,false,false,true,true,true,true,true,true,true,true,true,true,false,false,false] (fun _=>[(0, .slice (some ⟨g,0,none⟩) n cap),(1, .int .i64 (a:Nat)),(2, .int .i64 ((a+l.length:Nat):Int)),(3,lsF c),(8, .int .i64 ((a+i:Nat):Int)),(9, .int .i64 ((a+(m+1):Nat):Int))]) (fun _=>[Ax (Ai W g),⟨g,35,ptC (A++s.take m)++([str (Af x.1),str (Af x.2),str (Af y.1),str (Af y.2)]++C),true,none⟩])
    6 [Ax (Ai W g),⟨g,35,ptC (A++s.take m)++([str (Af y.1),str (Af y.2),str (Af x.1),str (Af x.2)]++C),true,none⟩] Tryz.mixed (by kernel_rfl) ?_ ?_
   ·refine qP I (qP I (qP I (qP I (qP I (qV 44 ((a+m:Nat):Int) I (show w64 (((a+(m+1):Nat):Int)-1)=_ by rw[Ak (by omega) (by omega)];omega) ?_)))))
    refine qJ ?_
    refine qL 0 I I (fun W1 hp=>show Ar W1 g (0+(a+m)*2) [str (Af y.1),str (Af y.2)] from Ig hp 1 (A:=ptC (A++s.take m)) (C:=[str (Af x.1),str (Af x.2)]++C) I (by simp) (by rw[hA];simp)) I (qP I (qP I ?_))
    refine qJ ?_
    refine qL 0 I I (fun W1 hp=>show Ar W1 g (0+(a+(m+1))*2) [str (Af x.1),str (Af x.2)] from Ig hp 1 (A:=ptC (A++s.take m)++[str (Af y.1),str (Af y.2)]) (C:=C) I (by simp) (by rw[List.length_append,hA];simp only[List.length_cons,List.length_nil];omega)) I ?_
    refine qJ ?_
    refine B6 ?_
    have h1:B0 (ptC (A++s.take m)++([str (Af y.1),str (Af y.2),str (Af x.1),str (Af x.2)]++C)) (0+(a+(m+1))*2) (cvV y).cells.toList=ptC (A++s.take m)++([str (Af y.1),str (Af y.2),str (Af y.1),str (Af y.2)]++C):=by
     rw[show 0+(a+(m+1))*2=(ptC (A++s.take m)).length+2 by rw[hA];omega,Dk];rfl
    have h2:B0 (ptC (A++s.take m)++([str (Af y.1),str (Af y.2),str (Af y.1),str (Af y.2)]++C)) (0+(a+m)*2) (cvV x).cells.toList=ptC (A++s.take m)++([str (Af x.1),str (Af x.2),str (Af y.1),str (Af y.2)]++C):=by
     rw[show 0+(a+m)*2=(ptC (A++s.take m)).length+0 by rw[hA];omega,Dk];rfl
    have h3:0+(a+(m+1))*2+2≤(ptC (A++s.take m)++([str (Af y.1),str (Af y.2),str (Af x.1),str (Af x.2)]++C)).length:=by rw[List.length_append,hA,List.length_append];simp only[List.length_cons,List.length_nil];omega
    have h4:0+(a+m)*2+2≤(ptC (A++s.take m)++([str (Af y.1),str (Af y.2),str (Af y.1),str (Af y.2)]++C)).length:=by rw[List.length_append,hA,List.length_append];simp only[List.length_cons,List.length_nil];omega
    refine wX ?_
    refine RS.cons ?_ (RS.cons ?_ (RS.cons ?_ (RS.nil)))
    ·refine wP I (Aa (Ab (wX ?_)))
     refine RS.cons ?_ (RS.cons ?_ (RS.nil))
     ·refine wP I (Aa (Ab (wX ?_)))
      refine RS.cons ?_ (RS.cons ?_ (RS.nil))
      ·refine wP I (Aa (Ab (wX (wZ ?_))))
       refine Ad 1 _ tH I I I I I I I I I I h3 h1 ?_
       refine Aa (Ab (wY (wZ ?_)))
       refine wV 41 ((a+m:Nat):Int) I (show w64 (((a+(m+1):Nat):Int)-1)=_ by rw[Ak (by omega) (by omega)];omega) ?_;(first|refine wJ ?_|refine qJ ?_)
       refine Aa (Ab (wY (wZ ?_)))
       refine Ad 1 _ tH I I I I I I I I I I h4 h2 ?_
       refine Aa (Ab ?_)
       refine Aj I (by kernel_rfl) ?_
       exact Ag () ⟨I,I,I,I,I,I,tO⟩ [0,1] (by decide) I
      ·refine Ad 1 _ tH I I I I I I I I I I h3 h1 ?_
       refine Aa (Ab (wY (wZ (wP I (Aa (Ab (wY (wZ ?_))))))))
       refine wV 41 ((a+m:Nat):Int) I (show w64 (((a+(m+1):Nat):Int)-1)=_ by rw[Ak (by omega) (by omega)];omega) ?_;(first|refine wJ ?_|refine qJ ?_)
       refine Aa (Ab (wY (wZ ?_)))
       refine Ad 1 _ tH I I I I I I I I I I h4 h2 ?_
       refine Aa (Ab ?_)
       refine Aj I (by kernel_rfl) ?_
       exact Ag () ⟨I,I,I,I,I,I,tO⟩ [0,1] (by decide) I
     ·refine Ad 1 _ tH I I I I I I I I I I h3 h1 ?_
      refine Aa (Ab (wY (wZ (wP I (Aa (Ab (wY (wZ (wP I (Aa (Ab (wY (wZ ?_)))))))))))))
      refine wV 41 ((a+m:Nat):Int) I (show w64 (((a+(m+1):Nat):Int)-1)=_ by rw[Ak (by omega) (by omega)];omega) ?_;(first|refine wJ ?_|refine qJ ?_)
      refine Aa (Ab (wY (wZ ?_)))
      refine Ad 1 _ tH I I I I I I I I I I h4 h2 ?_
      refine Aa (Ab ?_)
      refine Aj I (by kernel_rfl) ?_
      exact Ag () ⟨I,I,I,I,I,I,tO⟩ [0,1] (by decide) I
    ·refine wP I (Aa (Ab (wX ?_)))
     refine RS.cons ?_ (RS.cons ?_ (RS.cons ?_ (RS.nil)))
     ·refine wP I (Aa (Ab (wX ?_)))
      refine RS.cons ?_ (RS.cons ?_ (RS.nil))
      ·refine wP I (Aa (Ab (wX (wZ ?_))))
       refine Ad 1 _ tH I I I I I I I I I I h3 h1 ?_
       refine Aa (Ab (wY (wZ ?_)))
       refine wV 41 ((a+m:Nat):Int) I (show w64 (((a+(m+1):Nat):Int)-1)=_ by rw[Ak (by omega) (by omega)];omega) ?_;(first|refine wJ ?_|refine qJ ?_)
       refine Aa (Ab (wY (wZ ?_)))
       refine Ad 1 _ tH I I I I I I I I I I h4 h2 ?_
       refine Aa (Ab ?_)
       refine Aj I (by kernel_rfl) ?_
       exact Ag () ⟨I,I,I,I,I,I,tO⟩ [0,1] (by decide) I
      ·refine Ad 1 _ tH I I I I I I I I I I h3 h1 ?_
       refine Aa (Ab (wY (wZ (wP I (Aa (Ab (wY (wZ ?_))))))))
       refine wV 41 ((a+m:Nat):Int) I (show w64 (((a+(m+1):Nat):Int)-1)=_ by rw[Ak (by omega) (by omega)];omega) ?_;(first|refine wJ ?_|refine qJ ?_)
       refine Aa (Ab (wY (wZ ?_)))
       refine Ad 1 _ tH I I I I I I I I I I h4 h2 ?_
       refine Aa (Ab ?_)
       refine Aj I (by kernel_rfl) ?_
       exact Ag () ⟨I,I,I,I,I,I,tO⟩ [0,1] (by decide) I
     ·refine wP I (Aa (Ab (wX ?_)))
      refine RS.cons ?_ (RS.cons ?_ (RS.nil))
      ·refine wP I (Aa (Ab (wX (wZ ?_))))
       refine Ad 1 _ tH I I I I I I I I I I h3 h1 ?_
       refine Aa (Ab (wY (wZ ?_)))
       refine wV 41 ((a+m:Nat):Int) I (show w64 (((a+(m+1):Nat):Int)-1)=_ by rw[Ak (by omega) (by omega)];omega) ?_;(first|refine wJ ?_|refine qJ ?_)
       refine Aa (Ab (wY (wZ ?_)))
       refine Ad 1 _ tH I I I I I I I I I I h4 h2 ?_
       refine Aa (Ab ?_)
       refine Aj I (by kernel_rfl) ?_
       exact Ag () ⟨I,I,I,I,I,I,tO⟩ [0,1] (by decide) I
      ·refine Ad 1 _ tH I I I I I I I I I I h3 h1 ?_
       refine Aa (Ab (wY (wZ (wP I (Aa (Ab (wY (wZ ?_))))))))
       refine wV 41 ((a+m:Nat):Int) I (show w64 (((a+(m+1):Nat):Int)-1)=_ by rw[Ak (by omega) (by omega)];omega) ?_;(first|refine wJ ?_|refine qJ ?_)
       refine Aa (Ab (wY (wZ ?_)))
       refine Ad 1 _ tH I I I I I I I I I I h4 h2 ?_
       refine Aa (Ab ?_)
       refine Aj I (by kernel_rfl) ?_
       exact Ag () ⟨I,I,I,I,I,I,tO⟩ [0,1] (by decide) I
     ·refine Ad 1 _ tH I I I I I I I I I I h3 h1 ?_
      refine Aa (Ab (wY ?_))
      refine RS.cons ?_ (RS.cons ?_ (RS.nil))
      ·refine wP I (Aa (Ab (wY (wZ (wP I (Aa (Ab (wY (wZ ?_)))))))))
       refine wV 41 ((a+m:Nat):Int) I (show w64 (((a+(m+1):Nat):Int)-1)=_ by rw[Ak (by omega) (by omega)];omega) ?_;(first|refine wJ ?_|refine qJ ?_)
       refine Aa (Ab (wY (wZ ?_)))
       refine Ad 1 _ tH I I I I I I I I I I h4 h2 ?_
       refine Aa (Ab ?_)
       refine Aj I (by kernel_rfl) ?_
       exact Ag () ⟨I,I,I,I,I,I,tO⟩ [0,1] (by decide) I
      ·refine wP I (Aa (Ab (wY (wZ (wP I (Aa (Ab (wY (wZ ?_)))))))))
       refine wV 41 ((a+m:Nat):Int) I (show w64 (((a+(m+1):Nat):Int)-1)=_ by rw[Ak (by omega) (by omega)];omega) ?_;(first|refine wJ ?_|refine qJ ?_)
       refine Aa (Ab (wY (wZ ?_)))
       refine Ad 1 _ tH I I I I I I I I I I h4 h2 ?_
       refine Aa (Ab ?_)
       refine Aj I (by kernel_rfl) ?_
       exact Ag () ⟨I,I,I,I,I,I,tO⟩ [0,1] (by decide) I
    ·refine Ad 1 _ tH I I I I I I I I I I h3 h1 ?_
     refine Aa (Ab (wY ?_))
     refine RS.cons ?_ (RS.cons ?_ (RS.nil))
     ·refine wP I (Aa (Ab (wY (wZ (wP I (Aa (Ab (wY (wZ (wP I (Aa (Ab (wY ?_)))))))))))))
      refine wZ ?_
      refine wV 41 ((a+m:Nat):Int) I (show w64 (((a+(m+1):Nat):Int)-1)=_ by rw[Ak (by omega) (by omega)];omega) ?_;(first|refine wJ ?_|refine qJ ?_)
      refine Aa (Ab (wY (wZ ?_)))
      refine Ad 1 _ tH I I I I I I I I I I h4 h2 ?_
      refine Aa (Ab ?_)
      refine Aj I (by kernel_rfl) ?_
      exact Ag () ⟨I,I,I,I,I,I,tO⟩ [0,1] (by decide) I
     ·refine wP I (Aa (Ab (wY ?_)))
      refine RS.cons ?_ (RS.cons ?_ (RS.nil))
      ·refine wP I (Aa (Ab (wY (wZ (wP I (Aa (Ab (wY (wZ ?_)))))))))
       refine wV 41 ((a+m:Nat):Int) I (show w64 (((a+(m+1):Nat):Int)-1)=_ by rw[Ak (by omega) (by omega)];omega) ?_;(first|refine wJ ?_|refine qJ ?_)
       refine Aa (Ab (wY (wZ ?_)))
       refine Ad 1 _ tH I I I I I I I I I I h4 h2 ?_
       refine Aa (Ab ?_)
       refine Aj I (by kernel_rfl) ?_
       exact Ag () ⟨I,I,I,I,I,I,tO⟩ [0,1] (by decide) I
      ·refine wP I (Aa (Ab (wY (wZ (wP I (Aa (Ab (wY (wZ ?_)))))))))
       refine wV 41 ((a+m:Nat):Int) I (show w64 (((a+(m+1):Nat):Int)-1)=_ by rw[Ak (by omega) (by omega)];omega) ?_;(first|refine wJ ?_|refine qJ ?_)
       refine Aa (Ab (wY (wZ ?_)))
       refine Ad 1 _ tH I I I I I I I I I I h4 h2 ?_
       refine Aa (Ab ?_)
       refine Aj I (by kernel_rfl) ?_
       exact Ag () ⟨I,I,I,I,I,I,tO⟩ [0,1] (by decide) I
   intro _
   refine zN (zE (zB (wP I (wP I (wV 36 ((a+m:Nat):Int) I (show w64 (((a+(m+1):Nat):Int)-1)=_ by rw[Ak (by omega) (by omega)];omega) (wP I (Aa ?_)))))))
   refine A0 m ⟨by show m≤s.length;omega,fun z hz=> ?_⟩ (by show m<m+1;omega) ⟨I,I,I,I,I,I,tO⟩ [] (by rw[←row2];rfl)
   rw[e2] at hz
   rcases List.mem_cons.1 hz with rfl|hz
   ·exact hc
   ·exact hgt z hz
 refine key.mono ?_
 rintro e W' ⟨x,he,_,hb,hn'⟩
 exact⟨x,he,tO,BL hg I hb hn'⟩
-- BOXES 3
-- CODE2
abbrev Fm (s:Nat) (z:Int):Bx:=⟨s,3,[.int .i64 z],true,none⟩
abbrev G4 (z:Int):Obj:= .cells #[.int .i64 z] 3 (0,0)
theorem CC.new {W0 W1 W2:World} {g s:Nat} (h:CC W0 W1 g) (h2:CC W1 W2 s) (hs:W0.heap.size≤s):CC W0 W2 g:=by
 refine⟨h2.os.trans h.os,h2.tape.trans h.tape,h2.output.trans h.output,Nat.le_trans h.size h2.size,fun x hx hlt=> ?_⟩
 rw[h2.at_ x (by omega) (Nat.lt_of_lt_of_le hlt h.size)]
 exact h.at_ x hx hlt
theorem Ik {W W1:World} {g off s:Nat} {xs:List Value} (h:Ar W g off xs) (hK:CC W W1 s) (hne:g≠s):Ar W1 g off xs:=by
 refine⟨Nat.lt_of_lt_of_le h.lt hK.size,fun j u hu=> ?_⟩
 have h1:=h.get j u hu
 have h2:=hK.at_ g hne h.lt
 simp only[World.cell?] at h1⊢
 rw[h2]
 exact h1
theorem HU (c s g n cap:Nat) (sw:Int) (L:List Ah) (junk:List Value) (ia ib:Nat) (h1:ia<L.length) (h2:ib<L.length) (hn:n=L.length) (h3:0≤sw∧sw<100) (W:World) (hs:W.heap[s]? =some (G4 sw)) (hne:g≠s) (hr:Ar W g 0 (ptC L++junk))
  (hf: ∀W',CC W W' s→ ∀x∈L, ∀y∈L,GS c x y W'):
  Calls Tryz.prog 253 #[.slice (some ⟨g,0,none⟩) n cap, .int .i64 (ia:Nat), .int .i64 (ib:Nat),An s,lsF c] W fun e W'=> ∃x:(Nat×Nat)×Int,e= .returned ((fun x:(Nat×Nat)×Int=> .tuple #[.int .i64 (x.1.1:Nat), .int .i64 (x.1.2:Nat)]) x)∧((x.1=(ia,ib)∨x.1=(ib,ia))∧sw≤x.2∧x.2≤sw+1)∧EE W W' s ((fun _=>s) x) ((fun x:(Nat×Nat)×Int=>G4 x.2) x):=by
 have h0:0<L.length:=by omega
 have hrow: ∀W',CC W W' s→ ∀i,i<L.length→Ar W' g (0+i*2) [str (Af (Ac L i).1),str (Af (Ac L i).2)]:=fun W' hK i hi=>by
  obtain⟨g',off',e,h⟩:=(BU.of_row (Ik hr hK hne)).at_ hi
  cases e
  rw[AF hi];exact h i hi
 have key:Calls Tryz.prog 253 [.slice (some ⟨g,0,none⟩) n cap, .int .i64 (ia:Nat), .int .i64 (ib:Nat),An s,lsF c].toArray W fun e W'=> ∃x:(Nat×Nat)×Int,e= .returned ((fun x:(Nat×Nat)×Int=> .tuple #[.int .i64 (x.1.1:Nat), .int .i64 (x.1.2:Nat)]) x)∧(fun x:(Nat×Nat)×Int=>(x.1=(ia,ib)∨x.1=(ib,ia))∧sw≤x.2∧x.2≤sw+1) x∧Below (AE W).heap.size (AE W) W'∧A3 (AE W) W' ((fun x:(Nat×Nat)×Int=>[Ax (Ai W s),Fm s x.2]) x):=by
  refine Ba (X:=(Nat×Nat)×Int) (val:=fun x:(Nat×Nat)×Int=> .tuple #[.int .i64 (x.1.1:Nat), .int .i64 (x.1.2:Nat)]) (Φ:=fun x:(Nat×Nat)×Int=>(x.1=(ia,ib)∨x.1=(ib,ia))∧sw≤x.2∧x.2≤sw+1) (nb:=fun x:(Nat×Nat)×Int=>[Ax (Ai W s),Fm s x.2]) (Hp.enterT (B:=Fm s sw) I hs) Tryz.func253 I I I ?_
  refine zA (zB (wP I (wP I (Aa (zE (Au (Au (zU (qP I (qP I (qP I ?_)))))))))))
  refine qJ ?_
  refine qL 0 I I (fun W1 hp=>hrow W1 (BV hs ⟨_,List.mem_cons_self ..⟩ hp) ib h2) I (qP I (qP I ?_))
  refine qJ ?_
  refine qL 0 I I (fun W1 hp=>hrow W1 (BV hs ⟨_,List.mem_cons_self ..⟩ hp) ia h1) I ?_
  refine CL (first:=[An c]) I I I I I I (by kernel_rfl) (fun W1 hp=>hf W1 (BV hs ⟨_,List.mem_cons_self ..⟩ hp) (Ac L ib) (AK h0 ib) (Ac L ia) (AK h0 ia)) ?_
  refine qP I (qU 22 (Be (Ac L ib) (Ac L ia)) I (Dj _ _) (AJ (Aa (zE ?_))))
  refine AA I (fun hc=> ?_) (fun hc=> ?_)
  ·refine zA (zB (wP I ?_))
   refine AP I I I I ?_
   refine wB 1 I I I (wP I (wV 26 (sw+1) I (Ak (by omega) (by omega)) ?_))
   refine AP I I I I ?_
   refine wS 1 I I I (Aa (zE (zA (zB (wP I (wP I (wP I (wP I (Aa (zE (zO (zP ?_))))))))))))
   refine AR (X:=(Nat×Nat)×Int) (val:=fun x:(Nat×Nat)×Int=> .tuple #[.int .i64 (x.1.1:Nat), .int .i64 (x.1.2:Nat)]) (Φ:=fun x:(Nat×Nat)×Int=>(x.1=(ia,ib)∨x.1=(ib,ia))∧sw≤x.2∧x.2≤sw+1) (nb:=fun x:(Nat×Nat)×Int=>[Ax (Ai W s),Fm s x.2]) (fn:=Tryz.f253) tH I (.tmp I) (.tmp I) ((ib,ia),sw+1) I ⟨.inr I,by show sw≤sw+1;omega,Int.le_refl _⟩ fun W1 hp=> ?_
   exact(hp.pick (l:=[Ax (Ai W s),Fm s (sw+1)]) [0,1] (by decide) I).own
  ·refine zI (zE (zA (zB (wP I (wP I (wP I (wP I (Aa (zE (zO ?_))))))))))
   refine AR (X:=(Nat×Nat)×Int) (val:=fun x:(Nat×Nat)×Int=> .tuple #[.int .i64 (x.1.1:Nat), .int .i64 (x.1.2:Nat)]) (Φ:=fun x:(Nat×Nat)×Int=>(x.1=(ia,ib)∨x.1=(ib,ia))∧sw≤x.2∧x.2≤sw+1) (nb:=fun x:(Nat×Nat)×Int=>[Ax (Ai W s),Fm s x.2]) (fn:=Tryz.f253) tH I (.tmp I) (.tmp I) ((ia,ib),sw) I ⟨.inl I,Int.le_refl _,by show sw≤sw+1;omega⟩ fun W1 hp=> ?_
   exact(hp.pick (l:=[Ax (Ai W s),Fm s sw]) [0,1] (by decide) I).own
 refine key.mono ?_
 rintro e W' ⟨x,he,hx,hb,hn'⟩
 exact⟨x,he,hx,BL hs I hb hn'⟩
theorem Su (c s g n cap:Nat) (L:List Ah) (junk:List Value) (ia ib ic:Nat) (h1:ia<L.length) (h2:ib<L.length) (h3:ic<L.length) (hn:n=L.length) (W:World) (hs:W.heap[s]? =some (G4 0)) (hne:g≠s) (hr:Ar W g 0 (ptC L++junk))
  (hf: ∀W',CC W W' s→ ∀x∈L, ∀y∈L,GS c x y W'):
  Calls Tryz.prog 226 #[.slice (some ⟨g,0,none⟩) n cap, .int .i64 (ia:Nat), .int .i64 (ib:Nat), .int .i64 (ic:Nat),An s,lsF c] W fun e W'=> ∃x:Nat×Int,e= .returned ((fun x:Nat×Int=> .int .i64 (x.1:Nat)) x)∧(x.1=ia∨x.1=ib∨x.1=ic)∧EE W W' s ((fun _=>s) x) ((fun x:Nat×Int=>G4 x.2) x):=by
 have key:Calls Tryz.prog 226 [.slice (some ⟨g,0,none⟩) n cap, .int .i64 (ia:Nat), .int .i64 (ib:Nat), .int .i64 (ic:Nat),An s,lsF c].toArray W fun e W'=> ∃x:Nat×Int,e= .returned ((fun x:Nat×Int=> .int .i64 (x.1:Nat)) x)∧(fun x:Nat×Int=>x.1=ia∨x.1=ib∨x.1=ic) x∧Below (AE W).heap.size (AE W) W'∧A3 (AE W) W' ((fun x:Nat×Int=>[Ax (Ai W s),Fm s x.2]) x):=by
  refine Ba (X:=Nat×Int) (val:=fun x:Nat×Int=> .int .i64 (x.1:Nat)) (Φ:=fun x:Nat×Int=>x.1=ia∨x.1=ib∨x.1=ic) (nb:=fun x:Nat×Int=>[Ax (Ai W s),Fm s x.2]) (Hp.enterT (B:=Fm s 0) I hs) Tryz.func226 I I I ?_
  have kp: ∀ {W1:World} {z:Int},Hp (AE W) [Ax (Ai W s),Fm s z] W1→CC W W1 s:=fun hp=>BV hs ⟨_,List.mem_cons_self ..⟩ hp
  refine zA (zB (wP I (Aa (zE (zA (zB ?_))))))
  iterate 5 refine wP I ?_
  refine Bn (X:=(Nat×Nat)×Int) (val:=fun x:(Nat×Nat)×Int=> .tuple #[.int .i64 (x.1.1:Nat), .int .i64 (x.1.2:Nat)]) (Φ:=fun x:(Nat×Nat)×Int=>(x.1=(ia,ib)∨x.1=(ib,ia))∧0≤x.2∧x.2≤0+1) (capt:=[]) 1 (B:=Fm s 0) (L1:=[]) (L2:=[]) (b:=s) (ob:=G4 0) (fun x=>Fm s x.2) (g':=fun _=>s) (o':=fun x=>G4 x.2)
   rfl rfl rfl rfl rfl rfl (by kernel_rfl) rfl rfl (fun _ _=>rfl) (fun W1 hp=>HU c s g n cap 0 L junk ia ib h1 h2 hn ⟨by omega,by omega⟩ W1 (hp.own.cell 1 _ rfl (s,G4 0) (List.mem_cons_self ..)).1 hne (Ik hr (kp hp) hne) fun W2 hk=>hf W2 ((kp hp).trans hk)) ?_
  rintro⟨⟨a1,b1⟩,z1⟩ ⟨hx1,hz1⟩
  have hx1:(a1,b1)=(ia,ib)∨(a1,b1)=(ib,ia):=hx1
  have hz1:0≤z1∧z1≤0+1:=hz1
  have q1:(a1=ia∨a1=ib∨a1=ic)∧(b1=ia∨b1=ib∨b1=ic)∧a1<L.length∧b1<L.length:=by
   rcases hx1 with h|h<;>(injection h with e1 e2;subst e1;subst e2)
   ·exact⟨.inl I, .inr (.inl I),h1,h2⟩
   ·exact⟨.inr (.inl I), .inl I,h2,h1⟩
  clear hx1
  iterate 5 refine wP I ?_
  refine Aa (zE (zA (zB ?_)))
  iterate 5 refine wP I ?_
  refine Bn (X:=(Nat×Nat)×Int) (val:=fun x:(Nat×Nat)×Int=> .tuple #[.int .i64 (x.1.1:Nat), .int .i64 (x.1.2:Nat)]) (Φ:=fun x:(Nat×Nat)×Int=>(x.1=(b1,ic)∨x.1=(ic,b1))∧z1≤x.2∧x.2≤z1+1) (capt:=[]) 1 (B:=Fm s z1) (L1:=[]) (L2:=[]) (b:=s) (ob:=G4 z1) (fun x=>Fm s x.2) (g':=fun _=>s) (o':=fun x=>G4 x.2)
   rfl rfl rfl rfl rfl rfl (by kernel_rfl) rfl rfl (fun _ _=>rfl) (fun W1 hp=>HU c s g n cap z1 L junk b1 ic q1.2.2.2 h3 hn ⟨by omega,by omega⟩ W1 (hp.own.cell 1 _ rfl (s,G4 z1) (List.mem_cons_self ..)).1 hne (Ik hr (kp hp) hne) fun W2 hk=>hf W2 ((kp hp).trans hk)) ?_
  rintro⟨⟨b2,c2⟩,z2⟩ ⟨hx2,hz2⟩
  have hx2:(b2,c2)=(b1,ic)∨(b2,c2)=(ic,b1):=hx2
  have hz2:z1≤z2∧z2≤z1+1:=hz2
  have q2:(b2=ia∨b2=ib∨b2=ic)∧b2<L.length:=by
   rcases hx2 with h|h<;>(injection h with e1 e2;subst e1)
   ·exact⟨q1.2.1,q1.2.2.2⟩
   ·exact⟨.inr (.inr I),h3⟩
  clear hx2
  iterate 5 refine wP I ?_
  refine Aa (zE (zA (zB ?_)))
  iterate 5 refine wP I ?_
  refine Bn (X:=(Nat×Nat)×Int) (val:=fun x:(Nat×Nat)×Int=> .tuple #[.int .i64 (x.1.1:Nat), .int .i64 (x.1.2:Nat)]) (Φ:=fun x:(Nat×Nat)×Int=>(x.1=(a1,b2)∨x.1=(b2,a1))∧z2≤x.2∧x.2≤z2+1) (capt:=[]) 1 (B:=Fm s z2) (L1:=[]) (L2:=[]) (b:=s) (ob:=G4 z2) (fun x=>Fm s x.2) (g':=fun _=>s) (o':=fun x=>G4 x.2)
   rfl rfl rfl rfl rfl rfl (by kernel_rfl) rfl rfl (fun _ _=>rfl) (fun W1 hp=>HU c s g n cap z2 L junk a1 b2 q1.2.2.1 q2.2 hn ⟨by omega,by omega⟩ W1 (hp.own.cell 1 _ rfl (s,G4 z2) (List.mem_cons_self ..)).1 hne (Ik hr (kp hp) hne) fun W2 hk=>hf W2 ((kp hp).trans hk)) ?_
  rintro⟨⟨a3,b3⟩,z3⟩ ⟨hx3,hz3⟩
  have hx3:(a3,b3)=(a1,b2)∨(a3,b3)=(b2,a1):=hx3
  have q3:b3=ia∨b3=ib∨b3=ic:=by
   rcases hx3 with h|h<;>(injection h with e1 e2;subst e2)
   ·exact q2.1
   ·exact q1.1
  iterate 5 refine wP I ?_
  refine Aa (zE (zA (zB (wP I (wP I (Aa (zE (zO ?_))))))))
  refine A8 (X:=Nat×Int) (val:=fun x:Nat×Int=> .int .i64 (x.1:Nat)) (Φ:=fun x:Nat×Int=>x.1=ia∨x.1=ib∨x.1=ic) (nb:=fun x:Nat×Int=>[Ax (Ai W s),Fm s x.2]) (fn:=Tryz.f226) tH I (.tmp I) (b3,z3) I q3 fun W1 hp=> ?_
  exact(hp.pick (l:=[Ax (Ai W s),Fm s z3]) [0,1] (by decide) I).own
 refine key.mono ?_
 rintro e W' ⟨x,he,hx,hb,hn'⟩
 exact⟨x,he,hx,BL hs I hb hn'⟩
theorem Pw (c:Nat) (W:World) (g cap n a:Nat) (A M B:List Ah) (junk:List Value) (ha:A.length=a) (hm:8≤M.length∧M.length<50) (hn:n=(A++M++B).length) (hn4:n≤100000) (hg:W.heap[g]? =some (.cells (ptC (A++M++B)++junk).toArray 35 (0,0)))
  (hf: ∀W',CC W W' g→ ∀x∈A++M++B, ∀y∈A++M++B,GS c x y W'):
  Calls Tryz.prog 184 #[.slice (some ⟨g,0,none⟩) n cap, .int .i64 (a:Nat), .int .i64 ((a+M.length:Nat):Int),lsF c] W fun e W'=> ∃x:Nat×Int,e= .returned ((fun x:Nat×Int=> .tuple #[.int .i64 ((a+x.1:Nat):Int), .int .i64 x.2]) x)∧x.1<M.length∧EE W W' g ((fun _=>g) x) ((fun _=> .cells (ptC (A++M++B)++junk).toArray 35 (0,0)) x):=by
 have hnn:n=a+M.length+B.length:=by rw[hn,List.length_append,List.length_append,ha]
 have key:Calls Tryz.prog 184 [.slice (some ⟨g,0,none⟩) n cap, .int .i64 (a:Nat), .int .i64 ((a+M.length:Nat):Int),lsF c].toArray W fun e W'=> ∃x:Nat×Int,e= .returned ((fun x:Nat×Int=> .tuple #[.int .i64 ((a+x.1:Nat):Int), .int .i64 x.2]) x)∧(fun x:Nat×Int=>x.1<M.length) x∧Below (AE W).heap.size (AE W) W'∧A3 (AE W) W' ((fun _=>[Ax (Ai W g),A5 g (A++M++B) junk]) x):=by
  refine Ba (X:=Nat×Int) (val:=fun x:Nat×Int=> .tuple #[.int .i64 ((a+x.1:Nat):Int), .int .i64 x.2]) (Φ:=fun x:Nat×Int=>x.1<M.length) (nb:=fun _=>[Ax (Ai W g),A5 g (A++M++B) junk]) (Hp.enterT (B:=A5 g (A++M++B) junk) I hg) Tryz.func184 I I I ?_
  obtain⟨q,hq⟩: ∃q,q=M.length/4:=⟨_,rfl⟩
  have hq2:2≤q∧q*3<M.length:=by omega
  have quo4:((M.length:Nat):Int).tdiv 4=((q:Nat):Int):=by rw[hq];exact(Int.ofNat_tdiv M.length 4).symm
  refine zA (zB (wP I (wP I (Aa (zE (zA (zB (wP I (wP I (wP I (wV 17 (M.length:Nat) I (show w64 (((a+M.length:Nat):Int)-((a:Nat):Int))=_ by rw[Ak (by omega) (by omega)];omega) (wP I (Aa ?_)))))))))))))
  refine zE (zA (zB ?_))
  (refine Ao Tryz.hZ rfl rfl rfl rfl ?_;intro)
  refine Aa ?_
  rename_i s
  refine zE (zA (zB (wP I (wP I ?_))))
  refine CT I I I I I (by decide) ?_
  refine wV 20 (q:Nat) I (show w64 (((M.length:Nat):Int).tdiv 4)=_ by rw[quo4,Ak (by omega) (by omega)]) (wP I (wV 21 ((q:Nat):Int) I (show w64 (((q:Nat):Int)*1)=_ by rw[Ak (by omega) (by omega)];omega) (wP I (wV 22 ((a+q:Nat):Int) I (show w64 (((a:Nat):Int)+((q:Nat):Int))=_ by rw[Ak (by omega) (by omega)];omega) (wP I (Aa (zE (zA (zB (wP I (wP I ?_)))))))))))
  refine CT I I I I I (by decide) ?_
  refine wV 25 (q:Nat) I (show w64 (((M.length:Nat):Int).tdiv 4)=_ by rw[quo4,Ak (by omega) (by omega)]) (wP I (wV 26 ((q*2:Nat):Int) I (show w64 (((q:Nat):Int)*2)=_ by rw[Ak (by omega) (by omega)];omega) (wP I (wV 27 ((a+q*2:Nat):Int) I (show w64 (((a:Nat):Int)+((q*2:Nat):Int))=_ by rw[Ak (by omega) (by omega)];omega) (wP I (Aa (zE (zA (zB (wP I (wP I ?_)))))))))))
  refine CT I I I I I (by decide) ?_
  refine wV 30 (q:Nat) I (show w64 (((M.length:Nat):Int).tdiv 4)=_ by rw[quo4,Ak (by omega) (by omega)]) (wP I (wV 31 ((q*3:Nat):Int) I (show w64 (((q:Nat):Int)*3)=_ by rw[Ak (by omega) (by omega)];omega) (wP I (wV 32 ((a+q*3:Nat):Int) I (show w64 (((a:Nat):Int)+((q*3:Nat):Int))=_ by rw[Ak (by omega) (by omega)];omega) (wP I (Aa (zE (zA (zA (zB (wP I (wP I (wU 34 true I (dT (by omega)) ?_)))))))))))))
  refine Aa (zE (zR I (zA (zA (zB (wP I (wP I (wU 36 false I (dF (by omega)) (Aa (zE (zS I (zI (zE ?_)))))))))))))
  refine zB ?_
  iterate 5 refine wP I ?_
  refine Bn (X:=Nat×Int) (val:=fun x:Nat×Int=> .int .i64 (x.1:Nat)) (Φ:=fun x:Nat×Int=>x.1=a+q∨x.1=a+q*2∨x.1=a+q*3) (capt:=[]) 2 (B:=Fm s 0) (L1:=[]) (L2:=[]) (b:=s) (ob:=G4 0) (fun x=>Fm s x.2) (g':=fun _=>s) (o':=fun x=>G4 x.2)
   rfl rfl rfl rfl rfl rfl (by kernel_rfl) rfl rfl (fun _ _=>rfl) (fun W1 hp=> ?_) ?_
  ·have hk:CC W W1 g:=BV hg ⟨_,List.mem_cons_self ..⟩ (Hp.take (bxs:=[Ax (Ai W g),A5 g (A++M++B) junk]) (nb:=[Fm s 0]) hp)
   have hsn:g≠s:=fun e=>hp.own.apart 1 2 _ _ rfl rfl (by decide) (g, .cells (ptC (A++M++B)++junk).toArray 35 (0,0)) (List.mem_cons_self ..) (s,G4 0) (List.mem_cons_self ..) e
   have hs0:W.heap.size≤s:=by
    rcases Nat.lt_or_ge s W.heap.size with h|h
    ·exfalso
     have h1:W.heap[s]? =some W.heap[s]:=Array.getElem?_eq_getElem h
     exact hp.own.apart 0 2 _ _ I I (by decide) (s,W.heap[s]) (CW.2 ⟨fun e=>hsn e.symm,h1⟩) (s,G4 0) (List.mem_cons_self ..) I
    ·exact h
   have hr:=Ar.of_bx hp 1 rfl rfl
   have hlen:(A++M++B).length=a+M.length+B.length:=by rw[←hn];exact hnn
   exact Su c s g n cap (A++M++B) junk (a+q) (a+q*2) (a+q*3) (by omega) (by omega) (by omega) hn W1 (hp.own.cell 2 _ I (s,G4 0) (List.mem_cons_self ..)).1 hsn hr fun W2 h2=>hf W2 (hk.new h2 hs0)
  rintro⟨pv,z⟩ hpv
  have hpv:pv=a+q∨pv=a+q*2∨pv=a+q*3:=hpv
  obtain⟨k,rfl⟩: ∃k,pv=a+k:=⟨pv-a,by omega⟩
  have hk:k<M.length:=by omega
  clear hpv
  refine wP I (Aa (zE (zA (zB (wB 2 I I I (Aa (zE (zH (zA (zB (wP I ?_)))))))))))
  by_cases z0:z=0
  ·refine wU 58 true I (beq_iff_eq.2 z0) (wP I (Aa (zE (zR I (zA (zB (wP I (wP I (wP I (Aa (zE (zO (zQ ?_)))))))))))))
   refine AR (X:=Nat×Int) (val:=fun x:Nat×Int=> .tuple #[.int .i64 ((a+x.1:Nat):Int), .int .i64 x.2]) (Φ:=fun x:Nat×Int=>x.1<M.length) (nb:=fun _=>[Ax (Ai W g),A5 g (A++M++B) junk]) (fn:=Tryz.f184) tH I (.tmp I) (.tmp I) (k,1) I hk fun W1 hp=> ?_
   exact(hp.pick (l:=[Ax (Ai W g),A5 g (A++M++B) junk]) [0,1] (by decide) I).own
  refine wU 58 false I (beq_eq_false_iff_ne.2 z0) (wP I (Aa (zE (zS I (zA (zB (wP I ?_)))))))
  by_cases z1:z=12
  ·refine wU 61 true I (beq_iff_eq.2 z1) (wP I (Aa (zE (zR I (zA (zB (wP I (wP I (wP I (Aa (zE (zO (zQ ?_)))))))))))))
   refine AR (X:=Nat×Int) (val:=fun x:Nat×Int=> .tuple #[.int .i64 ((a+x.1:Nat):Int), .int .i64 x.2]) (Φ:=fun x:Nat×Int=>x.1<M.length) (nb:=fun _=>[Ax (Ai W g),A5 g (A++M++B) junk]) (fn:=Tryz.f184) tH I (.tmp I) (.tmp I) (k,2) I hk fun W1 hp=> ?_
   exact(hp.pick (l:=[Ax (Ai W g),A5 g (A++M++B) junk]) [0,1] (by decide) I).own
  refine wU 61 false I (beq_eq_false_iff_ne.2 z1) (wP I (Aa (zE (zS I (zA (zB (wP I (wP I (wP I (Aa (zE (zO (zQ ?_)))))))))))))
  refine AR (X:=Nat×Int) (val:=fun x:Nat×Int=> .tuple #[.int .i64 ((a+x.1:Nat):Int), .int .i64 x.2]) (Φ:=fun x:Nat×Int=>x.1<M.length) (nb:=fun _=>[Ax (Ai W g),A5 g (A++M++B) junk]) (fn:=Tryz.f184) tH I (.tmp I) (.tmp I) (k,0) I hk fun W1 hp=> ?_
  exact(hp.pick (l:=[Ax (Ai W g),A5 g (A++M++B) junk]) [0,1] (by decide) I).own
 refine key.mono ?_
 rintro e W' ⟨x,he,hx,hb,hn'⟩
 exact⟨x,he,hx,BL hg I hb hn'⟩
-- BOXES 3
-- CODE2
theorem Sim.mem {S M M':List Ah} (h:Sim M M') (hS: ∀x∈M,x∈S): ∀x∈M',x∈S:=fun x hx=>hS x ((h.2 x).1 hx)
abbrev rwO (A M B:List Ah) (junk:List Value):Obj:= .cells (ptC (A++M++B)++junk).toArray 35 (0,0)
abbrev LsK (c g:Nat) (S:List Ah) (W:World):Prop:= ∀W',CC W W' g→ ∀x∈S, ∀y∈S,GS c x y W'
theorem UU {M:List Ah} (h: ∀k,0<k→k<M.length→ ¬A4 (Ac M k) (Ac M (k-1))):SrC M:=by
 have key: ∀d i,i+d<M.length→ ¬A4 (Ac M (i+d)) (Ac M i):=by
  intro d
  induction d with
  |zero=>exact fun i _=>CG _
  |succ d ih=>
   intro i hi
   have h1:=h (i+(d+1)) (by omega) hi
   rw[show i+(d+1)-1=i+d by omega] at h1
   exact GY (ih i (by omega)) h1
 refine List.pairwise_iff_getElem.2 fun i j hi hj hij=> ?_
 have:=key (j-i) i (by omega)
 rw[show i+(j-i)=j by omega,AF hj,AF hi] at this
 exact this
structure Iy (M M':List Ah) (v:Nat):Prop where
 s:Sim M M'
 lt:v<M.length
 lo: ∀k,k<v→A4 (Ac M' k) (Ac M' v)
 hi: ∀k,v<k→k<M.length→ ¬A4 (Ac M' k) (Ac M' v)
structure Ce (M M':List Ah) (u v:Nat):Prop where
 s:Sim M M'
 u1:1≤u
 uv:u≤v+1
 vm:v<M.length
 lo: ∀k,1≤k→k<u→A4 (Ac M' k) (Ac M' 0)
 hi: ∀k,v<k→k<M.length→ ¬A4 (Ac M' k) (Ac M' 0)
theorem Ce.fin {M M':List Ah} {u v:Nat} (h:Ce M M' u v) (hv:v<u):Iy M (CB M' v 0) v:=by
 have hl:=h.s.1
 have hm:=h.vm
 have at0: ∀k,k<M.length→Ac (CB M' v 0) k=if k=0 then Ac M' v else if k=v then Ac M' 0 else Ac M' k:=fun k hk=>Fx (by omega)
 have av:Ac (CB M' v 0) v=Ac M' 0:=by
  rw[at0 v hm]
  by_cases e:v=0
  ·rw[if_pos e,e]
  ·rw[if_neg e,if_pos rfl]
 refine⟨h.s.trans (Eo (by omega) (by omega)),hm,fun k hk=> ?_,fun k hk hk2=> ?_⟩
 ·rw[av,at0 k (by omega)]
  by_cases e:k=0
  ·rw[if_pos e];exact h.lo v (by omega) hv
  ·rw[if_neg e,if_neg (by omega)];exact h.lo k (by omega) (by omega)
 ·rw[av,at0 k hk2,if_neg (by omega),if_neg (by omega)];exact h.hi k hk hk2
theorem Ce.swp {M M':List Ah} {u v:Nat} (h:Ce M M' u v) (huv:u≤v) (h1: ¬A4 (Ac M' u) (Ac M' 0)) (h2:A4 (Ac M' v) (Ac M' 0)):u<v∧Ce M (CB M' u v) (u+1) (v-1):=by
 have hl:=h.s.1
 have hm:=h.vm
 have hu1:=h.u1
 have hne:u≠v:=fun e=>by subst e;exact h1 h2
 have at_: ∀k,k<M.length→Ac (CB M' u v) k=if k=v then Ac M' u else if k=u then Ac M' v else Ac M' k:=fun k hk=>Fx (by omega)
 have a0:Ac (CB M' u v) 0=Ac M' 0:=by rw[at_ 0 (by omega),if_neg (by omega),if_neg (by omega)]
 refine⟨by omega,h.s.trans (Eo (by omega) (by omega)),by omega,by omega,by omega,fun k hk hk2=> ?_,fun k hk hk2=> ?_⟩
 ·rw[a0,at_ k (by omega),if_neg (by omega)]
  by_cases e:k=u
  ·rw[if_pos e];exact h2
  ·rw[if_neg e];exact h.lo k hk (by omega)
 ·rw[a0,at_ k hk2]
  by_cases e:k=v
  ·rw[if_pos e];exact h1
  ·rw[if_neg e,if_neg (by omega)];exact h.hi k (by omega) hk2
structure OQ (M M':List Ah) (p:Ah) (u:Nat):Prop where
 s:Sim M M'
 u1:1≤u
 um:u≤M.length
 p0:Ac M' 0=p
 lo: ∀k,k<u→ ¬A4 p (Ac M' k)
 hi: ∀k,u≤k→k<M.length→A4 p (Ac M' k)
structure Fo (M M':List Ah) (p:Ah) (u v:Nat):Prop where
 s:Sim M M'
 u1:1≤u
 uv:u≤v+1
 vm:v<M.length
 p0:Ac M' 0=p
 lo: ∀k,1≤k→k<u→ ¬A4 p (Ac M' k)
 hi: ∀k,v<k→k<M.length→A4 p (Ac M' k)
theorem Fo.fin {M M':List Ah} {p:Ah} {u v:Nat} (h:Fo M M' p u v) (hv:v<u):OQ M M' p u:=by
 have hm:=h.vm
 have huv:=h.uv
 refine⟨h.s,h.u1,by omega,h.p0,fun k hk=> ?_,fun k hk hk2=>h.hi k (by omega) hk2⟩
 by_cases e:k=0
 ·rw[e,h.p0];exact CG _
 ·exact h.lo k (by omega) hk
theorem Fo.swp {M M':List Ah} {p:Ah} {u v:Nat} (h:Fo M M' p u v) (huv:u≤v) (h1:A4 p (Ac M' u)) (h2: ¬A4 p (Ac M' v)):u<v∧Fo M (CB M' u v) p (u+1) (v-1):=by
 have hl:=h.s.1
 have hm:=h.vm
 have hu1:=h.u1
 have hne:u≠v:=fun e=>by subst e;exact h2 h1
 have at_: ∀k,k<M.length→Ac (CB M' u v) k=if k=v then Ac M' u else if k=u then Ac M' v else Ac M' k:=fun k hk=>Fx (by omega)
 refine⟨by omega,h.s.trans (Eo (by omega) (by omega)),by omega,by omega,by omega, ?_,fun k hk hk2=> ?_,fun k hk hk2=> ?_⟩
 ·rw[at_ 0 (by omega),if_neg (by omega),if_neg (by omega)];exact h.p0
 ·rw[at_ k (by omega),if_neg (by omega)]
  by_cases e:k=u
  ·rw[if_pos e];exact h2
  ·rw[if_neg e];exact h.lo k hk (by omega)
 ·rw[at_ k hk2]
  by_cases e:k=v
  ·rw[if_pos e];exact h1
  ·rw[if_neg e,if_neg (by omega)];exact h.hi k (by omega) hk2
theorem St (c:Nat) (W:World) (g cap n a:Nat) (A M B:List Ah) (junk:List Value) (ha:A.length=a) (hn:n=(A++M++B).length) (hn4:n≤100000) (hg:W.heap[g]? =some (rwO A M B junk)) (hm:0<M.length):
  Calls Tryz.prog 185 #[.slice (some ⟨g,0,none⟩) n cap, .int .i64 (a:Nat), .int .i64 ((a+M.length:Nat):Int),lsF c] W fun e W'=> ∃x:List Ah,e= .returned ((fun _=> .tuple #[]) x)∧Sim M x∧EE W W' g ((fun _=>g) x) ((fun x:List Ah=>rwO A (x) B junk) x):=by
 have hnn:n=a+M.length+B.length:=by rw[hn,List.length_append,List.length_append,ha]
 have key:Calls Tryz.prog 185 [.slice (some ⟨g,0,none⟩) n cap, .int .i64 (a:Nat), .int .i64 ((a+M.length:Nat):Int),lsF c].toArray W fun e W'=> ∃x:List Ah,e= .returned ((fun _=> .tuple #[]) x)∧(fun x:List Ah=>Sim M x) x∧Below (AE W).heap.size (AE W) W'∧A3 (AE W) W' ((fun x:List Ah=>[Ax (Ai W g),A5 g (A++x++B) junk]) x):=by
  refine Ba (X:=List Ah) (val:=fun _=> .tuple #[]) (Φ:=fun x:List Ah=>Sim M x) (nb:=fun x:List Ah=>[Ax (Ai W g),A5 g (A++x++B) junk]) (Hp.enterT (B:=A5 g (A++M++B) junk) I hg) Tryz.func185 I I I ?_
  have kp: ∀ {W1:World} {M1:List Ah},Hp (AE W) [Ax (Ai W g),A5 g (A++M1++B) junk] W1→CC W W1 g:=fun hp=>BV hg ⟨_,List.mem_cons_self ..⟩ hp
  refine zA (zB (wP I (wP I (Aa (zE (zA (zB (wP I (wP I (wV 12 ((a+(M.length-1):Nat):Int) I (show w64 (((a+M.length:Nat):Int)-1)=_ by rw[Ak (by omega) (by omega)];omega) (wP I (Aa (zE ?_)))))))))))))
  refine zH ?_
  refine A9 (X:=Nat×Nat×List Ah) (fun x=>[(0, .slice (some ⟨g,0,none⟩) n cap),(8, .int .i64 ((a+x.1:Nat):Int)),(9, .int .i64 ((a+x.2.1:Nat):Int))]) (fun x=>[Ax (Ai W g),A5 g (A++x.2.2++B) junk]) (fun x=>x.2.1<M.length∧Sim M x.2.2) (fun x=>x.2.1-x.1) (0,M.length-1,M) ⟨by show M.length-1<M.length;omega,Sim.refl M⟩ ⟨I,I,I,tO⟩ [] I ?_
  rintro⟨u,v,M1⟩ ⟨hv,hS⟩
  have hv:v<M.length:=hv
  have hS:Sim M M1:=hS
  have hl:=hS.1
  refine zA (zA (zB (wP I (wP I (wP I ?_)))))
  by_cases huv:u<v
  rotate_left
  ·refine wU 15 false I (dF (by show¬(((a+u:Nat):Int)<((a+v:Nat):Int));omega)) (Aa (zE (zS I (zJ (zK (zK (zL ?_)))))))
   refine Hy (X:=List Ah) (val:=fun _=> .tuple #[]) (Φ:=fun x:List Ah=>Sim M x) (nb:=fun x:List Ah=>[Ax (Ai W g),A5 g (A++x++B) junk]) (fn:=Tryz.f185) tH I M1 I hS fun W1 hp=> ?_
   exact(hp.pick (l:=[Ax (Ai W g),A5 g (A++M1++B) junk]) [0,1] (by decide) I).own
  have hu1:u<M1.length:=by omega
  have hv1:v<M1.length:=by omega
  refine wU 15 true I (dT (by show((a+u:Nat):Int)<((a+v:Nat):Int);omega)) (Aa (zE (zR I (zI (zE (zH (Au ?_)))))))
  refine AU (X:=Unit) [true,true,false,false,true,true,true,true,true,true,true,true,true,false,false,false] (fun _=>[(0, .slice (some ⟨g,0,none⟩) n cap),(8, .int .i64 ((a+u:Nat):Int)),(9, .int .i64 ((a+v:Nat):Int))]) (fun _=>[Ax (Ai W g),A5 g (A++CB M1 u v++B) junk])
   5 [Ax (Ai W g),A5 g (A++M1++B) junk] Tryz.mixed (by kernel_rfl) ?_ ?_
  ·refine qP I (qP I (qP I (qP I ?_)))
   refine qJ ?_
   refine qL 0 I I (fun W1 hp=>CR hp 1 ha I hv1) I (qP I (qP I ?_))
   refine qJ ?_
   refine qL 0 I I (fun W1 hp=>CR hp 1 ha I hu1) I ?_
   refine qJ ?_
   refine B6 (wX ?_)
   refine RS.cons ?_ (RS.cons ?_ (RS.cons ?_ (RS.nil)))
   ·refine wP I (Aa (Ab (wX ?_)))
    refine RS.cons ?_ (RS.cons ?_ (RS.nil))
    ·refine wP I (Aa (Ab (wX (wZ ?_))))
     refine Ad 1 _ tH I I I I I I I I I I (Ay ha hu1) (Az ha hu1 (Ac M1 v)) ?_
     refine Aa (Ab (wY (wZ ?_)))
     refine wJ ?_
     refine Aa (Ab (wY (wZ ?_)))
     refine Ad 1 _ tH I I I I I I I I I I (Ay (M:=M1.set u (Ac M1 v)) (u:=v) ha (by rw[List.length_set];exact hv1)) (Az (M:=M1.set u (Ac M1 v)) (u:=v) ha (by rw[List.length_set];exact hv1) (Ac M1 u)) ?_
     refine Aa (Ab ?_)
     refine Aj I (by kernel_rfl) ?_
     exact Ag () ⟨I,I,I,tO⟩ [0,1] (by decide) I
    ·refine Ad 1 _ tH I I I I I I I I I I (Ay ha hu1) (Az ha hu1 (Ac M1 v)) ?_
     refine Aa (Ab (wY (wZ (wP I (Aa (Ab (wY (wZ ?_))))))))
     refine wJ ?_
     refine Aa (Ab (wY (wZ ?_)))
     refine Ad 1 _ tH I I I I I I I I I I (Ay (M:=M1.set u (Ac M1 v)) (u:=v) ha (by rw[List.length_set];exact hv1)) (Az (M:=M1.set u (Ac M1 v)) (u:=v) ha (by rw[List.length_set];exact hv1) (Ac M1 u)) ?_
     refine Aa (Ab ?_)
     refine Aj I (by kernel_rfl) ?_
     exact Ag () ⟨I,I,I,tO⟩ [0,1] (by decide) I
   ·refine wP I (Aa (Ab (wX ?_)))
    refine RS.cons ?_ (RS.cons ?_ (RS.nil))
    ·refine wP I (Aa (Ab (wX (wZ ?_))))
     refine Ad 1 _ tH I I I I I I I I I I (Ay ha hu1) (Az ha hu1 (Ac M1 v)) ?_
     refine Aa (Ab (wY (wZ ?_)))
     refine wJ ?_
     refine Aa (Ab (wY (wZ ?_)))
     refine Ad 1 _ tH I I I I I I I I I I (Ay (M:=M1.set u (Ac M1 v)) (u:=v) ha (by rw[List.length_set];exact hv1)) (Az (M:=M1.set u (Ac M1 v)) (u:=v) ha (by rw[List.length_set];exact hv1) (Ac M1 u)) ?_
     refine Aa (Ab ?_)
     refine Aj I (by kernel_rfl) ?_
     exact Ag () ⟨I,I,I,tO⟩ [0,1] (by decide) I
    ·refine Ad 1 _ tH I I I I I I I I I I (Ay ha hu1) (Az ha hu1 (Ac M1 v)) ?_
     refine Aa (Ab (wY (wZ (wP I (Aa (Ab (wY (wZ ?_))))))))
     refine wJ ?_
     refine Aa (Ab (wY (wZ ?_)))
     refine Ad 1 _ tH I I I I I I I I I I (Ay (M:=M1.set u (Ac M1 v)) (u:=v) ha (by rw[List.length_set];exact hv1)) (Az (M:=M1.set u (Ac M1 v)) (u:=v) ha (by rw[List.length_set];exact hv1) (Ac M1 u)) ?_
     refine Aa (Ab ?_)
     refine Aj I (by kernel_rfl) ?_
     exact Ag () ⟨I,I,I,tO⟩ [0,1] (by decide) I
   ·refine Ad 1 _ tH I I I I I I I I I I (Ay ha hu1) (Az ha hu1 (Ac M1 v)) ?_
    refine Aa (Ab (wY ?_))
    refine RS.cons ?_ (RS.cons ?_ (RS.nil))
    ·refine wP I (Aa (Ab (wY (wZ (wP I (Aa (Ab (wY (wZ ?_)))))))))
     refine wJ ?_
     refine Aa (Ab (wY (wZ ?_)))
     refine Ad 1 _ tH I I I I I I I I I I (Ay (M:=M1.set u (Ac M1 v)) (u:=v) ha (by rw[List.length_set];exact hv1)) (Az (M:=M1.set u (Ac M1 v)) (u:=v) ha (by rw[List.length_set];exact hv1) (Ac M1 u)) ?_
     refine Aa (Ab ?_)
     refine Aj I (by kernel_rfl) ?_
     exact Ag () ⟨I,I,I,tO⟩ [0,1] (by decide) I
    ·refine wP I (Aa (Ab (wY (wZ (wP I (Aa (Ab (wY (wZ ?_)))))))))
     refine wJ ?_
     refine Aa (Ab (wY (wZ ?_)))
     refine Ad 1 _ tH I I I I I I I I I I (Ay (M:=M1.set u (Ac M1 v)) (u:=v) ha (by rw[List.length_set];exact hv1)) (Az (M:=M1.set u (Ac M1 v)) (u:=v) ha (by rw[List.length_set];exact hv1) (Ac M1 u)) ?_
     refine Aa (Ab ?_)
     refine Aj I (by kernel_rfl) ?_
     exact Ag () ⟨I,I,I,tO⟩ [0,1] (by decide) I
  intro _
  refine zE (zA (zB (wP I (wP I (wV 31 ((a+(u+1):Nat):Int) I (Av (by omega)) (wP I (Aa (zE (zB (wP I (wP I (wV 33 ((a+(v-1):Nat):Int) I (show w64 (((a+v:Nat):Int)-1)=_ by rw[Ak (by omega) (by omega)];omega) (wP I ?_)))))))))))))
  exact Aa (zN (A0 (u+1,v-1,CB M1 u v) ⟨by show v-1<M.length;omega,hS.trans (Eo hu1 hv1)⟩ (by show v-1-(u+1)<v-u;omega) ⟨I,I,I,tO⟩ [] I))
 refine key.mono ?_
 rintro e W' ⟨x,he,hx,hb,hn'⟩
 exact⟨x,he,hx,BL hg I hb hn'⟩
theorem Q2 (c:Nat) (S:List Ah) (W:World) (g cap n a:Nat) (A M B:List Ah) (junk:List Value) (ha:A.length=a) (hn:n=(A++M++B).length) (hn4:n≤100000) (hg:W.heap[g]? =some (rwO A M B junk)) (hm:0<M.length∧M.length<50) (hM: ∀x∈M,x∈S) (hf:LsK c g S W):
  Calls Tryz.prog 186 #[.slice (some ⟨g,0,none⟩) n cap, .int .i64 (a:Nat), .int .i64 ((a+M.length:Nat):Int),lsF c] W fun e W'=> ∃x:Bool,e= .returned ((fun x:Bool=> .bool x) x)∧(x=true→SrC M)∧EE W W' g ((fun _=>g) x) ((fun _:Bool=>rwO A (M) B junk) x):=by
 have hnn:n=a+M.length+B.length:=by rw[hn,List.length_append,List.length_append,ha]
 have key:Calls Tryz.prog 186 [.slice (some ⟨g,0,none⟩) n cap, .int .i64 (a:Nat), .int .i64 ((a+M.length:Nat):Int),lsF c].toArray W fun e W'=> ∃x:Bool,e= .returned ((fun x:Bool=> .bool x) x)∧(fun x:Bool=>(x=true→SrC M)) x∧Below (AE W).heap.size (AE W) W'∧A3 (AE W) W' ((fun _:Bool=>[Ax (Ai W g),A5 g (A++M++B) junk]) x):=by
  refine Ba (X:=Bool) (val:=fun x:Bool=> .bool x) (Φ:=fun x:Bool=>(x=true→SrC M)) (nb:=fun _:Bool=>[Ax (Ai W g),A5 g (A++M++B) junk]) (Hp.enterT (B:=A5 g (A++M++B) junk) I hg) Tryz.func186 I I I ?_
  have kp: ∀ {W1:World} {M1:List Ah},Hp (AE W) [Ax (Ai W g),A5 g (A++M1++B) junk] W1→CC W W1 g:=fun hp=>BV hg ⟨_,List.mem_cons_self ..⟩ hp
  refine zA (zB (wP I (Aa (zE (zA (zB (wP I (wP I (wV 14 ((a+1:Nat):Int) I (Av (by omega)) (wP I (Aa (zE (zA (zA ?_))))))))))))))
  refine zB (wP I (Aa (zE (zH ?_))))
  refine A9 (X:=Unit) (fun _=>[(0, .slice (some ⟨g,0,none⟩) n cap),(1, .int .i64 (a:Nat)),(2, .int .i64 ((a+M.length:Nat):Int)),(3,lsF c),(9, .int .i64 ((a+1:Nat):Int)),(10, .int .i64 0)]) (fun _=>[Ax (Ai W g),A5 g (A++M++B) junk]) (fun _=>True) (fun _=>0) () tO ⟨I,I,I,I,I,I,tO⟩ [] I ?_
  intro _ _
  refine zA (zA (zB (wP I (wP I (Aa (zE (zR I (zI (zE (zA (zH (zA (zH ?_)))))))))))))
  refine A9 (X:=Nat) (fun i=>[(0, .slice (some ⟨g,0,none⟩) n cap),(1, .int .i64 (a:Nat)),(2, .int .i64 ((a+M.length:Nat):Int)),(3,lsF c),(9, .int .i64 ((a+i:Nat):Int))]) (fun _=>[Ax (Ai W g),A5 g (A++M++B) junk]) (fun i=>1≤i∧i≤M.length∧ ∀k,0<k→k<i→ ¬A4 (Ac M k) (Ac M (k-1))) (fun i=>M.length-i) 1 ⟨Nat.le_refl _,by omega,fun k h1 h2=>by omega⟩ ⟨I,I,I,I,I,tO⟩ [] I ?_
  rintro i ⟨hi1,hi2,hi3⟩
  have hi1:1≤i:=hi1
  have hi2:i≤M.length:=hi2
  have hi3: ∀k,0<k→k<i→ ¬A4 (Ac M k) (Ac M (k-1)):=hi3
  refine Au (Au ?_)
  by_cases hlt:i<M.length
  ·refine zU (qP I (qP I (qP I (qU 21 true I (dT (by omega)) (qP I (qP I (qP I (qP I ?_))))))))
   refine qJ ?_
   refine qL 0 I I (fun W1 hp=>CR hp 1 ha I hlt) I (qP I (qP I (qP I (qV 30 ((a+(i-1):Nat):Int) I (show w64 (((a+i:Nat):Int)-1)=_ by rw[Ak (by omega) (by omega)];omega) ?_))))
   refine qJ ?_
   refine qL 0 I I (fun W1 hp=>CR hp 1 ha I (show i-1<M.length by omega)) I ?_
   refine CL (first:=[An c]) I I I I I I (by kernel_rfl) (fun W1 hp=>hf W1 (kp hp) (Ac M i) (hM _ (AK (by omega) i)) (Ac M (i-1)) (hM _ (AK (by omega) (i-1)))) ?_
   refine qP I (qU 34 (Be (Ac M i) (Ac M (i-1))) I (Dj _ _) ?_)
   cases hb:Be (Ac M i) (Ac M (i-1)) with
   |false=>
    refine qP I (qP I (AJ (Aa (zE (zR I (zI (zE (zH (zB (wP I (wP I (wV 38 ((a+(i+1):Nat):Int) I (Av (by omega)) (wP I ?_)))))))))))))
    refine Aa (zN ?_)
    exact A0 (i+1) ⟨by show 1≤i+1;omega,hlt,fun k h1 h2=>by
     by_cases e:k=i
     ·subst e;exact fun d=>by rw[Br.2 d] at hb;cases hb
     ·exact hi3 k h1 (by omega)⟩ (by show M.length-(i+1)<M.length-i;omega) ⟨I,I,I,I,I,tO⟩ [] I
   |true=>
    refine qP I (qP I (AJ (Aa (zE (zS I (zJ (zK (zK (zL (zE (zA (zA (zB ?_)))))))))))))
    refine wP I (wP I (wP I (wU 41 false I (beq_eq_false_iff_ne.2 (by omega)) (Aa (zE (zS I (zI (zE (zA (zA (zB (wP I (wP I (wP I ?_))))))))))))))
    refine wV 44 ((M.length:Nat):Int) I (show w64 (((a+M.length:Nat):Int)-((a:Nat):Int))=_ by rw[Ak (by omega) (by omega)];omega) (wP I (wU 45 true I (dT (by omega)) (Aa (zE (zR I (zA (zB (wP I (Aa (zE (zO (zP (zQ ?_)))))))))))))
    refine zP (zP (zQ (zP ?_)))
    refine A8 (X:=Bool) (val:=fun x:Bool=> .bool x) (Φ:=fun x:Bool=>(x=true→SrC M)) (nb:=fun _:Bool=>[Ax (Ai W g),A5 g (A++M++B) junk]) (fn:=Tryz.f186) tH rfl (.tmp rfl) false rfl (fun h=>by cases h) fun W1 hp=> ?_
    exact(hp.pick (l:=[Ax (Ai W g),A5 g (A++M++B) junk]) [0,1] (by decide) I).own
  ·obtain rfl:i=M.length:=by omega
   refine zU (qP I (qP I (qP I (qU 21 false I (dF (by omega)) (qP I ?_)))))
   iterate 13 refine C5 I I ?_
   refine qP I (AJ (Aa (zE (zS I (zJ (zK (zK (zL (zE (zA (zA (zB (wP I (wP I (wP I ?_)))))))))))))))
   refine wU 41 true I (beq_iff_eq.2 I) (Aa (zE (zR I (zA (zB (wP I (Aa (zE (zO (zP (zQ (zP (zP ?_)))))))))))))
   refine zQ (zP ?_)
   refine A8 (X:=Bool) (val:=fun x:Bool=> .bool x) (Φ:=fun x:Bool=>(x=true→SrC M)) (nb:=fun _:Bool=>[Ax (Ai W g),A5 g (A++M++B) junk]) (fn:=Tryz.f186) tH I (.tmp I) true I (fun _=>UU hi3) fun W1 hp=> ?_
   exact(hp.pick (l:=[Ax (Ai W g),A5 g (A++M++B) junk]) [0,1] (by decide) I).own
 refine key.mono ?_
 rintro e W' ⟨x,he,hx,hb,hn'⟩
 exact⟨x,he,hx,BL hg I hb hn'⟩
-- BOXES 3
-- CODE2
theorem Ce.up {M M':List Ah} {u v:Nat} (h:Ce M M' u v) (huv:u≤v) (h1:A4 (Ac M' u) (Ac M' 0)):Ce M M' (u+1) v:=
 ⟨h.s,by omega,by omega,h.vm,fun k hk hk2=>by
  by_cases e:k=u
  ·subst e;exact h1
  ·exact h.lo k hk (by omega),h.hi⟩
theorem Ce.dn {M M':List Ah} {u v:Nat} (h:Ce M M' u v) (huv:u≤v) (h1: ¬A4 (Ac M' v) (Ac M' 0)):Ce M M' u (v-1):=by
 have a:=h.u1
 have b:=h.vm
 exact⟨h.s,a,by omega,by omega,h.lo,fun k hk hk2=>by
  by_cases e:k=v
  ·subst e;exact h1
  ·exact h.hi k (by omega) hk2⟩
theorem Fo.up {M M':List Ah} {p:Ah} {u v:Nat} (h:Fo M M' p u v) (huv:u≤v) (h1: ¬A4 p (Ac M' u)):Fo M M' p (u+1) v:=
 ⟨h.s,by omega,by omega,h.vm,h.p0,fun k hk hk2=>by
  by_cases e:k=u
  ·subst e;exact h1
  ·exact h.lo k hk (by omega),h.hi⟩
theorem Fo.dn {M M':List Ah} {p:Ah} {u v:Nat} (h:Fo M M' p u v) (huv:u≤v) (h1:A4 p (Ac M' v)):Fo M M' p u (v-1):=by
 have a:=h.u1
 have b:=h.vm
 exact⟨h.s,a,by omega,by omega,h.p0,h.lo,fun k hk hk2=>by
  by_cases e:k=v
  ·subst e;exact h1
  ·exact h.hi k (by omega) hk2⟩
theorem Gt {x y:Ah} (h:Be x y=false): ¬A4 x y:=fun d=>by rw[Br.2 d] at h;cases h
theorem PL (c:Nat) (S:List Ah) (W:World) (g cap n a:Nat) (A M B:List Ah) (junk:List Value) (ha:A.length=a) (hn:n=(A++M++B).length) (hn4:n≤100000) (hg:W.heap[g]? =some (rwO A M B junk)) (k:Nat) (hk:k<M.length) (hM: ∀x∈M,x∈S) (hf:LsK c g S W):
  Calls Tryz.prog 188 #[.slice (some ⟨g,0,none⟩) n cap, .int .i64 (a:Nat), .int .i64 ((a+M.length:Nat):Int), .int .i64 ((a+k:Nat):Int),lsF c] W fun e W'=> ∃x:Nat×Bool×List Ah,e= .returned ((fun x:Nat×Bool×List Ah=> .tuple #[.int .i64 ((a+x.1:Nat):Int), .bool x.2.1]) x)∧Iy M x.2.2 x.1∧EE W W' g ((fun _=>g) x) ((fun x:Nat×Bool×List Ah=>rwO A (x.2.2) B junk) x):=by
 have hnn:n=a+M.length+B.length:=by rw[hn,List.length_append,List.length_append,ha]
 have key:Calls Tryz.prog 188 [.slice (some ⟨g,0,none⟩) n cap, .int .i64 (a:Nat), .int .i64 ((a+M.length:Nat):Int), .int .i64 ((a+k:Nat):Int),lsF c].toArray W fun e W'=> ∃x:Nat×Bool×List Ah,e= .returned ((fun x:Nat×Bool×List Ah=> .tuple #[.int .i64 ((a+x.1:Nat):Int), .bool x.2.1]) x)∧(fun x:Nat×Bool×List Ah=>Iy M x.2.2 x.1) x∧Below (AE W).heap.size (AE W) W'∧A3 (AE W) W' ((fun x:Nat×Bool×List Ah=>[Ax (Ai W g),A5 g (A++x.2.2++B) junk]) x):=by
  refine Ba (X:=Nat×Bool×List Ah) (val:=fun x:Nat×Bool×List Ah=> .tuple #[.int .i64 ((a+x.1:Nat):Int), .bool x.2.1]) (Φ:=fun x:Nat×Bool×List Ah=>Iy M x.2.2 x.1) (nb:=fun x:Nat×Bool×List Ah=>[Ax (Ai W g),A5 g (A++x.2.2++B) junk]) (Hp.enterT (B:=A5 g (A++M++B) junk) I hg) Tryz.func188 I I I ?_
  have kp: ∀ {W1:World} {M1:List Ah},Hp (AE W) [Ax (Ai W g),A5 g (A++M1++B) junk] W1→CC W W1 g:=fun hp=>BV hg ⟨_,List.mem_cons_self ..⟩ hp
  have h0M:0<M.length:=by omega
  refine zA (zB (wP I (wP I (Aa (zE (Au ?_))))))
  refine AU (X:=Unit) [true,true,false,false,true,true,true,true,true,true,true,true,true,false,false,false] (fun _=>[(0, .slice (some ⟨g,0,none⟩) n cap),(1, .int .i64 (a:Nat)),(2, .int .i64 ((a+M.length:Nat):Int)),(4,lsF c)]) (fun _=>[Ax (Ai W g),A5 g (A++CB M 0 k++B) junk])
   5 [Ax (Ai W g),A5 g (A++M++B) junk] Tryz.mixed (by kernel_rfl) ?_ ?_
  ·refine qP I (qP I (qP I (qP I ?_)))
   refine qJ ?_
   refine qL 0 I I (fun W1 hp=>CR hp 1 ha I hk) I (qP I (qP I ?_))
   refine qJ ?_
   refine qL 0 I I (fun W1 hp=>CR hp 1 ha I h0M) I ?_
   refine qJ ?_
   refine B6 (wX ?_)
   refine RS.cons ?_ (RS.cons ?_ (RS.cons ?_ (RS.nil)))
   ·refine wP I (Aa (Ab (wX ?_)))
    refine RS.cons ?_ (RS.cons ?_ (RS.nil))
    ·refine wP I (Aa (Ab (wX (wZ ?_))))
     refine Ad 1 _ tH I I I I I I I I I I (Ay ha h0M) (Az ha h0M (Ac M k)) ?_
     refine Aa (Ab (wY (wZ ?_)))
     refine wJ ?_
     refine Aa (Ab (wY (wZ ?_)))
     refine Ad 1 _ tH I I I I I I I I I I (Ay (M:=M.set 0 (Ac M k)) (u:=k) ha (by rw[List.length_set];exact hk)) (Az (M:=M.set 0 (Ac M k)) (u:=k) ha (by rw[List.length_set];exact hk) (Ac M 0)) ?_
     refine Aa (Ab ?_)
     refine Aj I (by kernel_rfl) ?_
     exact Ag () ⟨I,I,I,I,tO⟩ [0,1] (by decide) I
    ·refine Ad 1 _ tH I I I I I I I I I I (Ay ha h0M) (Az ha h0M (Ac M k)) ?_
     refine Aa (Ab (wY (wZ (wP I (Aa (Ab (wY (wZ ?_))))))))
     refine wJ ?_
     refine Aa (Ab (wY (wZ ?_)))
     refine Ad 1 _ tH I I I I I I I I I I (Ay (M:=M.set 0 (Ac M k)) (u:=k) ha (by rw[List.length_set];exact hk)) (Az (M:=M.set 0 (Ac M k)) (u:=k) ha (by rw[List.length_set];exact hk) (Ac M 0)) ?_
     refine Aa (Ab ?_)
     refine Aj I (by kernel_rfl) ?_
     exact Ag () ⟨I,I,I,I,tO⟩ [0,1] (by decide) I
   ·refine wP I (Aa (Ab (wX ?_)))
    refine RS.cons ?_ (RS.cons ?_ (RS.nil))
    ·refine wP I (Aa (Ab (wX (wZ ?_))))
     refine Ad 1 _ tH I I I I I I I I I I (Ay ha h0M) (Az ha h0M (Ac M k)) ?_
     refine Aa (Ab (wY (wZ ?_)))
     refine wJ ?_
     refine Aa (Ab (wY (wZ ?_)))
     refine Ad 1 _ tH I I I I I I I I I I (Ay (M:=M.set 0 (Ac M k)) (u:=k) ha (by rw[List.length_set];exact hk)) (Az (M:=M.set 0 (Ac M k)) (u:=k) ha (by rw[List.length_set];exact hk) (Ac M 0)) ?_
     refine Aa (Ab ?_)
     refine Aj I (by kernel_rfl) ?_
     exact Ag () ⟨I,I,I,I,tO⟩ [0,1] (by decide) I
    ·refine Ad 1 _ tH I I I I I I I I I I (Ay ha h0M) (Az ha h0M (Ac M k)) ?_
     refine Aa (Ab (wY (wZ (wP I (Aa (Ab (wY (wZ ?_))))))))
     refine wJ ?_
     refine Aa (Ab (wY (wZ ?_)))
     refine Ad 1 _ tH I I I I I I I I I I (Ay (M:=M.set 0 (Ac M k)) (u:=k) ha (by rw[List.length_set];exact hk)) (Az (M:=M.set 0 (Ac M k)) (u:=k) ha (by rw[List.length_set];exact hk) (Ac M 0)) ?_
     refine Aa (Ab ?_)
     refine Aj I (by kernel_rfl) ?_
     exact Ag () ⟨I,I,I,I,tO⟩ [0,1] (by decide) I
   ·refine Ad 1 _ tH I I I I I I I I I I (Ay ha h0M) (Az ha h0M (Ac M k)) ?_
    refine Aa (Ab (wY ?_))
    refine RS.cons ?_ (RS.cons ?_ (RS.nil))
    ·refine wP I (Aa (Ab (wY (wZ (wP I (Aa (Ab (wY (wZ ?_)))))))))
     refine wJ ?_
     refine Aa (Ab (wY (wZ ?_)))
     refine Ad 1 _ tH I I I I I I I I I I (Ay (M:=M.set 0 (Ac M k)) (u:=k) ha (by rw[List.length_set];exact hk)) (Az (M:=M.set 0 (Ac M k)) (u:=k) ha (by rw[List.length_set];exact hk) (Ac M 0)) ?_
     refine Aa (Ab ?_)
     refine Aj I (by kernel_rfl) ?_
     exact Ag () ⟨I,I,I,I,tO⟩ [0,1] (by decide) I
    ·refine wP I (Aa (Ab (wY (wZ (wP I (Aa (Ab (wY (wZ ?_)))))))))
     refine wJ ?_
     refine Aa (Ab (wY (wZ ?_)))
     refine Ad 1 _ tH I I I I I I I I I I (Ay (M:=M.set 0 (Ac M k)) (u:=k) ha (by rw[List.length_set];exact hk)) (Az (M:=M.set 0 (Ac M k)) (u:=k) ha (by rw[List.length_set];exact hk) (Ac M 0)) ?_
     refine Aa (Ab ?_)
     refine Aj I (by kernel_rfl) ?_
     exact Ag () ⟨I,I,I,I,tO⟩ [0,1] (by decide) I
  intro _
  have hI0:Ce M (CB M 0 k) 1 (M.length-1):=⟨Eo h0M hk,Nat.le_refl _,by omega,by omega,fun j h1 h2=>by omega,fun j h1 h2=>by omega⟩
  obtain⟨M1,hM1⟩: ∃M1,M1=CB M 0 k:=⟨_,rfl⟩
  rw[←hM1] at hI0
  rw[←hM1]
  refine zE (zA (zB (wP I (wP I (wV 29 ((a+1:Nat):Int) I (Av (by omega)) (wP I (wP I (wV 31 ((a+(M.length-1):Nat):Int) I (show w64 (((a+M.length:Nat):Int)-1)=_ by rw[Ak (by omega) (by omega)];omega) (wP I (wP I (Aa ?_)))))))))))
  obtain⟨v0,hv0⟩: ∃v0,v0=M.length-1:=⟨_,rfl⟩
  rw[←hv0] at hI0
  rw[←hv0]
  refine AT (Au ?_)
  refine AM (X:=Nat) (fun u=>[(0, .slice (some ⟨g,0,none⟩) n cap),(1, .int .i64 (a:Nat)),(4,lsF c),(12, .int .i64 ((a+u:Nat):Int)),(13, .int .i64 ((a+v0:Nat):Int))]) (fun _=>[Ax (Ai W g),A5 g (A++M1++B) junk]) (fun u=>(Ce M M1 u v0∧1≤u)∧(u≤v0→ ¬A4 (Ac M1 u) (Ac M1 0))) ?_ ?_
  ·refine zH ?_
   refine A9 (X:=Nat) (fun u=>[(0, .slice (some ⟨g,0,none⟩) n cap),(1, .int .i64 (a:Nat)),(4,lsF c),(12, .int .i64 ((a+u:Nat):Int)),(13, .int .i64 ((a+v0:Nat):Int))]) (fun _=>[Ax (Ai W g),A5 g (A++M1++B) junk]) (fun u=>Ce M M1 u v0∧1≤u) (fun u=>v0+1-u) 1 ⟨hI0,Nat.le_refl _⟩ ⟨I,I,I,I,I,tO⟩ [] I ?_
   rintro u ⟨hI,hvv⟩
   have hI:Ce M M1 u v0:=hI
   have hvv:1≤u:=hvv
   have i1:=hI.u1
   have i2:=hI.uv
   have i3:=hI.vm
   have i4:=hI.s.1
   refine Au (Au ?_)
   by_cases hle:u≤v0
   ·have h0m:0<M1.length:=by omega
    have hum:u<M1.length:=by omega
    refine zU (qP I (qP I (qP I (qU 34 true I (dT (by omega)) (qP I (qP I (qP I (qP I ?_))))))))
    refine qJ ?_
    refine qL 0 I I (fun W1 hp=>CR hp 1 ha I hum) I (qP I (qP I ?_))
    refine qJ ?_
    refine qL 0 I I (fun W1 hp=>CR hp 1 ha I h0m) I ?_
    refine CL (first:=[An c]) I I I I I I (by kernel_rfl) (fun W1 hp=>hf W1 (kp hp) (Ac M1 u) (hI.s.mem hM _ (AK (by omega) u)) (Ac M1 0) (hI.s.mem hM _ (AK (by omega) 0))) ?_
    refine qP I (qU 46 (Be (Ac M1 u) (Ac M1 0)) I (Dj _ _) ?_)
    cases hb:Be (Ac M1 u) (Ac M1 0) with
    |true=>
     refine qP I (AJ (Aa (zE (zR I (zI (zE (zH (zB (wP I (wP I (wV 49 ((a+(u+1):Nat):Int) I (Av (by omega)) (wP I (Aa ?_)))))))))))))
     exact zN (A0 (u+1) ⟨hI.up hle (Br.1 hb),Nat.le_succ_of_le hvv⟩ (by show v0+1-(u+1)<v0+1-u;omega) ⟨I,I,I,I,I,tO⟩ [] I)
    |false=>
     exact qP I (AJ (Aa (zE (zS I (zJ (zK (zK (zL (At u ⟨⟨hI,hvv⟩,fun _=>(Gt hb)⟩ ⟨I,I,I,I,I,tO⟩ [] I)))))))))
   ·refine zU (qP I (qP I (qP I (qU 34 false I (dF (by omega)) (qP I ?_)))))
    iterate 11 refine C5 I I ?_
    exact qP I (AJ (Aa (zE (zS I (zJ (zK (zK (zL (At u ⟨⟨hI,hvv⟩,fun h=>absurd h hle⟩ ⟨I,I,I,I,I,tO⟩ [] I)))))))))
  rintro u ⟨⟨hI,hu0⟩,hU⟩
  have hI:Ce M M1 u v0:=hI
  have hu0:1≤u:=hu0
  have hU:u≤v0→ ¬A4 (Ac M1 u) (Ac M1 0):=hU
  refine Au ?_
  refine AM (X:=Nat) (fun v=>[(0, .slice (some ⟨g,0,none⟩) n cap),(1, .int .i64 (a:Nat)),(4,lsF c),(12, .int .i64 ((a+u:Nat):Int)),(13, .int .i64 ((a+v:Nat):Int))]) (fun _=>[Ax (Ai W g),A5 g (A++M1++B) junk]) (fun v=>(Ce M M1 u v∧v≤v0)∧(u≤v→A4 (Ac M1 v) (Ac M1 0))) ?_ ?_
  ·refine zH ?_
   refine A9 (X:=Nat) (fun v=>[(0, .slice (some ⟨g,0,none⟩) n cap),(1, .int .i64 (a:Nat)),(4,lsF c),(12, .int .i64 ((a+u:Nat):Int)),(13, .int .i64 ((a+v:Nat):Int))]) (fun _=>[Ax (Ai W g),A5 g (A++M1++B) junk]) (fun v=>Ce M M1 u v∧v≤v0) (fun v=>v) v0 ⟨hI,Nat.le_refl _⟩ ⟨I,I,I,I,I,tO⟩ [] I ?_
   rintro v ⟨hI,hvv⟩
   have hI:Ce M M1 u v:=hI
   have hvv:v≤v0:=hvv
   have i1:=hI.u1
   have i2:=hI.uv
   have i3:=hI.vm
   have i4:=hI.s.1
   refine Au (Au ?_)
   by_cases hle:u≤v
   ·have h0m:0<M1.length:=by omega
    have hum:v<M1.length:=by omega
    refine zU (qP I (qP I (qP I (qU 52 true I (dT (by omega)) (qP I (qP I (qP I (qP I ?_))))))))
    refine qJ ?_
    refine qL 0 I I (fun W1 hp=>CR hp 1 ha I hum) I (qP I (qP I ?_))
    refine qJ ?_
    refine qL 0 I I (fun W1 hp=>CR hp 1 ha I h0m) I ?_
    refine CL (first:=[An c]) I I I I I I (by kernel_rfl) (fun W1 hp=>hf W1 (kp hp) (Ac M1 v) (hI.s.mem hM _ (AK (by omega) v)) (Ac M1 0) (hI.s.mem hM _ (AK (by omega) 0))) ?_
    refine qP I (qU 64 (Be (Ac M1 v) (Ac M1 0)) I (Dj _ _) ?_)
    cases hb:Be (Ac M1 v) (Ac M1 0) with
    |false=>
     refine qP I (qP I (AJ (Aa (zE (zR I (zI (zE (zH (zB (wP I (wP I (wV 68 ((a+(v-1):Nat):Int) I (show w64 (((a+v:Nat):Int)-1)=_ by rw[Ak (by omega) (by omega)];omega) (wP I ?_)))))))))))))
     exact Aa (zN (A0 (v-1) ⟨hI.dn hle (Gt hb),by show v-1≤v0;omega⟩ (by show v-1<v;omega) ⟨I,I,I,I,I,tO⟩ [] I))
    |true=>
     exact qP I (qP I (AJ (Aa (zE (zS I (zJ (zK (zK (zL (At v ⟨⟨hI,hvv⟩,fun _=>(Br.1 hb)⟩ ⟨I,I,I,I,I,tO⟩ [] I))))))))))
   ·refine zU (qP I (qP I (qP I (qU 52 false I (dF (by omega)) (qP I ?_)))))
    iterate 12 refine C5 I I ?_
    exact qP I (AJ (Aa (zE (zS I (zJ (zK (zK (zL (At v ⟨⟨hI,hvv⟩,fun h=>absurd h hle⟩ ⟨I,I,I,I,I,tO⟩ [] I)))))))))
  rintro v ⟨⟨hI,hvv⟩,hV⟩
  have hI:Ce M M1 u v:=hI
  have hvv:v≤v0:=hvv
  have hV:u≤v→A4 (Ac M1 v) (Ac M1 0):=hV
  have i1:=hI.u1
  have i2:=hI.uv
  have i3:=hI.vm
  have i4:=hI.s.1
  have hvm:v<M1.length:=by omega
  have h0m:0<M1.length:=by omega
  refine zA (zA (zB (wP I (wP I (wP I ?_)))))
  by_cases hgt:v<u
  ·refine wU 71 true I (dT (by show((a+v:Nat):Int)<((a+u:Nat):Int);omega)) (Aa (zE (zR I (Au ?_))))
   refine AU (X:=Unit) [true,true,false,false,true,true,true,true,true,true,true,true,true,false,false,false] (fun _=>[(0, .slice (some ⟨g,0,none⟩) n cap),(1, .int .i64 (a:Nat)),(13, .int .i64 ((a+v:Nat):Int))]) (fun _=>[Ax (Ai W g),A5 g (A++CB M1 v 0++B) junk])
    5 [Ax (Ai W g),A5 g (A++M1++B) junk] Tryz.mixed (by kernel_rfl) ?_ ?_
   ·refine qP I (qP I (qP I (qP I ?_)))
    refine qJ ?_
    refine qL 0 I I (fun W1 hp=>CR hp 1 ha I h0m) I (qP I (qP I ?_))
    refine qJ ?_
    refine qL 0 I I (fun W1 hp=>CR hp 1 ha I hvm) I ?_
    refine qJ ?_
    refine B6 (wX ?_)
    refine RS.cons ?_ (RS.cons ?_ (RS.cons ?_ (RS.nil)))
    ·refine wP I (Aa (Ab (wX ?_)))
     refine RS.cons ?_ (RS.cons ?_ (RS.nil))
     ·refine wP I (Aa (Ab (wX (wZ ?_))))
      refine Ad 1 _ tH I I I I I I I I I I (Ay ha hvm) (Az ha hvm (Ac M1 0)) ?_
      refine Aa (Ab (wY (wZ ?_)))
      refine wJ ?_
      refine Aa (Ab (wY (wZ ?_)))
      refine Ad 1 _ tH I I I I I I I I I I (Ay (M:=M1.set v (Ac M1 0)) (u:=0) ha (by rw[List.length_set];exact h0m)) (Az (M:=M1.set v (Ac M1 0)) (u:=0) ha (by rw[List.length_set];exact h0m) (Ac M1 v)) ?_
      refine Aa (Ab ?_)
      refine Aj I (by kernel_rfl) ?_
      exact Ag () ⟨I,I,I,tO⟩ [0,1] (by decide) I
     ·refine Ad 1 _ tH I I I I I I I I I I (Ay ha hvm) (Az ha hvm (Ac M1 0)) ?_
      refine Aa (Ab (wY (wZ (wP I (Aa (Ab (wY (wZ ?_))))))))
      refine wJ ?_
      refine Aa (Ab (wY (wZ ?_)))
      refine Ad 1 _ tH I I I I I I I I I I (Ay (M:=M1.set v (Ac M1 0)) (u:=0) ha (by rw[List.length_set];exact h0m)) (Az (M:=M1.set v (Ac M1 0)) (u:=0) ha (by rw[List.length_set];exact h0m) (Ac M1 v)) ?_
      refine Aa (Ab ?_)
      refine Aj I (by kernel_rfl) ?_
      exact Ag () ⟨I,I,I,tO⟩ [0,1] (by decide) I
    ·refine wP I (Aa (Ab (wX ?_)))
     refine RS.cons ?_ (RS.cons ?_ (RS.nil))
     ·refine wP I (Aa (Ab (wX (wZ ?_))))
      refine Ad 1 _ tH I I I I I I I I I I (Ay ha hvm) (Az ha hvm (Ac M1 0)) ?_
      refine Aa (Ab (wY (wZ ?_)))
      refine wJ ?_
      refine Aa (Ab (wY (wZ ?_)))
      refine Ad 1 _ tH I I I I I I I I I I (Ay (M:=M1.set v (Ac M1 0)) (u:=0) ha (by rw[List.length_set];exact h0m)) (Az (M:=M1.set v (Ac M1 0)) (u:=0) ha (by rw[List.length_set];exact h0m) (Ac M1 v)) ?_
      refine Aa (Ab ?_)
      refine Aj I (by kernel_rfl) ?_
      exact Ag () ⟨I,I,I,tO⟩ [0,1] (by decide) I
     ·refine Ad 1 _ tH I I I I I I I I I I (Ay ha hvm) (Az ha hvm (Ac M1 0)) ?_
      refine Aa (Ab (wY (wZ (wP I (Aa (Ab (wY (wZ ?_))))))))
      refine wJ ?_
      refine Aa (Ab (wY (wZ ?_)))
      refine Ad 1 _ tH I I I I I I I I I I (Ay (M:=M1.set v (Ac M1 0)) (u:=0) ha (by rw[List.length_set];exact h0m)) (Az (M:=M1.set v (Ac M1 0)) (u:=0) ha (by rw[List.length_set];exact h0m) (Ac M1 v)) ?_
      refine Aa (Ab ?_)
      refine Aj I (by kernel_rfl) ?_
      exact Ag () ⟨I,I,I,tO⟩ [0,1] (by decide) I
    ·refine Ad 1 _ tH I I I I I I I I I I (Ay ha hvm) (Az ha hvm (Ac M1 0)) ?_
     refine Aa (Ab (wY ?_))
     refine RS.cons ?_ (RS.cons ?_ (RS.nil))
     ·refine wP I (Aa (Ab (wY (wZ (wP I (Aa (Ab (wY (wZ ?_)))))))))
      refine wJ ?_
      refine Aa (Ab (wY (wZ ?_)))
      refine Ad 1 _ tH I I I I I I I I I I (Ay (M:=M1.set v (Ac M1 0)) (u:=0) ha (by rw[List.length_set];exact h0m)) (Az (M:=M1.set v (Ac M1 0)) (u:=0) ha (by rw[List.length_set];exact h0m) (Ac M1 v)) ?_
      refine Aa (Ab ?_)
      refine Aj I (by kernel_rfl) ?_
      exact Ag () ⟨I,I,I,tO⟩ [0,1] (by decide) I
     ·refine wP I (Aa (Ab (wY (wZ (wP I (Aa (Ab (wY (wZ ?_)))))))))
      refine wJ ?_
      refine Aa (Ab (wY (wZ ?_)))
      refine Ad 1 _ tH I I I I I I I I I I (Ay (M:=M1.set v (Ac M1 0)) (u:=0) ha (by rw[List.length_set];exact h0m)) (Az (M:=M1.set v (Ac M1 0)) (u:=0) ha (by rw[List.length_set];exact h0m) (Ac M1 v)) ?_
      refine Aa (Ab ?_)
      refine Aj I (by kernel_rfl) ?_
      exact Ag () ⟨I,I,I,tO⟩ [0,1] (by decide) I
   intro _
   refine zE (zA (zB (wP I (wP I (wP I (Aa (zE (zO (zP ?_)))))))))
   refine AR (X:=Nat×Bool×List Ah) (val:=fun x:Nat×Bool×List Ah=> .tuple #[.int .i64 ((a+x.1:Nat):Int), .bool x.2.1]) (Φ:=fun x:Nat×Bool×List Ah=>Iy M x.2.2 x.1) (nb:=fun x:Nat×Bool×List Ah=>[Ax (Ai W g),A5 g (A++x.2.2++B) junk]) (fn:=Tryz.f188) tH I (.tmp I) (.tmp I) (v,true,CB M1 v 0) I (hI.fin hgt) fun W1 hp=> ?_
   exact(hp.pick (l:=[Ax (Ai W g),A5 g (A++CB M1 v 0++B) junk]) [0,1] (by decide) I).own
  refine wU 71 false I (dF (by show¬(((a+v:Nat):Int)<((a+u:Nat):Int));omega)) (Aa ?_)
  obtain⟨huv,hI2⟩:=hI.swp (by omega) (hU (by omega)) (hV (by omega))
  have hum:u<M1.length:=by omega
  refine zE (zS I (zI (zE (Au ?_))))
  refine AU (X:=Unit) [true,true,false,false,true,true,true,true,true,true,true,true,true,false,false,false] (fun _=>[(0, .slice (some ⟨g,0,none⟩) n cap),(1, .int .i64 (a:Nat)),(4,lsF c),(12, .int .i64 ((a+u:Nat):Int)),(13, .int .i64 ((a+v:Nat):Int))]) (fun _=>[Ax (Ai W g),A5 g (A++CB M1 u v++B) junk])
   5 [Ax (Ai W g),A5 g (A++M1++B) junk] Tryz.mixed (by kernel_rfl) ?_ ?_
  ·refine qP I (qP I (qP I (qP I ?_)))
   refine qJ ?_
   refine qL 0 I I (fun W1 hp=>CR hp 1 ha I hvm) I (qP I (qP I ?_))
   refine qJ ?_
   refine qL 0 I I (fun W1 hp=>CR hp 1 ha I hum) I ?_
   refine qJ ?_
   refine B6 (wX ?_)
   refine RS.cons ?_ (RS.cons ?_ (RS.cons ?_ (RS.nil)))
   ·refine wP I (Aa (Ab (wX ?_)))
    refine RS.cons ?_ (RS.cons ?_ (RS.nil))
    ·refine wP I (Aa (Ab (wX (wZ ?_))))
     refine Ad 1 _ tH I I I I I I I I I I (Ay ha hum) (Az ha hum (Ac M1 v)) ?_
     refine Aa (Ab (wY (wZ ?_)))
     refine wJ ?_
     refine Aa (Ab (wY (wZ ?_)))
     refine Ad 1 _ tH I I I I I I I I I I (Ay (M:=M1.set u (Ac M1 v)) (u:=v) ha (by rw[List.length_set];exact hvm)) (Az (M:=M1.set u (Ac M1 v)) (u:=v) ha (by rw[List.length_set];exact hvm) (Ac M1 u)) ?_
     refine Aa (Ab ?_)
     refine Aj I (by kernel_rfl) ?_
     exact Ag () ⟨I,I,I,I,I,tO⟩ [0,1] (by decide) I
    ·refine Ad 1 _ tH I I I I I I I I I I (Ay ha hum) (Az ha hum (Ac M1 v)) ?_
     refine Aa (Ab (wY (wZ (wP I (Aa (Ab (wY (wZ ?_))))))))
     refine wJ ?_
     refine Aa (Ab (wY (wZ ?_)))
     refine Ad 1 _ tH I I I I I I I I I I (Ay (M:=M1.set u (Ac M1 v)) (u:=v) ha (by rw[List.length_set];exact hvm)) (Az (M:=M1.set u (Ac M1 v)) (u:=v) ha (by rw[List.length_set];exact hvm) (Ac M1 u)) ?_
     refine Aa (Ab ?_)
     refine Aj I (by kernel_rfl) ?_
     exact Ag () ⟨I,I,I,I,I,tO⟩ [0,1] (by decide) I
   ·refine wP I (Aa (Ab (wX ?_)))
    refine RS.cons ?_ (RS.cons ?_ (RS.nil))
    ·refine wP I (Aa (Ab (wX (wZ ?_))))
     refine Ad 1 _ tH I I I I I I I I I I (Ay ha hum) (Az ha hum (Ac M1 v)) ?_
     refine Aa (Ab (wY (wZ ?_)))
     refine wJ ?_
     refine Aa (Ab (wY (wZ ?_)))
     refine Ad 1 _ tH I I I I I I I I I I (Ay (M:=M1.set u (Ac M1 v)) (u:=v) ha (by rw[List.length_set];exact hvm)) (Az (M:=M1.set u (Ac M1 v)) (u:=v) ha (by rw[List.length_set];exact hvm) (Ac M1 u)) ?_
     refine Aa (Ab ?_)
     refine Aj I (by kernel_rfl) ?_
     exact Ag () ⟨I,I,I,I,I,tO⟩ [0,1] (by decide) I
    ·refine Ad 1 _ tH I I I I I I I I I I (Ay ha hum) (Az ha hum (Ac M1 v)) ?_
     refine Aa (Ab (wY (wZ (wP I (Aa (Ab (wY (wZ ?_))))))))
     refine wJ ?_
     refine Aa (Ab (wY (wZ ?_)))
     refine Ad 1 _ tH I I I I I I I I I I (Ay (M:=M1.set u (Ac M1 v)) (u:=v) ha (by rw[List.length_set];exact hvm)) (Az (M:=M1.set u (Ac M1 v)) (u:=v) ha (by rw[List.length_set];exact hvm) (Ac M1 u)) ?_
     refine Aa (Ab ?_)
     refine Aj I (by kernel_rfl) ?_
     exact Ag () ⟨I,I,I,I,I,tO⟩ [0,1] (by decide) I
   ·refine Ad 1 _ tH I I I I I I I I I I (Ay ha hum) (Az ha hum (Ac M1 v)) ?_
    refine Aa (Ab (wY ?_))
    refine RS.cons ?_ (RS.cons ?_ (RS.nil))
    ·refine wP I (Aa (Ab (wY (wZ (wP I (Aa (Ab (wY (wZ ?_)))))))))
     refine wJ ?_
     refine Aa (Ab (wY (wZ ?_)))
     refine Ad 1 _ tH I I I I I I I I I I (Ay (M:=M1.set u (Ac M1 v)) (u:=v) ha (by rw[List.length_set];exact hvm)) (Az (M:=M1.set u (Ac M1 v)) (u:=v) ha (by rw[List.length_set];exact hvm) (Ac M1 u)) ?_
     refine Aa (Ab ?_)
     refine Aj I (by kernel_rfl) ?_
     exact Ag () ⟨I,I,I,I,I,tO⟩ [0,1] (by decide) I
    ·refine wP I (Aa (Ab (wY (wZ (wP I (Aa (Ab (wY (wZ ?_)))))))))
     refine wJ ?_
     refine Aa (Ab (wY (wZ ?_)))
     refine Ad 1 _ tH I I I I I I I I I I (Ay (M:=M1.set u (Ac M1 v)) (u:=v) ha (by rw[List.length_set];exact hvm)) (Az (M:=M1.set u (Ac M1 v)) (u:=v) ha (by rw[List.length_set];exact hvm) (Ac M1 u)) ?_
     refine Aa (Ab ?_)
     refine Aj I (by kernel_rfl) ?_
     exact Ag () ⟨I,I,I,I,I,tO⟩ [0,1] (by decide) I
  intro _
  refine zE (zA (zB (wP I (wP I (wV 102 ((a+(u+1):Nat):Int) I (Av (by omega)) (wP I (Aa (zE (zA (zB (wP I (wP I (wV 104 ((a+(v-1):Nat):Int) I (show w64 (((a+v:Nat):Int)-1)=_ by rw[Ak (by omega) (by omega)];omega) ?_)))))))))))))
  refine wP I (Aa (zE (zA (zH ?_))))
  refine A9 (X:=Nat×Nat×List Ah) (fun x=>[(0, .slice (some ⟨g,0,none⟩) n cap),(1, .int .i64 (a:Nat)),(4,lsF c),(12, .int .i64 ((a+x.1:Nat):Int)),(13, .int .i64 ((a+x.2.1:Nat):Int))]) (fun x=>[Ax (Ai W g),A5 g (A++x.2.2++B) junk]) (fun x=>Ce M x.2.2 x.1 x.2.1) (fun x=>x.2.1+1-x.1) (u+1,v-1,CB M1 u v) hI2 ⟨I,I,I,I,I,tO⟩ [] I ?_
  clear hI2 huv hgt hI hU hV hvv hu0 i1 i2 i3 i4 hvm h0m hum hI0 hM1
  rintro⟨u0,v1,M2⟩ hI0
  have hI0:Ce M M2 u0 v1:=hI0
  refine Cc (Au ?_)
  refine AM (X:=Nat) (fun u=>[(0, .slice (some ⟨g,0,none⟩) n cap),(1, .int .i64 (a:Nat)),(4,lsF c),(12, .int .i64 ((a+u:Nat):Int)),(13, .int .i64 ((a+v1:Nat):Int))]) (fun _=>[Ax (Ai W g),A5 g (A++M2++B) junk]) (fun u=>(Ce M M2 u v1∧u0≤u)∧(u≤v1→ ¬A4 (Ac M2 u) (Ac M2 0))) ?_ ?_
  ·refine zH ?_
   refine A9 (X:=Nat) (fun u=>[(0, .slice (some ⟨g,0,none⟩) n cap),(1, .int .i64 (a:Nat)),(4,lsF c),(12, .int .i64 ((a+u:Nat):Int)),(13, .int .i64 ((a+v1:Nat):Int))]) (fun _=>[Ax (Ai W g),A5 g (A++M2++B) junk]) (fun u=>Ce M M2 u v1∧u0≤u) (fun u=>v1+1-u) u0 ⟨hI0,Nat.le_refl _⟩ ⟨I,I,I,I,I,tO⟩ [] I ?_
   rintro u ⟨hI,hvv⟩
   have hI:Ce M M2 u v1:=hI
   have hvv:u0≤u:=hvv
   have i1:=hI.u1
   have i2:=hI.uv
   have i3:=hI.vm
   have i4:=hI.s.1
   refine Au (Au ?_)
   by_cases hle:u≤v1
   ·have h0m:0<M2.length:=by omega
    have hum:u<M2.length:=by omega
    refine zU (qP I (qP I (qP I (qU 107 true I (dT (by omega)) (qP I (qP I (qP I (qP I ?_))))))))
    refine qJ ?_
    refine qL 0 I I (fun W1 hp=>CR hp 1 ha I hum) I (qP I (qP I ?_))
    refine qJ ?_
    refine qL 0 I I (fun W1 hp=>CR hp 1 ha I h0m) I ?_
    refine CL (first:=[An c]) I I I I I I (by kernel_rfl) (fun W1 hp=>hf W1 (kp hp) (Ac M2 u) (hI.s.mem hM _ (AK (by omega) u)) (Ac M2 0) (hI.s.mem hM _ (AK (by omega) 0))) ?_
    refine qP I (qU 119 (Be (Ac M2 u) (Ac M2 0)) I (Dj _ _) ?_)
    cases hb:Be (Ac M2 u) (Ac M2 0) with
    |true=>
     refine qP I (AJ (Aa (zE (zR I (zI (zE (zH (zB (wP I (wP I (wV 122 ((a+(u+1):Nat):Int) I (Av (by omega)) (wP I (Aa ?_)))))))))))))
     exact zN (A0 (u+1) ⟨hI.up hle (Br.1 hb),Nat.le_succ_of_le hvv⟩ (by show v1+1-(u+1)<v1+1-u;omega) ⟨I,I,I,I,I,tO⟩ [] I)
    |false=>
     exact qP I (AJ (Aa (zE (zS I (zJ (zK (zK (zL (At u ⟨⟨hI,hvv⟩,fun _=>(Gt hb)⟩ ⟨I,I,I,I,I,tO⟩ [] I)))))))))
   ·refine zU (qP I (qP I (qP I (qU 107 false I (dF (by omega)) (qP I ?_)))))
    iterate 11 refine C5 I I ?_
    exact qP I (AJ (Aa (zE (zS I (zJ (zK (zK (zL (At u ⟨⟨hI,hvv⟩,fun h=>absurd h hle⟩ ⟨I,I,I,I,I,tO⟩ [] I)))))))))
  rintro u ⟨⟨hI,hu0⟩,hU⟩
  have hI:Ce M M2 u v1:=hI
  have hu0:u0≤u:=hu0
  have hU:u≤v1→ ¬A4 (Ac M2 u) (Ac M2 0):=hU
  refine Au ?_
  refine AM (X:=Nat) (fun v=>[(0, .slice (some ⟨g,0,none⟩) n cap),(1, .int .i64 (a:Nat)),(4,lsF c),(12, .int .i64 ((a+u:Nat):Int)),(13, .int .i64 ((a+v:Nat):Int))]) (fun _=>[Ax (Ai W g),A5 g (A++M2++B) junk]) (fun v=>(Ce M M2 u v∧v≤v1)∧(u≤v→A4 (Ac M2 v) (Ac M2 0))) ?_ ?_
  ·refine zH ?_
   refine A9 (X:=Nat) (fun v=>[(0, .slice (some ⟨g,0,none⟩) n cap),(1, .int .i64 (a:Nat)),(4,lsF c),(12, .int .i64 ((a+u:Nat):Int)),(13, .int .i64 ((a+v:Nat):Int))]) (fun _=>[Ax (Ai W g),A5 g (A++M2++B) junk]) (fun v=>Ce M M2 u v∧v≤v1) (fun v=>v) v1 ⟨hI,Nat.le_refl _⟩ ⟨I,I,I,I,I,tO⟩ [] I ?_
   rintro v ⟨hI,hvv⟩
   have hI:Ce M M2 u v:=hI
   have hvv:v≤v1:=hvv
   have i1:=hI.u1
   have i2:=hI.uv
   have i3:=hI.vm
   have i4:=hI.s.1
   refine Au (Au ?_)
   by_cases hle:u≤v
   ·have h0m:0<M2.length:=by omega
    have hum:v<M2.length:=by omega
    refine zU (qP I (qP I (qP I (qU 125 true I (dT (by omega)) (qP I (qP I (qP I (qP I ?_))))))))
    refine qJ ?_
    refine qL 0 I I (fun W1 hp=>CR hp 1 ha I hum) I (qP I (qP I ?_))
    refine qJ ?_
    refine qL 0 I I (fun W1 hp=>CR hp 1 ha I h0m) I ?_
    refine CL (first:=[An c]) I I I I I I (by kernel_rfl) (fun W1 hp=>hf W1 (kp hp) (Ac M2 v) (hI.s.mem hM _ (AK (by omega) v)) (Ac M2 0) (hI.s.mem hM _ (AK (by omega) 0))) ?_
    refine qP I (qU 137 (Be (Ac M2 v) (Ac M2 0)) I (Dj _ _) ?_)
    cases hb:Be (Ac M2 v) (Ac M2 0) with
    |false=>
     refine qP I (qP I (AJ (Aa (zE (zR I (zI (zE (zH (zB (wP I (wP I (wV 141 ((a+(v-1):Nat):Int) I (show w64 (((a+v:Nat):Int)-1)=_ by rw[Ak (by omega) (by omega)];omega) (wP I ?_)))))))))))))
     exact Aa (zN (A0 (v-1) ⟨hI.dn hle (Gt hb),by show v-1≤v1;omega⟩ (by show v-1<v;omega) ⟨I,I,I,I,I,tO⟩ [] I))
    |true=>
     exact qP I (qP I (AJ (Aa (zE (zS I (zJ (zK (zK (zL (At v ⟨⟨hI,hvv⟩,fun _=>(Br.1 hb)⟩ ⟨I,I,I,I,I,tO⟩ [] I))))))))))
   ·refine zU (qP I (qP I (qP I (qU 125 false I (dF (by omega)) (qP I ?_)))))
    iterate 12 refine C5 I I ?_
    exact qP I (AJ (Aa (zE (zS I (zJ (zK (zK (zL (At v ⟨⟨hI,hvv⟩,fun h=>absurd h hle⟩ ⟨I,I,I,I,I,tO⟩ [] I)))))))))
  rintro v ⟨⟨hI,hvv⟩,hV⟩
  have hI:Ce M M2 u v:=hI
  have hvv:v≤v1:=hvv
  have hV:u≤v→A4 (Ac M2 v) (Ac M2 0):=hV
  have i1:=hI.u1
  have i2:=hI.uv
  have i3:=hI.vm
  have i4:=hI.s.1
  have hvm:v<M2.length:=by omega
  have h0m:0<M2.length:=by omega
  refine zA (zA (zB (wP I (wP I (wP I ?_)))))
  by_cases hgt:v<u
  ·refine wU 144 true I (dT (by show((a+v:Nat):Int)<((a+u:Nat):Int);omega)) (Aa (zE (zR I (zJ (zK (zM I (zK (zL (zE (Au ?_))))))))))
   refine AU (X:=Unit) [true,true,false,false,true,true,true,true,true,true,true,true,true,false,false,false] (fun _=>[(0, .slice (some ⟨g,0,none⟩) n cap),(1, .int .i64 (a:Nat)),(13, .int .i64 ((a+v:Nat):Int))]) (fun _=>[Ax (Ai W g),A5 g (A++CB M2 v 0++B) junk])
    5 [Ax (Ai W g),A5 g (A++M2++B) junk] Tryz.mixed (by kernel_rfl) ?_ ?_
   ·refine qP I (qP I (qP I (qP I ?_)))
    refine qJ ?_
    refine qL 0 I I (fun W1 hp=>CR hp 1 ha I h0m) I (qP I (qP I ?_))
    refine qJ ?_
    refine qL 0 I I (fun W1 hp=>CR hp 1 ha I hvm) I ?_
    refine qJ ?_
    refine B6 (wX ?_)
    refine RS.cons ?_ (RS.cons ?_ (RS.cons ?_ (RS.nil)))
    ·refine wP I (Aa (Ab (wX ?_)))
     refine RS.cons ?_ (RS.cons ?_ (RS.nil))
     ·refine wP I (Aa (Ab (wX (wZ ?_))))
      refine Ad 1 _ tH I I I I I I I I I I (Ay ha hvm) (Az ha hvm (Ac M2 0)) ?_
      refine Aa (Ab (wY (wZ ?_)))
      refine wJ ?_
      refine Aa (Ab (wY (wZ ?_)))
      refine Ad 1 _ tH I I I I I I I I I I (Ay (M:=M2.set v (Ac M2 0)) (u:=0) ha (by rw[List.length_set];exact h0m)) (Az (M:=M2.set v (Ac M2 0)) (u:=0) ha (by rw[List.length_set];exact h0m) (Ac M2 v)) ?_
      refine Aa (Ab ?_)
      refine Aj I (by kernel_rfl) ?_
      exact Ag () ⟨I,I,I,tO⟩ [0,1] (by decide) I
     ·refine Ad 1 _ tH I I I I I I I I I I (Ay ha hvm) (Az ha hvm (Ac M2 0)) ?_
      refine Aa (Ab (wY (wZ (wP I (Aa (Ab (wY (wZ ?_))))))))
      refine wJ ?_
      refine Aa (Ab (wY (wZ ?_)))
      refine Ad 1 _ tH I I I I I I I I I I (Ay (M:=M2.set v (Ac M2 0)) (u:=0) ha (by rw[List.length_set];exact h0m)) (Az (M:=M2.set v (Ac M2 0)) (u:=0) ha (by rw[List.length_set];exact h0m) (Ac M2 v)) ?_
      refine Aa (Ab ?_)
      refine Aj I (by kernel_rfl) ?_
      exact Ag () ⟨I,I,I,tO⟩ [0,1] (by decide) I
    ·refine wP I (Aa (Ab (wX ?_)))
     refine RS.cons ?_ (RS.cons ?_ (RS.nil))
     ·refine wP I (Aa (Ab (wX (wZ ?_))))
      refine Ad 1 _ tH I I I I I I I I I I (Ay ha hvm) (Az ha hvm (Ac M2 0)) ?_
      refine Aa (Ab (wY (wZ ?_)))
      refine wJ ?_
      refine Aa (Ab (wY (wZ ?_)))
      refine Ad 1 _ tH I I I I I I I I I I (Ay (M:=M2.set v (Ac M2 0)) (u:=0) ha (by rw[List.length_set];exact h0m)) (Az (M:=M2.set v (Ac M2 0)) (u:=0) ha (by rw[List.length_set];exact h0m) (Ac M2 v)) ?_
      refine Aa (Ab ?_)
      refine Aj I (by kernel_rfl) ?_
      exact Ag () ⟨I,I,I,tO⟩ [0,1] (by decide) I
     ·refine Ad 1 _ tH I I I I I I I I I I (Ay ha hvm) (Az ha hvm (Ac M2 0)) ?_
      refine Aa (Ab (wY (wZ (wP I (Aa (Ab (wY (wZ ?_))))))))
      refine wJ ?_
      refine Aa (Ab (wY (wZ ?_)))
      refine Ad 1 _ tH I I I I I I I I I I (Ay (M:=M2.set v (Ac M2 0)) (u:=0) ha (by rw[List.length_set];exact h0m)) (Az (M:=M2.set v (Ac M2 0)) (u:=0) ha (by rw[List.length_set];exact h0m) (Ac M2 v)) ?_
      refine Aa (Ab ?_)
      refine Aj I (by kernel_rfl) ?_
      exact Ag () ⟨I,I,I,tO⟩ [0,1] (by decide) I
    ·refine Ad 1 _ tH I I I I I I I I I I (Ay ha hvm) (Az ha hvm (Ac M2 0)) ?_
     refine Aa (Ab (wY ?_))
     refine RS.cons ?_ (RS.cons ?_ (RS.nil))
     ·refine wP I (Aa (Ab (wY (wZ (wP I (Aa (Ab (wY (wZ ?_)))))))))
      refine wJ ?_
      refine Aa (Ab (wY (wZ ?_)))
      refine Ad 1 _ tH I I I I I I I I I I (Ay (M:=M2.set v (Ac M2 0)) (u:=0) ha (by rw[List.length_set];exact h0m)) (Az (M:=M2.set v (Ac M2 0)) (u:=0) ha (by rw[List.length_set];exact h0m) (Ac M2 v)) ?_
      refine Aa (Ab ?_)
      refine Aj I (by kernel_rfl) ?_
      exact Ag () ⟨I,I,I,tO⟩ [0,1] (by decide) I
     ·refine wP I (Aa (Ab (wY (wZ (wP I (Aa (Ab (wY (wZ ?_)))))))))
      refine wJ ?_
      refine Aa (Ab (wY (wZ ?_)))
      refine Ad 1 _ tH I I I I I I I I I I (Ay (M:=M2.set v (Ac M2 0)) (u:=0) ha (by rw[List.length_set];exact h0m)) (Az (M:=M2.set v (Ac M2 0)) (u:=0) ha (by rw[List.length_set];exact h0m) (Ac M2 v)) ?_
      refine Aa (Ab ?_)
      refine Aj I (by kernel_rfl) ?_
      exact Ag () ⟨I,I,I,tO⟩ [0,1] (by decide) I
   intro _
   refine zE (zA (zB (wP I (wP I (wP I (Aa (zE (zO ?_))))))))
   refine AR (X:=Nat×Bool×List Ah) (val:=fun x:Nat×Bool×List Ah=> .tuple #[.int .i64 ((a+x.1:Nat):Int), .bool x.2.1]) (Φ:=fun x:Nat×Bool×List Ah=>Iy M x.2.2 x.1) (nb:=fun x:Nat×Bool×List Ah=>[Ax (Ai W g),A5 g (A++x.2.2++B) junk]) (fn:=Tryz.f188) tH I (.tmp I) (.tmp I) (v,false,CB M2 v 0) I (hI.fin hgt) fun W1 hp=> ?_
   exact(hp.pick (l:=[Ax (Ai W g),A5 g (A++CB M2 v 0++B) junk]) [0,1] (by decide) I).own
  refine wU 144 false I (dF (by show¬(((a+v:Nat):Int)<((a+u:Nat):Int));omega)) (Aa ?_)
  obtain⟨huv,hI2⟩:=hI.swp (by omega) (hU (by omega)) (hV (by omega))
  have hum:u<M2.length:=by omega
  refine zE (zS I (zI (zE (Au ?_))))
  refine AU (X:=Unit) [true,true,false,false,true,true,true,true,true,true,true,true,true,false,false,false] (fun _=>[(0, .slice (some ⟨g,0,none⟩) n cap),(1, .int .i64 (a:Nat)),(4,lsF c),(12, .int .i64 ((a+u:Nat):Int)),(13, .int .i64 ((a+v:Nat):Int))]) (fun _=>[Ax (Ai W g),A5 g (A++CB M2 u v++B) junk])
   5 [Ax (Ai W g),A5 g (A++M2++B) junk] Tryz.mixed (by kernel_rfl) ?_ ?_
  ·refine qP I (qP I (qP I (qP I ?_)))
   refine qJ ?_
   refine qL 0 I I (fun W1 hp=>CR hp 1 ha I hvm) I (qP I (qP I ?_))
   refine qJ ?_
   refine qL 0 I I (fun W1 hp=>CR hp 1 ha I hum) I ?_
   refine qJ ?_
   refine B6 (wX ?_)
   refine RS.cons ?_ (RS.cons ?_ (RS.cons ?_ (RS.nil)))
   ·refine wP I (Aa (Ab (wX ?_)))
    refine RS.cons ?_ (RS.cons ?_ (RS.nil))
    ·refine wP I (Aa (Ab (wX (wZ ?_))))
     refine Ad 1 _ tH I I I I I I I I I I (Ay ha hum) (Az ha hum (Ac M2 v)) ?_
     refine Aa (Ab (wY (wZ ?_)))
     refine wJ ?_
     refine Aa (Ab (wY (wZ ?_)))
     refine Ad 1 _ tH I I I I I I I I I I (Ay (M:=M2.set u (Ac M2 v)) (u:=v) ha (by rw[List.length_set];exact hvm)) (Az (M:=M2.set u (Ac M2 v)) (u:=v) ha (by rw[List.length_set];exact hvm) (Ac M2 u)) ?_
     refine Aa (Ab ?_)
     refine Aj I (by kernel_rfl) ?_
     exact Ag () ⟨I,I,I,I,I,tO⟩ [0,1] (by decide) I
    ·refine Ad 1 _ tH I I I I I I I I I I (Ay ha hum) (Az ha hum (Ac M2 v)) ?_
     refine Aa (Ab (wY (wZ (wP I (Aa (Ab (wY (wZ ?_))))))))
     refine wJ ?_
     refine Aa (Ab (wY (wZ ?_)))
     refine Ad 1 _ tH I I I I I I I I I I (Ay (M:=M2.set u (Ac M2 v)) (u:=v) ha (by rw[List.length_set];exact hvm)) (Az (M:=M2.set u (Ac M2 v)) (u:=v) ha (by rw[List.length_set];exact hvm) (Ac M2 u)) ?_
     refine Aa (Ab ?_)
     refine Aj I (by kernel_rfl) ?_
     exact Ag () ⟨I,I,I,I,I,tO⟩ [0,1] (by decide) I
   ·refine wP I (Aa (Ab (wX ?_)))
    refine RS.cons ?_ (RS.cons ?_ (RS.nil))
    ·refine wP I (Aa (Ab (wX (wZ ?_))))
     refine Ad 1 _ tH I I I I I I I I I I (Ay ha hum) (Az ha hum (Ac M2 v)) ?_
     refine Aa (Ab (wY (wZ ?_)))
     refine wJ ?_
     refine Aa (Ab (wY (wZ ?_)))
     refine Ad 1 _ tH I I I I I I I I I I (Ay (M:=M2.set u (Ac M2 v)) (u:=v) ha (by rw[List.length_set];exact hvm)) (Az (M:=M2.set u (Ac M2 v)) (u:=v) ha (by rw[List.length_set];exact hvm) (Ac M2 u)) ?_
     refine Aa (Ab ?_)
     refine Aj I (by kernel_rfl) ?_
     exact Ag () ⟨I,I,I,I,I,tO⟩ [0,1] (by decide) I
    ·refine Ad 1 _ tH I I I I I I I I I I (Ay ha hum) (Az ha hum (Ac M2 v)) ?_
     refine Aa (Ab (wY (wZ (wP I (Aa (Ab (wY (wZ ?_))))))))
     refine wJ ?_
     refine Aa (Ab (wY (wZ ?_)))
     refine Ad 1 _ tH I I I I I I I I I I (Ay (M:=M2.set u (Ac M2 v)) (u:=v) ha (by rw[List.length_set];exact hvm)) (Az (M:=M2.set u (Ac M2 v)) (u:=v) ha (by rw[List.length_set];exact hvm) (Ac M2 u)) ?_
     refine Aa (Ab ?_)
     refine Aj I (by kernel_rfl) ?_
     exact Ag () ⟨I,I,I,I,I,tO⟩ [0,1] (by decide) I
   ·refine Ad 1 _ tH I I I I I I I I I I (Ay ha hum) (Az ha hum (Ac M2 v)) ?_
    refine Aa (Ab (wY ?_))
    refine RS.cons ?_ (RS.cons ?_ (RS.nil))
    ·refine wP I (Aa (Ab (wY (wZ (wP I (Aa (Ab (wY (wZ ?_)))))))))
     refine wJ ?_
     refine Aa (Ab (wY (wZ ?_)))
     refine Ad 1 _ tH I I I I I I I I I I (Ay (M:=M2.set u (Ac M2 v)) (u:=v) ha (by rw[List.length_set];exact hvm)) (Az (M:=M2.set u (Ac M2 v)) (u:=v) ha (by rw[List.length_set];exact hvm) (Ac M2 u)) ?_
     refine Aa (Ab ?_)
     refine Aj I (by kernel_rfl) ?_
     exact Ag () ⟨I,I,I,I,I,tO⟩ [0,1] (by decide) I
    ·refine wP I (Aa (Ab (wY (wZ (wP I (Aa (Ab (wY (wZ ?_)))))))))
     refine wJ ?_
     refine Aa (Ab (wY (wZ ?_)))
     refine Ad 1 _ tH I I I I I I I I I I (Ay (M:=M2.set u (Ac M2 v)) (u:=v) ha (by rw[List.length_set];exact hvm)) (Az (M:=M2.set u (Ac M2 v)) (u:=v) ha (by rw[List.length_set];exact hvm) (Ac M2 u)) ?_
     refine Aa (Ab ?_)
     refine Aj I (by kernel_rfl) ?_
     exact Ag () ⟨I,I,I,I,I,tO⟩ [0,1] (by decide) I
  intro _
  refine zE (zA (zB (wP I (wP I (wV 160 ((a+(u+1):Nat):Int) I (Av (by omega)) (wP I (Aa (zE (zB (wP I (wP I (wV 162 ((a+(v-1):Nat):Int) I (show w64 (((a+v:Nat):Int)-1)=_ by rw[Ak (by omega) (by omega)];omega) (wP I ?_)))))))))))))
  refine Aa (zN ?_)
  have j1:=hI0.u1
  have j2:=hI.u1
  exact A0 (u+1,v-1,CB M2 u v) hI2 (by show v-1+1-(u+1)<v1+1-u0;omega) ⟨I,I,I,I,I,tO⟩ [] I
 refine key.mono ?_
 rintro e W' ⟨x,he,hx,hb,hn'⟩
 exact⟨x,he,hx,BL hg I hb hn'⟩
theorem NH (c:Nat) (S:List Ah) (W:World) (g cap n a:Nat) (A M B:List Ah) (junk:List Value) (ha:A.length=a) (hn:n=(A++M++B).length) (hn4:n≤100000) (hg:W.heap[g]? =some (rwO A M B junk)) (k:Nat) (hk:k<M.length) (hM: ∀x∈M,x∈S) (hf:LsK c g S W):
  Calls Tryz.prog 187 #[.slice (some ⟨g,0,none⟩) n cap, .int .i64 (a:Nat), .int .i64 ((a+M.length:Nat):Int), .int .i64 ((a+k:Nat):Int),lsF c] W fun e W'=> ∃x:Nat×List Ah,e= .returned ((fun x:Nat×List Ah=> .int .i64 ((a+x.1:Nat):Int)) x)∧OQ M x.2 (Ac M k) x.1∧EE W W' g ((fun _=>g) x) ((fun x:Nat×List Ah=>rwO A (x.2) B junk) x):=by
 have hnn:n=a+M.length+B.length:=by rw[hn,List.length_append,List.length_append,ha]
 have key:Calls Tryz.prog 187 [.slice (some ⟨g,0,none⟩) n cap, .int .i64 (a:Nat), .int .i64 ((a+M.length:Nat):Int), .int .i64 ((a+k:Nat):Int),lsF c].toArray W fun e W'=> ∃x:Nat×List Ah,e= .returned ((fun x:Nat×List Ah=> .int .i64 ((a+x.1:Nat):Int)) x)∧(fun x:Nat×List Ah=>OQ M x.2 (Ac M k) x.1) x∧Below (AE W).heap.size (AE W) W'∧A3 (AE W) W' ((fun x:Nat×List Ah=>[Ax (Ai W g),A5 g (A++x.2++B) junk]) x):=by
  refine Ba (X:=Nat×List Ah) (val:=fun x:Nat×List Ah=> .int .i64 ((a+x.1:Nat):Int)) (Φ:=fun x:Nat×List Ah=>OQ M x.2 (Ac M k) x.1) (nb:=fun x:Nat×List Ah=>[Ax (Ai W g),A5 g (A++x.2++B) junk]) (Hp.enterT (B:=A5 g (A++M++B) junk) I hg) Tryz.func187 I I I ?_
  have kp: ∀ {W1:World} {M1:List Ah},Hp (AE W) [Ax (Ai W g),A5 g (A++M1++B) junk] W1→CC W W1 g:=fun hp=>BV hg ⟨_,List.mem_cons_self ..⟩ hp
  have h0M:0<M.length:=by omega
  obtain⟨P,hP⟩: ∃P,P=Ac M k:=⟨_,rfl⟩
  rw[←hP]
  refine zA (zB (wP I (Aa (zE (Au ?_)))))
  refine AU (X:=Unit) [true,true,false,false,true,true,true,true,true,true,true,true,true,false,false,false] (fun _=>[(0, .slice (some ⟨g,0,none⟩) n cap),(1, .int .i64 (a:Nat)),(2, .int .i64 ((a+M.length:Nat):Int)),(4,lsF c)]) (fun _=>[Ax (Ai W g),A5 g (A++CB M 0 k++B) junk])
   5 [Ax (Ai W g),A5 g (A++M++B) junk] Tryz.mixed (by kernel_rfl) ?_ ?_
  ·refine qP I (qP I (qP I (qP I ?_)))
   refine qJ ?_
   refine qL 0 I I (fun W1 hp=>CR hp 1 ha I hk) I (qP I (qP I ?_))
   refine qJ ?_
   refine qL 0 I I (fun W1 hp=>CR hp 1 ha I h0M) I ?_
   refine qJ ?_
   refine B6 (wX ?_)
   refine RS.cons ?_ (RS.cons ?_ (RS.cons ?_ (RS.nil)))
   ·refine wP I (Aa (Ab (wX ?_)))
    refine RS.cons ?_ (RS.cons ?_ (RS.nil))
    ·refine wP I (Aa (Ab (wX (wZ ?_))))
     refine Ad 1 _ tH I I I I I I I I I I (Ay ha h0M) (Az ha h0M (Ac M k)) ?_
     refine Aa (Ab (wY (wZ ?_)))
     refine wJ ?_
     refine Aa (Ab (wY (wZ ?_)))
     refine Ad 1 _ tH I I I I I I I I I I (Ay (M:=M.set 0 (Ac M k)) (u:=k) ha (by rw[List.length_set];exact hk)) (Az (M:=M.set 0 (Ac M k)) (u:=k) ha (by rw[List.length_set];exact hk) (Ac M 0)) ?_
     refine Aa (Ab ?_)
     refine Aj I (by kernel_rfl) ?_
     exact Ag () ⟨I,I,I,I,tO⟩ [0,1] (by decide) I
    ·refine Ad 1 _ tH I I I I I I I I I I (Ay ha h0M) (Az ha h0M (Ac M k)) ?_
     refine Aa (Ab (wY (wZ (wP I (Aa (Ab (wY (wZ ?_))))))))
     refine wJ ?_
     refine Aa (Ab (wY (wZ ?_)))
     refine Ad 1 _ tH I I I I I I I I I I (Ay (M:=M.set 0 (Ac M k)) (u:=k) ha (by rw[List.length_set];exact hk)) (Az (M:=M.set 0 (Ac M k)) (u:=k) ha (by rw[List.length_set];exact hk) (Ac M 0)) ?_
     refine Aa (Ab ?_)
     refine Aj I (by kernel_rfl) ?_
     exact Ag () ⟨I,I,I,I,tO⟩ [0,1] (by decide) I
   ·refine wP I (Aa (Ab (wX ?_)))
    refine RS.cons ?_ (RS.cons ?_ (RS.nil))
    ·refine wP I (Aa (Ab (wX (wZ ?_))))
     refine Ad 1 _ tH I I I I I I I I I I (Ay ha h0M) (Az ha h0M (Ac M k)) ?_
     refine Aa (Ab (wY (wZ ?_)))
     refine wJ ?_
     refine Aa (Ab (wY (wZ ?_)))
     refine Ad 1 _ tH I I I I I I I I I I (Ay (M:=M.set 0 (Ac M k)) (u:=k) ha (by rw[List.length_set];exact hk)) (Az (M:=M.set 0 (Ac M k)) (u:=k) ha (by rw[List.length_set];exact hk) (Ac M 0)) ?_
     refine Aa (Ab ?_)
     refine Aj I (by kernel_rfl) ?_
     exact Ag () ⟨I,I,I,I,tO⟩ [0,1] (by decide) I
    ·refine Ad 1 _ tH I I I I I I I I I I (Ay ha h0M) (Az ha h0M (Ac M k)) ?_
     refine Aa (Ab (wY (wZ (wP I (Aa (Ab (wY (wZ ?_))))))))
     refine wJ ?_
     refine Aa (Ab (wY (wZ ?_)))
     refine Ad 1 _ tH I I I I I I I I I I (Ay (M:=M.set 0 (Ac M k)) (u:=k) ha (by rw[List.length_set];exact hk)) (Az (M:=M.set 0 (Ac M k)) (u:=k) ha (by rw[List.length_set];exact hk) (Ac M 0)) ?_
     refine Aa (Ab ?_)
     refine Aj I (by kernel_rfl) ?_
     exact Ag () ⟨I,I,I,I,tO⟩ [0,1] (by decide) I
   ·refine Ad 1 _ tH I I I I I I I I I I (Ay ha h0M) (Az ha h0M (Ac M k)) ?_
    refine Aa (Ab (wY ?_))
    refine RS.cons ?_ (RS.cons ?_ (RS.nil))
    ·refine wP I (Aa (Ab (wY (wZ (wP I (Aa (Ab (wY (wZ ?_)))))))))
     refine wJ ?_
     refine Aa (Ab (wY (wZ ?_)))
     refine Ad 1 _ tH I I I I I I I I I I (Ay (M:=M.set 0 (Ac M k)) (u:=k) ha (by rw[List.length_set];exact hk)) (Az (M:=M.set 0 (Ac M k)) (u:=k) ha (by rw[List.length_set];exact hk) (Ac M 0)) ?_
     refine Aa (Ab ?_)
     refine Aj I (by kernel_rfl) ?_
     exact Ag () ⟨I,I,I,I,tO⟩ [0,1] (by decide) I
    ·refine wP I (Aa (Ab (wY (wZ (wP I (Aa (Ab (wY (wZ ?_)))))))))
     refine wJ ?_
     refine Aa (Ab (wY (wZ ?_)))
     refine Ad 1 _ tH I I I I I I I I I I (Ay (M:=M.set 0 (Ac M k)) (u:=k) ha (by rw[List.length_set];exact hk)) (Az (M:=M.set 0 (Ac M k)) (u:=k) ha (by rw[List.length_set];exact hk) (Ac M 0)) ?_
     refine Aa (Ab ?_)
     refine Aj I (by kernel_rfl) ?_
     exact Ag () ⟨I,I,I,I,tO⟩ [0,1] (by decide) I
  intro _
  have hp0:Ac (CB M 0 k) 0=P:=by
   rw[Fx h0M]
   by_cases e:0=k
   ·rw[if_pos e,hP, ←e]
   ·rw[if_neg e,if_pos rfl,hP]
  have hI0:Fo M (CB M 0 k) P 1 (M.length-1):=⟨Eo h0M hk,Nat.le_refl _,by omega,by omega,hp0,fun j h1 h2=>by omega,fun j h1 h2=>by omega⟩
  obtain⟨M1,hM1⟩: ∃M1,M1=CB M 0 k:=⟨_,rfl⟩
  rw[←hM1] at hI0
  rw[←hM1]
  refine zE (zA (zB (wP I (wP I (wV 28 ((a+1:Nat):Int) I (Av (by omega)) (wP I (wP I (wV 30 ((a+(M.length-1):Nat):Int) I (show w64 (((a+M.length:Nat):Int)-1)=_ by rw[Ak (by omega) (by omega)];omega) (wP I (wP I (Aa (zE (zA ?_)))))))))))))
  refine zH ?_
  refine A9 (X:=Nat×Nat×List Ah) (fun x=>[(0, .slice (some ⟨g,0,none⟩) n cap),(1, .int .i64 (a:Nat)),(4,lsF c),(11, .int .i64 ((a+x.1:Nat):Int)),(12, .int .i64 ((a+x.2.1:Nat):Int))]) (fun x=>[Ax (Ai W g),A5 g (A++x.2.2++B) junk]) (fun x=>Fo M x.2.2 P x.1 x.2.1) (fun x=>x.2.1+1-x.1) (1,M.length-1,M1) hI0 ⟨I,I,I,I,I,tO⟩ [] I ?_
  clear hI0 hM1
  rintro⟨u0,v1,M2⟩ hI0
  have hI0:Fo M M2 P u0 v1:=hI0
  refine Cc (Au ?_)
  refine AM (X:=Nat) (fun u=>[(0, .slice (some ⟨g,0,none⟩) n cap),(1, .int .i64 (a:Nat)),(4,lsF c),(11, .int .i64 ((a+u:Nat):Int)),(12, .int .i64 ((a+v1:Nat):Int))]) (fun _=>[Ax (Ai W g),A5 g (A++M2++B) junk]) (fun u=>(Fo M M2 P u v1∧u0≤u)∧(u≤v1→A4 (P) (Ac M2 u))) ?_ ?_
  ·refine zH ?_
   refine A9 (X:=Nat) (fun u=>[(0, .slice (some ⟨g,0,none⟩) n cap),(1, .int .i64 (a:Nat)),(4,lsF c),(11, .int .i64 ((a+u:Nat):Int)),(12, .int .i64 ((a+v1:Nat):Int))]) (fun _=>[Ax (Ai W g),A5 g (A++M2++B) junk]) (fun u=>Fo M M2 P u v1∧u0≤u) (fun u=>v1+1-u) u0 ⟨hI0,Nat.le_refl _⟩ ⟨I,I,I,I,I,tO⟩ [] I ?_
   rintro u ⟨hI,hvv⟩
   have hI:Fo M M2 P u v1:=hI
   have hvv:u0≤u:=hvv
   have i1:=hI.u1
   have i2:=hI.uv
   have i3:=hI.vm
   have i4:=hI.s.1
   refine Au (Au ?_)
   by_cases hle:u≤v1
   ·have h0m:0<M2.length:=by omega
    have hum:u<M2.length:=by omega
    refine zU (qP I (qP I (qP I (qU 33 true I (dT (by omega)) (qP I (qP I (qP I (qP I ?_))))))))
    refine qJ ?_
    refine qL 0 I I (fun W1 hp=>CR hp 1 ha I h0m) I (qP I (qP I ?_))
    refine qJ ?_
    refine qL 0 I I (fun W1 hp=>CR hp 1 ha I hum) I ?_
    refine CL (first:=[An c]) I I I I I I (by kernel_rfl) (fun W1 hp=>hf W1 (kp hp) (Ac M2 0) (hI.s.mem hM _ (AK (by omega) 0)) (Ac M2 u) (hI.s.mem hM _ (AK (by omega) u))) ?_
    refine qP I (qU 45 (Be (Ac M2 0) (Ac M2 u)) I (Dj _ _) ?_)
    cases hb:Be (Ac M2 0) (Ac M2 u) with
    |false=>
     refine qP I (qP I (AJ (Aa (zE (zR I (zI (zE (zH (zB (wP I (wP I (wV 49 ((a+(u+1):Nat):Int) I (Av (by omega)) (wP I ?_)))))))))))))
     exact Aa (zN (A0 (u+1) ⟨hI.up hle (by rw[←hI.p0];exact(Gt hb)),Nat.le_succ_of_le hvv⟩ (by show v1+1-(u+1)<v1+1-u;omega) ⟨I,I,I,I,I,tO⟩ [] I))
    |true=>
     exact qP I (qP I (AJ (Aa (zE (zS I (zJ (zK (zK (zL (At u ⟨⟨hI,hvv⟩,fun _=>(by rw[←hI.p0];exact(Br.1 hb))⟩ ⟨I,I,I,I,I,tO⟩ [] I))))))))))
   ·refine zU (qP I (qP I (qP I (qU 33 false I (dF (by omega)) (qP I ?_)))))
    iterate 12 refine C5 I I ?_
    exact qP I (AJ (Aa (zE (zS I (zJ (zK (zK (zL (At u ⟨⟨hI,hvv⟩,fun h=>absurd h hle⟩ ⟨I,I,I,I,I,tO⟩ [] I)))))))))
  rintro u ⟨⟨hI,hu0⟩,hU⟩
  have hI:Fo M M2 P u v1:=hI
  have hu0:u0≤u:=hu0
  have hU:u≤v1→A4 (P) (Ac M2 u):=hU
  refine Au ?_
  refine AM (X:=Nat) (fun v=>[(0, .slice (some ⟨g,0,none⟩) n cap),(1, .int .i64 (a:Nat)),(4,lsF c),(11, .int .i64 ((a+u:Nat):Int)),(12, .int .i64 ((a+v:Nat):Int))]) (fun _=>[Ax (Ai W g),A5 g (A++M2++B) junk]) (fun v=>(Fo M M2 P u v∧v≤v1)∧(u≤v→ ¬A4 (P) (Ac M2 v))) ?_ ?_
  ·refine zH ?_
   refine A9 (X:=Nat) (fun v=>[(0, .slice (some ⟨g,0,none⟩) n cap),(1, .int .i64 (a:Nat)),(4,lsF c),(11, .int .i64 ((a+u:Nat):Int)),(12, .int .i64 ((a+v:Nat):Int))]) (fun _=>[Ax (Ai W g),A5 g (A++M2++B) junk]) (fun v=>Fo M M2 P u v∧v≤v1) (fun v=>v) v1 ⟨hI,Nat.le_refl _⟩ ⟨I,I,I,I,I,tO⟩ [] I ?_
   rintro v ⟨hI,hvv⟩
   have hI:Fo M M2 P u v:=hI
   have hvv:v≤v1:=hvv
   have i1:=hI.u1
   have i2:=hI.uv
   have i3:=hI.vm
   have i4:=hI.s.1
   refine Au (Au ?_)
   by_cases hle:u≤v
   ·have h0m:0<M2.length:=by omega
    have hum:v<M2.length:=by omega
    refine zU (qP I (qP I (qP I (qU 52 true I (dT (by omega)) (qP I (qP I (qP I (qP I ?_))))))))
    refine qJ ?_
    refine qL 0 I I (fun W1 hp=>CR hp 1 ha I h0m) I (qP I (qP I ?_))
    refine qJ ?_
    refine qL 0 I I (fun W1 hp=>CR hp 1 ha I hum) I ?_
    refine CL (first:=[An c]) I I I I I I (by kernel_rfl) (fun W1 hp=>hf W1 (kp hp) (Ac M2 0) (hI.s.mem hM _ (AK (by omega) 0)) (Ac M2 v) (hI.s.mem hM _ (AK (by omega) v))) ?_
    refine qP I (qU 64 (Be (Ac M2 0) (Ac M2 v)) I (Dj _ _) ?_)
    cases hb:Be (Ac M2 0) (Ac M2 v) with
    |true=>
     refine qP I (AJ (Aa (zE (zR I (zI (zE (zH (zB (wP I (wP I (wV 67 ((a+(v-1):Nat):Int) I (show w64 (((a+v:Nat):Int)-1)=_ by rw[Ak (by omega) (by omega)];omega) (wP I (Aa ?_)))))))))))))
     exact zN (A0 (v-1) ⟨hI.dn hle (by rw[←hI.p0];exact(Br.1 hb)),by show v-1≤v1;omega⟩ (by show v-1<v;omega) ⟨I,I,I,I,I,tO⟩ [] I)
    |false=>
     exact qP I (AJ (Aa (zE (zS I (zJ (zK (zK (zL (At v ⟨⟨hI,hvv⟩,fun _=>(by rw[←hI.p0];exact(Gt hb))⟩ ⟨I,I,I,I,I,tO⟩ [] I)))))))))
   ·refine zU (qP I (qP I (qP I (qU 52 false I (dF (by omega)) (qP I ?_)))))
    iterate 11 refine C5 I I ?_
    exact qP I (AJ (Aa (zE (zS I (zJ (zK (zK (zL (At v ⟨⟨hI,hvv⟩,fun h=>absurd h hle⟩ ⟨I,I,I,I,I,tO⟩ [] I)))))))))
  rintro v ⟨⟨hI,hvv⟩,hV⟩
  have hI:Fo M M2 P u v:=hI
  have hvv:v≤v1:=hvv
  have hV:u≤v→ ¬A4 (P) (Ac M2 v):=hV
  have i1:=hI.u1
  have i2:=hI.uv
  have i3:=hI.vm
  have i4:=hI.s.1
  have hvm:v<M2.length:=by omega
  refine zA (zA (zB (wP I (wP I (wP I ?_)))))
  by_cases hgt:v<u
  ·refine wU 70 true I (dT (by show((a+v:Nat):Int)<((a+u:Nat):Int);omega)) (Aa (zE (zR I (zJ (zK (zM I (zK (zL (zE (zA (zB (wP I (wP I ?_)))))))))))))
   refine Aa (zE (zO ?_))
   refine A8 (X:=Nat×List Ah) (val:=fun x:Nat×List Ah=> .int .i64 ((a+x.1:Nat):Int)) (Φ:=fun x:Nat×List Ah=>OQ M x.2 P x.1) (nb:=fun x:Nat×List Ah=>[Ax (Ai W g),A5 g (A++x.2++B) junk]) (fn:=Tryz.f187) tH I (.tmp I) (u,M2) I (hI.fin hgt) fun W1 hp=> ?_
   exact(hp.pick (l:=[Ax (Ai W g),A5 g (A++M2++B) junk]) [0,1] (by decide) I).own
  refine wU 70 false I (dF (by show¬(((a+v:Nat):Int)<((a+u:Nat):Int));omega)) (Aa ?_)
  obtain⟨huv,hI2⟩:=hI.swp (by omega) (hU (by omega)) (hV (by omega))
  have hum:u<M2.length:=by omega
  refine zE (zS I (zI (zE (Au ?_))))
  refine AU (X:=Unit) [true,true,false,false,true,true,true,true,true,true,true,true,true,false,false,false] (fun _=>[(0, .slice (some ⟨g,0,none⟩) n cap),(1, .int .i64 (a:Nat)),(4,lsF c),(11, .int .i64 ((a+u:Nat):Int)),(12, .int .i64 ((a+v:Nat):Int))]) (fun _=>[Ax (Ai W g),A5 g (A++CB M2 u v++B) junk])
   5 [Ax (Ai W g),A5 g (A++M2++B) junk] Tryz.mixed (by kernel_rfl) ?_ ?_
  ·refine qP I (qP I (qP I (qP I ?_)))
   refine qJ ?_
   refine qL 0 I I (fun W1 hp=>CR hp 1 ha I hvm) I (qP I (qP I ?_))
   refine qJ ?_
   refine qL 0 I I (fun W1 hp=>CR hp 1 ha I hum) I ?_
   refine qJ ?_
   refine B6 (wX ?_)
   refine RS.cons ?_ (RS.cons ?_ (RS.cons ?_ (RS.nil)))
   ·refine wP I (Aa (Ab (wX ?_)))
    refine RS.cons ?_ (RS.cons ?_ (RS.nil))
    ·refine wP I (Aa (Ab (wX (wZ ?_))))
     refine Ad 1 _ tH I I I I I I I I I I (Ay ha hum) (Az ha hum (Ac M2 v)) ?_
     refine Aa (Ab (wY (wZ ?_)))
     refine wJ ?_
     refine Aa (Ab (wY (wZ ?_)))
     refine Ad 1 _ tH I I I I I I I I I I (Ay (M:=M2.set u (Ac M2 v)) (u:=v) ha (by rw[List.length_set];exact hvm)) (Az (M:=M2.set u (Ac M2 v)) (u:=v) ha (by rw[List.length_set];exact hvm) (Ac M2 u)) ?_
     refine Aa (Ab ?_)
     refine Aj I (by kernel_rfl) ?_
     exact Ag () ⟨I,I,I,I,I,tO⟩ [0,1] (by decide) I
    ·refine Ad 1 _ tH I I I I I I I I I I (Ay ha hum) (Az ha hum (Ac M2 v)) ?_
     refine Aa (Ab (wY (wZ (wP I (Aa (Ab (wY (wZ ?_))))))))
     refine wJ ?_
     refine Aa (Ab (wY (wZ ?_)))
     refine Ad 1 _ tH I I I I I I I I I I (Ay (M:=M2.set u (Ac M2 v)) (u:=v) ha (by rw[List.length_set];exact hvm)) (Az (M:=M2.set u (Ac M2 v)) (u:=v) ha (by rw[List.length_set];exact hvm) (Ac M2 u)) ?_
     refine Aa (Ab ?_)
     refine Aj I (by kernel_rfl) ?_
     exact Ag () ⟨I,I,I,I,I,tO⟩ [0,1] (by decide) I
   ·refine wP I (Aa (Ab (wX ?_)))
    refine RS.cons ?_ (RS.cons ?_ (RS.nil))
    ·refine wP I (Aa (Ab (wX (wZ ?_))))
     refine Ad 1 _ tH I I I I I I I I I I (Ay ha hum) (Az ha hum (Ac M2 v)) ?_
     refine Aa (Ab (wY (wZ ?_)))
     refine wJ ?_
     refine Aa (Ab (wY (wZ ?_)))
     refine Ad 1 _ tH I I I I I I I I I I (Ay (M:=M2.set u (Ac M2 v)) (u:=v) ha (by rw[List.length_set];exact hvm)) (Az (M:=M2.set u (Ac M2 v)) (u:=v) ha (by rw[List.length_set];exact hvm) (Ac M2 u)) ?_
     refine Aa (Ab ?_)
     refine Aj I (by kernel_rfl) ?_
     exact Ag () ⟨I,I,I,I,I,tO⟩ [0,1] (by decide) I
    ·refine Ad 1 _ tH I I I I I I I I I I (Ay ha hum) (Az ha hum (Ac M2 v)) ?_
     refine Aa (Ab (wY (wZ (wP I (Aa (Ab (wY (wZ ?_))))))))
     refine wJ ?_
     refine Aa (Ab (wY (wZ ?_)))
     refine Ad 1 _ tH I I I I I I I I I I (Ay (M:=M2.set u (Ac M2 v)) (u:=v) ha (by rw[List.length_set];exact hvm)) (Az (M:=M2.set u (Ac M2 v)) (u:=v) ha (by rw[List.length_set];exact hvm) (Ac M2 u)) ?_
     refine Aa (Ab ?_)
     refine Aj I (by kernel_rfl) ?_
     exact Ag () ⟨I,I,I,I,I,tO⟩ [0,1] (by decide) I
   ·refine Ad 1 _ tH I I I I I I I I I I (Ay ha hum) (Az ha hum (Ac M2 v)) ?_
    refine Aa (Ab (wY ?_))
    refine RS.cons ?_ (RS.cons ?_ (RS.nil))
    ·refine wP I (Aa (Ab (wY (wZ (wP I (Aa (Ab (wY (wZ ?_)))))))))
     refine wJ ?_
     refine Aa (Ab (wY (wZ ?_)))
     refine Ad 1 _ tH I I I I I I I I I I (Ay (M:=M2.set u (Ac M2 v)) (u:=v) ha (by rw[List.length_set];exact hvm)) (Az (M:=M2.set u (Ac M2 v)) (u:=v) ha (by rw[List.length_set];exact hvm) (Ac M2 u)) ?_
     refine Aa (Ab ?_)
     refine Aj I (by kernel_rfl) ?_
     exact Ag () ⟨I,I,I,I,I,tO⟩ [0,1] (by decide) I
    ·refine wP I (Aa (Ab (wY (wZ (wP I (Aa (Ab (wY (wZ ?_)))))))))
     refine wJ ?_
     refine Aa (Ab (wY (wZ ?_)))
     refine Ad 1 _ tH I I I I I I I I I I (Ay (M:=M2.set u (Ac M2 v)) (u:=v) ha (by rw[List.length_set];exact hvm)) (Az (M:=M2.set u (Ac M2 v)) (u:=v) ha (by rw[List.length_set];exact hvm) (Ac M2 u)) ?_
     refine Aa (Ab ?_)
     refine Aj I (by kernel_rfl) ?_
     exact Ag () ⟨I,I,I,I,I,tO⟩ [0,1] (by decide) I
  intro _
  refine zE (zA (zB (wP I (wP I (wV 86 ((a+(u+1):Nat):Int) I (Av (by omega)) (wP I (Aa (zE (zB (wP I (wP I (wV 88 ((a+(v-1):Nat):Int) I (show w64 (((a+v:Nat):Int)-1)=_ by rw[Ak (by omega) (by omega)];omega) (wP I ?_)))))))))))))
  refine Aa (zN ?_)
  have j1:=hI0.u1
  exact A0 (u+1,v-1,CB M2 u v) hI2 (by show v-1+1-(u+1)<v1+1-u0;omega) ⟨I,I,I,I,I,tO⟩ [] I
 refine key.mono ?_
 rintro e W' ⟨x,he,hx,hb,hn'⟩
 exact⟨x,he,hx,BL hg I hb hn'⟩
end
end Go.Proofs.YthndmdimmgkpgaaGreatDoor
