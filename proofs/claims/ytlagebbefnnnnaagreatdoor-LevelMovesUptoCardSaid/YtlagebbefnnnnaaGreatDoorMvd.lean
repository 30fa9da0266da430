/-
  Lemmas that the theorem levelMoves_upto_card needs (part 4 of 8).
-/
import Derived.Test.YtlagebbefnnnnaaGreatDoorMvc
set_option maxHeartbeats 64000000
namespace Go.Proofs.YtlagebbefnnnnaaGreatDoor
section
open Go Go.RowKit Go.Am Go.Lib
set_option maxRecDepth 10000
-- BOXES 4
theorem FE {z:Int} {k:Nat} (h:z.natAbs<10^k) (hk:k≤300):okN z:=Nat.lt_of_lt_of_le h (Nat.pow_le_pow_right (by decide) (show k≤mxd from hk))
theorem szQ.ok {q:Rat} {k:Nat} (h:szQ q k) (hk:k≤300):okQ q:=⟨FE h.1 hk,FE (k:=k) (by rw[Int.natAbs_natCast];exact h.2) hk⟩
theorem szQ.mono {q:Rat} {k m:Nat} (h:szQ q k) (hk:k≤m):szQ q m:=⟨Nat.lt_of_lt_of_le h.1 (Nat.pow_le_pow_right (by decide) hk),Nat.lt_of_lt_of_le h.2 (Nat.pow_le_pow_right (by decide) hk)⟩
theorem Cx {x y:Int} {a b:Nat} (hx:x.natAbs<10^a) (hy:y.natAbs<10^b):(x*y).natAbs<10^(a+b):=by
 rw[Int.natAbs_mul];exact SR hx hy (Nat.le_refl _)
theorem PL {x y:Int} {a:Nat} (hx:x.natAbs<10^a) (hy:y.natAbs<10^a):(x+y).natAbs<10^(a+1):=by
 rw[Nat.pow_succ];omega
theorem QA {x y:Int} {a:Nat} (hx:x.natAbs<10^a) (hy:y.natAbs<10^a):(x-y).natAbs<10^(a+1):=by
 rw[Nat.pow_succ];omega
structure Sz2 (p q:Rat):Prop where
 okp:okQ p
 okq:okQ q
 c1:okN (p.num*(q.den:Nat))
 c2:okN (q.num*(p.den:Nat))
 d:okN ((p.den:Nat)*(q.den:Nat))
 n:okN (p.num*q.num)
 add:okN (p.num*(q.den:Nat)+q.num*(p.den:Nat))
 sub:okN (p.num*(q.den:Nat)-q.num*(p.den:Nat))
theorem sz2 {p q:Rat} {a b:Nat} (hp:szQ p a) (hq:szQ q b) (hk:a+b+1≤300):Sz2 p q:=by
 have hqd:((q.den:Nat):Int).natAbs<10^b:=by rw[Int.natAbs_natCast];exact hq.2
 have hpd:((p.den:Nat):Int).natAbs<10^a:=by rw[Int.natAbs_natCast];exact hp.2
 have e1:=Cx hp.1 hqd
 have e2:=Cx hq.1 hpd
 rw[Nat.add_comm b a] at e2
 exact⟨hp.ok (by omega),hq.ok (by omega),FE e1 (by omega),FE e2 (by omega),FE (Cx hpd hqd) (by omega),FE (Cx hp.1 hq.1) (by omega),FE (PL e1 e2) hk,FE (QA e1 e2) hk⟩
theorem szQ.add {p q:Rat} {a b:Nat} (hp:szQ p a) (hq:szQ q b):szQ (p+q) (a+b+1):=by
 have hqd:((q.den:Nat):Int).natAbs<10^b:=by rw[Int.natAbs_natCast];exact hq.2
 have hpd:((p.den:Nat):Int).natAbs<10^a:=by rw[Int.natAbs_natCast];exact hp.2
 have e1:=Cx hp.1 hqd
 have e2:=Cx hq.1 hpd
 rw[Nat.add_comm b a] at e2
 rw[←Ou]
 exact HS _ F4 (PL e1 e2) (Nat.lt_of_lt_of_le (Cx hpd hqd) (Nat.pow_le_pow_right (by decide) (by omega)))
theorem szQ.sub {p q:Rat} {a b:Nat} (hp:szQ p a) (hq:szQ q b):szQ (p-q) (a+b+1):=by
 have hqd:((q.den:Nat):Int).natAbs<10^b:=by rw[Int.natAbs_natCast];exact hq.2
 have hpd:((p.den:Nat):Int).natAbs<10^a:=by rw[Int.natAbs_natCast];exact hp.2
 have e1:=Cx hp.1 hqd
 have e2:=Cx hq.1 hpd
 rw[Nat.add_comm b a] at e2
 rw[←Ov]
 exact HS _ F4 (QA e1 e2) (Nat.lt_of_lt_of_le (Cx hpd hqd) (Nat.pow_le_pow_right (by decide) (by omega)))
theorem szQ.mul {p q:Rat} {a b:Nat} (hp:szQ p a) (hq:szQ q b):szQ (p*q) (a+b):=by
 have hqd:((q.den:Nat):Int).natAbs<10^b:=by rw[Int.natAbs_natCast];exact hq.2
 have hpd:((p.den:Nat):Int).natAbs<10^a:=by rw[Int.natAbs_natCast];exact hp.2
 rw[←Ow]
 exact HS _ F4 (Cx hp.1 hq.1) (Cx hpd hqd)
theorem szQ.div {p q:Rat} {a b:Nat} (hp:szQ p a) (hq:szQ q b) (h0:q.num≠0):szQ (p/q) (a+b):=by
 have hqd:((q.den:Nat):Int).natAbs<10^b:=by rw[Int.natAbs_natCast];exact hq.2
 have hpd:((p.den:Nat):Int).natAbs<10^a:=by rw[Int.natAbs_natCast];exact hp.2
 rw[←OT p q h0]
 exact HS _ (Int.mul_ne_zero (by have:=p.den_nz;omega) h0) (Cx hp.1 hqd) (Cx hpd hq.1)
theorem Bd.below {W0 W:World} (h:Bd W0) (hb:Below W0.heap.size W0 W):Bd W:=tabBelow_of_tabIs h W hb
theorem Fy (p:Rat) (h:smQ p):((p.den:Nat):Int).natAbs<100000000:=by rw[Int.natAbs_natCast];exact h.2
theorem Rs (p q:Rat) (h:Sz2 p q) (W0:World) (hv:BN W0) (ht:Bd W0):
  Ai Tryz.prog 41 #[str (Ak p),str (Ak q)] W0 (fun _:Unit=> .tuple #[str (Ak (p+q)), .int .i64 0]) (fun _=>True) (fun _=>[]):=by
 have hlp:=Cb h.okp
 have hlq:=Cb h.okq
 refine Ad (args:=[str (Ak p),str (Ak q)]) Tryz.func41 rfl rfl rfl ?_
 refine zA (zB (wP rfl (wP rfl (Aa (zE (zA (zA (zB (wP rfl (wP rfl ?_))))))))))
 have hquick: ∀W,Bd W→Ai Tryz.prog 98 #[str (Ak p),str (Ak q), .func (.func 99) #[] #[]] W (fun _:Unit=>if smQ p∧smQ q then .tuple #[str (Ak (p+q)), .bool true] else .tuple #[str [], .bool false]) (fun _=>True) (fun _=>[]):=
  fun W ht=>FB p q (p+q) (p.num*(q.den:Nat)+q.num*(p.den:Nat)) ((p.den:Nat)*(q.den:Nat)) _ (by kernel_rfl) (by omega) (by omega) (fun hp hq=>by
   have m1:=Fk hp.1 (Fy q hq)
   have m2:=Fk hq.1 (Fy p hp)
   have m3:=Fk (Fy p hp) (Fy q hq)
   exact⟨R7 _ _ _ _ hp.1 (Fy p hp) hq.1 (Fy q hq),F4,by omega,by omega,Ou p q⟩) W ht
 by_cases hs:smQ p∧smQ q
 ·refine Ab rfl rfl rfl rfl rfl rfl (by kernel_rfl) (fun W h=>(hquick W (ht.hp h)).cast (if_pos hs)) ?_
  iterate 5 refine wP rfl ?_
  refine Aa (zE (zA (zB (wP rfl (Aa (zE (zR rfl (zA (zB (wP rfl (wP rfl (wP rfl (Aa ?_)))))))))))))
  refine zE (zO (zP ?_))
  exact Au tH rfl (.tmp rfl) (.tmp rfl) () rfl trivial fun W _=>Ag.nil _ _
 ·refine Ab rfl rfl rfl rfl rfl rfl (by kernel_rfl) (fun W h=>(hquick W (ht.hp h)).cast (if_neg hs)) ?_
  iterate 5 refine wP rfl ?_
  refine Aa (zE (zA (zB (wP rfl (Aa (zE (zS rfl (zI (zE (zA (zB (wP rfl (wP rfl ?_)))))))))))))
  refine Ay (X:=Nat) rfl rfl rfl rfl rfl rfl (by kernel_rfl) (fun W _=>Ho 102 W) ?_
  intro b18 _
  refine Ab rfl rfl rfl rfl rfl rfl (by kernel_rfl) (fun W hp=>F6 p q (Ak (p+q)) 0 179 [A5 b18] h.okp h.okq W (hv.hp hp) (ht.hp hp) (by kernel_rfl) (fun W' hb=>(K2 p q b18 102 (p.num*(q.den:Nat)+q.num*(p.den:Nat)) h.okp h.okq h.c1 h.c2 h.add h.d (by kernel_rfl) (fun W2 ht2=>(Rm _ _ h.c1 h.c2 W2 ht2).cast (I9 h.add)) W' ((ht.hp hp).below hb) ((Ae.of_bx hp 0 rfl rfl).below (Nat.le_refl _) hb)).cast (congrArg (fun r=>Value.tuple #[str (Ak r), .int .i64 0]) (Ou p q)))) ?_
  refine wP rfl (wP rfl (wP rfl (wP rfl (Aa (zE (zO ?_))))))
  exact Au tH rfl (.tmp rfl) (.tmp rfl) () rfl trivial fun W _=>Ag.nil _ _
-- BOXES 4
theorem Me (p q:Rat) (h:Sz2 p q) (W0:World) (hv:BN W0) (ht:Bd W0):
  Ai Tryz.prog 78 #[str (Ak p),str (Ak q)] W0 (fun _:Unit=> .tuple #[str (Ak (p-q)), .int .i64 0]) (fun _=>True) (fun _=>[]):=by
 have hlp:=Cb h.okp
 have hlq:=Cb h.okq
 refine Ad (args:=[str (Ak p),str (Ak q)]) Tryz.func78 rfl rfl rfl ?_
 refine zA (zB (wP rfl (wP rfl (Aa (zE (zA (zA (zB (wP rfl (wP rfl ?_))))))))))
 have hquick: ∀W,Bd W→Ai Tryz.prog 98 #[str (Ak p),str (Ak q), .func (.func 158) #[] #[]] W (fun _:Unit=>if smQ p∧smQ q then .tuple #[str (Ak (p-q)), .bool true] else .tuple #[str [], .bool false]) (fun _=>True) (fun _=>[]):=
  fun W ht=>FB p q (p-q) (p.num*(q.den:Nat)-q.num*(p.den:Nat)) ((p.den:Nat)*(q.den:Nat)) _ (by kernel_rfl) (by omega) (by omega) (fun hp hq=>by
   have m1:=Fk hp.1 (Fy q hq)
   have m2:=Fk hq.1 (Fy p hp)
   have m3:=Fk (Fy p hp) (Fy q hq)
   exact⟨R9 _ _ _ _ hp.1 (Fy p hp) hq.1 (Fy q hq),F4,by omega,by omega,Ov p q⟩) W ht
 by_cases hs:smQ p∧smQ q
 ·refine Ab rfl rfl rfl rfl rfl rfl (by kernel_rfl) (fun W h=>(hquick W (ht.hp h)).cast (if_pos hs)) ?_
  iterate 5 refine wP rfl ?_
  refine Aa (zE (zA (zB (wP rfl (Aa (zE (zR rfl (zA (zB (wP rfl (wP rfl (wP rfl (Aa ?_)))))))))))))
  refine zE (zO (zP ?_))
  exact Au tH rfl (.tmp rfl) (.tmp rfl) () rfl trivial fun W _=>Ag.nil _ _
 ·refine Ab rfl rfl rfl rfl rfl rfl (by kernel_rfl) (fun W h=>(hquick W (ht.hp h)).cast (if_neg hs)) ?_
  iterate 5 refine wP rfl ?_
  refine Aa (zE (zA (zB (wP rfl (Aa (zE (zS rfl (zI (zE (zA (zB (wP rfl (wP rfl ?_)))))))))))))
  refine Ay (X:=Nat) rfl rfl rfl rfl rfl rfl (by kernel_rfl) (fun W _=>Ho 159 W) ?_
  intro b18 _
  refine Ab rfl rfl rfl rfl rfl rfl (by kernel_rfl) (fun W hp=>F6 p q (Ak (p-q)) 0 179 [A5 b18] h.okp h.okq W (hv.hp hp) (ht.hp hp) (by kernel_rfl) (fun W' hb=>(K2 p q b18 159 (p.num*(q.den:Nat)-q.num*(p.den:Nat)) h.okp h.okq h.c1 h.c2 h.sub h.d (by kernel_rfl) (fun W2 ht2=>(RM _ _ h.c1 h.c2 W2 ht2).cast (I9 h.sub)) W' ((ht.hp hp).below hb) ((Ae.of_bx hp 0 rfl rfl).below (Nat.le_refl _) hb)).cast (congrArg (fun r=>Value.tuple #[str (Ak r), .int .i64 0]) (Ov p q)))) ?_
  refine wP rfl (wP rfl (wP rfl (wP rfl (Aa (zE (zO ?_))))))
  exact Au tH rfl (.tmp rfl) (.tmp rfl) () rfl trivial fun W _=>Ag.nil _ _
theorem Sr (p q:Rat) (h:Sz2 p q) (W0:World) (hv:BN W0) (ht:Bd W0):
  Ai Tryz.prog 134 #[str (Ak p),str (Ak q)] W0 (fun _:Unit=> .tuple #[str (Ak (p*q)), .int .i64 0]) (fun _=>True) (fun _=>[]):=by
 have hlp:=Cb h.okp
 have hlq:=Cb h.okq
 refine Ad (args:=[str (Ak p),str (Ak q)]) Tryz.func134 rfl rfl rfl ?_
 refine zA (zB (wP rfl (wP rfl (Aa (zE (zA (zA (zB (wP rfl (wP rfl ?_))))))))))
 have hquick: ∀W,Bd W→Ai Tryz.prog 98 #[str (Ak p),str (Ak q), .func (.func 200) #[] #[]] W (fun _:Unit=>if smQ p∧smQ q then .tuple #[str (Ak (p*q)), .bool true] else .tuple #[str [], .bool false]) (fun _=>True) (fun _=>[]):=
  fun W ht=>FB p q (p*q) (p.num*q.num) ((p.den:Nat)*(q.den:Nat)) _ (by kernel_rfl) (by omega) (by omega) (fun hp hq=>by
   have m1:=Fk hp.1 hq.1
   have m3:=Fk (Fy p hp) (Fy q hq)
   exact⟨S5 _ _ _ _ hp.1 (Fy p hp) hq.1 (Fy q hq),F4,by omega,by omega,Ow p q⟩) W ht
 by_cases hs:smQ p∧smQ q
 ·refine Ab rfl rfl rfl rfl rfl rfl (by kernel_rfl) (fun W h=>(hquick W (ht.hp h)).cast (if_pos hs)) ?_
  iterate 5 refine wP rfl ?_
  refine Aa (zE (zA (zB (wP rfl (Aa (zE (zR rfl (zA (zB (wP rfl (wP rfl (wP rfl (Aa ?_)))))))))))))
  refine zE (zO (zP ?_))
  exact Au tH rfl (.tmp rfl) (.tmp rfl) () rfl trivial fun W _=>Ag.nil _ _
 ·refine Ab rfl rfl rfl rfl rfl rfl (by kernel_rfl) (fun W h=>(hquick W (ht.hp h)).cast (if_neg hs)) ?_
  iterate 5 refine wP rfl ?_
  refine Aa (zE (zA (zB (wP rfl (Aa (zE (zS rfl (zI (zE (zA (zB (wP rfl (wP rfl ?_)))))))))))))
  refine Ab rfl rfl rfl rfl rfl rfl (by kernel_rfl) (fun W hp=>F6 p q (Ak (p*q)) 0 201 [] h.okp h.okq W (hv.hp hp) (ht.hp hp) (by kernel_rfl) (fun W' hb=>R3 p q h.okp h.okq h.n h.d W' ((ht.hp hp).below hb))) ?_
  refine wP rfl (wP rfl (wP rfl (wP rfl (Aa (zE (zO ?_))))))
  exact Au tH rfl (.tmp rfl) (.tmp rfl) () rfl trivial fun W _=>Ag.nil _ _
theorem RQ {q:Rat}:Ak q=[48]↔q.num=0:=by
 constructor
 ·intro h
  unfold Ak Hk at h
  split at h
  ·exact LD.1 h
  ·have:(47:UInt8)∈([48]:List UInt8):=by rw[←h];exact List.mem_append_right _ (List.mem_cons_self ..)
   exact absurd this (by decide)
 ·intro h
  have hd:q.den=1:=by
   have:=q.reduced
   rw[h] at this
   simpa[Nat.Coprime] using this
  rw[Ak,Hk,if_pos hd,h,Eu]
theorem RN (p q:Rat) (h:Sz2 p q) (W0:World) (hv:BN W0) (ht:Bd W0):
  Ai Tryz.prog 74 #[str (Ak p),str (Ak q)] W0 (fun _:Unit=> .tuple #[str (MI p q).1, .int .i64 (MI p q).2]) (fun _=>True) (fun _=>[]):=by
 have hlp:=Cb h.okp
 have hlq:=Cb h.okq
 have hboth: ∀W,BN W→Bd W→Ai Tryz.prog 100 #[str (Ak p),str (Ak q), .func (.func 156) #[] #[]] W (fun _:Unit=> .tuple #[str (MI p q).1, .int .i64 (MI p q).2]) (fun _=>True) (fun _=>[]):=
  fun W hv ht=>F6 p q _ _ 156 [] h.okp h.okq W hv ht (by kernel_rfl) (fun W' hb=>RA p q h.okp h.okq h.c1 h.c2 W' (ht.below hb))
 refine Ad (args:=[str (Ak p),str (Ak q)]) Tryz.func74 rfl rfl rfl ?_
 refine zA (zB (wP rfl (wP rfl (Aa (zE (zA (zA (zB (wP rfl (wP rfl ?_))))))))))
 by_cases h0:q.num=0
 ·refine Ac 9 (.bool false) rfl (congrArg Value.bool (by show(!_)=false;rw[Bf,decide_eq_true (RQ.2 h0)];rfl)) ?_
  refine Aa (zE (zS rfl (zI (zE (zA (zB (wP rfl (wP rfl ?_))))))))
  refine Ab rfl rfl rfl rfl rfl rfl (by kernel_rfl) (fun W hp=>hboth W (hv.hp hp) (ht.hp hp)) ?_
  refine wP rfl (wP rfl (wP rfl (wP rfl (Aa (zE (zO ?_))))))
  exact Au tH rfl (.tmp rfl) (.tmp rfl) () rfl trivial fun W _=>Ag.nil _ _
 ·have hval:MI p q=(Ak (p/q),0):=if_neg h0
  refine Ac 9 (.bool true) rfl (congrArg Value.bool (by show(!_)=true;rw[Bf,decide_eq_false fun e=>h0 (RQ.1 e)];rfl)) ?_
  refine Aa (zE (zR rfl (zA (zB (wP rfl (wP rfl ?_))))))
  have hquick: ∀W,Bd W→Ai Tryz.prog 98 #[str (Ak p),str (Ak q), .func (.func 155) #[] #[]] W (fun _:Unit=>if smQ p∧smQ q then .tuple #[str (Ak (p/q)), .bool true] else .tuple #[str [], .bool false]) (fun _=>True) (fun _=>[]):=
   fun W ht=>FB p q (p/q) (p.num*(q.den:Nat)) ((p.den:Nat)*q.num) _ (by kernel_rfl) (by omega) (by omega) (fun hp hq=>by
    have m1:=Fk hp.1 (Fy q hq)
    have m3:=Fk (Fy p hp) hq.1
    exact⟨Rt _ _ _ _ hp.1 (Fy p hp) hq.1 (Fy q hq),Int.mul_ne_zero (by have:=p.den_nz;omega) h0,by omega,by omega,OT p q h0⟩) W ht
  by_cases hs:smQ p∧smQ q
  ·refine Ab rfl rfl rfl rfl rfl rfl (by kernel_rfl) (fun W h=>(hquick W (ht.hp h)).cast (if_pos hs)) ?_
   iterate 5 refine wP rfl ?_
   refine Aa (zE (zA (zB (wP rfl (Aa (zE (zR rfl (zA (zB (wP rfl (wP rfl (wP rfl (Aa ?_)))))))))))))
   refine zE (zO (zP ?_))
   exact Au tH rfl (.tmp rfl) (.tmp rfl) () (by rw[hval]) trivial fun W _=>Ag.nil _ _
  ·refine Ab rfl rfl rfl rfl rfl rfl (by kernel_rfl) (fun W h=>(hquick W (ht.hp h)).cast (if_neg hs)) ?_
   iterate 5 refine wP rfl ?_
   refine Aa (zE (zA (zB (wP rfl (Aa (zE (zS rfl (zI (zE (zA (zB (wP rfl (wP rfl ?_)))))))))))))
   refine Ab rfl rfl rfl rfl rfl rfl (by kernel_rfl) (fun W hp=>hboth W (hv.hp hp) (ht.hp hp)) ?_
   refine wP rfl (wP rfl (wP rfl (wP rfl (Aa (zE (zO ?_))))))
   exact Au tH rfl (.tmp rfl) (.tmp rfl) () rfl trivial fun W _=>Ag.nil _ _
-- BOXES 5
theorem H7 (p q:Rat) (h:Sz2 p q) (W0:World) (hv:BN W0) (ht:Bd W0):
  Ai Tryz.prog 162 #[str (Ak p),str (Ak q)] W0 (fun _:Unit=> .tuple #[.int .i64 (MU (p.num*(q.den:Nat)) (q.num*(p.den:Nat))), .int .i64 0]) (fun _=>True) (fun _=>[]):=by
 have hlp:=Cb h.okp
 have hlq:=Cb h.okq
 refine Ad (args:=[str (Ak p),str (Ak q)]) Tryz.func162 rfl rfl rfl ?_
 refine zA (zB (wP rfl (wP rfl (Aa (AP (AL ?_))))))
 refine BF (X:=Unit) (fun _=>[(0,str (Ak p)),(1,str (Ak q)),(4, .int .i64 0),(5, .int .i64 0)]) (fun _=>[]) (fun _=>True) ?_ ?_
 ·refine zA (zB (wP rfl ?_))
  by_cases hp:smQ p
  ·refine Ab rfl rfl rfl rfl rfl rfl (by kernel_rfl) (fun W _=>(B7 (Ak p) (by omega) W).cast ((DP p).trans (if_pos hp))) ?_
   refine wP rfl (wP rfl (wP rfl ?_))
   (refine An Tryz.hZ rfl rfl rfl rfl ?_;intro)
   refine wS 0 rfl rfl rfl (wP rfl (Aa ?_))
   rename_i b6
   refine zE (zA (zB (wP rfl (Aa (zE (zR rfl (zA (zB (wP rfl ?_)))))))))
   by_cases hq:smQ q
   ·refine Ab rfl rfl rfl rfl rfl rfl (by kernel_rfl) (fun W _=>(B7 (Ak q) (by omega) W).cast ((DP q).trans (if_pos hq))) ?_
    refine wP rfl (wP rfl (wP rfl ?_))
    (refine An Tryz.hZ rfl rfl rfl rfl ?_;intro)
    refine wS 1 rfl rfl rfl (wP rfl (Aa ?_))
    rename_i b8
    refine zE (zA (zB (wP rfl (Aa (zE (zR rfl (zA (zB (wP rfl (wB 0 rfl rfl rfl (wP rfl (wB 1 rfl rfl rfl (wP rfl ?_)))))))))))))
    refine Ac 31 (.int .i64 (p.num*(q.den:Nat))) rfl (congrArg (Value.int .i64) (CP hp.1 (Fy q hq))) ?_
    refine wP rfl (wB 1 rfl rfl rfl (wP rfl (wB 0 rfl rfl rfl (wP rfl ?_))))
    refine Ac 36 (.int .i64 (q.num*(p.den:Nat))) rfl (congrArg (Value.int .i64) (CP hq.1 (Fy p hp))) ?_
    refine Ab rfl rfl rfl rfl rfl rfl (by kernel_rfl) (fun W _=>LV _ _ W) ?_
    refine wP rfl (wP rfl (Aa (zE (zO (zP ?_)))))
    exact Au tH rfl (.tmp rfl) (.tmp rfl) () rfl trivial fun W _=>Ag.nil _ _
   ·refine Ab rfl rfl rfl rfl rfl rfl (by kernel_rfl) (fun W _=>(B7 (Ak q) (by omega) W).cast ((DP q).trans (if_neg hq))) ?_
    refine wP rfl (wP rfl (wP rfl ?_))
    (refine An Tryz.hZ rfl rfl rfl rfl ?_;intro)
    refine wS 1 rfl rfl rfl (wP rfl (Aa (zE (zA (zB (wP rfl (Aa (zE (zS rfl (zI ?_))))))))))
    exact AH () trivial ⟨rfl,rfl,rfl,rfl,trivial⟩ _ rfl
  ·refine Ab rfl rfl rfl rfl rfl rfl (by kernel_rfl) (fun W _=>(B7 (Ak p) (by omega) W).cast ((DP p).trans (if_neg hp))) ?_
   refine wP rfl (wP rfl (wP rfl ?_))
   (refine An Tryz.hZ rfl rfl rfl rfl ?_;intro)
   refine wS 0 rfl rfl rfl (wP rfl (Aa (zE (zA (zB (wP rfl (Aa (zE (zS rfl (zI ?_))))))))))
   exact AH () trivial ⟨rfl,rfl,rfl,rfl,trivial⟩ _ rfl
 ·intro _ _
  refine zA (zB (wP rfl ?_))
  refine Ab rfl rfl rfl rfl rfl rfl (by kernel_rfl) (fun W hp=>(DI (Ak p) (by omega) W (hv.hp hp) (ht.hp hp)).cast (L3 h.okp)) ?_
  refine wP rfl (wP rfl (wP rfl ?_))
  (refine An Tryz.hZ rfl rfl rfl rfl ?_;intro)
  refine wS 0 rfl rfl rfl (wP rfl (Aa ?_))
  rename_i b10
  refine zE (zA (zA (zB (wP rfl (wP rfl (Aa (zE (zS rfl (zI (zE (zA (zB (wP rfl ?_)))))))))))))
  refine Ab rfl rfl rfl rfl rfl rfl (by kernel_rfl) (fun W hp=>(DI (Ak q) (by omega) W (hv.hp hp) (ht.hp hp)).cast (L3 h.okq)) ?_
  refine wP rfl (wP rfl (wP rfl ?_))
  (refine An Tryz.hZ rfl rfl rfl rfl ?_;intro)
  refine wS 1 rfl rfl rfl (wP rfl (Aa ?_))
  rename_i b12
  refine zE (zA (zA (zB (wP rfl (wP rfl (Aa (zE (zS rfl (zI (zE (zA (zB (wB 0 rfl rfl rfl ?_)))))))))))))
  refine wB 1 rfl rfl rfl ?_
  refine Ab rfl rfl rfl rfl rfl rfl (by kernel_rfl) (fun W hp=>FJ p q h.okp h.okq h.c1 h.c2 W (ht.hp hp)) ?_
  iterate 7 refine wP rfl ?_
  refine Aa (zE (zA (zA (zB (wP rfl (wP rfl (Aa (zE (zS rfl (zI (zE (zA (zB ?_)))))))))))))
  refine wP rfl (wP rfl ?_)
  refine Ab rfl rfl rfl rfl rfl rfl (by kernel_rfl) (fun W _=>M1 _ _ h.c1 h.c2 W) ?_
  refine wP rfl (wP rfl (wP rfl (wP rfl (Aa (zE (zO ?_))))))
  exact Au tH rfl (.tmp rfl) (.tmp rfl) () rfl trivial fun W _=>Ag.nil _ _
-- BOXES 4
theorem XC (a:Int):Ak (nrm a 1)=itoa a:=by
 have e:nrm a 1=mkRat a 1:=rfl
 rw[e,Ml (by decide) (by rw[Nat.gcd_one_right])]
 rw[Nat.gcd_one_right]
 show itoa (a/1)=_
 rw[Int.ediv_one]
def ofR (a b:Int):List UInt8×Int:=if b=0 then([],12) else(Ak (nrm a b),0)
theorem Ve {z:Int} (h0: -9223372036854775808≤z) (h1:z≤9223372036854775807):okN z:=O5 (by
 have:(10:Nat)^20=100000000000000000000:=by decide
 omega)
theorem J4 (a b:Int) (ha: -9223372036854775808≤a∧a≤9223372036854775807) (hb: -9223372036854775808≤b∧b≤9223372036854775807) (W:World) (ht:Bd W):
  Ai Tryz.prog 27 #[.int .i64 a, .int .i64 b] W (fun _:Unit=> .tuple #[str (ofR a b).1, .int .i64 (ofR a b).2]) (fun _=>True) (fun _=>[]):=by
 refine Ad (args:=[.int .i64 a, .int .i64 b]) Tryz.func27 rfl rfl rfl ?_
 refine zA (zB (wP rfl (wP rfl (Aa (zE (zA (zA (zB (wP rfl (Aa (zE (zH (zA ?_)))))))))))))
 refine zB (wP rfl ?_)
 by_cases h0:b=0
 ·refine Ac 8 (.bool true) rfl (congrArg Value.bool (by rw[h0];rfl)) ?_
  refine wP rfl (Aa (zE (zR rfl (zA (zB (wP rfl (wP rfl (Aa (zE (zO (zQ (zP ?_))))))))))))
  exact Au tH rfl (.tmp rfl) (.tmp rfl) () (by rw[ofR,if_pos h0]) trivial fun W _=>Ag.nil _ _
 ·have hval:ofR a b=(Ak (nrm a b),0):=if_neg h0
  refine Ac 8 (.bool false) rfl (congrArg Value.bool (by rw[beq_eq_false_iff_ne];exact h0)) ?_
  refine wP rfl (Aa (zE (zS rfl (zA (zB (wP rfl ?_))))))
  by_cases h1:b=1
  ·refine Ac 10 (.bool true) rfl (congrArg Value.bool (by rw[h1];rfl)) ?_
   refine wP rfl (Aa (zE (zR rfl (zA (zB (wP rfl ?_))))))
   refine Ab rfl rfl rfl rfl rfl rfl (by kernel_rfl) (fun W hp=>BQ a ha.1 ha.2 W (ht.hp hp)) ?_
   refine wP rfl (wP rfl (Aa (zE (zO (zQ (zP ?_))))))
   exact Au tH rfl (.tmp rfl) (.tmp rfl) () (by rw[hval,h1,XC]) trivial fun W _=>Ag.nil _ _
  ·refine Ac 10 (.bool false) rfl (congrArg Value.bool (by rw[beq_eq_false_iff_ne];exact h1)) ?_
   refine wP rfl (Aa (zE (zS rfl (zI (zN (zE (zA (zB (wP rfl ?_)))))))))
   refine Ab rfl rfl rfl rfl rfl rfl (by kernel_rfl) (fun W hp=>BQ a ha.1 ha.2 W (ht.hp hp)) ?_
   refine wP rfl ?_
   refine Ab rfl rfl rfl rfl rfl rfl (by kernel_rfl) (fun W hp=>BQ b hb.1 hb.2 W (ht.hp hp)) ?_
   refine Ab rfl rfl rfl rfl rfl rfl (by kernel_rfl) (fun W hp=>D7 a b h0 (Ve ha.1 ha.2) (Ve hb.1 hb.2) W (ht.hp hp)) ?_
   refine wP rfl (wP rfl (wP rfl (wP rfl (Aa (zE (zO ?_))))))
   exact Au tH rfl (.tmp rfl) (.tmp rfl) () (by rw[hval]) trivial fun W _=>Ag.nil _ _
theorem Gu (a:List UInt8) (hl:a.length≤4000000000) (W:World) (hv:BN W) (ht:Bd W):
  Ai Tryz.prog 195 #[str a] W (fun _:Unit=> .int .i64 (rdR a).2) (fun _=>True) (fun _=>[]):=by
 refine Ad (args:=[str a]) Tryz.func195 rfl rfl rfl ?_
 refine zA (zB (wP rfl (Aa (zE (zA (zB (wP rfl ?_)))))))
 refine Ab rfl rfl rfl rfl rfl rfl (by kernel_rfl) (fun W h=>DI a hl W (hv.hp h) (ht.hp h)) ?_
 refine wP rfl (wP rfl (wP rfl ?_))
 (refine An Tryz.hZ rfl rfl rfl rfl ?_;intro)
 refine wS 0 rfl rfl rfl (wP rfl (Aa (zE (zA (zB (wP rfl (wP rfl (Aa (zE (zO ?_))))))))))
 exact Af tH rfl (.tmp rfl) () rfl trivial fun W _=>Ag.nil _ _
theorem Sy {q:Rat} (h:okQ q):rdR (Ak q)=((itoa q.num,decDigits q.den),0):=by
 have hd:q.den<BL:=by have:=h.2;unfold okN at this;rwa [Int.natAbs_natCast] at this
 have hf:frm (Ak q)=some (q.num,q.den):=Hm q.num q.den_pos
 unfold rdR;rw[hf];exact(if_pos ⟨h.1,hd⟩).trans (if_pos q.reduced)
theorem YX (z:Int):nrm z 1=(z:Rat):=by
 show mkRat z 1=_
 exact Rat.mkRat_one z
theorem SC (z:Int):ofR z 1=(Ak (z:Rat),0):=by
 rw[ofR,if_neg (by decide),YX]
theorem XS (p q:Rat):p.num*(q.den:Nat)<q.num*(p.den:Nat)↔p<q:=(Rat.lt_iff p q).symm
def FM (p q:Rat):Int:=if p<q then -1 else if p=q then 0 else 1
theorem VV (p q:Rat):MU (p.num*(q.den:Nat)) (q.num*(p.den:Nat))=FM p q:=by
 unfold MU FM
 have h1:=XS p q
 have h2:p.num*(q.den:Nat)=q.num*(p.den:Nat)↔p=q:=by
  constructor
  ·intro h
   have a:=Rat.num_divInt_den p
   have b:=Rat.num_divInt_den q
   rw[←a, ←b]
   exact(Rat.divInt_eq_divInt_iff (by have:=p.den_nz;omega) (by have:=q.den_nz;omega)).2 h
  ·rintro rfl;rfl
 by_cases h:p<q
 ·rw[if_pos h,if_pos (h1.2 h)]
 ·rw[if_neg h,if_neg (fun e=>h (h1.1 e))]
  by_cases e:p=q
  ·rw[if_pos e,if_pos (h2.2 e)]
  ·rw[if_neg e,if_neg (fun h=>e (h2.1 h))]
theorem G2 {z:Int} {k:Nat} (h:z.natAbs<10^k) (hk:1<10^k):szQ (z:Rat) k:=⟨by rw[Rat.num_intCast];exact h,by rw[Rat.den_intCast];exact hk⟩
theorem SX (p q:Rat):(decide (FM p q≤0))=decide (p≤q):=by
 unfold FM
 refine decide_eq_decide.2 ?_
 by_cases h:p<q
 ·rw[if_pos h];exact⟨fun _=>Rat.le_of_lt h,fun _=>by decide⟩
 ·rw[if_neg h]
  by_cases e:p=q
  ·rw[if_pos e];exact⟨fun _=>by rw[e];exact Rat.le_refl,fun _=>by decide⟩
  ·rw[if_neg e]
   exact⟨fun h=>absurd h (by decide),fun h2=>absurd (Rat.lt_of_le_of_ne h2 e) h⟩
theorem Ex:Ak 0=[48]:=RQ.2 rfl
theorem Mv (p q:Rat):(decide (FM p q<0))=decide (p<q):=by
 unfold FM
 refine decide_eq_decide.2 ?_
 by_cases h:p<q
 ·rw[if_pos h];exact⟨fun _=>h,fun _=>by decide⟩
 ·rw[if_neg h]
  by_cases e:p=q
  ·rw[if_pos e];exact⟨fun h2=>absurd h2 (by decide),fun h2=>absurd h2 h⟩
  ·rw[if_neg e]
   exact⟨fun h=>absurd h (by decide),fun h2=>absurd h2 h⟩
theorem CQ {p q:Rat}:Ak p=Ak q↔p=q:=by
 refine⟨fun h=> ?_,fun h=>by rw[h]⟩
 have h1:=Hm p.num p.den_pos
 have h2:=Hm q.num q.den_pos
 have h:Hk p.num p.den=Hk q.num q.den:=h
 rw[h,h2] at h1
 injection h1 with h1
 injection h1 with a b
 exact Rat.ext a.symm b.symm
theorem FT (q:Rat):decide (Ak q=[48])=decide (q=0):=decide_eq_decide.2 (by rw[←Ex,CQ])
theorem WN {q:Rat} (h:q≠0):q.num≠0:=by rwa [ne_eq,Rat.num_eq_zero]
theorem Wv (p q:Rat):(decide (FM p q≤0))=decide (p≤q):=SX p q
theorem UK (p q:Rat):(decide (FM p q>0))=decide (q<p):=by
 have h:=Wv p q
 rw[decide_eq_decide] at h⊢
 constructor
 ·intro h1
  exact Rat.not_le.1 fun h2=>by have:=h.2 h2;omega
 ·intro h1
  have: ¬FM p q≤0:=fun h2=>Rat.not_le.2 h1 (h.1 h2)
  omega
-- BOXES 4
theorem DW (z:Int) (hz: -9223372036854775808≤z∧z≤9223372036854775807) (W:World) (ht:Bd W):
  Ai Tryz.prog 58 #[.int .i64 z] W (fun _:Unit=>str (Ak (z:Rat))) (fun _=>True) (fun _=>[]):=by
 refine Ad (args:=[.int .i64 z]) Tryz.func58 rfl rfl rfl ?_
 refine zA (zB (wP rfl (Aa (zE (zA (zB (wP rfl ?_)))))))
 refine Ab rfl rfl rfl rfl rfl rfl (by kernel_rfl) (fun W hp=>(J4 z 1 hz (by decide) W (ht.hp hp)).cast (by rw[SC])) ?_
 iterate 5 refine wP rfl ?_
 refine Aa (zE (zA (zB (wP rfl (wP rfl (Aa (zE (zO ?_))))))))
 exact Af tH rfl (.tmp rfl) () rfl trivial fun W _=>Ag.nil _ _
theorem I6 (p q:Rat) (h:Sz2 p q) (W:World) (hv:BN W) (ht:Bd W):
  Ai Tryz.prog 164 #[str (Ak p),str (Ak q)] W (fun _:Unit=>str (Ak (p+q))) (fun _=>True) (fun _=>[]):=by
 refine Ad (args:=[str (Ak p),str (Ak q)]) Tryz.func164 rfl rfl rfl ?_
 refine zA (zB (wP rfl (Aa (zE (zA (zB (wP rfl (wP rfl ?_))))))))
 refine Ab rfl rfl rfl rfl rfl rfl (by kernel_rfl) (fun W hp=>Rs p q h W (hv.hp hp) (ht.hp hp)) ?_
 iterate 5 refine wP rfl ?_
 refine Aa (zE (zA (zB (wP rfl (wP rfl (Aa (zE (zO ?_))))))))
 exact Af tH rfl (.tmp rfl) () rfl trivial fun W _=>Ag.nil _ _
theorem Fp (p q:Rat) (h:Sz2 p q) (W:World) (hv:BN W) (ht:Bd W):
  Ai Tryz.prog 59 #[str (Ak p),str (Ak q)] W (fun _:Unit=>str (Ak (p-q))) (fun _=>True) (fun _=>[]):=by
 refine Ad (args:=[str (Ak p),str (Ak q)]) Tryz.func59 rfl rfl rfl ?_
 refine zA (zB (wP rfl (Aa (zE (zA (zB (wP rfl (wP rfl ?_))))))))
 refine Ab rfl rfl rfl rfl rfl rfl (by kernel_rfl) (fun W hp=>Me p q h W (hv.hp hp) (ht.hp hp)) ?_
 iterate 5 refine wP rfl ?_
 refine Aa (zE (zA (zB (wP rfl (wP rfl (Aa (zE (zO ?_))))))))
 exact Af tH rfl (.tmp rfl) () rfl trivial fun W _=>Ag.nil _ _
theorem G6 (p q:Rat) (h:Sz2 p q) (W:World) (hv:BN W) (ht:Bd W):
  Ai Tryz.prog 57 #[str (Ak p),str (Ak q)] W (fun _:Unit=>str (Ak (p*q))) (fun _=>True) (fun _=>[]):=by
 refine Ad (args:=[str (Ak p),str (Ak q)]) Tryz.func57 rfl rfl rfl ?_
 refine zA (zB (wP rfl (Aa (zE (zA (zB (wP rfl (wP rfl ?_))))))))
 refine Ab rfl rfl rfl rfl rfl rfl (by kernel_rfl) (fun W hp=>Sr p q h W (hv.hp hp) (ht.hp hp)) ?_
 iterate 5 refine wP rfl ?_
 refine Aa (zE (zA (zB (wP rfl (wP rfl (Aa (zE (zO ?_))))))))
 exact Af tH rfl (.tmp rfl) () rfl trivial fun W _=>Ag.nil _ _
theorem Ix (p q:Rat) (h:Sz2 p q) (h0:q.num≠0) (W:World) (hv:BN W) (ht:Bd W):
  Ai Tryz.prog 124 #[str (Ak p),str (Ak q)] W (fun _:Unit=>str (Ak (p/q))) (fun _=>True) (fun _=>[]):=by
 refine Ad (args:=[str (Ak p),str (Ak q)]) Tryz.func124 rfl rfl rfl ?_
 refine zA (zB (wP rfl (Aa (zE (zA (zB (wP rfl (wP rfl ?_))))))))
 refine Ab rfl rfl rfl rfl rfl rfl (by kernel_rfl) (fun W hp=>(RN p q h W (hv.hp hp) (ht.hp hp)).cast (by rw[MI,if_neg h0])) ?_
 iterate 5 refine wP rfl ?_
 refine Aa (zE (zA (zB (wP rfl (wP rfl (Aa (zE (zO ?_))))))))
 exact Af tH rfl (.tmp rfl) () rfl trivial fun W _=>Ag.nil _ _
theorem CJ (p q:Rat) (h:Sz2 p q) (W:World) (hv:BN W) (ht:Bd W):
  Ai Tryz.prog 128 #[str (Ak p),str (Ak q)] W (fun _:Unit=> .int .i64 (FM p q)) (fun _=>True) (fun _=>[]):=by
 refine Ad (args:=[str (Ak p),str (Ak q)]) Tryz.func128 rfl rfl rfl ?_
 refine zA (zB (wP rfl (Aa (zE (zA (zB (wP rfl (wP rfl ?_))))))))
 refine Ab rfl rfl rfl rfl rfl rfl (by kernel_rfl) (fun W hp=>(H7 p q h W (hv.hp hp) (ht.hp hp)).cast (by rw[VV])) ?_
 iterate 5 refine wP rfl ?_
 refine Aa (zE (zA (zB (wP rfl (wP rfl (Aa (zE (zO ?_))))))))
 exact Af tH rfl (.tmp rfl) () rfl trivial fun W _=>Ag.nil _ _
-- BOXES 4
theorem IN (q:Rat) (h:okQ q) (W:World) (hv:BN W) (ht:Bd W):
  Ai Tryz.prog 153 #[str (Ak q)] W (fun _:Unit=> .tuple #[str (itoa q.num),str (itoa (q.den:Nat)), .int .i64 0]) (fun _=>True) (fun _=>[]):=by
 have hl:=Cb h
 refine Ad (args:=[str (Ak q)]) Tryz.func153 rfl rfl rfl ?_
 repeat (first|refine zA ?_|refine zB ?_|refine zC ?_|refine zD ?_|refine zE ?_|refine zF ?_|refine zG ?_|refine zH ?_|refine zI ?_|refine zJ ?_|refine zK ?_|refine zL ?_|refine zM rfl ?_|refine zN ?_|refine zO ?_|refine zP ?_|refine zQ ?_|refine zR rfl ?_|refine zS rfl ?_|refine zT Tryz.mixed (by kernel_rfl) ?_)
 refine wP rfl (wP rfl (wP rfl (Aa ?_)))
 repeat (first|refine zA ?_|refine zB ?_|refine zC ?_|refine zD ?_|refine zE ?_|refine zF ?_|refine zG ?_|refine zH ?_|refine zI ?_|refine zJ ?_|refine zK ?_|refine zL ?_|refine zM rfl ?_|refine zN ?_|refine zO ?_|refine zP ?_|refine zQ ?_|refine zR rfl ?_|refine zS rfl ?_|refine zT Tryz.mixed (by kernel_rfl) ?_)
 refine wP rfl ?_
 refine Ab rfl rfl rfl rfl rfl rfl (by kernel_rfl) (fun W hp=>(DI (Ak q) (by omega) W (hv.hp hp) (ht.hp hp)).cast (L3 h)) ?_
 refine wP rfl (wP rfl (wP rfl ?_))
 (refine An Tryz.hZ rfl rfl rfl rfl ?_;intro)
 (first|refine wS 0 rfl rfl rfl ?_|refine wS 1 rfl rfl rfl ?_|refine wS 2 rfl rfl rfl ?_|refine wS 3 rfl rfl rfl ?_)
 refine wP rfl (Aa ?_)
 repeat (first|refine zA ?_|refine zB ?_|refine zC ?_|refine zD ?_|refine zE ?_|refine zF ?_|refine zG ?_|refine zH ?_|refine zI ?_|refine zJ ?_|refine zK ?_|refine zL ?_|refine zM rfl ?_|refine zN ?_|refine zO ?_|refine zP ?_|refine zQ ?_|refine zR rfl ?_|refine zS rfl ?_|refine zT Tryz.mixed (by kernel_rfl) ?_)
 refine qP rfl ?_
 (first|refine qB 0 rfl rfl rfl ?_|refine qB 1 rfl rfl rfl ?_|refine qB 2 rfl rfl rfl ?_|refine qB 3 rfl rfl rfl ?_)
 refine qP rfl ?_
 (first|refine qB 0 rfl rfl rfl ?_|refine qB 1 rfl rfl rfl ?_|refine qB 2 rfl rfl rfl ?_|refine qB 3 rfl rfl rfl ?_)
 refine qP rfl (qP rfl (qP rfl (qP rfl (AE (Aa ?_)))))
 repeat (first|refine zA ?_|refine zB ?_|refine zC ?_|refine zD ?_|refine zE ?_|refine zF ?_|refine zG ?_|refine zH ?_|refine zI ?_|refine zJ ?_|refine zK ?_|refine zL ?_|refine zM rfl ?_|refine zN ?_|refine zO ?_|refine zP ?_|refine zQ ?_|refine zR rfl ?_|refine zS rfl ?_|refine zT Tryz.mixed (by kernel_rfl) ?_)
 exact CB tH rfl (.tmp rfl) (.tmp rfl) (.tmp rfl) () rfl trivial fun W _=>Ag.nil _ _
def Nm (W:World) (p:Option Addr) (l:List (List UInt8)):Prop:=l=[]∨ ∃b off,p=some ⟨b,off,none⟩∧Ae W b off (l.map str)
theorem Nm.row {W:World} {p:Option Addr} {l:List (List UInt8)} (h:Nm W p l) {i:Nat} (hi:i<l.length): ∃b off,p=some ⟨b,off,none⟩∧ ∀k (hk:k<l.length),Ae W b (off+k*1) [str l[k]]:=by
 rcases h with rfl|⟨b,off,h1,h2⟩
 ·exact absurd hi (Nat.not_lt_zero _)
 ·refine⟨b,off,h1,fun k hk=>⟨h2.lt,fun j u hu=> ?_⟩⟩
  have hj:j=0:=by have:=(List.getElem?_eq_some_iff.1 hu).1;simpa using this
  subst hj
  have:=h2.get k (str l[k]) (by rw[List.getElem?_map,List.getElem?_eq_getElem hk];rfl)
  rw[Nat.mul_one,Nat.add_zero,this]
  simpa using hu
theorem OP (n:Nat):itoa (n:Int)=decDigits n:=by
 unfold itoa;rw[if_neg (by omega)];rfl
abbrev q2 (n:Int) (d:Nat) (h:d≠0:=by decide) (hc:n.natAbs.Coprime d:=by decide):Rat:=⟨n,d,h,hc⟩
theorem dd1 (n:Nat) (h:n<10):decDigits n=[UInt8.ofNat (48+n)]:=by rw[decDigits,dif_pos h]
theorem dd2 (n:Nat) (h: ¬n<10) (h2:n/10<10):decDigits n=[UInt8.ofNat (48+n/10),UInt8.ofNat (48+n%10)]:=by
 rw[decDigits,dif_neg h,dd1 _ h2];rfl
theorem ns0:Ak (q2 0 1)=[48]:=by rw[Ak,Hk,if_pos rfl];exact(OP 0).trans (dd1 0 (by decide))
theorem ns5:Ak (q2 5 1)=[53]:=by rw[Ak,Hk,if_pos rfl];exact(OP 5).trans (dd1 5 (by decide))
theorem aQ:Ak (q2 10 1)=[49,48]:=by rw[Ak,Hk,if_pos rfl];exact(OP 10).trans (dd2 10 (by decide) (by decide))
-- BOXES 4
theorem Il (z:Int):Bv Tryz.prog 199 [str (itoa z)] (.int .i64 ((decDigits z.natAbs).length:Nat)):=by
 intro W
 refine Ad Tryz.func199 rfl rfl rfl ?_
 refine zA (zB (wP rfl (Aa (zE (zA (zB (wP rfl ?_)))))))
 refine Ab rfl rfl rfl rfl rfl rfl (by kernel_rfl) (fun W _=>(CK (itoa z) [45] W).cast (by rw[Bq])) ?_
 refine wP rfl ?_
 refine Ac 5 (.int .i64 ((decDigits z.natAbs).length:Nat)) rfl (congrArg (fun n:Nat=>Value.int .i64 (n:Int)) (Bc _)) ?_
 refine wP rfl (Aa (zE (zO ?_)))
 exact Af tH rfl (.tmp rfl) () rfl trivial fun W _=>Ag.nil _ _
theorem FG (q:Rat) (h:szQ q 36) (W:World) (hv:BN W) (ht:Bd W):
  Ai Tryz.prog 133 #[str (Ak q)] W (fun _:Unit=> .int .i64 0) (fun _=>True) (fun _=>[]):=by
 have hk:=h.ok (by decide)
 have hl:=Cb hk
 have l1:=H8 36 q.num.natAbs (by decide) h.1
 have l2:=H8 36 ((q.den:Nat):Int).natAbs (by decide) (by rw[Int.natAbs_natCast];exact h.2)
 refine Ad (args:=[str (Ak q)]) Tryz.func133 rfl rfl rfl ?_
 refine zA (zB (wP rfl (Aa (zE (zA (zA (zB (wP rfl ?_))))))))
 refine Ab rfl rfl rfl rfl rfl rfl (by kernel_rfl) (fun W hp=>(Gu (Ak q) (by omega) W (hv.hp hp) (ht.hp hp)).cast (by rw[Sy hk])) ?_
 refine wP rfl (Aa (zE (zA (zB (wP rfl (wP rfl (Aa (zE (zS rfl (zI (zE (zA (zA ?_)))))))))))))
 refine zB (wP rfl ?_)
 refine Ab rfl rfl rfl rfl rfl rfl (by kernel_rfl) (fun W hp=>IN q hk W (hv.hp hp) (ht.hp hp)) ?_
 iterate 7 refine wP rfl ?_
 refine Aa (zE (zA (zB (wP rfl ?_))))
 refine Ab rfl rfl rfl rfl rfl rfl (by kernel_rfl) (fun W _=>Il q.num W) ?_
 refine wP rfl ?_
 refine Ab rfl rfl rfl rfl rfl rfl (by kernel_rfl) (fun W _=>Il (q.den:Nat) W) ?_
 refine wP rfl (wP rfl ?_)
 refine Ac 23 (.bool false) rfl (congrArg Value.bool (decide_eq_false (by
  show¬((if _>_ then _ else _)>_)
  split<;>omega))) ?_
 refine Aa (zE (zS rfl (zI (zE (zA (zB (wP rfl (Aa (zE (zO ?_))))))))))
 exact Af tH rfl (.tmp rfl) () rfl trivial fun W _=>Ag.nil _ _
theorem M6 (q:Rat):hasPrefix (Ak q) [45]=decide (q.num<0):=by
 have h:=DV q.num
 unfold Ak Hk
 split
 ·exact h
 ·rw[FD] at h⊢
  rw[←h]
  have hne:(itoa q.num)≠[]:=by
   unfold itoa
   split
   ·intro h;cases h
   ·exact Ma _
  rw[List.getElem?_append_left (List.length_pos_iff.2 hne)]
structure FrP where
 ax:Bool
 pos:Int
 hd:Int
 sp:Rat
 st:Rat
abbrev frV (f:FrP):Value:= .agg #[.bool f.ax, .int .i64 f.pos, .int .i64 f.hd,str (Ak f.sp),str (Ak f.st)]
structure FrP.OK (f:FrP):Prop where
 p0:0≤f.pos
 p1:f.pos≤65536
 hd:f.hd=1∨f.hd= -1
 sp:szQ f.sp 36
 st:szQ f.st 36
 sp0:0≤f.sp.num
theorem G1 (f:FrP) (h:f.OK) (W:World) (hv:BN W) (ht:Bd W):
  Ai Tryz.prog 123 #[frV f] W (fun _:Unit=> .int .i64 0) (fun _=>True) (fun _=>[]):=by
 obtain⟨p0,p1,hhd,hsp,hst,hsp0⟩:=h
 have l1:=Cb (hsp.ok (by decide))
 have l2:=Cb (hst.ok (by decide))
 refine Ad (args:=[frV f]) Tryz.func123 rfl rfl rfl ?_
 refine zA (zB ?_)
 (refine A0 rfl rfl rfl rfl ?_;intro)
 refine wP rfl (Aa ?_)
 rename_i b1
 refine AP (AL (AL ?_))
 refine BF (X:=Unit) (fun _=>[(1,A5 b1),(2, .int .i64 0),(26, .bool false)]) (fun _=>[⟨b1,39,[.bool f.ax, .int .i64 f.pos, .int .i64 f.hd,str (Ak f.sp),str (Ak f.st)],true,none⟩]) (fun _=>True) ?_ ?_
 ·refine zB (wP rfl (wB 0 rfl rfl rfl (wP rfl ?_)))
  refine Ac 11 (.bool false) rfl (congrArg Value.bool (decide_eq_false (by omega))) ?_
  refine wP rfl (wP rfl (wB 0 rfl rfl rfl (wP rfl ?_)))
  refine Ac 15 (.bool false) rfl (congrArg Value.bool (decide_eq_false (by omega))) ?_
  refine wP rfl (wP rfl (wP rfl (wB 0 rfl rfl rfl (wP rfl ?_))))
  rcases hhd with e|e
  ·refine Ac 20 (.bool false) rfl (congrArg Value.bool (by rw[e];rfl)) ?_
   refine wP rfl ?_
   iterate 3 refine Ao rfl rfl ?_
   refine wP rfl (wP rfl (Aa ?_))
   exact AH () trivial ⟨rfl,rfl,rfl,trivial⟩ [] rfl
  ·refine Ac 20 (.bool true) rfl (congrArg Value.bool (by rw[e];rfl)) ?_
   refine wP rfl (wP rfl (wB 0 rfl rfl rfl (wP rfl ?_)))
   refine Ac 24 (.bool false) rfl (congrArg Value.bool (by rw[e];rfl)) ?_
   refine wP rfl (wP rfl (Aa ?_))
   exact AH () trivial ⟨rfl,rfl,rfl,trivial⟩ [] rfl
 ·intro _ _
  refine zS rfl (zI (zE (zA (zA (zB (wP rfl (wB 0 rfl rfl rfl (wP rfl (wB 0 rfl rfl rfl ?_)))))))))
  refine A4 Tryz.hZ tH rfl rfl rfl rfl rfl rfl rfl rfl rfl rfl rfl fun bS=> ?_
  refine wP rfl (wP rfl (Aa (AP ?_)))
  refine BF (X:=Unit) (fun _=>[(1,A5 b1),(2, .int .i64 0)]) (fun _=>[⟨b1,39,[.bool f.ax, .int .i64 f.pos, .int .i64 f.hd,str (Ak f.sp),str (Ak f.st)],true,none⟩]) (fun _=>True) ?_ ?_
  ·refine B6 ?_
   refine Az (X:=Nat) (fun i=>[(1,A5 b1),(2, .int .i64 0),(31, .slice (some ⟨bS,0,none⟩) 2 2),(32, .int .i64 2),(33, .int .i64 (i:Nat))]) (fun _=>[⟨b1,39,[.bool f.ax, .int .i64 f.pos, .int .i64 f.hd,str (Ak f.sp),str (Ak f.st)],true,none⟩,⟨bS,37,[str (Ak f.sp),str (Ak f.st)],true,none⟩]) (fun i=>i≤2) (fun i=>2-i) 0 (Nat.zero_le _) ⟨rfl,rfl,rfl,rfl,rfl,trivial⟩ [] rfl ?_
   intro i hi
   have hi:i=0∨i=1∨i=2:=by have:i≤2:=hi;omega
   rcases hi with rfl|rfl|rfl
   ·refine zA (zB (wP rfl (Aa (zE (zA (zR rfl (zI (zE (zA (zH (zA (zB ?_))))))))))))
    refine wJ ?_
    refine wB 1 rfl rfl rfl (wP rfl (Aa (zE (zA (zB (wP rfl ?_))))))
    refine Ab rfl rfl rfl rfl rfl rfl (by kernel_rfl) (fun W hp=>(Gu (Ak f.sp) (by omega) W (hv.hp hp) (ht.hp hp)).cast (by rw[Sy (hsp.ok (by decide))])) ?_
    refine wP rfl (Aa (zE (zA (zB (wP rfl (wP rfl (Aa (zE (zS rfl (zI (zN (zE (zB ?_)))))))))))))
    refine wP rfl (wP rfl (Aa ?_))
    exact At 1 (by decide) (by decide) ⟨rfl,rfl,rfl,rfl,rfl,trivial⟩ [] rfl
   ·refine zA (zB (wP rfl (Aa (zE (zA (zR rfl (zI (zE (zA (zH (zA (zB ?_))))))))))))
    refine wJ ?_
    refine wB 1 rfl rfl rfl (wP rfl (Aa (zE (zA (zB (wP rfl ?_))))))
    refine Ab rfl rfl rfl rfl rfl rfl (by kernel_rfl) (fun W hp=>(Gu (Ak f.st) (by omega) W (hv.hp hp) (ht.hp hp)).cast (by rw[Sy (hst.ok (by decide))])) ?_
    refine wP rfl (Aa (zE (zA (zB (wP rfl (wP rfl (Aa (zE (zS rfl (zI (zN (zE (zB ?_)))))))))))))
    refine wP rfl (wP rfl (Aa ?_))
    exact At 2 (by decide) (by decide) ⟨rfl,rfl,rfl,rfl,rfl,trivial⟩ [] rfl
   ·refine zA (zB (wP rfl (Aa (zE (zA (zS rfl (zJ (zK (zK (zL ?_))))))))))
    exact AH () trivial ⟨rfl,rfl,trivial⟩ _ rfl
  ·intro _ _
   refine AL (zA (zB (wP rfl (wB 0 rfl rfl rfl (wP rfl (wB 0 rfl rfl rfl ?_))))))
   refine A4 Tryz.hZ tH rfl rfl rfl rfl rfl rfl rfl rfl rfl rfl rfl fun bT=> ?_
   refine wP rfl (wP rfl (Aa (AP ?_)))
   refine BF (X:=Unit) (fun _=>[(1,A5 b1),(2, .int .i64 0)]) (fun _=>[⟨b1,39,[.bool f.ax, .int .i64 f.pos, .int .i64 f.hd,str (Ak f.sp),str (Ak f.st)],true,none⟩]) (fun _=>True) ?_ ?_
   ·refine B6 ?_
    refine Az (X:=Nat) (fun i=>[(1,A5 b1),(2, .int .i64 0),(47, .slice (some ⟨bT,0,none⟩) 2 2),(48, .int .i64 2),(49, .int .i64 (i:Nat))]) (fun _=>[⟨b1,39,[.bool f.ax, .int .i64 f.pos, .int .i64 f.hd,str (Ak f.sp),str (Ak f.st)],true,none⟩,⟨bT,37,[str (Ak f.sp),str (Ak f.st)],true,none⟩]) (fun i=>i≤2) (fun i=>2-i) 0 (Nat.zero_le _) ⟨rfl,rfl,rfl,rfl,rfl,trivial⟩ [] rfl ?_
    intro i hi
    have hi:i=0∨i=1∨i=2:=by have:i≤2:=hi;omega
    rcases hi with rfl|rfl|rfl
    ·refine zA (zB (wP rfl (Aa (zE (zA (zR rfl (zI (zE (zA (zH (zA (zB ?_))))))))))))
     refine wJ ?_
     refine wB 1 rfl rfl rfl (wP rfl (Aa (zE (zA (zB (wP rfl ?_))))))
     refine Ab rfl rfl rfl rfl rfl rfl (by kernel_rfl) (fun W hp=>FG f.sp hsp W (hv.hp hp) (ht.hp hp)) ?_
     refine wP rfl (Aa (zE (zA (zB (wP rfl (wP rfl (Aa (zE (zS rfl (zI (zN (zE (zB ?_)))))))))))))
     refine wP rfl (wP rfl (Aa ?_))
     exact At 1 (by decide) (by decide) ⟨rfl,rfl,rfl,rfl,rfl,trivial⟩ [] rfl
    ·refine zA (zB (wP rfl (Aa (zE (zA (zR rfl (zI (zE (zA (zH (zA (zB ?_))))))))))))
     refine wJ ?_
     refine wB 1 rfl rfl rfl (wP rfl (Aa (zE (zA (zB (wP rfl ?_))))))
     refine Ab rfl rfl rfl rfl rfl rfl (by kernel_rfl) (fun W hp=>FG f.st hst W (hv.hp hp) (ht.hp hp)) ?_
     refine wP rfl (Aa (zE (zA (zB (wP rfl (wP rfl (Aa (zE (zS rfl (zI (zN (zE (zB ?_)))))))))))))
     refine wP rfl (wP rfl (Aa ?_))
     exact At 2 (by decide) (by decide) ⟨rfl,rfl,rfl,rfl,rfl,trivial⟩ [] rfl
    ·refine zA (zB (wP rfl (Aa (zE (zA (zS rfl (zJ (zK (zK (zL ?_))))))))))
     exact AH () trivial ⟨rfl,rfl,trivial⟩ _ rfl
   ·intro _ _
    refine AL (zA (zB (wP rfl (wB 0 rfl rfl rfl ?_))))
    refine Ab rfl rfl rfl rfl rfl rfl (by kernel_rfl) (fun W _=>(II (Ak f.sp) [45] W).cast (by rw[M6,decide_eq_false (by omega)])) ?_
    refine Aa (zE (zS rfl (zI (zE (zA (zB (wP rfl (Aa (zE (zO ?_))))))))))
    exact Af tH rfl (.tmp rfl) () rfl trivial fun W _=>Ag.nil _ _
-- BOXES 4
theorem Ju (f:FrP) (h:f.OK) (q:Rat) (hq:szQ q 36) (b:Nat) (W:World) (hv:BN W) (ht:Bd W) (hrow:Ae W b 0 [str (Ak q)]):
  Ai Tryz.prog 56 #[frV f, .slice (some ⟨b,0,none⟩) 1 1] W (fun _:Unit=> .int .i64 0) (fun _=>True) (fun _=>[]):=by
 refine Ad (args:=[frV f, .slice (some ⟨b,0,none⟩) 1 1]) Tryz.func56 rfl rfl rfl ?_
 refine zA (zB ?_)
 (refine A0 rfl rfl rfl rfl ?_;intro)
 refine wP rfl (Aa ?_)
 rename_i b2
 refine zE (zA (zA (zB (wB 0 rfl rfl rfl ?_))))
 refine Ab rfl rfl rfl rfl rfl rfl (by kernel_rfl) (fun W hp=>G1 f h W (hv.hp hp) (ht.hp hp)) ?_
 refine wP rfl (Aa (zE (zS rfl (zI (zE (zA (zA (zB (wP rfl (wP rfl (wP rfl (Aa (AP ?_)))))))))))))
 refine BF (X:=Unit) (fun _=>[(4, .int .i64 0)]) (fun _=>[]) (fun _=>True) ?_ ?_
 ·refine B6 ?_
  refine Az (X:=Nat) (fun i=>[(4, .int .i64 0),(11, .slice (some ⟨b,0,none⟩) 1 1),(12, .int .i64 1),(13, .int .i64 (i:Nat))]) (fun _=>[]) (fun i=>i≤1) (fun i=>1-i) 0 (Nat.zero_le _) ⟨rfl,rfl,rfl,rfl,trivial⟩ _ rfl ?_
  intro i hi
  have hi:i=0∨i=1:=by have:i≤1:=hi;omega
  rcases hi with rfl|rfl
  ·refine zA (zB (wP rfl (Aa (zE (zA (zR rfl (zI (zE (zA (zH (zA (zB ?_))))))))))))
   refine wJ ?_
   refine Av rfl rfl rfl rfl (fun W hp=>Ae.load 0 tH rfl ((fun W hp=>hrow.hp hp) W hp) rfl) ?_
   refine wP rfl (Aa (zE (zA (zB (wP rfl ?_)))))
   refine Ab rfl rfl rfl rfl rfl rfl (by kernel_rfl) (fun W hp=>FG q hq W (hv.hp hp) (ht.hp hp)) ?_
   refine wP rfl (Aa (zE (zA (zB (wP rfl (wP rfl (Aa (zE (zS rfl (zI (zN (zE (zB ?_)))))))))))))
   refine wP rfl (wP rfl (Aa ?_))
   exact At 1 (by decide) (by decide) ⟨rfl,rfl,rfl,rfl,trivial⟩ [] rfl
  ·refine zA (zB (wP rfl (Aa (zE (zA (zS rfl (zJ (zK (zK (zL ?_))))))))))
   exact AH () trivial ⟨rfl,trivial⟩ _ rfl
 ·intro _ _
  refine zA (zB (wP rfl (Aa (zE (zO ?_)))))
  exact Af tH rfl (.tmp rfl) () rfl trivial fun W _=>Ag.nil _ _
def FrP.vel (f:FrP):Rat:=(f.hd:Rat)*f.sp
def FrP.at (f:FrP) (t:Rat):Rat:=if t≤f.st then(f.pos:Rat) else(f.pos:Rat)+f.vel*(t-f.st)
theorem FrP.OK.hdz {f:FrP} (h:f.OK):szQ (f.hd:Rat) 1:=G2 (by rcases h.hd with e|e<;>rw[e]<;>decide) (by decide)
theorem FrP.OK.posz {f:FrP} (h:f.OK):szQ (f.pos:Rat) 5:=G2 (by have:=h.p0;have:=h.p1;show f.pos.natAbs<100000;omega) (by decide)
theorem FrP.OK.pos64 {f:FrP} (h:f.OK): -9223372036854775808≤f.pos∧f.pos≤9223372036854775807:=by have:=h.p0;have:=h.p1;omega
theorem FrP.OK.hd64 {f:FrP} (h:f.OK): -9223372036854775808≤f.hd∧f.hd≤9223372036854775807:=by rcases h.hd with e|e<;>omega
theorem Cq (f:FrP) (h:f.OK) (W:World) (hv:BN W) (ht:Bd W):
  Ai Tryz.prog 165 #[frV f] W (fun _:Unit=>str (Ak f.vel)) (fun _=>True) (fun _=>[]):=by
 have hz:=sz2 h.hdz h.sp (by decide)
 refine Ad (args:=[frV f]) Tryz.func165 rfl rfl rfl ?_
 refine zA (zB ?_)
 (refine A0 rfl rfl rfl rfl ?_;intro)
 refine wP rfl (Aa ?_)
 rename_i b1
 refine zE (zA ?_)
 refine zT Tryz.mixed (by kernel_rfl) ?_
 refine qP rfl (qB 0 rfl rfl rfl ?_)
 refine A8 rfl rfl rfl rfl rfl rfl (by kernel_rfl) (fun W hp=>DW f.hd h.hd64 W (ht.hp hp)) ?_
 refine qP rfl (qB 0 rfl rfl rfl ?_)
 refine A8 rfl rfl rfl rfl rfl rfl (by kernel_rfl) (fun W hp=>G6 (f.hd:Rat) f.sp hz W (hv.hp hp) (ht.hp hp)) ?_
 refine qP rfl (AE (Aa (zE (zO ?_))))
 exact Af tH rfl (.tmp rfl) () rfl trivial fun W _=>Ag.nil _ _
theorem Ep (f:FrP) (h:f.OK) (t:Rat) (a b k:Nat) (hs:szQ f.sp a) (hb:szQ f.st b) (hz:szQ t k) (hk:a+b+k+9≤300) (W:World) (hv:BN W) (ht:Bd W):
  Ai Tryz.prog 86 #[frV f,str (Ak t)] W (fun _:Unit=>str (Ak (f.at t))) (fun _=>True) (fun _=>[]):=by
 have z1:=sz2 hz hb (by omega)
 have z2:=hz.sub hb
 have zv:szQ f.vel (1+a):=h.hdz.mul hs
 have z3:=sz2 zv z2 (by omega)
 have z4:=zv.mul z2
 have z5:=sz2 h.posz z4 (by omega)
 refine Ad (args:=[frV f,str (Ak t)]) Tryz.func86 rfl rfl rfl ?_
 refine zA (zB ?_)
 (refine A0 rfl rfl rfl rfl ?_;intro)
 refine wP rfl (Aa ?_)
 rename_i b2
 refine zE (zA (zA (zB (wP rfl (wP rfl (wB 0 rfl rfl rfl ?_))))))
 refine Ab rfl rfl rfl rfl rfl rfl (by kernel_rfl) (fun W hp=>CJ t f.st z1 W (hv.hp hp) (ht.hp hp)) ?_
 refine wP rfl ?_
 refine Ac 9 (.bool (decide (t≤f.st))) rfl (congrArg Value.bool (SX t f.st)) ?_
 refine Aa (zE ?_)
 refine Al rfl (fun hc=> ?_) (fun hc=> ?_)
 ·have hc:=of_decide_eq_true hc
  refine zA (zB (wP rfl (wB 0 rfl rfl rfl ?_)))
  refine Ab rfl rfl rfl rfl rfl rfl (by kernel_rfl) (fun W hp=>DW f.pos h.pos64 W (ht.hp hp)) ?_
  refine wP rfl (Aa (zE (zO (zP ?_))))
  exact Af tH rfl (.tmp rfl) () (by rw[FrP.at,if_pos hc]) trivial fun W _=>Ag.nil _ _
 ·have hc:=of_decide_eq_false hc
  refine zI (zE (zA ?_))
  refine zT Tryz.mixed (by kernel_rfl) ?_
  refine qP rfl (qB 0 rfl rfl rfl ?_)
  refine A8 rfl rfl rfl rfl rfl rfl (by kernel_rfl) (fun W hp=>DW f.pos h.pos64 W (ht.hp hp)) ?_
  refine qB 0 rfl rfl rfl ?_
  refine A8 rfl rfl rfl rfl rfl rfl (by kernel_rfl) (fun W hp=>Cq f h W (hv.hp hp) (ht.hp hp)) ?_
  refine qP rfl (qP rfl (qB 0 rfl rfl rfl ?_))
  refine A8 rfl rfl rfl rfl rfl rfl (by kernel_rfl) (fun W hp=>Fp t f.st z1 W (hv.hp hp) (ht.hp hp)) ?_
  refine A8 rfl rfl rfl rfl rfl rfl (by kernel_rfl) (fun W hp=>G6 f.vel (t-f.st) z3 W (hv.hp hp) (ht.hp hp)) ?_
  refine A8 rfl rfl rfl rfl rfl rfl (by kernel_rfl) (fun W hp=>I6 (f.pos:Rat) (f.vel*(t-f.st)) z5 W (hv.hp hp) (ht.hp hp)) ?_
  refine qP rfl (AE (Aa (zE (zO ?_))))
  exact Af tH rfl (.tmp rfl) () (by rw[FrP.at,if_neg hc]) trivial fun W _=>Ag.nil _ _
theorem KG (f:FrP) (h:f.OK) (t:Rat) (hz:szQ t 36) (W:World) (hv:BN W) (ht:Bd W):
  Ai Tryz.prog 86 #[frV f,str (Ak t)] W (fun _:Unit=>str (Ak (f.at t))) (fun _=>True) (fun _=>[]):=Ep f h t 36 36 36 h.sp h.st hz (by decide) W hv ht
end
section
-- OLD
open Go Go.RowKit Go.Am
set_option maxRecDepth 10000
structure Sd where
 x:Int
 y:Int
 rise:Int
 run:Int
 gable:Bool
 plate:Int
 over:Int
 deriving DecidableEq,Inhabited
abbrev Sd.cells (s:Sd):List Value:=[.int .i64 s.x, .int .i64 s.y, .int .i64 s.rise, .int .i64 s.run, .bool s.gable, .int .i64 s.plate, .int .i64 s.over]
abbrev Sd.val (s:Sd):Value:= .agg #[.int .i64 s.x, .int .i64 s.y, .int .i64 s.rise, .int .i64 s.run, .bool s.gable, .int .i64 s.plate, .int .i64 s.over]
abbrev spot (x y:Int):Value:= .agg #[.int .i64 x, .int .i64 y]
abbrev GP (s t u:Sd):Value:= .agg #[.int .i64 s.x, .int .i64 s.y, .int .i64 s.rise, .int .i64 s.run, .bool s.gable, .int .i64 s.plate, .int .i64 s.over, .int .i64 t.x, .int .i64 t.y, .int .i64 t.rise, .int .i64 t.run, .bool t.gable, .int .i64 t.plate, .int .i64 t.over, .int .i64 u.x, .int .i64 u.y, .int .i64 u.rise, .int .i64 u.run, .bool u.gable, .int .i64 u.plate, .int .i64 u.over]
theorem Bl (s:Sd):Bv Tryz.prog 168 [s.val] (spot s.x s.y):=by
 intro W
 refine Ad Tryz.func168 rfl rfl rfl ?_
 refine zA (zB ?_)
 refine A0 rfl rfl rfl rfl ?_
 intro
 refine Bm (z:=spot 0 0) rfl rfl rfl (fun W=>by kernel_rfl) fun b3=> ?_
 refine zC (zE (zA (zB (wP rfl (wB 0 rfl rfl rfl (wP rfl (wB 0 rfl rfl rfl ?_)))))))
 refine FR (spot 0 0) tH rfl rfl rfl rfl rfl (fun W=>by kernel_rfl) rfl rfl ?_
 refine wS 1 rfl rfl rfl (zC (zE (zO ?_)))
 exact Af tH rfl (.cell 1 rfl rfl rfl rfl rfl) () rfl trivial fun W _=>Ag.nil _ _
theorem M9 (x y u v:Int):Bv Tryz.prog 169 [spot x y,spot u v] (spot (w64 (u-x)) (w64 (v-y))):=by
 intro W
 refine Ad Tryz.func169 rfl rfl rfl ?_
 refine zA (zB ?_)
 refine A0 rfl rfl rfl rfl ?_
 intro
 refine A0 rfl rfl rfl rfl ?_
 intro
 refine Bm (z:=spot 0 0) rfl rfl rfl (fun W=>by kernel_rfl) fun b3=> ?_
 refine zC (zE (zA (zB (wP rfl (wB 1 rfl rfl rfl (wP rfl (wB 0 rfl rfl rfl (wP rfl (wP rfl (wB 1 rfl rfl rfl (wP rfl (wB 0 rfl rfl rfl (wP rfl ?_)))))))))))))
 refine FR (spot 0 0) tH rfl rfl rfl rfl rfl (fun W=>by kernel_rfl) rfl rfl ?_
 refine wS 2 rfl rfl rfl (zC (zE (zO ?_)))
 exact Af tH rfl (.cell 2 rfl rfl rfl rfl rfl) () rfl trivial fun W _=>Ag.nil _ _
theorem Ks (x y u v:Int):Bv Tryz.prog 234 [spot x y,spot u v] (.int .i64 (w64 (w64 (x*v)-w64 (y*u)))):=by
 intro W
 refine Ad Tryz.func234 rfl rfl rfl ?_
 refine zA (zB ?_)
 refine A0 rfl rfl rfl rfl ?_
 intro
 refine A0 rfl rfl rfl rfl ?_
 intro
 refine wP rfl (zC (zE (zA (zB (wP rfl (wB 0 rfl rfl rfl (wP rfl (wB 1 rfl rfl rfl (wP rfl (wP rfl (wB 0 rfl rfl rfl (wP rfl (wB 1 rfl rfl rfl ?_)))))))))))))
 refine wP rfl (wP rfl (wP rfl (zC (zE (zO ?_)))))
 exact Af tH rfl (.tmp rfl) () rfl trivial fun W _=>Ag.nil _ _
theorem J9 (s t u:Sd):Bv Tryz.prog 170 [GP s t u] (spot (w64 (u.x-t.x)) (w64 (u.y-t.y))):=by
 intro W
 refine Ad Tryz.func170 rfl rfl rfl ?_
 refine zA (zB ?_)
 refine A0 rfl rfl rfl rfl ?_
 intro
 refine Bm (z:=spot 0 0) rfl rfl rfl (fun W=>by kernel_rfl) fun b3=> ?_
 refine zC (zE (zA ?_))
 refine zT Tryz.mixed (by kernel_rfl) ?_
 refine qP rfl (qB 0 rfl rfl rfl ?_)
 refine A8 rfl rfl rfl rfl rfl rfl (by kernel_rfl) (fun W _=>Bl t W) ?_
 refine qP rfl (qB 0 rfl rfl rfl ?_)
 refine A8 rfl rfl rfl rfl rfl rfl (by kernel_rfl) (fun W _=>Bl u W) ?_
 refine A8 rfl rfl rfl rfl rfl rfl (by kernel_rfl) (fun W _=>M9 t.x t.y u.x u.y W) ?_
 refine zD (wS 1 rfl rfl rfl (zC (zE (zO ?_))))
 exact Af tH rfl (.cell 1 rfl rfl rfl rfl rfl) () rfl trivial fun W _=>Ag.nil _ _
theorem Ss (s t u:Sd):Bv Tryz.prog 175 [GP s t u] (.bool (decide (w64 (w64 (w64 (t.x-s.x)*w64 (u.y-t.y))-w64 (w64 (t.y-s.y)*w64 (u.x-t.x)))>0))):=by
 intro W
 refine Ad Tryz.func175 rfl rfl rfl ?_
 refine zA (zB ?_)
 refine A0 rfl rfl rfl rfl ?_
 intro
 refine wP rfl (zC (zE (zA ?_)))
 refine zT Tryz.mixed (by kernel_rfl) ?_
 refine qP rfl (qB 0 rfl rfl rfl ?_)
 refine A8 rfl rfl rfl rfl rfl rfl (by kernel_rfl) (fun W _=>Bl s W) ?_
 refine qP rfl (qB 0 rfl rfl rfl ?_)
 refine A8 rfl rfl rfl rfl rfl rfl (by kernel_rfl) (fun W _=>Bl t W) ?_
 refine A8 rfl rfl rfl rfl rfl rfl (by kernel_rfl) (fun W _=>M9 s.x s.y t.x t.y W) ?_
 refine qB 0 rfl rfl rfl ?_
 refine A8 rfl rfl rfl rfl rfl rfl (by kernel_rfl) (fun W _=>J9 s t u W) ?_
 refine A8 rfl rfl rfl rfl rfl rfl (by kernel_rfl) (fun W _=>Ks _ _ _ _ W) ?_
 refine qP rfl (qP rfl (zD (zC (zE (zO ?_)))))
 exact Af tH rfl (.tmp rfl) () rfl trivial fun W _=>Ag.nil _ _
structure Ef (W:World) (b off:Nat) (l:List Sd):Prop where
 get: ∀(i:Nat) (s:Sd),l[i]? =some s→Ae W b (off+i*7) s.cells
def Br (W:World) (p:Option Addr) (l:List Sd):Prop:=l=[]∨ ∃b off,p=some ⟨b,off,none⟩∧Ef W b off l
theorem Br.below {W W':World} {p:Option Addr} {l:List Sd} {n:Nat} (h:Br W p l) (hn:W.heap.size≤n) (hb:Below n W W'):Br W' p l:=by
 rcases h with h|⟨b,off,h1,h2⟩
 ·exact .inl h
 ·exact .inr ⟨b,off,h1,⟨fun i s hs=>(h2.get i s hs).below hn hb⟩⟩
theorem Br.hp {W0 W:World} {bxs:List Bx} {p:Option Addr} {l:List Sd} (h:Br W0 p l) (hp:Hp W0 bxs W):Br W p l:=h.below (Nat.le_refl _) hp.below
def sd (l:List Sd) (i:Nat):Sd:=l.getD i default
theorem Cz {l:List Sd} {i:Nat} (h:i<l.length):l[i]? =some (sd l i):=by simp[sd,h]
theorem Br.row {W:World} {p:Option Addr} {l:List Sd} (h:Br W p l) {i:Nat} (hi:i<l.length): ∃b off,p=some ⟨b,off,none⟩∧ ∀k,k<l.length→Ae W b (off+k*7) (sd l k).cells:=by
 rcases h with rfl|⟨b,off,h1,h2⟩
 ·simp at hi
 ·exact⟨b,off,h1,fun k hk=>h2.get k _ (Cz hk)⟩
end
section
-- OLD
open Go Go.RowKit Go.Am
set_option maxRecDepth 10000
theorem EE (p:Option Addr) (n cap:Nat) (W:World):Ai Tryz.prog 132 #[slv p n cap] W (fun b:Nat=> .func (.func 198) #[] #[.pointer (some ⟨b,0,none⟩)]) (fun _=>True) (fun b=>[⟨b,32,[slv p n cap],true,none⟩]):=by
 refine Ad (args:=[slv p n cap]) Tryz.func132 rfl rfl rfl ?_
 refine zA (zB ?_)
 refine A0 rfl rfl rfl rfl ?_;intro b
 refine wP rfl (zC (zE (zA (zB (wP rfl (wP rfl (zC (zE (zO ?_)))))))))
 exact Af tH rfl (.tmp rfl) b rfl trivial fun W hp=>Ag.of_hp hp
def prv (n i:Nat):Nat:=(i+n-1)%n
def nxt (n i:Nat):Nat:=(i+1)%n
abbrev Xs (l:List Sd) (k:Nat):List Value:=[.int .i64 k,GP (sd l (prv l.length k)) (sd l k) (sd l (nxt l.length k))]
structure DN (b:Nat) (p:Option Addr) (cap:Nat) (l:List Sd) (W:World):Prop where
 var:Ae W b 0 [slv p l.length cap]
 ring:Br W p l
theorem Fd (b:Nat) (p:Option Addr) (cap:Nat) (l:List Sd) (hn:l.length<4611686018427387904):
  UC Tryz.prog 198 [.pointer (some ⟨b,0,none⟩)] l.length (Xs l) (DN b p cap l):=by
 refine⟨fun y J Jx hNeed hdr hY W hJ=> ?_⟩
 refine E3 (args:=[.func (.yield y) #[] #[], .pointer (some ⟨b,0,none⟩)]) (J0:=J 0) Tryz.func198 rfl rfl rfl hJ ?_
 refine zA (zB ?_)
 refine Av rfl rfl rfl rfl (fun W hp=>Ae.load 0 tH rfl ((fun W hp=>(hNeed 0 W hp).var) W hp) rfl) ?_
 refine wP rfl (wP rfl (zC (zE (zA (zB ?_)))))
 refine Av rfl rfl rfl rfl (fun W hp=>Ae.load 0 tH rfl ((fun W hp=>(hNeed 0 W hp).var) W hp) rfl) ?_
 refine wP rfl (wP rfl (zC (zE (zH ?_))))
 refine Fq (X:=Nat) (fun k=>[(0, .func (.yield y) #[] #[]),(1, .pointer (some ⟨b,0,none⟩)),(3, .int .i64 (l.length:Nat)),(8, .int .i64 (l.length:Nat)),(9, .int .i64 (k:Nat))]) J (fun k=>k≤l.length) (fun k=>l.length-k) 0 (Nat.zero_le _) ⟨rfl,rfl,rfl,rfl,rfl,trivial⟩ (fun W h=>h) ?_
 intro k hk
 refine zA (zB (wP rfl (zC (zE (zA ?_)))))
 refine Al rfl ?_ ?_
 rotate_left
 ·intro h
  refine zJ (zK (zK (zL ?_)))
  have:k=l.length:=by simp at h;omega
  subst this
  exact GN rfl fun W h=>h
 intro h
 have hk:k<l.length:=by simp at h;omega
 clear h
 refine zI (zE (zA (zH (zA (zB (wP rfl (wP rfl (zC (zE (zA ?_))))))))))
 have hz:(l.length:Int)≠0:=by omega
 have e1:(w64 (w64 ((k:Int)+(l.length:Int))-1)).tmod (l.length:Int)=((prv l.length k:Nat):Int):=by
  rw[As (x:=(k:Int)+l.length) (by omega) (by omega),As (by omega) (by omega)]
  have:(k:Int)+l.length-1=((k+l.length-1:Nat):Int):=by omega
  rw[this];rfl
 have e2:(w64 ((k:Int)+1)).tmod (l.length:Int)=((nxt l.length k:Nat):Int):=by
  rw[As (x:=(k:Int)+1) (by omega) (by omega)]
  rfl
 have l1:prv l.length k<l.length:=Nat.mod_lt _ (by omega)
 have l2:nxt l.length k<l.length:=Nat.mod_lt _ (by omega)
 refine Fz 23 (hdr k) Tryz.mixed (by kernel_rfl) rfl ?_
 refine qP rfl (qP rfl ?_)
 refine Ap rfl rfl rfl rfl (fun W hp=>Ae.load 0 tH rfl ((fun W hp=>(hNeed k W hp).var) W hp) rfl) ?_
 iterate 5 refine qP rfl ?_
 refine GD rfl rfl rfl rfl rfl hz ?_
 refine AF 20 _ rfl (congrArg (Value.int .i64) e1) ?_
 obtain⟨b2,off,rfl,hrow⟩: ∃b2 off,p=some ⟨b2,off,none⟩∧ ∀i,i<l.length→ ∀W,J k W→Ae W b2 (off+i*7) (sd l i).cells:=by
  obtain⟨b2,off,e,_⟩:=(hNeed 0 W hJ).ring.row hk
  refine⟨b2,off,e,fun i hi W hW=> ?_⟩
  obtain⟨b3,off3,e',h⟩:=(hNeed k W hW).ring.row hk
  rw[e] at e'
  cases e'
  exact h i hi
 refine qJ ?_
 refine Ap rfl rfl rfl rfl (fun W hp=>Ae.load 0 tH rfl ((hrow _ l1) W hp) rfl) ?_
 refine Ap rfl rfl rfl rfl (fun W hp=>Ae.load 0 tH rfl ((fun W hp=>(hNeed k W hp).var) W hp) rfl) ?_
 refine qP rfl ?_
 refine qJ ?_
 refine Ap rfl rfl rfl rfl (fun W hp=>Ae.load 0 tH rfl ((hrow _ hk) W hp) rfl) ?_
 refine Ap rfl rfl rfl rfl (fun W hp=>Ae.load 0 tH rfl ((fun W hp=>(hNeed k W hp).var) W hp) rfl) ?_
 refine qP rfl (qP rfl (qP rfl ?_))
 refine GD rfl rfl rfl rfl rfl hz ?_
 refine AF 31 _ rfl (congrArg (Value.int .i64) e2) ?_
 refine qJ ?_
 refine Ap rfl rfl rfl rfl (fun W hp=>Ae.load 0 tH rfl ((hrow _ l2) W hp) rfl) ?_
 refine Rh (GP default default default) tH rfl rfl rfl rfl rfl (fun W=>by kernel_rfl) rfl rfl ?_
 refine zD ?_
 refine D3 (A1:=J (k+1)) (A2:=Jx) rfl rfl rfl rfl rfl rfl (fun W hp=>hY k W hk hp) ?_ ?_
 ·refine wP rfl (zC (zE (zS rfl (zI (zN (zE (zB (wP rfl (wP rfl (zC ?_))))))))))
  exact EF (k+1) hk (by omega) ⟨rfl,rfl,rfl,rfl,congrArg (fun z=>some (Value.int .i64 z)) (A6 (x:=(k:Int)+1) (by omega) (by omega)),trivial⟩ (fun W h=>h)
 ·refine wP rfl (zC (zE (zR rfl (zO (zQ (zP (zP (zQ ?_))))))))
  exact Cd rfl (fun W h=>h)
end
section
-- OLD
open Go Go.RowKit Go.Am
set_option maxRecDepth 10000
-- BOXES 6
abbrev Ud (a b c d:Int):Value:= .agg #[.int .i64 a, .int .i64 b, .int .i64 c, .int .i64 d]
theorem PX (s t u:Sd):Bv Tryz.prog 171 [GP s t u] (Ud (if u.x<t.x then u.x else t.x) (if u.y<t.y then u.y else t.y) (if u.x>t.x then u.x else t.x) (if u.y>t.y then u.y else t.y)):=by
 intro W
 refine Ad Tryz.func171 rfl rfl rfl ?_
 refine zA (zB ?_)
 refine A0 rfl rfl rfl rfl ?_
 intro
 refine Bm (z:=Ud 0 0 0 0) rfl rfl rfl (fun W=>by kernel_rfl) fun b2=> ?_
 refine Aa (AP (AL ?_))
 refine Jh (X:=Nat×Nat) (fun x=>[(2, .pointer (some ⟨b2,0,none⟩)),(3, .pointer (some ⟨x.1,0,none⟩)),(4, .pointer (some ⟨x.2,0,none⟩))])
  (fun x=>[⟨b2,213,(Ud 0 0 0 0).cells.toList,true,none⟩,⟨x.1,147,(spot t.x t.y).cells.toList,true,none⟩,⟨x.2,147,(spot u.x u.y).cells.toList,true,none⟩]) 4 Tryz.mixed (by kernel_rfl) ?_ ?_
 ·refine qP rfl (qB 0 rfl rfl rfl ?_)
  refine A8 rfl rfl rfl rfl rfl rfl (by kernel_rfl) (fun W _=>Bl t W) ?_
  refine qP rfl (qB 0 rfl rfl rfl ?_)
  refine A8 rfl rfl rfl rfl rfl rfl (by kernel_rfl) (fun W _=>Bl u W) ?_
  refine zG ?_
  refine wX ?_
  refine RS.cons ?_ (RS.cons ?_ RS.nil)
  ·refine Bm (z:=spot 0 0) rfl rfl rfl (fun W=>by kernel_rfl) fun b3=> ?_
   refine zC (zF ?_)
   refine wX ?_
   refine RS.cons ?_ RS.nil
   refine Bm (z:=spot 0 0) rfl rfl rfl (fun W=>by kernel_rfl) fun b4=> ?_
   refine zC (zF ?_)
   refine wX ?_
   refine RS.cons ?_ RS.nil
   refine wS 2 rfl rfl rfl (zC (zF ?_))
   refine wX ?_
   refine RS.cons ?_ RS.nil
   refine wS 3 rfl rfl rfl (zC (zF ?_))
   refine BT rfl (by((repeat (first|refine BM.same ?_|refine BM.off rfl ?_));exact trivial)) ?_
   exact Ax (b3,b4) ⟨rfl,rfl,rfl,trivial⟩ [1,2,3] (by decide) rfl
  ·refine Bm (z:=spot 0 0) rfl rfl rfl (fun W=>by kernel_rfl) fun b4=> ?_
   refine zC (zF ?_)
   refine wX ?_
   refine RS.cons ?_ RS.nil
   refine Bm (z:=spot 0 0) rfl rfl rfl (fun W=>by kernel_rfl) fun b3=> ?_
   refine zC (zF ?_)
   refine wX ?_
   refine RS.cons ?_ RS.nil
   refine wS 3 rfl rfl rfl (zC (zF ?_))
   refine wX ?_
   refine RS.cons ?_ RS.nil
   refine wS 2 rfl rfl rfl (zC (zF ?_))
   refine BT rfl (by((repeat (first|refine BM.same ?_|refine BM.off rfl ?_));exact trivial)) ?_
   exact Ax (b3,b4) ⟨rfl,rfl,rfl,trivial⟩ [1,3,2] (by decide) rfl
 ·rintro⟨b3,b4⟩
  refine zE (zA (zB (wP rfl (wB 1 rfl rfl rfl (wP rfl (wB 2 rfl rfl rfl (wP rfl (wP rfl (wB 1 rfl rfl rfl (wP rfl (wB 2 rfl rfl rfl (wP rfl ?_))))))))))))
  refine FR (spot 0 0) tH rfl rfl rfl rfl rfl (fun W=>by kernel_rfl) rfl rfl ?_
  refine wP rfl (wB 1 rfl rfl rfl (wP rfl (wB 2 rfl rfl rfl (wP rfl (wP rfl (wB 1 rfl rfl rfl (wP rfl (wB 2 rfl rfl rfl (wP rfl ?_)))))))))
  refine FR (spot 0 0) tH rfl rfl rfl rfl rfl (fun W=>by kernel_rfl) rfl rfl ?_
  refine FR (Ud 0 0 0 0) tH rfl rfl rfl rfl rfl (fun W=>by kernel_rfl) rfl rfl ?_
  refine wS 0 rfl rfl rfl (zC (zE (zO ?_)))
  exact Af tH rfl (.cell 0 rfl rfl rfl rfl rfl) () rfl trivial fun W _=>Ag.nil _ _
theorem Q9 (a b c d a' b' c' d':Int):Bv Tryz.prog 172 [Ud a b c d,Ud a' b' c' d'] (.bool (decide (a≤c')&&decide (a'≤c)&&decide (b≤d')&&decide (b'≤d))):=by
 intro W
 refine Ad Tryz.func172 rfl rfl rfl ?_
 refine zA (zB ?_)
 refine A0 rfl rfl rfl rfl ?_
 intro
 refine A0 rfl rfl rfl rfl ?_
 intro
 refine wP rfl (zC (zE (zA (zB (wP rfl (wP rfl (wB 0 rfl rfl rfl (wP rfl (wP rfl (wB 1 rfl rfl rfl (wP rfl (wP rfl ?_))))))))))))
 refine AR 12 rfl (fun h12=> ?_) (fun h12=> ?_)
 ·refine wP rfl (wP rfl (wB 1 rfl rfl rfl (wP rfl (wP rfl (wB 0 rfl rfl rfl (wP rfl (wP rfl (wP rfl ?_))))))))
  refine AR 21 rfl (fun h21=> ?_) (fun h21=> ?_)
  ·refine wP rfl (wP rfl (wB 0 rfl rfl rfl (wP rfl (wP rfl (wB 1 rfl rfl rfl (wP rfl (wP rfl (wP rfl ?_))))))))
   refine AR 30 rfl (fun h30=> ?_) (fun h30=> ?_)
   ·refine wP rfl (wP rfl (wB 1 rfl rfl rfl (wP rfl (wP rfl (wB 0 rfl rfl rfl (wP rfl (wP rfl (wP rfl (zC (zE (zO ?_)))))))))))
    exact Af tH rfl (.tmp rfl) () (by simp_all<;>(intros;omega)) trivial fun W _=>Ag.nil _ _
   ·refine Ao rfl rfl ?_
    iterate 6 refine Ao rfl rfl ?_
    refine wP rfl (wP rfl (zC (zE (zO ?_))))
    exact Af tH rfl (.tmp rfl) () (by simp_all<;>(intros;omega)) trivial fun W _=>Ag.nil _ _
  ·refine Ao rfl rfl ?_
   iterate 6 refine Ao rfl rfl ?_
   refine wP rfl (wP rfl ?_)
   iterate 7 refine Ao rfl rfl ?_
   refine wP rfl (wP rfl (zC (zE (zO ?_))))
   exact Af tH rfl (.tmp rfl) () (by simp_all<;>(intros;omega)) trivial fun W _=>Ag.nil _ _
 ·refine Ao rfl rfl ?_
  iterate 6 refine Ao rfl rfl ?_
  refine wP rfl (wP rfl ?_)
  iterate 7 refine Ao rfl rfl ?_
  refine wP rfl (wP rfl ?_)
  iterate 7 refine Ao rfl rfl ?_
  refine wP rfl (wP rfl (zC (zE (zO ?_))))
  exact Af tH rfl (.tmp rfl) () (by simp_all<;>(intros;omega)) trivial fun W _=>Ag.nil _ _
end
section
-- OLD
open Go Go.RowKit Go.Am
set_option maxRecDepth 10000
-- BOXES 6
theorem DN.mk' {W0 W:World} {bxs:List Bx} {b:Nat} {p:Option Addr} {cap:Nat} {l:List Sd} (h:Br W0 p l) (hp:Hp W0 bxs W) (k:Nat) (hk:nth bxs k=some ⟨b,32,[slv p l.length cap],true,none⟩):DN b p cap l W:=
 ⟨Ae.of_bx hp k hk rfl,h.hp hp⟩
def BP (l:List Sd):Nat→Int
 |0=>0
 |k+1=>w64 (BP l k+w64 (w64 ((sd l k).x*(sd l (nxt l.length k)).y)-w64 ((sd l k).y*(sd l (nxt l.length k)).x)))
theorem RG (W:World) (p:Option Addr) (cap:Nat) (l:List Sd) (hn:l.length<4611686018427387904) (hR:Br W p l):
  Ai Tryz.prog 173 #[slv p l.length cap] W (fun _:Unit=> .int .i64 (BP l l.length)) (fun _=>True) (fun _=>[]):=by
 refine Ad (args:=[slv p l.length cap]) Tryz.func173 rfl rfl rfl ?_
 refine zA (zB (wP rfl (zC (zE (zA (zB ?_))))))
 refine Bm (z:= .int .i64 0) rfl rfl rfl (fun W=>by kernel_rfl) fun b3=> ?_
 refine wS 0 rfl rfl rfl (zC (zE (zA (zA (zB (wP rfl ?_))))))
 refine Ay (X:=Nat) rfl rfl rfl rfl rfl rfl (by kernel_rfl) (fun W _=>EE p l.length cap W) ?_
 intro b _
 refine zC (zE (zH ?_))
 refine Eg (X:=Nat) (fun k=>[⟨b3,3,[.int .i64 (BP l k)],true,none⟩,⟨b,32,[slv p l.length cap],true,none⟩]) (fun k x=>x=k) (fun _ _=>False) 0 rfl (by kernel_rfl) (Fd b p cap l hn) (fun _=>rfl) rfl [] rfl (fun k x W _ hp=>DN.mk' hR hp 1 rfl) ?_ ?_ (fun _ _ _ _ _ h=>h.elim)
 ·intro k x d L rec hk hx hrec
  subst hx
  refine zB ?_
  refine Bm (z:=GP default default default) rfl rfl rfl (fun W=>by kernel_rfl) fun b5=> ?_
  refine wS 4 rfl rfl rfl (zC ?_)
  refine CL 3 hrec rfl ?_
  refine zH ?_
  refine zT Tryz.mixed (by kernel_rfl) ?_
  refine qB 0 rfl rfl rfl (qP rfl (qB 4 rfl rfl rfl ?_))
  refine A8 rfl rfl rfl rfl rfl rfl (by kernel_rfl) (fun W _=>Bl (sd l x) W) ?_
  refine qP rfl (qB 4 rfl rfl rfl ?_)
  refine A8 rfl rfl rfl rfl rfl rfl (by kernel_rfl) (fun W _=>Bl (sd l (nxt l.length x)) W) ?_
  refine A8 rfl rfl rfl rfl rfl rfl (by kernel_rfl) (fun W _=>Ks _ _ _ _ W) ?_
  refine qP rfl (zD (wS 0 rfl rfl rfl (zC (zN ?_))))
  exact B5 3 (x+1) hrec rfl rfl [_] rfl
 ·intro x d L rec hx
  subst hx
  refine zN (zE (zA (zB (wB 0 rfl rfl rfl (wP rfl (zC (zE (zO ?_))))))))
  refine Dp 2 rfl ?_
  exact Af tH rfl (.tmp rfl) () rfl trivial fun W _=>Ag.nil _ _
end
section
-- OLD
open Go Go.RowKit Go.Am
set_option maxRecDepth 10000
-- BOXES 8
-- EQB 4
structure XZ (W:World) (b off:Nat) (rs:List (List Sd)):Prop where
 get: ∀(i:Nat) (l:List Sd),rs[i]? =some l→ ∃p cap,Ae W b (off+i*1) [slv p l.length cap]∧Br W p l
def AY (W:World) (p:Option Addr) (rs:List (List Sd)):Prop:=rs=[]∨ ∃b off,p=some ⟨b,off,none⟩∧XZ W b off rs
def rg (rs:List (List Sd)) (i:Nat):List Sd:=rs.getD i []
theorem AN {rs:List (List Sd)} {i:Nat} (h:i<rs.length):rs[i]? =some (rg rs i):=by simp[rg,h]
theorem AY.row {W:World} {p:Option Addr} {rs:List (List Sd)} (h:AY W p rs) {i:Nat} (hi:i<rs.length):
  ∃b off,p=some ⟨b,off,none⟩∧ ∀k,k<rs.length→ ∃q cap,Ae W b (off+k*1) [slv q (rg rs k).length cap]∧Br W q (rg rs k):=by
 rcases h with rfl|⟨b,off,h1,h2⟩
 ·simp at hi
 ·exact⟨b,off,h1,fun k hk=>h2.get k _ (AN hk)⟩
theorem AY.below {W W':World} {p:Option Addr} {rs:List (List Sd)} {n:Nat} (h:AY W p rs) (hn:W.heap.size≤n) (hb:Below n W W'):AY W' p rs:=by
 rcases h with h|⟨b,off,h1,h2⟩
 ·exact .inl h
 ·refine .inr ⟨b,off,h1,⟨fun i l hl=> ?_⟩⟩
  obtain⟨q,cap,h3,h4⟩:=h2.get i l hl
  exact⟨q,cap,h3.below hn hb,h4.below hn hb⟩
end
section
open Go Go.RowKit Go.Am
set_option maxRecDepth 10000
-- BOXES 3
theorem Sg (W:World) (m:Nat) (hm:m<1099511627776):Ai Tryz.prog 131 #[.slice none 0 0, .int .i64 (m:Nat)] W (fun V:Vec=>V.val 0) (fun V=>V.OK 7 0 []∧(0<m→V.p≠none)) (fun V=>[V.bx 42 []]):=by
 refine Ad (args:=[.slice none 0 0, .int .i64 (m:Nat)]) Tryz.func131 rfl rfl rfl ?_
 refine zA (zB (wP rfl (Aa (zE (zA (zA (zB (wP rfl (wP rfl (Aa (zE (zS rfl (zI ?_)))))))))))))
 refine zE (zA (zA (zB ?_)))
 iterate 8 refine wP rfl ?_
 refine Aa (zE (zA (zB (wP rfl (wP rfl (Aa (zE ?_)))))))
 have e14:w64 ((m:Int)-w64 (0-0))=m:=by
  have:w64 (0-0)=0:=rfl
  rw[this];exact(As (by omega) (by omega)).trans (by omega)
 refine AW 16 _ rfl (show Value.bool (decide (w64 ((m:Int)-w64 (0-0))>0))= .bool (decide (0<m)) by rw[e14];congr 1;simp) ?_
 refine Al rfl (fun h=> ?_) (fun h=> ?_)
 ·have h:0<m:=by simpa using h
  refine zB (wP rfl (wP rfl (wP rfl ?_)))
  refine DD 0 tH rfl rfl rfl rfl rfl rfl rfl rfl (Nat.le_refl _) ?_
  refine wP rfl ?_
  refine Lh Tryz.vec32 (ku:= .i64) (by kernel_rfl) m rfl rfl rfl rfl rfl rfl rfl rfl e14 h (by simp only[maxLen];omega) (by omega) ?_
  intro V hV hp hj
  refine wP rfl (wP rfl ?_)
  obtain⟨p,cap,junk⟩:=V
  cases p with
  |none=>exact absurd rfl hp
  |some g=>
  refine DD (a:=some ⟨g,0,none⟩) (len:=m) (cap:=cap) 0 tH rfl rfl rfl rfl rfl rfl rfl rfl (Nat.zero_le _) ?_
  refine wP rfl (Aa (zE (zA (zB (wP rfl (wP rfl (Aa (zE (zO ?_)))))))))
  obtain⟨h1,h2,h3⟩:=hV.cap (by simp)
  refine Af tH rfl (.tmp rfl) (⟨some g,cap,BD [.int .i64 0, .int .i64 0, .int .i64 0, .int .i64 0, .bool false, .int .i64 0, .int .i64 0] m++junk⟩:Vec) rfl ⟨⟨rfl,(fun h=>by cases h),fun _=>⟨Nat.zero_le _,h2, ?_⟩⟩,fun _=>by simp⟩ fun W hp=>Ag.of_hp1 hp 0 rfl
  show 0+(BD _ m++junk).length=cap*7
  rw[List.length_append,Nat.zero_add]
  exact h3
 ·have h:m=0:=by simp at h;omega
  subst h
  refine zI (zE (zA (zB (wP rfl (wP rfl (Aa (zE (zO ?_))))))))
  exact Af tH rfl (.tmp rfl) Vec.empty rfl ⟨Vec.OK.empty 7,fun h=>absurd h (Nat.lt_irrefl _)⟩ fun W hp=>Own.one (fun p hp=>by cases hp) List.nodup_nil
def cellsOf (l:List Sd):List Value:=l.flatMap Sd.cells
theorem Dn (l m:List Sd):cellsOf (l++m)=cellsOf l++cellsOf m:=List.flatMap_append
theorem A7: ∀l:List Sd,(cellsOf l).length=l.length*7
 |[]=>rfl
 |s::l=>by
  show(s.cells++cellsOf l).length=_
  rw[List.length_append,A7 l,List.length_cons]
  show 7+l.length*7=(l.length+1)*7
  omega
theorem F1: ∀(l:List Sd) (i:Nat) (s:Sd),l[i]? =some s→ ∀j,j<7→(cellsOf l)[i*7+j]? =s.cells[j]?
 |[],i,s,h,_,_=>by simp at h
 |t::l,0,s,h,j,hj=>by
  obtain rfl:t=s:=by simpa using h
  show(t.cells++cellsOf l)[0*7+j]? =_
  rw[Nat.zero_mul,Nat.zero_add,List.getElem?_append_left (show j<t.cells.length from hj)]
 |t::l,i+1,s,h,j,hj=>by
  show(t.cells++cellsOf l)[(i+1)*7+j]? =_
  rw[List.getElem?_append_right (show t.cells.length≤(i+1)*7+j by show 7≤_;omega)]
  show(cellsOf l)[(i+1)*7+j-7]? =_
  rw[show(i+1)*7+j-7=i*7+j by omega]
  exact F1 l i s (by simpa using h) j hj
theorem HD: ∀l:List Sd, ∀u∈cellsOf l,u.oneCell'=true:=fun l u hu=>by
 obtain⟨s,_,h⟩:=List.mem_flatMap.1 hu
 simp at h
 rcases h with rfl|rfl|rfl|rfl|rfl|rfl|rfl<;>rfl
theorem Ef.of_cells {W:World} {b off:Nat} {l:List Sd} (hlt:b<W.heap.size) (h: ∀j u,(cellsOf l)[j]? =some u→W.cell? ⟨b,off+j,none⟩=some u):Ef W b off l:=by
 refine⟨fun i s hs=>⟨hlt,fun j u hj=> ?_⟩⟩
 have hj':j<7:=(List.getElem?_eq_some_iff.1 hj).1
 have h1:=F1 l i s hs j hj'
 rw[hj] at h1
 rw[Nat.add_assoc]
 exact h _ _ h1
theorem Ef.cells {W:World} {b off:Nat} {l:List Sd} (h:Ef W b off l): ∀j u,(cellsOf l)[j]? =some u→W.cell? ⟨b,off+j,none⟩=some u:=by
 intro j u hj
 have hlt:j<l.length*7:=by rw[←A7];exact(List.getElem?_eq_some_iff.1 hj).1
 have hi:j/7<l.length:=by omega
 have h1:=F1 l (j/7) _ (List.getElem?_eq_getElem hi) (j%7) (Nat.mod_lt _ (by omega))
 have e:j/7*7+j%7=j:=by omega
 rw[e,hj] at h1
 have h2:=(h.get (j/7) _ (List.getElem?_eq_getElem hi)).get (j%7) u h1.symm
 rw[Nat.add_assoc,e] at h2
 exact h2
theorem Vec.ring {V:Vec} {l:List Sd} (hV:V.OK 7 l.length (cellsOf l)): ∃p cap,V.val l.length=slv p l.length cap∧ ∀ {W0 W:World} {bxs:List Bx},Hp W0 bxs W→ ∀k,nth bxs k=some (V.bx 42 (cellsOf l))→Br W p l:=by
 obtain⟨p,cap,junk⟩:=V
 cases p with
 |none=>
  have h0:=hV.nil rfl
  refine⟨none,0,by rw[h0];rfl,fun _ _ _=> .inl (List.length_eq_zero_iff.1 h0)⟩
 |some g=>
  refine⟨some ⟨g,0,none⟩,cap,rfl,fun hp k hk=> .inr ⟨g,0,rfl,Ef.of_cells (Ae.of_bx hp k hk rfl).lt fun j u hj=> ?_⟩⟩
  refine(Ae.of_bx hp k hk rfl).get j u ?_
  show(cellsOf l++junk)[j]? =some u
  rw[List.getElem?_append_left (List.getElem?_eq_some_iff.1 hj).1]
  exact hj
def tot (rs:List (List Sd)):Nat:=(rs.map List.length).sum
theorem Cv (rs:List (List Sd)):rs.flatten.length=tot rs:=by simp[tot,List.length_flatten]
theorem JE {rs:List (List Sd)} {k:Nat} (hk:k<rs.length):(rs.take (k+1)).flatten=(rs.take k).flatten++rg rs k:=by
 rw[List.take_add_one,AN hk];simp
theorem Ch (rs:List (List Sd)) (k:Nat):tot (rs.take k)≤tot rs:=by
 conv=>rhs;rw[←List.take_append_drop k rs]
 unfold tot
 rw[List.map_append,List.sum_append];omega
theorem Ba {rs:List (List Sd)} {k:Nat} (hk:k<rs.length):tot (rs.take (k+1))=tot (rs.take k)+(rg rs k).length:=by
 rw[←Cv, ←Cv,JE hk,List.length_append]
theorem ES (W:World) (p:Option Addr) (cap:Nat) (rs:List (List Sd)) (hn:rs.length<4611686018427387904) (hT:tot rs<1099511627776) (hR:AY W p rs) (hne: ∀l∈rs,l≠[]):
  Ai Tryz.prog 54 #[slv p rs.length cap] W (fun V:Vec=>V.val rs.flatten.length) (fun V=>V.OK 7 rs.flatten.length (cellsOf rs.flatten)) (fun V=>[V.bx 42 (cellsOf rs.flatten)]):=by
 refine Ad (args:=[slv p rs.length cap]) Tryz.func54 rfl rfl rfl ?_
 refine zA (zB (wP rfl (Aa (zE (zA (zB (wP rfl (Aa (zE (zA (zA (zB (wP rfl (wP rfl (wP rfl ?_)))))))))))))))
 refine Aa (zE (zH ?_))
 refine Az (X:=Nat) (fun k=>[(0,slv p rs.length cap),(3, .int .i64 (tot (rs.take k):Nat)),(9,slv p rs.length cap),(10, .int .i64 (rs.length:Nat)),(11, .int .i64 (k:Nat))]) (fun _=>[])
  (fun k=>k≤rs.length) (fun k=>rs.length-k) 0 (Nat.zero_le _) ⟨rfl,rfl,rfl,rfl,rfl,trivial⟩ [] rfl ?_
 intro k hk
 refine zA (zB (wP rfl (Aa (zE (zA ?_)))))
 refine Al rfl (fun h=> ?_) (fun h=> ?_)
 ·have hk:k<rs.length:=by simp at h;omega
  clear h
  obtain⟨b,off,rfl,hrow⟩:=hR.row hk
  obtain⟨q,cap2,hq1,hq2⟩:=hrow k hk
  refine zI (zE (zA (zH (zA (zB ?_)))))
  refine wJ ?_
  refine Av rfl rfl rfl rfl (fun W hp=>Ae.load 0 tH rfl ((fun W hp=>hq1.hp hp) W hp) rfl) ?_
  refine wP rfl (Aa (zE (zA (zB ?_))))
  iterate 5 refine wP rfl ?_
  refine Aa ?_
  have hs:w64 ((tot (rs.take k):Nat)+((rg rs k).length:Nat))=(tot (rs.take (k+1)):Nat):=by
   have h1:=Ba hk
   have h2:=Ch rs (k+1)
   rw[As (by omega) (by omega)];omega
  refine zE (zA (zB ?_))
  refine Ac 3 _ rfl (congrArg (Value.int .i64) hs) ?_
  refine wP rfl (wP rfl (Aa (zE (zS rfl (zI (zN (zE (zB (wP rfl (wP rfl (Aa ?_)))))))))))
  exact At (k+1) hk (by omega) ⟨rfl,rfl,rfl,rfl,congrArg (fun z=>some (Value.int .i64 z)) (A6 (x:=(k:Int)+1) (by omega) (by omega)),trivial⟩ [] rfl
 ·have e:k=rs.length:=by simp at h;omega
  subst e
  clear h
  rw[List.take_length]
  refine zJ (zK (zK (zL (zE (zA (zB (wP rfl ?_)))))))
  refine Ay (X:=Vec) rfl rfl rfl rfl rfl rfl (by kernel_rfl) (fun W _=>Sg W (tot rs) hT) ?_
  rintro V0 ⟨hV0,hV0p⟩
  refine wP rfl (Aa (zE (zA (zA (zB (wP rfl (wP rfl (wP rfl (Aa (zE (zH ?_)))))))))))
  refine Az (X:=Nat×Vec) (fun x=>[(6,x.2.val (tot (rs.take x.1))),(25,slv p rs.length cap),(26, .int .i64 (rs.length:Nat)),(27, .int .i64 (x.1:Nat))]) (fun x=>[x.2.bx 42 (cellsOf (rs.take x.1).flatten)])
   (fun x=>x.1≤rs.length∧x.2.OK 7 (tot (rs.take x.1)) (cellsOf (rs.take x.1).flatten)) (fun x=>rs.length-x.1) (0,V0) ⟨Nat.zero_le _,hV0⟩ ⟨rfl,rfl,rfl,rfl,trivial⟩ [] rfl ?_
  rintro⟨k,V⟩ ⟨hk,hV⟩
  refine zA (zB (wP rfl (Aa (zE (zA ?_)))))
  refine Al rfl (fun h=> ?_) (fun h=> ?_)
  ·have hk:k<rs.length:=by simp at h;omega
   clear h
   obtain⟨b,off,rfl,hrow⟩:=hR.row hk
   obtain⟨q,cap2,hq1,hq2⟩:=hrow k hk
   refine zI (zE (zA (zH (zA (zB ?_)))))
   refine wJ ?_
   refine Av rfl rfl rfl rfl (fun W hp=>Ae.load 0 tH rfl ((fun W hp=>hq1.hp hp) W hp) rfl) ?_
   refine wP rfl (Aa (zE (zB (wP rfl (wP rfl ?_)))))
   obtain⟨b2,off2,rfl,hRk⟩: ∃b off,q=some ⟨b,off,none⟩∧Ef W b off (rg rs k):=by
    rcases hq2 with h|h
    ·exact absurd h (hne _ (List.mem_of_getElem? (AN hk)))
    ·exact h
   have h1:=Ba hk
   have h2:=Ch rs (k+1)
   refine E1 (len:=tot (rs.take k)) 0 Tryz.vec32 rfl rfl rfl rfl rfl rfl rfl rfl rfl hV (A7 (rg rs k)) (fun W hp j u hj=> ?_) (HD _) (by simp only[maxLen];omega) (by omega) ?_
   ·have hR':Br W (some ⟨b2,off2,none⟩) (rg rs k):=Br.hp (.inr ⟨b2,off2,rfl,hRk⟩) hp
    rcases hR' with h|⟨b3,off3,e,hR'⟩
    ·exact absurd h (hne _ (List.mem_of_getElem? (AN hk)))
    ·cases e
     rw[Addr.add_none]
     exact hR'.cells j u hj
   intro V' hV' _
   have e3:cellsOf (rs.take k).flatten++cellsOf (rg rs k)=cellsOf (rs.take (k+1)).flatten:=by rw[JE hk,Dn]
   rw[e3, ←h1] at hV'
   rw[e3, ←h1]
   refine wP rfl (Aa (zN (zE (zB (wP rfl (wP rfl (Aa ?_)))))))
   exact At (k+1,V') ⟨hk,hV'⟩ (by show rs.length-(k+1)<rs.length-k;omega) ⟨rfl,rfl,rfl,congrArg (fun z=>some (Value.int .i64 z)) (A6 (x:=(k:Int)+1) (by omega) (by omega)),trivial⟩ [] rfl
  ·have e:k=rs.length:=by simp at h;omega
   subst e
   rw[List.take_length] at hV
   rw[List.take_length]
   refine zJ (zK (zK (zL (zE (zA (zB (wP rfl (wP rfl (Aa (zE (zO ?_)))))))))))
   refine Af tH rfl (.tmp rfl) V (by rw[Cv]) (by rw[Cv];exact hV) fun W hp=>Ag.of_hp1 hp 0 rfl
-- BOXES 12
def lox (t u:Sd):Int:=if u.x<t.x then u.x else t.x
def loy (t u:Sd):Int:=if u.y<t.y then u.y else t.y
def hix (t u:Sd):Int:=if u.x>t.x then u.x else t.x
def hiy (t u:Sd):Int:=if u.y>t.y then u.y else t.y
def bsd (rs:List (List Sd)) (q:Nat×Nat):Sd:=sd (rg rs q.1) q.2
def esd (rs:List (List Sd)) (q:Nat×Nat):Sd:=sd (rg rs q.1) (nxt (rg rs q.1).length q.2)
def Co (rs:List (List Sd)) (q:Nat×Nat):List Value:=[.int .i64 (lox (bsd rs q) (esd rs q)), .int .i64 (loy (bsd rs q) (esd rs q)), .int .i64 (hix (bsd rs q) (esd rs q)), .int .i64 (hiy (bsd rs q) (esd rs q))]
def BZ (q:Nat×Nat):List Value:=[.int .i64 (q.1:Nat), .int .i64 (q.2:Nat)]
def Bh (k j:Nat):List (Nat×Nat):=(List.range j).map fun i=>(k,i)
def AC (rs:List (List Sd)):Nat→List (Nat×Nat)
 |0=>[]
 |k+1=>AC rs k++Bh k (rg rs k).length
theorem UE (k j:Nat):Bh k (j+1)=Bh k j++[(k,j)]:=by simp[Bh,List.range_succ]
theorem Lw (k j:Nat):(Bh k j).length=j:=by simp[Bh]
theorem Gs (rs:List (List Sd)): ∀k,k≤rs.length→(AC rs k).length=tot (rs.take k)
 |0,_=>rfl
 |k+1,h=>by
  rw[Ba (by omega)]
  show(AC rs k++Bh k _).length=_
  rw[List.length_append,Gs rs k (by omega),Lw]
theorem JO (rs:List (List Sd)): ∀k, ∀q∈AC rs k,q.1<k∧q.2<(rg rs q.1).length
 |0,q,h=>by cases h
 |k+1,q,h=>by
  rcases List.mem_append.1 h with h|h
  ·have:=JO rs k q h
   exact⟨by omega,this.2⟩
  ·obtain⟨i,hi,rfl⟩:=List.mem_map.1 h
   exact⟨Nat.lt_succ_self k,List.mem_range.1 hi⟩
def nbB (n:Nat) (q q':Nat×Nat):Bool:=(q.1==q'.1)&&(((q.2:Int)-q'.2==1)||((q.2:Int)-q'.2==(n:Int)-1))
def CF (t u t' u':Sd):Bool:=decide (lox t u≤hix t' u')&&decide (lox t' u'≤hix t u)&&decide (loy t u≤hiy t' u')&&decide (loy t' u'≤hiy t u)
def CC (rs:List (List Sd)) (q q':Nat×Nat):Bool:= !nbB (rg rs q.1).length q q'&&CF (bsd rs q) (esd rs q) (bsd rs q') (esd rs q')
def pl (rs:List (List Sd)) (i:Nat):Nat×Nat:=(AC rs rs.length).getD i (0,0)
def crs (rs:List (List Sd)):Bool:=(List.range (tot rs)).any fun i=>(List.range i).any fun k=>CC rs (pl rs i) (pl rs k)
theorem Qx {α:Type} (f:α→List Value) (n:Nat) (hf: ∀x,(f x).length=n): ∀(l:List α) (i:Nat) (x:α),l[i]? =some x→ ∀(j:Nat) (u:Value),(f x)[j]? =some u→(l.flatMap f)[i*n+j]? =some u
 |[],i,x,h,_,_,_=>by simp at h
 |y::l,0,x,h,j,u,hu=>by
  obtain rfl:y=x:=by simpa using h
  rw[List.flatMap_cons,Nat.zero_mul,Nat.zero_add,List.getElem?_append_left (List.getElem?_eq_some_iff.1 hu).1]
  exact hu
 |y::l,i+1,x,h,j,u,hu=>by
  rw[List.flatMap_cons,List.getElem?_append_right (by rw[hf];rw[Nat.add_mul];omega),hf]
  rw[show(i+1)*n+j-n=i*n+j by rw[Nat.add_mul];omega]
  exact Qx f n hf l i x (by simpa using h) j u hu
theorem Vec.rowAt {α:Type} {f:α→List Value} {n:Nat} (hf: ∀x,(f x).length=n) {l:List α} {g cap:Nat} {junk:List Value} {e:TypeId} {W0 W:World} {bxs:List Bx} (hp:Hp W0 bxs W) (k:Nat) (hk:nth bxs k=some ((⟨some g,cap,junk⟩:Vec).bx e (l.flatMap f))) {i:Nat} {x:α} (hi:l[i]? =some x):
  Ae W g (0+i*n) (f x):=by
 have h:=Ae.of_bx hp k hk rfl
 refine⟨h.lt,fun j u hu=> ?_⟩
 have h1:=Qx f n hf l i x hi j u hu
 have:=h.get (i*n+j) u (by
  show(l.flatMap f++junk)[i*n+j]? =some u
  rw[List.getElem?_append_left (List.getElem?_eq_some_iff.1 h1).1]
  exact h1)
 rw[Nat.zero_add] at this⊢
 exact this
theorem Vec.val_eq {V:Vec} {size n:Nat} {xs:List Value} (h:V.OK size n xs):V.val n= .slice (V.p.map fun g=>⟨g,0,none⟩) n (match V.p with|none=>0|some _=>V.cap):=by
 obtain⟨p,cap,junk⟩:=V
 cases p with
 |none=>have:=h.nil rfl;subst this;rfl
 |some g=>rfl
theorem Hj {n:Nat} {f:Nat→Bool} {k:Nat} (hk:k<n) (h:f k=true):(List.range n).any f=true:=List.any_eq_true.2 ⟨k,List.mem_range.2 hk,h⟩
theorem DA {n:Nat} {f:Nat→Bool} (h: ∀k,k<n→f k=false):(List.range n).any f=false:=Bool.eq_false_iff.2 fun h2=>by
 obtain⟨k,hk,h3⟩:=List.any_eq_true.1 h2
 rw[h k (List.mem_range.1 hk)] at h3;cases h3
theorem Li (W:World) (p:Option Addr) (cap:Nat) (rs:List (List Sd)) (hn:rs.length<4611686018427387904) (hT:tot rs<1099511627776) (hl: ∀l∈rs,l.length<4611686018427387904) (hR:AY W p rs):
  Ai Tryz.prog 95 #[slv p rs.length cap] W (fun _:Unit=> .bool (crs rs)) (fun _=>True) (fun _=>[]):=by
 refine Ad (args:=[slv p rs.length cap]) Tryz.func95 rfl rfl rfl ?_
 refine zA (zB (wP rfl (Aa (zE (zA (zB ?_))))))
 (refine An Tryz.hZ rfl rfl rfl rfl ?_;intro)
 refine Aa ?_
 rename_i b3
 refine zE (zA (zB ?_))
 (refine An Tryz.hZ rfl rfl rfl rfl ?_;intro)
 refine Aa ?_
 rename_i b4
 refine zE (zA (zA (zB (wP rfl (wP rfl (wP rfl (Aa (zE (zH ?_)))))))))
 iterate 2 refine Cl ?_
 refine Nd ?_
 refine Mz (X:=Nat×Vec×Vec×List Nat) (fun x=>x.2.2.2.map Dh) (fun x=>[(0,slv p rs.length cap),(3, .pointer (some ⟨b3,0,none⟩)),(4, .pointer (some ⟨b4,0,none⟩)),(14,slv p rs.length cap),(15, .int .i64 (rs.length:Nat)),(16, .int .i64 (x.1:Nat))])
  (fun x=>[⟨b3,210,[x.2.1.val (AC rs x.1).length],true,none⟩,⟨b4,211,[x.2.2.1.val (AC rs x.1).length],true,none⟩,x.2.1.bx 213 ((AC rs x.1).flatMap (Co rs)),x.2.2.1.bx 216 ((AC rs x.1).flatMap BZ),bag x.2.2.2])
  (fun x=>x.1≤rs.length∧x.2.1.OK 4 (AC rs x.1).length ((AC rs x.1).flatMap (Co rs))∧x.2.2.1.OK 2 (AC rs x.1).length ((AC rs x.1).flatMap BZ)) (fun x=>rs.length-x.1) (0,Vec.empty,Vec.empty,[])
  ⟨Nat.zero_le _,Vec.OK.empty 4,Vec.OK.empty 2⟩ rfl ⟨rfl,rfl,rfl,rfl,rfl,rfl,trivial⟩ [] rfl ?_
 rintro⟨k,V1,V2,ds⟩ ⟨hk0,hV10,hV20⟩
 have hk:k≤rs.length:=hk0
 have hV1:V1.OK 4 (AC rs k).length ((AC rs k).flatMap (Co rs)):=hV10
 have hV2:V2.OK 2 (AC rs k).length ((AC rs k).flatMap BZ):=hV20
 clear hk0 hV10 hV20
 refine zA (zB (wP rfl (Aa (zE (zA ?_)))))
 refine Al rfl (fun h=> ?_) (fun h=> ?_)
 ·have hk:k<rs.length:=by simp at h;omega
  clear h
  obtain⟨b',off,rfl,hrow⟩:=hR.row hk
  obtain⟨q,cap2,hq1,hq2⟩:=hrow k hk
  have hlk:(rg rs k).length<4611686018427387904:=hl _ (List.mem_of_getElem? (AN hk))
  refine zI (zE (zA (zH (zA (zB (wP rfl ?_))))))
  refine wJ ?_
  refine Av rfl rfl rfl rfl (fun W hp=>Ae.load 0 tH rfl ((fun W hp=>hq1.hp hp) W hp) rfl) ?_
  (refine An Tryz.hZ rfl rfl rfl rfl ?_;intro)
  rename_i b5
  refine wS 5 rfl rfl rfl (wP rfl (Aa (zE (zA (zB (wP rfl ?_))))))
  refine Ay (X:=Nat) rfl rfl rfl rfl rfl rfl (by kernel_rfl) (fun W _=>EE q (rg rs k).length cap2 W) ?_
  intro b _
  refine Aa (zE (zH ?_))
  refine Eg (X:=Vec×Vec×Nat) (fun x=>[⟨b3,210,[x.1.val (AC rs k++Bh k x.2.2).length],true,none⟩,⟨b4,211,[x.2.1.val (AC rs k++Bh k x.2.2).length],true,none⟩,x.1.bx 213 ((AC rs k++Bh k x.2.2).flatMap (Co rs)),x.2.1.bx 216 ((AC rs k++Bh k x.2.2).flatMap BZ),bag ds,⟨b5,3,[.int .i64 (k:Nat)],true,none⟩,⟨b,32,[slv q (rg rs k).length cap2],true,none⟩])
   (fun j x=>x.2.2=j∧x.1.OK 4 (AC rs k++Bh k x.2.2).length ((AC rs k++Bh k x.2.2).flatMap (Co rs))∧x.2.1.OK 2 (AC rs k++Bh k x.2.2).length ((AC rs k++Bh k x.2.2).flatMap BZ)) (fun _ _=>False) (V1,V2,0) rfl (by kernel_rfl) (Fd b q cap2 (rg rs k) hlk) (fun _=>rfl)
   ⟨rfl,by show V1.OK 4 (AC rs k++Bh k 0).length _;rw[show AC rs k++Bh k 0=AC rs k by simp[Bh]];exact hV1,by show V2.OK 2 (AC rs k++Bh k 0).length _;rw[show AC rs k++Bh k 0=AC rs k by simp[Bh]];exact hV2⟩ []
   (by show _=_++[];rw[show AC rs k++Bh k (V1,V2,0).2.2=AC rs k by simp[Bh]];rfl) (fun j x W _ hp=>DN.mk' hq2 hp 6 rfl) ?_ ?_ (fun _ _ _ _ _ h=>h.elim)
  ·rintro j' ⟨U1,U2,j⟩ d L rec hj ⟨e1,hU1,hU2⟩ hrec
   obtain rfl:j=j':=e1
   have hU1:U1.OK 4 (AC rs k++Bh k j).length ((AC rs k++Bh k j).flatMap (Co rs)):=hU1
   have hU2:U2.OK 2 (AC rs k++Bh k j).length ((AC rs k++Bh k j).flatMap BZ):=hU2
   have hlen:(AC rs k++Bh k (j+1)).length≤tot rs:=by
    rw[List.length_append,Lw,Gs rs k (by omega)]
    have h1:=Ba hk
    have h2:=Ch rs (k+1)
    omega
   have hlen1:(AC rs k++Bh k (j+1)).length=(AC rs k++Bh k j).length+1:=by
    simp only[List.length_append,Lw];omega
   have es:AC rs k++Bh k (j+1)=(AC rs k++Bh k j)++[(k,j)]:=by rw[UE,List.append_assoc]
   have eb1:(AC rs k++Bh k (j+1)).flatMap (Co rs)=(AC rs k++Bh k j).flatMap (Co rs)++Co rs (k,j):=by rw[es,List.flatMap_append];simp
   have eb2:(AC rs k++Bh k (j+1)).flatMap BZ=(AC rs k++Bh k j).flatMap BZ++BZ (k,j):=by rw[es,List.flatMap_append];simp
   refine zA (zB (wP rfl (Aa (zE (zB ?_)))))
   (refine An Tryz.hZ rfl rfl rfl rfl ?_;intro)
   refine wS 9 rfl rfl rfl (Aa ?_)
   rename_i b8
   refine CL 8 hrec rfl ?_
   refine B6 ?_
   refine Ha (X:= {x:Vec×Vec//x.1.OK 4 (AC rs k++Bh k (j+1)).length ((AC rs k++Bh k (j+1)).flatMap (Co rs))∧x.2.OK 2 (AC rs k++Bh k (j+1)).length ((AC rs k++Bh k (j+1)).flatMap BZ)}) (fun _=>[(3, .pointer (some ⟨b3,0,none⟩)),(4, .pointer (some ⟨b4,0,none⟩))])
    (fun x=>[⟨b3,210,[x.1.1.val (AC rs k++Bh k (j+1)).length],true,none⟩,⟨b4,211,[x.1.2.val (AC rs k++Bh k (j+1)).length],true,none⟩,x.1.1.bx 213 ((AC rs k++Bh k (j+1)).flatMap (Co rs)),x.1.2.bx 216 ((AC rs k++Bh k (j+1)).flatMap BZ),bag ds,⟨b5,3,[.int .i64 (k:Nat)],true,none⟩,⟨b,32,[slv q (rg rs k).length cap2],true,none⟩,BU d,Bn L rec .busy none]) 6 [⟨b3,210,[U1.val (AC rs k++Bh k j).length],true,none⟩,⟨b4,211,[U2.val (AC rs k++Bh k j).length],true,none⟩,C9,C9,bag ds,⟨b5,3,[.int .i64 (k:Nat)],true,none⟩,⟨b,32,[slv q (rg rs k).length cap2],true,none⟩,BU d,Bn L rec .busy none,⟨b8,96,(GP (sd (rg rs k) (prv (rg rs k).length j)) (sd (rg rs k) j) (sd (rg rs k) (nxt (rg rs k).length j))).cells.toList,true,none⟩] Tryz.mixed (by kernel_rfl) ?_ ?_
   ·refine qB 0 rfl rfl rfl (qB 9 rfl rfl rfl ?_)
    refine A8 rfl rfl rfl rfl rfl rfl (by kernel_rfl) (fun W _=>(PX ..)) ?_
    refine qB 1 rfl rfl rfl (qB 5 rfl rfl rfl (qP rfl ?_))
    refine TS Tryz.hZ tH rfl rfl rfl rfl rfl rfl rfl rfl ?_
    refine CX ?_
    refine wX ?_
    refine RS.cons ?_ (RS.cons ?_ (RS.nil))
    ·(refine A4 Tryz.hZ tH rfl rfl rfl rfl rfl rfl rfl rfl rfl rfl rfl ?_;intro)
     refine Aa (Ah ?_)
     refine wX ?_
     refine RS.cons ?_ (RS.cons ?_ (RS.nil))
     ·(first|refine AO 2 10 Tryz.vec210 (AC rs k++Bh k (j+1)).length ((AC rs k++Bh k (j+1)).flatMap (Co rs)) rfl rfl rfl rfl rfl rfl rfl rfl rfl rfl rfl hU1 rfl rfl hlen1.symm (by rw[eb1];rfl) (by simp only[maxLen];omega) (by omega) rfl ?_|refine AO 2 11 Tryz.vec210 (AC rs k++Bh k (j+1)).length ((AC rs k++Bh k (j+1)).flatMap (Co rs)) rfl rfl rfl rfl rfl rfl rfl rfl rfl rfl rfl hU1 rfl rfl hlen1.symm (by rw[eb1];rfl) (by simp only[maxLen];omega) (by omega) rfl ?_);intro g1 c1 j1 hU1'
      refine Aa (Ah ?_)
      refine wX ?_
      refine RS.cons ?_ (RS.nil)
      (refine A4 Tryz.hZ tH rfl rfl rfl rfl rfl rfl rfl rfl rfl rfl rfl ?_;intro)
      refine Aa (Ah ?_)
      refine wX ?_
      refine RS.cons ?_ (RS.nil)
      (first|refine AO 3 10 Tryz.vec211 (AC rs k++Bh k (j+1)).length ((AC rs k++Bh k (j+1)).flatMap BZ) rfl rfl rfl rfl rfl rfl rfl rfl rfl rfl rfl hU2 rfl rfl hlen1.symm (by rw[eb2];rfl) (by simp only[maxLen];omega) (by omega) rfl ?_|refine AO 3 11 Tryz.vec211 (AC rs k++Bh k (j+1)).length ((AC rs k++Bh k (j+1)).flatMap BZ) rfl rfl rfl rfl rfl rfl rfl rfl rfl rfl rfl hU2 rfl rfl hlen1.symm (by rw[eb2];rfl) (by simp only[maxLen];omega) (by omega) rfl ?_);intro g2 c2 j2 hU2'
      refine Aa (Ah ?_)
      refine wX ?_
      refine RS.cons ?_ (RS.nil)
      refine wS 0 rfl rfl rfl (Aa (Ah ?_))
      refine wY ?_
      refine RS.cons ?_ (RS.nil)
      refine wS 1 rfl rfl rfl (Aa (Ah ?_))
      refine A3 rfl (by kernel_rfl) ?_
      exact Ax ⟨(⟨some g1,c1,j1⟩,⟨some g2,c2,j2⟩),hU1',hU2'⟩ ⟨rfl,rfl,trivial⟩ [0,1,2,3,4,5,6,7,8] (by decide) rfl
     ·(refine A4 Tryz.hZ tH rfl rfl rfl rfl rfl rfl rfl rfl rfl rfl rfl ?_;intro)
      refine Aa (Ah ?_)
      refine wX ?_
      refine RS.cons ?_ (RS.nil)
      (first|refine AO 2 10 Tryz.vec210 (AC rs k++Bh k (j+1)).length ((AC rs k++Bh k (j+1)).flatMap (Co rs)) rfl rfl rfl rfl rfl rfl rfl rfl rfl rfl rfl hU1 rfl rfl hlen1.symm (by rw[eb1];rfl) (by simp only[maxLen];omega) (by omega) rfl ?_|refine AO 2 11 Tryz.vec210 (AC rs k++Bh k (j+1)).length ((AC rs k++Bh k (j+1)).flatMap (Co rs)) rfl rfl rfl rfl rfl rfl rfl rfl rfl rfl rfl hU1 rfl rfl hlen1.symm (by rw[eb1];rfl) (by simp only[maxLen];omega) (by omega) rfl ?_);intro g1 c1 j1 hU1'
      refine Aa (Ah ?_)
      refine wX ?_
      refine RS.cons ?_ (RS.nil)
      (first|refine AO 3 10 Tryz.vec211 (AC rs k++Bh k (j+1)).length ((AC rs k++Bh k (j+1)).flatMap BZ) rfl rfl rfl rfl rfl rfl rfl rfl rfl rfl rfl hU2 rfl rfl hlen1.symm (by rw[eb2];rfl) (by simp only[maxLen];omega) (by omega) rfl ?_|refine AO 3 11 Tryz.vec211 (AC rs k++Bh k (j+1)).length ((AC rs k++Bh k (j+1)).flatMap BZ) rfl rfl rfl rfl rfl rfl rfl rfl rfl rfl rfl hU2 rfl rfl hlen1.symm (by rw[eb2];rfl) (by simp only[maxLen];omega) (by omega) rfl ?_);intro g2 c2 j2 hU2'
      refine Aa (Ah ?_)
      refine wX ?_
      refine RS.cons ?_ (RS.nil)
      refine wS 0 rfl rfl rfl (Aa (Ah ?_))
      refine wY ?_
      refine RS.cons ?_ (RS.nil)
      refine wS 1 rfl rfl rfl (Aa (Ah ?_))
      refine A3 rfl (by kernel_rfl) ?_
      exact Ax ⟨(⟨some g1,c1,j1⟩,⟨some g2,c2,j2⟩),hU1',hU2'⟩ ⟨rfl,rfl,trivial⟩ [0,1,2,3,4,5,6,7,8] (by decide) rfl
    ·(refine A4 Tryz.hZ tH rfl rfl rfl rfl rfl rfl rfl rfl rfl rfl rfl ?_;intro)
     refine Aa (Ah ?_)
     refine wX ?_
     refine RS.cons ?_ (RS.nil)
     (refine A4 Tryz.hZ tH rfl rfl rfl rfl rfl rfl rfl rfl rfl rfl rfl ?_;intro)
     refine Aa (Ah ?_)
     refine wX ?_
     refine RS.cons ?_ (RS.nil)
     (first|refine AO 2 10 Tryz.vec210 (AC rs k++Bh k (j+1)).length ((AC rs k++Bh k (j+1)).flatMap (Co rs)) rfl rfl rfl rfl rfl rfl rfl rfl rfl rfl rfl hU1 rfl rfl hlen1.symm (by rw[eb1];rfl) (by simp only[maxLen];omega) (by omega) rfl ?_|refine AO 2 11 Tryz.vec210 (AC rs k++Bh k (j+1)).length ((AC rs k++Bh k (j+1)).flatMap (Co rs)) rfl rfl rfl rfl rfl rfl rfl rfl rfl rfl rfl hU1 rfl rfl hlen1.symm (by rw[eb1];rfl) (by simp only[maxLen];omega) (by omega) rfl ?_);intro g1 c1 j1 hU1'
     refine Aa (Ah ?_)
     refine wX ?_
     refine RS.cons ?_ (RS.nil)
     (first|refine AO 3 10 Tryz.vec211 (AC rs k++Bh k (j+1)).length ((AC rs k++Bh k (j+1)).flatMap BZ) rfl rfl rfl rfl rfl rfl rfl rfl rfl rfl rfl hU2 rfl rfl hlen1.symm (by rw[eb2];rfl) (by simp only[maxLen];omega) (by omega) rfl ?_|refine AO 3 11 Tryz.vec211 (AC rs k++Bh k (j+1)).length ((AC rs k++Bh k (j+1)).flatMap BZ) rfl rfl rfl rfl rfl rfl rfl rfl rfl rfl rfl hU2 rfl rfl hlen1.symm (by rw[eb2];rfl) (by simp only[maxLen];omega) (by omega) rfl ?_);intro g2 c2 j2 hU2'
     refine Aa (Ah ?_)
     refine wX ?_
     refine RS.cons ?_ (RS.nil)
     refine wS 0 rfl rfl rfl (Aa (Ah ?_))
     refine wY ?_
     refine RS.cons ?_ (RS.nil)
     refine wS 1 rfl rfl rfl (Aa (Ah ?_))
     refine A3 rfl (by kernel_rfl) ?_
     exact Ax ⟨(⟨some g1,c1,j1⟩,⟨some g2,c2,j2⟩),hU1',hU2'⟩ ⟨rfl,rfl,trivial⟩ [0,1,2,3,4,5,6,7,8] (by decide) rfl
   ·rintro⟨⟨U1',U2'⟩,hU1',hU2'⟩
    refine zN ?_
    exact B5 8 (U1',U2',j+1) hrec rfl ⟨rfl,hU1',hU2'⟩ [] rfl
  ·rintro⟨U1,U2,j⟩ d L rec ⟨e1,hU1,hU2⟩
   obtain rfl:j=(rg rs k).length:=e1
   refine zN (zN (zE (zB (wP rfl (wP rfl (Aa ?_))))))
   refine Sp 4 7 rfl rfl ?_
   exact Jg (X:=Nat×Vec×Vec×List Nat) (k+1,U1,U2,d::ds) ⟨hk,hU1,hU2⟩ (by show rs.length-(k+1)<rs.length-k;omega) rfl ⟨rfl,rfl,rfl,rfl,rfl,congrArg (fun z=>some (Value.int .i64 z)) (A6 (x:=(k:Int)+1) (by omega) (by omega)),trivial⟩ [0,1,2,3,4] (by decide) rfl
 ·have e:k=rs.length:=by simp at h;omega
  subst e
  clear h hk
  have hpl:(AC rs rs.length).length=tot rs:=by rw[Gs rs _ (Nat.le_refl _),List.take_length]
  have hget: ∀i,i<tot rs→(AC rs rs.length)[i]? =some (pl rs i):=fun i hi=>by
   rw[←hpl] at hi
   simp[pl,hi]
  have hmem: ∀i,i<tot rs→(pl rs i).1<rs.length∧(pl rs i).2<(rg rs (pl rs i).1).length:=fun i hi=>JO rs _ _ (List.mem_of_getElem? (hget i hi))
  rw[hpl] at hV1 hV2
  have hR2:=hR
  have hm62:tot rs<1099511627776:=hT
  refine zJ (zK (zK (zL (zE (zA (zA (zB (wB 0 rfl rfl rfl ?_))))))))
  refine Ac 37 (.slice (V1.p.map fun g=>⟨g,0,none⟩) (tot rs) (match V1.p with|none=>0|some _=>V1.cap)) rfl (show V1.val (AC rs rs.length).length=_ by rw[hpl];exact Vec.val_eq hV1) ?_
  refine wP rfl (wP rfl (Aa (zE (zH ?_))))
  refine Az (X:=Nat) (fun i=>[(0,slv p rs.length cap),(3, .pointer (some ⟨b3,0,none⟩)),(4, .pointer (some ⟨b4,0,none⟩)),(38, .int .i64 (tot rs:Nat)),(39, .int .i64 (i:Nat))])
   (fun _=>[⟨b3,210,[V1.val (tot rs)],true,none⟩,⟨b4,211,[V2.val (tot rs)],true,none⟩,V1.bx 213 ((AC rs rs.length).flatMap (Co rs)),V2.bx 216 ((AC rs rs.length).flatMap BZ),bag ds])
   (fun i=>i≤tot rs∧ ∀i',i'<i→((List.range i').any fun k=>CC rs (pl rs i') (pl rs k))=false) (fun i=>tot rs-i) 0 ⟨Nat.zero_le _,fun j hj=>absurd hj (Nat.not_lt_zero _)⟩ ⟨rfl,rfl,rfl,rfl,rfl,trivial⟩ []
   (by show _=_++[];rw[hpl];rfl) ?_
  rintro i ⟨hi,hno⟩
  refine zA (zB (wP rfl (Aa (zE (zA ?_)))))
  refine Al rfl (fun h=> ?_) (fun h=> ?_)
  rotate_left
  ·have e:i=tot rs:=by simp at h;omega
   subst e
   refine zJ (zK (zK (zL (zE (zA (zB (wP rfl (Aa (zE (zO ?_))))))))))
   refine GW 4 ds rfl ?_
   have hf:crs rs=false:=DA hno
   exact Af tH rfl (.tmp rfl) () (by rw[hf]) trivial fun W _=>Ag.nil _ _
  have hi:i<tot rs:=by simp at h;omega
  clear h
  obtain⟨p1,cap1,junk1⟩:=V1
  obtain⟨p2,cap3,junk2⟩:=V2
  cases p1 with
  |none=>exact absurd (hV1.nil rfl) (Nat.ne_of_gt (Nat.lt_of_le_of_lt (Nat.zero_le i) hi))
  |some g1=>
  cases p2 with
  |none=>exact absurd (hV2.nil rfl) (Nat.ne_of_gt (Nat.lt_of_le_of_lt (Nat.zero_le i) hi))
  |some g2=>
  refine zI (zE (zA (zH (zA (zB (wP rfl (wP rfl (Aa (zE (zA (zB (wP rfl (wP rfl ?_)))))))))))))
  refine Aa (zE (zH ?_))
  refine Az (X:=Nat) (fun k=>[(0,slv p rs.length cap),(3, .pointer (some ⟨b3,0,none⟩)),(4, .pointer (some ⟨b4,0,none⟩)),(38, .int .i64 (tot rs:Nat)),(39, .int .i64 (i:Nat)),(9, .int .i64 (i:Nat)),(42, .int .i64 (i:Nat)),(43, .int .i64 (k:Nat))])
   (fun _=>[⟨b3,210,[slv (some ⟨g1,0,none⟩) (tot rs) cap1],true,none⟩,⟨b4,211,[slv (some ⟨g2,0,none⟩) (tot rs) cap3],true,none⟩,(⟨some g1,cap1,junk1⟩:Vec).bx 213 ((AC rs rs.length).flatMap (Co rs)),(⟨some g2,cap3,junk2⟩:Vec).bx 216 ((AC rs rs.length).flatMap BZ),bag ds])
   (fun k=>k≤i∧ ∀k',k'<k→CC rs (pl rs i) (pl rs k')=false) (fun k=>i-k) 0 ⟨Nat.zero_le _,fun j hj=>absurd hj (Nat.not_lt_zero _)⟩ ⟨rfl,rfl,rfl,rfl,rfl,rfl,rfl,rfl,trivial⟩ [] rfl ?_
  rintro k ⟨hk,hnok⟩
  refine zA (zB (wP rfl (Aa (zE (zA ?_)))))
  refine Al rfl (fun h=> ?_) (fun h=> ?_)
  rotate_left
  ·have e:k=i:=by simp at h;omega
   subst e
   refine zJ (zK (zK (zL (zN (zE (zB (wP rfl (wP rfl (Aa ?_)))))))))
   refine At (k+1) ⟨hi,fun i' hi'=> ?_⟩ (by omega) ⟨rfl,rfl,rfl,rfl,congrArg (fun z=>some (Value.int .i64 z)) (A6 (x:=(k:Int)+1) (by omega) (by omega)),trivial⟩ [] rfl
   by_cases e:i'=k
   ·subst e;exact DA hnok
   ·exact hno i' (by omega)
  have hk:k<i:=by simp at h;omega
  clear h
  have hkt:k<tot rs:=by omega
  obtain⟨hi1,hi2⟩:=hmem i hi
  obtain⟨hk1,hk2⟩:=hmem k hkt
  obtain⟨b',off,rfl,hrow⟩:=hR.row hi1
  obtain⟨q,cap2,hq1,hq2⟩:=hrow _ hi1
  have hlk:(rg rs (pl rs i).1).length<4611686018427387904:=hl _ (List.mem_of_getElem? (AN hi1))
  have hlk2:(rg rs (pl rs k).1).length<4611686018427387904:=hl _ (List.mem_of_getElem? (AN hk1))
  refine zI (zE (zA (zH (zA (zB (wP rfl (wP rfl (Aa (zE (zA (zB (wP rfl (wB 1 rfl rfl rfl ?_)))))))))))))
  refine wP rfl ?_
  refine wJ ?_
  refine wP rfl ?_
  refine Av rfl rfl rfl rfl (fun W hp=>Ae.load 0 tH rfl ((fun W hp=>Vec.rowAt (f:=BZ) (n:=2) (fun _=>rfl) hp 3 rfl (hget i hi)) W hp) rfl) ?_
  refine wJ ?_
  refine Av rfl rfl rfl rfl (fun W hp=>Ae.load 0 tH rfl ((fun W hp=>hq1.hp hp) W hp) rfl) ?_
  refine wP rfl (wP rfl (Aa (zE (zA ?_))))
  refine zT Tryz.mixed (by kernel_rfl) ?_
  refine qB 1 rfl rfl rfl (qP rfl ?_)
  refine qJ ?_
  refine qP rfl ?_
  refine Ap rfl rfl rfl rfl (fun W hp=>Ae.load 1 tH rfl ((fun W hp=>Vec.rowAt (f:=BZ) (n:=2) (fun _=>rfl) hp 3 rfl (hget i hi)) W hp) rfl) ?_
  refine qB 1 rfl rfl rfl (qP rfl ?_)
  refine qJ ?_
  refine qP rfl ?_
  refine Ap rfl rfl rfl rfl (fun W hp=>Ae.load 1 tH rfl ((fun W hp=>Vec.rowAt (f:=BZ) (n:=2) (fun _=>rfl) hp 3 rfl (hget k hkt)) W hp) rfl) ?_
  refine qP rfl (qP rfl (AE (Aa ?_)))
  have egap:w64 (((pl rs i).2:Nat)-((pl rs k).2:Nat))=((pl rs i).2:Int)-(pl rs k).2:=As (by omega) (by omega)
  have en1:w64 (((rg rs (pl rs i).1).length:Nat)-1)=((rg rs (pl rs i).1).length:Int)-1:=As (by omega) (by omega)
  refine AP ?_
  refine AW 12 _ rfl (congrArg (Value.int .i64) egap) ?_
  refine Gy (X:=Unit) (fun _=>[(0,slv (some ⟨b',off,none⟩) rs.length cap),(3, .pointer (some ⟨b3,0,none⟩)),(4, .pointer (some ⟨b4,0,none⟩)),(38, .int .i64 (tot rs:Nat)),(39, .int .i64 (i:Nat)),(9, .int .i64 (i:Nat)),(10, .int .i64 (k:Nat)),(42, .int .i64 (i:Nat)),(43, .int .i64 (k:Nat)),(13, .bool (nbB (rg rs (pl rs i).1).length (pl rs i) (pl rs k)))])
   (fun _=>[⟨b3,210,[slv (some ⟨g1,0,none⟩) (tot rs) cap1],true,none⟩,⟨b4,211,[slv (some ⟨g2,0,none⟩) (tot rs) cap3],true,none⟩,(⟨some g1,cap1,junk1⟩:Vec).bx 213 ((AC rs rs.length).flatMap (Co rs)),(⟨some g2,cap3,junk2⟩:Vec).bx 216 ((AC rs rs.length).flatMap BZ),bag ds]) (fun _=>True) ?_ ?_
  ·refine zT Tryz.mixed (by kernel_rfl) ?_
   refine qB 1 rfl rfl rfl (qP rfl ?_)
   refine qJ ?_
   refine qP rfl ?_
   refine Ap rfl rfl rfl rfl (fun W hp=>Ae.load 0 tH rfl ((fun W hp=>Vec.rowAt (f:=BZ) (n:=2) (fun _=>rfl) hp 3 rfl (hget i hi)) W hp) rfl) ?_
   refine qB 1 rfl rfl rfl (qP rfl ?_)
   refine qJ ?_
   refine qP rfl ?_
   refine Ap rfl rfl rfl rfl (fun W hp=>Ae.load 0 tH rfl ((fun W hp=>Vec.rowAt (f:=BZ) (n:=2) (fun _=>rfl) hp 3 rfl (hget k hkt)) W hp) rfl) ?_
   refine qP rfl (qP rfl ?_)
   have e1:((((pl rs i).1:Nat):Int)==(((pl rs k).1:Nat):Int))=((pl rs i).1==(pl rs k).1):=by
    by_cases h:(pl rs i).1=(pl rs k).1
    ·rw[h,beq_self_eq_true,beq_self_eq_true]
    ·have h1:(((pl rs i).1:Nat):Int)≠(pl rs k).1:=by omega
     rw[beq_eq_false_iff_ne.2 h1,beq_eq_false_iff_ne.2 h]
   refine Gv 77 rfl (fun h77=> ?_) (fun h77=> ?_)
   ·have h77':((pl rs i).1==(pl rs k).1)=true:=e1.symm.trans h77
    refine qP rfl (qP rfl (qP rfl ?_))
    refine Gv 80 rfl (fun h80=> ?_) (fun h80=> ?_)
    ·have e:nbB (rg rs (pl rs i).1).length (pl rs i) (pl rs k)=true:=by
      have h80':(((pl rs i).2:Int)-(pl rs k).2==1)=true:=h80
      unfold nbB;rw[h77',h80'];rfl
     iterate 4 refine BG rfl rfl ?_
     refine qP rfl (qP rfl (qP rfl (AE (Aa ?_))))
     exact AH () trivial ⟨rfl,rfl,rfl,rfl,rfl,rfl,rfl,rfl,rfl,by rw[e];rfl,trivial⟩ [] rfl
    ·have e:nbB (rg rs (pl rs i).1).length (pl rs i) (pl rs k)=(((pl rs i).2:Int)-(pl rs k).2==w64 (((rg rs (pl rs i).1).length:Nat)-1)):=by
      have h80':(((pl rs i).2:Int)-(pl rs k).2==1)=false:=h80
      unfold nbB;rw[h77',h80',en1];rfl
     iterate 7 refine qP rfl ?_
     refine AE (Aa ?_)
     exact AH () trivial ⟨rfl,rfl,rfl,rfl,rfl,rfl,rfl,rfl,rfl,by rw[e];rfl,trivial⟩ [] rfl
   ·have h77':((pl rs i).1==(pl rs k).1)=false:=e1.symm.trans h77
    have e:nbB (rg rs (pl rs i).1).length (pl rs i) (pl rs k)=false:=by unfold nbB;rw[h77'];rfl
    iterate 8 refine BG rfl rfl ?_
    refine qP rfl (qP rfl (AE (Aa ?_)))
    exact AH () trivial ⟨rfl,rfl,rfl,rfl,rfl,rfl,rfl,rfl,rfl,by rw[e];rfl,trivial⟩ [] rfl
  intro _ _
  have next:CC rs (pl rs i) (pl rs k)=false→ ∀k',k'<k+1→CC rs (pl rs i) (pl rs k')=false:=fun h k' hk'=>by
   by_cases e:k'=k
   ·subst e;exact h
   ·exact hnok k' (by omega)
  refine zA ?_
  refine zT Tryz.mixed (by kernel_rfl) ?_
  refine qP rfl (qP rfl (qP rfl ?_))
  refine Gv 89 rfl (fun h89=> ?_) (fun h89=> ?_)
  ·have hnb:nbB (rg rs (pl rs i).1).length (pl rs i) (pl rs k)=false:=by simpa using h89
   refine qB 0 rfl rfl rfl (qP rfl ?_)
   refine qJ ?_
   refine Ap rfl rfl rfl rfl (fun W hp=>Ae.load 0 tH rfl ((fun W hp=>Vec.rowAt (f:=Co rs) (n:=4) (fun _=>rfl) hp 2 rfl (hget i hi)) W hp) rfl) ?_
   refine qB 0 rfl rfl rfl (qP rfl ?_)
   refine qJ ?_
   refine Ap rfl rfl rfl rfl (fun W hp=>Ae.load 0 tH rfl ((fun W hp=>Vec.rowAt (f:=Co rs) (n:=4) (fun _=>rfl) hp 2 rfl (hget k hkt)) W hp) rfl) ?_
   refine A8 rfl rfl rfl rfl rfl rfl (by kernel_rfl) (fun W _=>(Q9 ..)) ?_
   refine qP rfl (AE (Aa (zE ?_)))
   refine Al rfl (fun h=> ?_) (fun h=> ?_)
   ·refine zA (zB (wP rfl (Aa (zE (zO (zQ (zP (zP (zQ (zQ (zP (zP (zQ ?_)))))))))))))
    refine zP ?_
    refine GW 4 ds rfl ?_
    have hf:crs rs=true:=Hj hi (Hj hk (by unfold CC;rw[hnb];exact h))
    exact Af tH rfl (.tmp rfl) () (by rw[hf]) trivial fun W _=>Ag.nil _ _
   ·refine zI (zN (zE (zB (wP rfl (wP rfl (Aa ?_))))))
    exact At (k+1) ⟨hk,next (by unfold CC;rw[hnb];exact h)⟩ (by omega) ⟨rfl,rfl,rfl,rfl,rfl,rfl,rfl,congrArg (fun z=>some (Value.int .i64 z)) (A6 (x:=(k:Int)+1) (by omega) (by omega)),trivial⟩ [] rfl
  ·have hnb:nbB (rg rs (pl rs i).1).length (pl rs i) (pl rs k)=true:=by simpa using h89
   iterate 9 refine BG rfl rfl ?_
   refine qP rfl (AE (Aa (zE (zS rfl (zI (zN (zE (zB (wP rfl (wP rfl (Aa ?_)))))))))))
   exact At (k+1) ⟨hk,next (by unfold CC;rw[hnb];rfl)⟩ (by omega) ⟨rfl,rfl,rfl,rfl,rfl,rfl,rfl,congrArg (fun z=>some (Value.int .i64 z)) (A6 (x:=(k:Int)+1) (by omega) (by omega)),trivial⟩ [] rfl
end
section
-- OLD
open Go Go.RowKit Go.Am
set_option maxRecDepth 10000
-- BOXES 8
-- EQB 4
def OY (s t u:Sd):Bool:=
 !((w64 (u.x-t.x)==0)==(w64 (u.y-t.y)==0))&& !((w64 (t.x-s.x)==0)==(w64 (u.x-t.x)==0))
def EK (l:List Sd) (k:Nat):Bool:=OY (sd l (prv l.length k)) (sd l k) (sd l (nxt l.length k))
def shp (l:List Sd):Bool:=decide (4≤l.length)&&(List.range l.length).all (EK l)
theorem Uw {l:List Sd} {k:Nat} (hk:k<l.length) (h:EK l k=false):shp l=false:=by
 unfold shp
 have:(List.range l.length).all (EK l)=false:=by
  apply Bool.eq_false_iff.2
  intro h2
  have:=List.all_eq_true.1 h2 k (List.mem_range.2 hk)
  rw[h] at this;cases this
 rw[this,Bool.and_false]
theorem Py (W:World) (p:Option Addr) (cap:Nat) (l:List Sd) (hn:l.length<4611686018427387904) (hR:Br W p l):
  Ai Tryz.prog 94 #[slv p l.length cap] W (fun _:Unit=> .bool (shp l)) (fun _=>True) (fun _=>[]):=by
 refine Ad (args:=[slv p l.length cap]) Tryz.func94 rfl rfl rfl ?_
 refine zA (zB ?_)
 refine Bm (z:= .bool false) rfl rfl rfl (fun W=>by kernel_rfl) fun b2=> ?_
 refine Aa (AP ?_)
 refine Gy (X:=Unit) (fun _=>[(0,slv p l.length cap),(2, .pointer (some ⟨b2,0,none⟩))]) (fun _=>[⟨b2,4,[.bool false],true,none⟩]) (fun _=>4≤l.length) ?_ ?_
 ·(refine AL ?_;refine DR ?_)
  refine wP rfl (wP rfl (wP rfl (Aa (AP ?_))))
  refine Al rfl (fun h=> ?_) (fun h=> ?_)
  ·refine zA (zB (wS 0 rfl rfl rfl (zC (zE (zO (zP ?_))))))
   have hs:shp l=false:=by simp at h;simp[shp];omega
   exact Af tH rfl (.cell 0 rfl rfl rfl rfl rfl) () (by rw[hs]) trivial fun W _=>Ag.nil _ _
  ·refine zI ?_
   exact AH () (by simp at h;omega) ⟨rfl,rfl,trivial⟩ [] rfl
 intro _ h4
 refine zA (zA (zB (wP rfl ?_)))
 refine Ay (X:=Nat) rfl rfl rfl rfl rfl rfl (by kernel_rfl) (fun W _=>EE p l.length cap W) ?_
 intro b _
 refine zC (zE (zH ?_))
 refine Eg (X:=Bool×Nat) (fun x=>[⟨b2,4,[.bool x.1],true,none⟩,⟨b,32,[slv p l.length cap],true,none⟩]) (fun k x=>x.1=false∧x.2=k∧ ∀i,i<k→EK l i=true) (fun c x=>c= .ret∧x.1=false∧ ∃k,k<l.length∧EK l k=false) (false,0) rfl (by kernel_rfl) (Fd b p cap l hn) (fun _=>rfl) ⟨rfl,rfl,fun i hi=>by omega⟩ [] rfl (fun k x W _ hp=>DN.mk' hR hp 1 rfl) ?_ ?_ ?_
 ·rintro k ⟨_,_⟩ d L rec hk ⟨rfl,rfl,hok⟩ hrec
  rename_i k
  refine zB ?_
  refine Bm (z:=GP default default default) rfl rfl rfl (fun W=>by kernel_rfl) fun b4=> ?_
  refine wS 4 rfl rfl rfl (zC ?_)
  refine CL 3 hrec rfl ?_
  refine B6 (AL ?_)
  refine Jh (X:=Nat×Nat) (fun x=>[(2, .pointer (some ⟨b2,0,none⟩)),(5, .pointer (some ⟨x.1,0,none⟩)),(6, .pointer (some ⟨x.2,0,none⟩))])
   (fun x=>[⟨b2,4,[.bool false],true,none⟩,⟨b,32,[slv p l.length cap],true,none⟩,BU d,Bn L rec .busy none,⟨b4,96,(GP (sd l (prv l.length k)) (sd l k) (sd l (nxt l.length k))).cells.toList,true,none⟩,
    ⟨x.1,147,(spot (w64 ((sd l k).x-(sd l (prv l.length k)).x)) (w64 ((sd l k).y-(sd l (prv l.length k)).y))).cells.toList,true,none⟩,
    ⟨x.2,147,(spot (w64 ((sd l (nxt l.length k)).x-(sd l k).x)) (w64 ((sd l (nxt l.length k)).y-(sd l k).y))).cells.toList,true,none⟩]) 4 Tryz.mixed (by kernel_rfl) ?_ ?_
  ·refine qP rfl (qB 4 rfl rfl rfl ?_)
   refine A8 rfl rfl rfl rfl rfl rfl (by kernel_rfl) (fun W _=>Bl (sd l (prv l.length k)) W) ?_
   refine qP rfl (qB 4 rfl rfl rfl ?_)
   refine A8 rfl rfl rfl rfl rfl rfl (by kernel_rfl) (fun W _=>Bl (sd l k) W) ?_
   refine A8 rfl rfl rfl rfl rfl rfl (by kernel_rfl) (fun W _=>M9 _ _ _ _ W) ?_
   refine qB 4 rfl rfl rfl ?_
   refine A8 rfl rfl rfl rfl rfl rfl (by kernel_rfl) (fun W _=>J9 (sd l (prv l.length k)) (sd l k) (sd l (nxt l.length k)) W) ?_
   refine zG ?_
   refine wX ?_
   refine RS.cons ?_ (RS.cons ?_ RS.nil)
   ·refine Bm (z:=spot 0 0) rfl rfl rfl (fun W=>by kernel_rfl) fun bA=> ?_
    refine zC (zF ?_)
    refine wX ?_
    refine RS.cons ?_ RS.nil
    refine Bm (z:=spot 0 0) rfl rfl rfl (fun W=>by kernel_rfl) fun bB=> ?_
    refine zC (zF ?_)
    refine wX ?_
    refine RS.cons ?_ RS.nil
    refine wS 5 rfl rfl rfl (zC (zF ?_))
    refine wX ?_
    refine RS.cons ?_ RS.nil
    refine wS 6 rfl rfl rfl (zC (zF ?_))
    refine BT rfl (by((repeat (first|refine BM.same ?_|refine BM.off rfl ?_));exact trivial)) ?_
    exact Ax (bA,bB) ⟨rfl,rfl,rfl,trivial⟩ [0,1,2,3,4,5,6] (by decide) rfl
   ·refine Bm (z:=spot 0 0) rfl rfl rfl (fun W=>by kernel_rfl) fun bB=> ?_
    refine zC (zF ?_)
    refine wX ?_
    refine RS.cons ?_ RS.nil
    refine Bm (z:=spot 0 0) rfl rfl rfl (fun W=>by kernel_rfl) fun bA=> ?_
    refine zC (zF ?_)
    refine wX ?_
    refine RS.cons ?_ RS.nil
    refine wS 6 rfl rfl rfl (zC (zF ?_))
    refine wX ?_
    refine RS.cons ?_ RS.nil
    refine wS 5 rfl rfl rfl (zC (zF ?_))
    refine BT rfl (by((repeat (first|refine BM.same ?_|refine BM.off rfl ?_));exact trivial)) ?_
    exact Ax (bA,bB) ⟨rfl,rfl,rfl,trivial⟩ [0,1,2,3,4,6,5] (by decide) rfl
  rintro⟨bA,bB⟩
  refine zE (zA (zB (wP rfl (wB 6 rfl rfl rfl (wP rfl (wP rfl (wB 6 rfl rfl rfl (wP rfl ?_))))))))
  refine Fo Tryz.underlying4 rfl rfl rfl rfl rfl rfl ?_
  refine wP rfl ?_
  refine AR 30 rfl (fun h30=> ?_) (fun h30=> ?_)
  ·refine Ao rfl rfl ?_
   iterate 6 refine Ao rfl rfl ?_
   refine wP rfl (zC (zE (zR rfl (zA (zB (wS 0 rfl rfl rfl (zC (zE (zO (zQ ?_))))))))))
   refine Dw 3 (false,k) hrec rfl ⟨rfl,rfl,k,hk, ?_⟩ [_,_,_] rfl
   simp[EK,OY] at h30⊢
   simp[h30]
  ·refine wP rfl (wB 5 rfl rfl rfl (wP rfl (wP rfl (wB 6 rfl rfl rfl (wP rfl ?_)))))
   refine Fo Tryz.underlying4 rfl rfl rfl rfl rfl rfl ?_
   refine wP rfl (Aa (AP ?_))
   refine Al rfl (fun h=> ?_) (fun h=> ?_)
   ·refine zA (zB (wS 0 rfl rfl rfl (zC (zE (zO (zQ ?_))))))
    refine Dw 3 (false,k) hrec rfl ⟨rfl,rfl,k,hk, ?_⟩ [_,_,_] rfl
    simp[EK,OY] at h⊢
    intro _
    exact h
   ·refine zI (zN ?_)
    refine B5 3 (false,k+1) hrec rfl ⟨rfl,rfl,fun i hi=> ?_⟩ [_,_,_] rfl
    by_cases e:i=k
    ·subst e
     show OY _ _ _=true
     unfold OY
     rw[Bool.and_eq_true,Bool.not_eq_true',Bool.not_eq_true']
     exact⟨h30,h⟩
    ·exact hok i (by show i<k;have:i<k+1:=hi;omega)
 ·rintro⟨_,_⟩ d L rec ⟨rfl,rfl,hok⟩
  refine zN (zE (zA (zB (wS 0 rfl rfl rfl (zC (zE (zO ?_)))))))
  refine Dp 2 rfl ?_
  have hs:shp l=true:=by simp only[shp,Bool.and_eq_true,decide_eq_true_eq,List.all_eq_true];exact⟨h4,fun i hi=>hok i (List.mem_range.1 hi)⟩
  exact Af tH rfl (.cell 0 rfl rfl rfl rfl rfl) () (by rw[hs]) trivial fun W _=>Ag.nil _ _
 ·rintro⟨_,_⟩ d L rec c ⟨rfl,rfl,k,hk,hf⟩
  refine zO (zQ (zP ?_))
  refine Dp 2 rfl ?_
  have hs:=Uw hk hf
  exact Af tH rfl (.cell 0 rfl rfl rfl rfl rfl) () (by rw[hs]) trivial fun W _=>Ag.nil _ _
end
section
-- OLD
open Go Go.RowKit Go.Am
set_option maxRecDepth 10000
-- BOXES 6
def btw (n a b:Int):Bool:=decide (a≤n)&&decide (n≤b)
theorem FF (n a b:Int):Bv Tryz.prog 166 [.int .i64 n, .int .i64 a, .int .i64 b] (.bool (btw n a b)):=by
 intro W
 refine Ad Tryz.func166 rfl rfl rfl ?_
 refine zA (zB (wP rfl (zC (zE (zA (zB (wP rfl (wP rfl (wP rfl (wP rfl ?_))))))))))
 refine AR 10 rfl (fun h10=> ?_) (fun h10=> ?_)
 ·refine wP rfl (wP rfl (wP rfl (wP rfl (wP rfl (zC (zE (zO ?_)))))))
  exact Af tH rfl (.tmp rfl) () (by simp_all [btw]) trivial fun W _=>Ag.nil _ _
 ·refine Ao rfl rfl ?_
  iterate 2 refine Ao rfl rfl ?_
  refine wP rfl (wP rfl (zC (zE (zO ?_))))
  exact Af tH rfl (.tmp rfl) () (by simp_all [btw]<;>intros<;>omega) trivial fun W _=>Ag.nil _ _
def rgd (s:Sd):Bool:=(if s.gable then s.rise==0&&s.run==0 else btw s.rise 1 48&&btw s.run 1 48)&&(btw s.x 0 65536&&btw s.y 0 65536&&btw s.plate 0 65536&&btw s.over 0 65536)
def num (s:Sd):Nat→Int
 |0=>s.x
 |1=>s.y
 |2=>s.plate
 |_=>s.over
theorem Jf (s:Sd):Bv Tryz.prog 91 [s.val] (.bool (rgd s)):=by
 intro W
 refine Ad Tryz.func91 rfl rfl rfl ?_
 (refine AL ?_;refine DR ?_)
 refine A0 rfl rfl rfl rfl ?_
 intro
 refine wP rfl (Aa (AP ?_))
 rename_i b1
 refine Gy (X:=Unit) (fun _=>[(1, .pointer (some ⟨b1,0,none⟩))]) (fun _=>[⟨b1,42,s.cells,true,none⟩]) (fun _=>(if s.gable then s.rise==0&&s.run==0 else btw s.rise 1 48&&btw s.run 1 48)=true) ?_ ?_
 ·(refine AL ?_;refine DR ?_)
  refine wP rfl (wB 0 rfl rfl rfl (Aa (AP ?_)))
  refine Al rfl (fun hg=> ?_) (fun hg=> ?_)
  ·(refine AL ?_;refine DR ?_)
   refine wP rfl (wB 0 rfl rfl rfl (wP rfl (wP rfl ?_)))
   refine AR 10 rfl (fun h10=> ?_) (fun h10=> ?_)
   ·refine Ao rfl rfl ?_
    iterate 2 refine Ao rfl rfl ?_
    refine wP rfl (zC (zE (zR rfl (zA (zB (wP rfl (zC (zE (zO (zP ?_))))))))))
    exact Af tH rfl (.tmp rfl) () (by simp_all [rgd]) trivial fun W _=>Ag.nil _ _
   ·refine wP rfl (wB 0 rfl rfl rfl (wP rfl (wP rfl (Aa (AP ?_)))))
    refine Al rfl (fun h14=> ?_) (fun h14=> ?_)
    ·refine zA (zB (wP rfl (zC (zE (zO (zP ?_))))))
     exact Af tH rfl (.tmp rfl) () (by simp_all [rgd]) trivial fun W _=>Ag.nil _ _
    ·refine zI ?_
     exact AH () (by simp_all) ⟨rfl,trivial⟩ [] rfl
  ·(refine AL ?_;refine DR ?_)
   refine wP rfl (wB 0 rfl rfl rfl ?_)
   refine Ab rfl rfl rfl rfl rfl rfl (by kernel_rfl) (fun W _=>FF _ _ _ W) ?_
   refine wP rfl (wP rfl ?_)
   refine AR 19 rfl (fun h19=> ?_) (fun h19=> ?_)
   ·refine Ao rfl rfl ?_
    iterate 3 refine Ao rfl rfl ?_
    refine wP rfl (zC (zE (zR rfl (zA (zB (wP rfl (zC (zE (zO (zP ?_))))))))))
    exact Af tH rfl (.tmp rfl) () (by simp_all [rgd]) trivial fun W _=>Ag.nil _ _
   ·refine wP rfl (wB 0 rfl rfl rfl ?_)
    refine Ab rfl rfl rfl rfl rfl rfl (by kernel_rfl) (fun W _=>FF _ _ _ W) ?_
    refine wP rfl (wP rfl (Aa (AP ?_)))
    refine Al rfl (fun h14=> ?_) (fun h14=> ?_)
    ·refine zA (zB (wP rfl (zC (zE (zO (zP ?_))))))
     exact Af tH rfl (.tmp rfl) () (by simp_all [rgd]) trivial fun W _=>Ag.nil _ _
    ·refine zI ?_
     exact AH () (by simp_all) ⟨rfl,trivial⟩ [] rfl
 ·intro _ hg
  refine zA (zA (zB (wP rfl (wB 0 rfl rfl rfl (wP rfl (wB 0 rfl rfl rfl (wP rfl (wB 0 rfl rfl rfl (wP rfl (wB 0 rfl rfl rfl ?_))))))))))
  refine K9 (.int .i64 0) tH rfl rfl rfl rfl rfl (fun W=>by kernel_rfl) rfl rfl (by rfl) (by rfl) rfl fun b33=> ?_
  refine wP rfl (wP rfl (zC (zE (zH ?_))))
  refine Az (X:=Nat) (fun k=>[(33, .slice (some ⟨b33,0,none⟩) 4 4),(34, .int .i64 4),(35, .int .i64 (k:Nat))]) (fun _=>[⟨b1,42,s.cells,true,none⟩,⟨b33,3,[.int .i64 s.x, .int .i64 s.y, .int .i64 s.plate, .int .i64 s.over],true,none⟩])
   (fun k=>k≤4∧ ∀i,i<k→btw (num s i) 0 65536=true) (fun k=>4-k) 0 ⟨by omega,fun i hi=>by omega⟩ ⟨rfl,rfl,rfl,trivial⟩ [] rfl ?_
  rintro k ⟨hk,hin⟩
  (refine AL ?_;refine DR ?_)
  refine wP rfl (Aa (AP ?_))
  refine Gy (X:=Unit) (fun _=>[(33, .slice (some ⟨b33,0,none⟩) 4 4),(34, .int .i64 4),(35, .int .i64 (k:Nat))]) (fun _=>[⟨b1,42,s.cells,true,none⟩,⟨b33,3,[.int .i64 s.x, .int .i64 s.y, .int .i64 s.plate, .int .i64 s.over],true,none⟩]) (fun _=>k<4) ?_ ?_
  ·skip
   refine Al rfl (fun h=> ?_) (fun h=> ?_)
   ·refine zI ?_
    exact AH () (by simp at h;omega) ⟨rfl,rfl,rfl,trivial⟩ [] rfl
   ·refine zJ (zK (zK (zL (zE (zA (zB (wP rfl (zC (zE (zO ?_))))))))))
    have:k=4:=by simp at h;omega
    subst this
    exact Af tH rfl (.tmp rfl) () (by have h0:=hin 0 (by omega);have h1:=hin 1 (by omega);have h2:=hin 2 (by omega);have h3:=hin 3 (by omega);simp only[num] at h0 h1 h2 h3;simp[rgd,h0,h1,h2,h3,hg]) trivial fun W _=>Ag.nil _ _
  ·intro _ hk
   refine zA (zH (zA (zB ?_)))
   refine wJ ?_
   refine Av (v:= .int .i64 (num s k)) rfl rfl rfl rfl (fun W hp=>KM (k:=1) tH rfl rfl rfl (by
    match k,hk with
    |0,_=>rfl
    |1,_=>rfl
    |2,_=>rfl
    |3,_=>rfl) W hp) ?_
   refine wP rfl (zC (zE (zA (zB (wP rfl ?_)))))
   refine Ab rfl rfl rfl rfl rfl rfl (by kernel_rfl) (fun W _=>FF _ _ _ W) ?_
   refine wP rfl (Aa (AP ?_))
   refine Al rfl (fun h=> ?_) (fun h=> ?_)
   ·refine zA (zB (wP rfl (zC (zE (zO (zQ (zP (zP (zQ (zP ?_))))))))))
    have h:btw (num s k) 0 65536=false:=by simpa using h
    have hr:rgd s=false:=by
     match k,hk with
     |0,_=>simp only[num] at h;simp[rgd,h]
     |1,_=>simp only[num] at h;simp[rgd,h]
     |2,_=>simp only[num] at h;simp[rgd,h]
     |3,_=>simp only[num] at h;simp[rgd,h]
    exact Af tH rfl (.tmp rfl) () (by rw[hr]) trivial fun W _=>Ag.nil _ _
   ·refine zI (zN (zE (zB (wP rfl (wP rfl (zC ?_))))))
    refine At (k+1) ⟨hk,fun i hi=> ?_⟩ (by omega) ⟨rfl,rfl,congrArg (fun z=>some (Value.int .i64 z)) (A6 (x:=(k:Int)+1) (by omega) (by omega)),trivial⟩ [] rfl
    by_cases e:i=k
    ·subst e;simpa using h
    ·exact hin i (by omega)
end
section
open Go Go.RowKit Go.Am
set_option maxRecDepth 10000
-- BOXES 2
-- USES Jf
def Fm {α:Type} (f:α→Bool):List α→Nat→Int
 |[],_=> -1
 |x::l,k=>if f x=true then(k:Int) else Fm f l (k+1)
theorem KV {α:Type} (f:α→Bool): ∀(l:List α) (k:Nat),decide (Fm f l k≥0)=l.any f
 |[],k=>by simp[Fm]
 |x::l,k=>by
  unfold Fm
  by_cases h:f x=true
  ·rw[if_pos h,List.any_cons,h,Bool.true_or,decide_eq_true_iff];omega
  ·rw[if_neg h,KV f l (k+1),List.any_cons]
   simp[h]
theorem ME (g:Nat) (hE:Bk Tryz.prog g=true) (f:Sd→Bool) (hf: ∀s,Bv Tryz.prog g [s.val] (.bool (f s))) (W:World) (p:Option Addr) (cap:Nat) (l:List Sd) (hn:l.length<4611686018427387904) (hR:Br W p l):
  Ai Tryz.prog 109 #[slv p l.length cap, .func (.func g) #[] #[]] W (fun _:Unit=> .int .i64 (Fm f l 0)) (fun _=>True) (fun _=>[]):=by
 refine Ad (args:=[slv p l.length cap, .func (.func g) #[] #[]]) Tryz.func109 rfl rfl rfl ?_
 refine zA (zB (wP rfl (Aa (zE (zA (zA (zB (wP rfl (wP rfl (wP rfl (Aa (zE (zH ?_)))))))))))))
 refine Az (X:=Nat) (fun k=>[(0,slv p l.length cap),(1, .func (.func g) #[] #[]),(7, .int .i64 (l.length:Nat)),(8, .int .i64 (k:Nat))]) (fun _=>[])
  (fun k=>k≤l.length∧Fm f l 0=Fm f (l.drop k) k) (fun k=>l.length-k) 0 ⟨Nat.zero_le _,rfl⟩ ⟨rfl,rfl,rfl,rfl,trivial⟩ [] rfl ?_
 rintro k ⟨hk,hi⟩
 refine zA (zB (wP rfl (Aa (zE (zA ?_)))))
 refine Al rfl (fun h=> ?_) (fun h=> ?_)
 rotate_left
 ·refine zJ (zK (zK (zL (zE (zA (zB (wP rfl (Aa (zE (zO ?_))))))))))
  have e:k=l.length:=by simp at h;omega
  rw[e,List.drop_length] at hi
  exact Af tH rfl (.tmp rfl) () (by rw[hi];rfl) trivial fun W _=>Ag.nil _ _
 ·have hk:k<l.length:=by simp at h;omega
  clear h
  obtain⟨b,off,rfl,hrow⟩:=hR.row hk
  refine zI (zE (zA (zH (zA (zB (wP rfl (wP rfl (Aa (zE (zA (zB (wP rfl (wP rfl (wP rfl ?_))))))))))))))
  refine wJ ?_
  refine Av rfl rfl rfl rfl (fun W hp=>Ae.load 0 tH rfl ((fun W hp=>(hrow k hk).hp hp) W hp) rfl) ?_
  refine Ab (g:=g) (v:= .bool (f (sd l k))) rfl rfl rfl rfl rfl rfl hE (fun W _=>hf (sd l k) W) ?_
  have hd:l.drop k=sd l k::l.drop (k+1):=by
   rw[List.drop_eq_getElem_cons hk];simp[sd,hk]
  have hstep:Fm f (l.drop k) k=if f (sd l k)=true then(k:Int) else Fm f (l.drop (k+1)) (k+1):=by rw[hd];rfl
  rw[hstep] at hi
  refine zC (zE ?_)
  refine Al rfl (fun h=> ?_) (fun h=> ?_)
  ·refine zA (zB (wP rfl (wP rfl (Aa (zE (zO (zQ (zP (zP (zQ (zP ?_)))))))))))
   rw[if_pos h] at hi
   exact Af tH rfl (.tmp rfl) () (by rw[hi]) trivial fun W _=>Ag.nil _ _
  ·refine zI (zN (zE (zB (wP rfl (wP rfl (Aa ?_))))))
   rw[if_neg (by rw[h];decide)] at hi
   exact At (k+1) ⟨hk,hi⟩ (by omega) ⟨rfl,rfl,rfl,congrArg (fun z=>some (Value.int .i64 z)) (A6 (x:=(k:Int)+1) (by omega) (by omega)),trivial⟩ [] rfl
theorem Gn (g:Nat) (hE:Bk Tryz.prog g=true) (f:Sd→Bool) (hf: ∀s,Bv Tryz.prog g [s.val] (.bool (f s))) (W:World) (p:Option Addr) (cap:Nat) (l:List Sd) (hn:l.length<4611686018427387904) (hR:Br W p l):
  Ai Tryz.prog 89 #[slv p l.length cap, .func (.func g) #[] #[]] W (fun _:Unit=> .bool (l.any f)) (fun _=>True) (fun _=>[]):=by
 refine Ad (args:=[slv p l.length cap, .func (.func g) #[] #[]]) Tryz.func89 rfl rfl rfl ?_
 refine zA (zB (wP rfl (zC (zE (zA (zB (wP rfl (wP rfl ?_))))))))
 refine Ab rfl rfl rfl rfl rfl rfl (by kernel_rfl) (fun W hp=>ME g hE f hf W p cap l hn (hR.hp hp)) ?_
 refine wP rfl (wP rfl (zC (zE (zO ?_))))
 exact Af tH rfl (.tmp rfl) () (by rw[KV]) trivial fun W _=>Ag.nil _ _
theorem MV (g:Nat) (hE:Bk Tryz.prog g=true) (f:List Sd→Bool) (hf: ∀W p cap l,l.length<4611686018427387904→Br W p l→Ai Tryz.prog g #[slv p l.length cap] W (fun _:Unit=> .bool (f l)) (fun _=>True) (fun _=>[])) (W:World) (p:Option Addr) (cap:Nat) (rs:List (List Sd)) (hn:rs.length<4611686018427387904) (hl: ∀l∈rs,l.length<4611686018427387904) (hR:AY W p rs):
  Ai Tryz.prog 167 #[slv p rs.length cap, .func (.func g) #[] #[]] W (fun _:Unit=> .int .i64 (Fm f rs 0)) (fun _=>True) (fun _=>[]):=by
 refine Ad (args:=[slv p rs.length cap, .func (.func g) #[] #[]]) Tryz.func167 rfl rfl rfl ?_
 refine zA (zB (wP rfl (Aa (zE (zA (zA (zB (wP rfl (wP rfl (wP rfl (Aa (zE (zH ?_)))))))))))))
 refine Az (X:=Nat) (fun k=>[(0,slv p rs.length cap),(1, .func (.func g) #[] #[]),(7, .int .i64 (rs.length:Nat)),(8, .int .i64 (k:Nat))]) (fun _=>[])
  (fun k=>k≤rs.length∧Fm f rs 0=Fm f (rs.drop k) k) (fun k=>rs.length-k) 0 ⟨Nat.zero_le _,rfl⟩ ⟨rfl,rfl,rfl,rfl,trivial⟩ [] rfl ?_
 rintro k ⟨hk,hi⟩
 refine zA (zB (wP rfl (Aa (zE (zA ?_)))))
 refine Al rfl (fun h=> ?_) (fun h=> ?_)
 rotate_left
 ·refine zJ (zK (zK (zL (zE (zA (zB (wP rfl (Aa (zE (zO ?_))))))))))
  have e:k=rs.length:=by simp at h;omega
  rw[e,List.drop_length] at hi
  exact Af tH rfl (.tmp rfl) () (by rw[hi];rfl) trivial fun W _=>Ag.nil _ _
 ·have hk:k<rs.length:=by simp at h;omega
  clear h
  obtain⟨b,off,rfl,hrow⟩:=hR.row hk
  obtain⟨q,cap2,hq1,hq2⟩:=hrow k hk
  refine zI (zE (zA (zH (zA (zB (wP rfl (wP rfl (Aa (zE (zA (zB (wP rfl (wP rfl (wP rfl ?_))))))))))))))
  refine wJ ?_
  refine Av rfl rfl rfl rfl (fun W hp=>Ae.load 0 tH rfl ((fun W hp=>hq1.hp hp) W hp) rfl) ?_
  refine Ab (g:=g) (v:= .bool (f (rg rs k))) rfl rfl rfl rfl rfl rfl hE (fun W hp=>hf W q cap2 (rg rs k) (hl _ (List.mem_of_getElem? (AN hk))) (hq2.hp hp)) ?_
  have hd:rs.drop k=rg rs k::rs.drop (k+1):=by
   rw[List.drop_eq_getElem_cons hk];simp[rg,hk]
  have hstep:Fm f (rs.drop k) k=if f (rg rs k)=true then(k:Int) else Fm f (rs.drop (k+1)) (k+1):=by rw[hd];rfl
  rw[hstep] at hi
  refine zC (zE ?_)
  refine Al rfl (fun h=> ?_) (fun h=> ?_)
  ·refine zA (zB (wP rfl (wP rfl (Aa (zE (zO (zQ (zP (zP (zQ (zP ?_)))))))))))
   rw[if_pos h] at hi
   exact Af tH rfl (.tmp rfl) () (by rw[hi]) trivial fun W _=>Ag.nil _ _
  ·refine zI (zN (zE (zB (wP rfl (wP rfl (Aa ?_))))))
   rw[if_neg (by rw[h];decide)] at hi
   exact At (k+1) ⟨hk,hi⟩ (by omega) ⟨rfl,rfl,rfl,congrArg (fun z=>some (Value.int .i64 z)) (A6 (x:=(k:Int)+1) (by omega) (by omega)),trivial⟩ [] rfl
theorem JV (g:Nat) (hE:Bk Tryz.prog g=true) (f:List Sd→Bool) (hf: ∀W p cap l,l.length<4611686018427387904→Br W p l→Ai Tryz.prog g #[slv p l.length cap] W (fun _:Unit=> .bool (f l)) (fun _=>True) (fun _=>[])) (W:World) (p:Option Addr) (cap:Nat) (rs:List (List Sd)) (hn:rs.length<4611686018427387904) (hl: ∀l∈rs,l.length<4611686018427387904) (hR:AY W p rs):
  Ai Tryz.prog 92 #[slv p rs.length cap, .func (.func g) #[] #[]] W (fun _:Unit=> .bool (rs.any f)) (fun _=>True) (fun _=>[]):=by
 refine Ad (args:=[slv p rs.length cap, .func (.func g) #[] #[]]) Tryz.func92 rfl rfl rfl ?_
 refine zA (zB (wP rfl (zC (zE (zA (zB (wP rfl (wP rfl ?_))))))))
 refine Ab rfl rfl rfl rfl rfl rfl (by kernel_rfl) (fun W hp=>MV g hE f hf W p cap rs hn hl (hR.below (Nat.le_refl _) hp.below)) ?_
 refine wP rfl (wP rfl (zC (zE (zO ?_))))
 exact Af tH rfl (.tmp rfl) () (by rw[KV]) trivial fun W _=>Ag.nil _ _
theorem NY (s:Sd):Bv Tryz.prog 90 [s.val] (.bool (!rgd s)):=by
 intro W
 refine Ad Tryz.func90 rfl rfl rfl ?_
 refine zA (zB ?_)
 refine A0 rfl rfl rfl rfl ?_
 intro
 refine wP rfl (zC (zE (zA (zB (wB 0 rfl rfl rfl ?_)))))
 refine Ab rfl rfl rfl rfl rfl rfl (by kernel_rfl) (fun W _=>(Jf ..)) ?_
 refine wP rfl (wP rfl (zC (zE (zO ?_))))
 exact Af tH rfl (.tmp rfl) () rfl trivial fun W _=>Ag.nil _ _
theorem Oq (W:World) (p:Option Addr) (cap:Nat) (l:List Sd) (hn:l.length<4611686018427387904) (hR:Br W p l):
  Ai Tryz.prog 93 #[slv p l.length cap] W (fun _:Unit=> .bool (!shp l)) (fun _=>True) (fun _=>[]):=by
 refine Ad (args:=[slv p l.length cap]) Tryz.func93 rfl rfl rfl ?_
 refine zA (zB (wP rfl (zC (zE (zA (zB (wP rfl ?_)))))))
 refine Ab rfl rfl rfl rfl rfl rfl (by kernel_rfl) (fun W hp=>Py W p cap l hn (hR.hp hp)) ?_
 refine wP rfl (wP rfl (zC (zE (zO ?_))))
 exact Af tH rfl (.tmp rfl) () rfl trivial fun W _=>Ag.nil _ _
end
section
-- OLD
open Go Go.RowKit Go.Am
set_option maxRecDepth 10000
-- BOXES 8
-- EQB 4
def CS (t u:Sd) (px py:Int):Bool:=(w64 (u.x-t.x)==0)&&decide (t.x>px)&& !(decide (t.y>py)==decide (u.y>py))
def BA (l:List Sd) (px py:Int):Nat→Bool
 |0=>false
 |k+1=>if CS (sd l k) (sd l (nxt l.length k)) px py=true then !BA l px py k else BA l px py k
theorem Po (W:World) (p:Option Addr) (cap:Nat) (l:List Sd) (px py:Int) (hn:l.length<4611686018427387904) (hR:Br W p l):
  Ai Tryz.prog 174 #[slv p l.length cap,spot px py] W (fun _:Unit=> .bool (BA l px py l.length)) (fun _=>True) (fun _=>[]):=by
 refine Ad (args:=[slv p l.length cap,spot px py]) Tryz.func174 rfl rfl rfl ?_
 refine zA (zB ?_)
 refine A0 rfl rfl rfl rfl ?_
 intro
 refine wP rfl (zC (zE (zA (zB ?_))))
 rename_i b3
 refine Bm (z:= .bool false) rfl rfl rfl (fun W=>by kernel_rfl) fun b5=> ?_
 refine wS 1 rfl rfl rfl (zC (zE (zA (zA (zB (wP rfl ?_))))))
 refine Ay (X:=Nat) rfl rfl rfl rfl rfl rfl (by kernel_rfl) (fun W _=>EE p l.length cap W) ?_
 intro b _
 refine zC (zE (zH ?_))
 refine Eg (X:=Bool×Nat) (fun x=>[⟨b3,147,(spot px py).cells.toList,true,none⟩,⟨b5,4,[.bool x.1],true,none⟩,⟨b,32,[slv p l.length cap],true,none⟩]) (fun k x=>x.2=k∧x.1=BA l px py k) (fun _ _=>False) (false,0) rfl (by kernel_rfl) (Fd b p cap l hn) (fun _=>rfl) ⟨rfl,rfl⟩ [] rfl (fun k x W _ hp=>DN.mk' hR hp 2 rfl) ?_ ?_ (fun _ _ _ _ _ h=>h.elim)
 ·rintro j ⟨i,k⟩ d L rec hk ⟨hj,hi⟩ hrec
  obtain rfl:k=j:=hj
  obtain rfl:i=BA l px py k:=hi
  refine zB ?_
  refine Bm (z:=GP default default default) rfl rfl rfl (fun W=>by kernel_rfl) fun b7=> ?_
  refine wS 5 rfl rfl rfl (zC ?_)
  refine CL 4 hrec rfl ?_
  refine zH (zA (zB (wP rfl (wB 5 rfl rfl rfl ?_))))
  refine Ab rfl rfl rfl rfl rfl rfl (by kernel_rfl) (fun W _=>Bl (sd l k) W) ?_
  refine Bm (z:=spot 0 0) rfl rfl rfl (fun W=>by kernel_rfl) fun b8=> ?_
  refine wS 6 rfl rfl rfl (zC (zE (zA (zB (wB 5 rfl rfl rfl ?_)))))
  refine Ab rfl rfl rfl rfl rfl rfl (by kernel_rfl) (fun W _=>J9 (sd l (prv l.length k)) (sd l k) (sd l (nxt l.length k)) W) ?_
  refine wP rfl (wP rfl (wP rfl ?_))
  have no:CS (sd l k) (sd l (nxt l.length k)) px py=false→BA l px py (k+1)=BA l px py k:=fun h=>by simp[BA,h]
  have yes:CS (sd l k) (sd l (nxt l.length k)) px py=true→BA l px py (k+1)= !BA l px py k:=fun h=>by simp[BA,h]
  refine AR 20 rfl (fun h20=> ?_) (fun h20=> ?_)
  ·refine wP rfl (wB 6 rfl rfl rfl (wP rfl (wB 0 rfl rfl rfl (wP rfl (wP rfl (wP rfl ?_))))))
   refine AR 27 rfl (fun h27=> ?_) (fun h27=> ?_)
   ·refine wP rfl (wB 6 rfl rfl rfl (wP rfl (wB 0 rfl rfl rfl (wP rfl (wP rfl (wP rfl (wB 5 rfl rfl rfl (wP rfl (wB 0 rfl rfl rfl (wP rfl ?_))))))))))
    refine Fo Tryz.underlying4 rfl rfl rfl rfl rfl rfl ?_
    refine wP rfl (Aa (AP ?_))
    refine Al rfl (fun h=> ?_) (fun h=> ?_)
    ·refine zB (wB 1 rfl rfl rfl (wP rfl (wS 1 rfl rfl rfl (zC (zN ?_)))))
     exact B5 4 (!BA l px py k,k+1) hrec rfl ⟨rfl,(yes (by simp_all [CS])).symm⟩ [_,_] rfl
    ·refine zI (zN ?_)
     exact B5 4 (BA l px py k,k+1) hrec rfl ⟨rfl,(no (by simp_all [CS])).symm⟩ [_,_] rfl
   ·refine Ao rfl rfl ?_
    iterate 11 refine Ao rfl rfl ?_
    refine wP rfl (zC (zE (zS rfl (zI (zN ?_)))))
    exact B5 4 (BA l px py k,k+1) hrec rfl ⟨rfl,(no (by simp_all [CS]<;>(intros;omega))).symm⟩ [_,_] rfl
  ·refine Ao rfl rfl ?_
   iterate 4 refine Ao rfl rfl ?_
   refine wP rfl (wP rfl ?_)
   iterate 12 refine Ao rfl rfl ?_
   refine wP rfl (zC (zE (zS rfl (zI (zN ?_)))))
   exact B5 4 (BA l px py k,k+1) hrec rfl ⟨rfl,(no (by simp_all [CS])).symm⟩ [_,_] rfl
 ·rintro⟨i,j⟩ d L rec ⟨hj,hi⟩
  obtain rfl:j=l.length:=hj
  obtain rfl:i=BA l px py l.length:=hi
  refine zN (zE (zA (zB (wB 1 rfl rfl rfl (wP rfl (zC (zE (zO ?_))))))))
  refine Dp 3 rfl ?_
  exact Af tH rfl (.tmp rfl) () rfl trivial fun W _=>Ag.nil _ _
end
section
open Go Go.RowKit Go.Am
set_option maxRecDepth 10000
-- BOXES 2
def Dz (rs:List (List Sd)) (i k:Nat):Bool:=(k==i||i==0)||(BA (rg rs k) (sd (rg rs i) 0).x (sd (rg rs i) 0).y (rg rs k).length==(k==0))
def Bz (rs:List (List Sd)) (i:Nat):Bool:=(decide (BP (rg rs i) (rg rs i).length>0)==(i==0))&&(List.range rs.length).all (Dz rs i)
def plc (rs:List (List Sd)):Bool:=(List.range rs.length).all (Bz rs)
theorem BK {n:Nat} {f:Nat→Bool} {k:Nat} (hk:k<n) (h:f k=false):(List.range n).all f=false:=Bool.eq_false_iff.2 fun h2=>by
 have:=List.all_eq_true.1 h2 k (List.mem_range.2 hk)
 rw[h] at this;cases this
theorem C7 (a b:Nat):((a:Int)==(b:Int))=(a==b):=by
 by_cases h:a=b
 ·subst h;rw[beq_self_eq_true,beq_self_eq_true]
 ·have h1:(a:Int)≠b:=by omega
  rw[beq_eq_false_iff_ne.2 h1,beq_eq_false_iff_ne.2 h]
theorem OE (W:World) (p:Option Addr) (cap:Nat) (rs:List (List Sd)) (hn:rs.length<4611686018427387904) (hl: ∀l∈rs,l.length<4611686018427387904) (hne: ∀l∈rs,l≠[]) (hR:AY W p rs):
  Ai Tryz.prog 96 #[slv p rs.length cap] W (fun _:Unit=> .bool (plc rs)) (fun _=>True) (fun _=>[]):=by
 refine Ad (args:=[slv p rs.length cap]) Tryz.func96 rfl rfl rfl ?_
 refine zA (zB (wP rfl (Aa (zE (zA (zA (zB (wP rfl (wP rfl (wP rfl (Aa (zE (zH ?_)))))))))))))
 refine Az (X:=Nat) (fun i=>[(0,slv p rs.length cap),(7,slv p rs.length cap),(8, .int .i64 (rs.length:Nat)),(9, .int .i64 (i:Nat))]) (fun _=>[])
  (fun i=>i≤rs.length∧ ∀j,j<i→Bz rs j=true) (fun i=>rs.length-i) 0 ⟨Nat.zero_le _,fun j hj=>absurd hj (Nat.not_lt_zero _)⟩ ⟨rfl,rfl,rfl,rfl,trivial⟩ [] rfl ?_
 rintro i ⟨hi,hok⟩
 refine zA (zB (wP rfl (Aa (zE (zA ?_)))))
 refine Al rfl (fun h=> ?_) (fun h=> ?_)
 rotate_left
 ·have e:i=rs.length:=by simp at h;omega
  subst e
  refine zJ (zK (zK (zL (zE (zA (zB (wP rfl (Aa (zE (zO ?_))))))))))
  have:plc rs=true:=List.all_eq_true.2 fun j hj=>hok j (List.mem_range.1 hj)
  exact Af tH rfl (.tmp rfl) () (by rw[this]) trivial fun W _=>Ag.nil _ _
 have hi:i<rs.length:=by simp at h;omega
 clear h
 obtain⟨b,off,rfl,hrow⟩:=hR.row hi
 obtain⟨q,cap2,hq1,hq2⟩:=hrow i hi
 have hli:=hl _ (List.mem_of_getElem? (AN hi))
 have hnei:0<(rg rs i).length:=List.length_pos_iff.2 (hne _ (List.mem_of_getElem? (AN hi)))
 refine zI (zE (zA (zH (zA (zB (wP rfl ?_))))))
 refine wJ ?_
 refine Av rfl rfl rfl rfl (fun W hp=>Ae.load 0 tH rfl ((fun W hp=>hq1.hp hp) W hp) rfl) ?_
 refine wP rfl (wP rfl (Aa (zE (zA (zA (zB (wP rfl ?_)))))))
 refine Ab rfl rfl rfl rfl rfl rfl (by kernel_rfl) (fun W hp=>RG W q cap2 (rg rs i) hli (hq2.hp hp)) ?_
 refine wP rfl (wP rfl (wP rfl ?_))
 refine Fo Tryz.underlying4 rfl rfl rfl rfl rfl rfl ?_
 refine Aa (zE ?_)
 refine Al rfl (fun h=> ?_) (fun h=> ?_)
 ·refine zA (zB (wP rfl (Aa (zE (zO (zP (zQ (zP (zP (zQ (zP ?_)))))))))))
  have hf:plc rs=false:=BK hi (by
   unfold Bz
   rw[show(decide (BP (rg rs i) (rg rs i).length>0)==(i==0))=false by
    have h':=h
    rw[show((i:Int)==0)=(i==0) from C7 i 0] at h'
    simpa using h']
   rfl)
  exact Af tH rfl (.tmp rfl) () (by rw[hf]) trivial fun W _=>Ag.nil _ _
 have hA:(decide (BP (rg rs i) (rg rs i).length>0)==(i==0))=true:=by
  have h':=h
  rw[show((i:Int)==0)=(i==0) from C7 i 0] at h'
  simpa using h'
 clear h
 refine zI (zE (zA (zB (wP rfl (wP rfl (wP rfl (Aa (zE (zH ?_)))))))))
 refine Az (X:=Nat) (fun k=>[(0,slv (some ⟨b,off,none⟩) rs.length cap),(7,slv (some ⟨b,off,none⟩) rs.length cap),(8, .int .i64 (rs.length:Nat)),(9, .int .i64 (i:Nat)),(3, .int .i64 (i:Nat)),(4,slv q (rg rs i).length cap2),(20,slv (some ⟨b,off,none⟩) rs.length cap),(21, .int .i64 (rs.length:Nat)),(22, .int .i64 (k:Nat))]) (fun _=>[])
  (fun k=>k≤rs.length∧ ∀j,j<k→Dz rs i j=true) (fun k=>rs.length-k) 0 ⟨Nat.zero_le _,fun j hj=>absurd hj (Nat.not_lt_zero _)⟩ ⟨rfl,rfl,rfl,rfl,rfl,rfl,rfl,rfl,rfl,trivial⟩ [] rfl ?_
 rintro k ⟨hk,hokk⟩
 refine zA (zB (wP rfl (Aa (zE (zA ?_)))))
 refine Al rfl (fun h=> ?_) (fun h=> ?_)
 rotate_left
 ·have e:k=rs.length:=by simp at h;omega
  subst e
  refine zJ (zK (zK (zL (zN (zE (zB (wP rfl (wP rfl (Aa ?_)))))))))
  refine At (i+1) ⟨hi,fun j hj=> ?_⟩ (by omega) ⟨rfl,rfl,rfl,congrArg (fun z=>some (Value.int .i64 z)) (A6 (x:=(i:Int)+1) (by omega) (by omega)),trivial⟩ [] rfl
  by_cases e:j=i
  ·subst e
   unfold Bz
   rw[hA,Bool.true_and]
   exact List.all_eq_true.2 fun m hm=>hokk m (List.mem_range.1 hm)
  ·exact hok j (by omega)
 have hk:k<rs.length:=by simp at h;omega
 clear h
 obtain⟨q2,cap3,hq3,hq4⟩:=hrow k hk
 have hlk:=hl _ (List.mem_of_getElem? (AN hk))
 have next:Dz rs i k=true→ ∀j,j<k+1→Dz rs i j=true:=fun h j hj=>by
  by_cases e:j=k
  ·subst e;exact h
  ·exact hokk j (by omega)
 refine zI (zE (zA (zH (zA (zB (wP rfl ?_))))))
 refine wJ ?_
 refine Av rfl rfl rfl rfl (fun W hp=>Ae.load 0 tH rfl ((fun W hp=>hq3.hp hp) W hp) rfl) ?_
 refine wP rfl (wP rfl (Aa (zE (AL ?_))))
 refine Gy (X:=Unit) (fun _=>[(0,slv (some ⟨b,off,none⟩) rs.length cap),(7,slv (some ⟨b,off,none⟩) rs.length cap),(8, .int .i64 (rs.length:Nat)),(9, .int .i64 (i:Nat)),(3, .int .i64 (i:Nat)),(4,slv q (rg rs i).length cap2),(5, .int .i64 (k:Nat)),(6,slv q2 (rg rs k).length cap3),(20,slv (some ⟨b,off,none⟩) rs.length cap),(21, .int .i64 (rs.length:Nat)),(22, .int .i64 (k:Nat)),(33, .bool (k==i||i==0))]) (fun _=>[]) (fun _=>True) ?_ ?_
 ·refine zB (wP rfl (wP rfl (wP rfl (wP rfl ?_))))
  refine AR 30 rfl (fun h30=> ?_) (fun h30=> ?_)
  ·have e:(k==i||i==0)=true:=by
    have:(k==i)=true:=by rw[←C7];exact h30
    rw[this];rfl
   iterate 2 refine Ao rfl rfl ?_
   refine wP rfl (Aa ?_)
   exact AH () trivial ⟨rfl,rfl,rfl,rfl,rfl,rfl,rfl,rfl,rfl,rfl,rfl,by rw[e];rfl,trivial⟩ [] rfl
  ·have e:(k==i||i==0)=((i:Int)==0):=by
    have:(k==i)=false:=by rw[←C7];exact h30
    rw[this,Bool.false_or];exact(C7 i 0).symm
   refine wP rfl (wP rfl (wP rfl (Aa ?_)))
   exact AH () trivial ⟨rfl,rfl,rfl,rfl,rfl,rfl,rfl,rfl,rfl,rfl,rfl,by rw[e];rfl,trivial⟩ [] rfl
 intro _ _
 refine Al rfl (fun h=> ?_) (fun h=> ?_)
 ·refine zJ (zK (zL (zE (zB (wP rfl (wP rfl (Aa ?_)))))))
  exact At (k+1) ⟨hk,next (by unfold Dz;rw[h];rfl)⟩ (by omega) ⟨rfl,rfl,rfl,rfl,rfl,rfl,rfl,rfl,congrArg (fun z=>some (Value.int .i64 z)) (A6 (x:=(k:Int)+1) (by omega) (by omega)),trivial⟩ [] rfl
 obtain⟨b3,off3,rfl,hrow3⟩:=hq2.row hnei
 refine zI (zE (zA (zB (wP rfl (wP rfl ?_)))))
 refine wJ ?_
 refine Av rfl rfl rfl rfl (fun W hp=>Ae.load 0 tH rfl ((fun W hp=>(hrow3 0 hnei).hp hp) W hp) rfl) ?_
 refine Ab rfl rfl rfl rfl rfl rfl (by kernel_rfl) (fun W _=>(Bl ..)) ?_
 refine Ab rfl rfl rfl rfl rfl rfl (by kernel_rfl) (fun W hp=>Po W q2 cap3 (rg rs k) _ _ hlk (hq4.hp hp)) ?_
 refine wP rfl (wP rfl ?_)
 refine Fo Tryz.underlying4 rfl rfl rfl rfl rfl rfl ?_
 refine Aa (zE ?_)
 refine Al rfl (fun h2=> ?_) (fun h2=> ?_)
 ·refine zA (zB (wP rfl (Aa (zE (zO (zQ (zP (zP (zQ (zQ (zP (zP (zQ ?_)))))))))))))
  refine zP ?_
  have hf:plc rs=false:=BK hi (by
   unfold Bz
   rw[BK hk (by
    unfold Dz
    rw[h,Bool.false_or]
    have h':=h2
    rw[show((k:Int)==0)=(k==0) from C7 k 0] at h'
    simpa using h'),Bool.and_false])
  exact Af tH rfl (.tmp rfl) () (by rw[hf]) trivial fun W _=>Ag.nil _ _
 ·refine zI (zN (zE (zB (wP rfl (wP rfl (Aa ?_))))))
  refine At (k+1) ⟨hk,next ?_⟩ (by omega) ⟨rfl,rfl,rfl,rfl,rfl,rfl,rfl,rfl,congrArg (fun z=>some (Value.int .i64 z)) (A6 (x:=(k:Int)+1) (by omega) (by omega)),trivial⟩ [] rfl
  unfold Dz
  rw[h,Bool.false_or]
  have h':=h2
  rw[show((k:Int)==0)=(k==0) from C7 k 0] at h'
  simpa using h'
end
section
-- OLD
open Go Go.RowKit Go.Am
set_option maxRecDepth 10000
-- BOXES 8
-- EQB 4
def EM (s t u:Sd):Bool:=decide (w64 (w64 (w64 (t.x-s.x)*w64 (u.y-t.y))-w64 (w64 (t.y-s.y)*w64 (u.x-t.x)))>0)
def IQ (s t u:Sd):Bool:=EM s t u||(!t.gable&& !s.gable&&(t.plate==s.plate))
def Ck (l:List Sd) (k:Nat):Bool:=IQ (sd l (prv l.length k)) (sd l k) (sd l (nxt l.length k))
def AT (l:List Sd) (b:Bool):Nat→Bool
 |0=>b
 |k+1=>AT l b k|| !(sd l k).gable
def AQ (rs:List (List Sd)):Nat→Bool
 |0=>false
 |k+1=>AT (rg rs k) (AQ rs k) (rg rs k).length
def CH (l:List Sd):Bool:=(List.range l.length).all (Ck l)
def jnd (rs:List (List Sd)):Bool:=rs.all CH&&AQ rs rs.length
theorem OH (W:World) (p:Option Addr) (cap:Nat) (rs:List (List Sd)) (hn:rs.length<4611686018427387904) (hl: ∀l∈rs,l.length<4611686018427387904) (hR:AY W p rs):
  Ai Tryz.prog 97 #[slv p rs.length cap] W (fun _:Unit=> .bool (jnd rs)) (fun _=>True) (fun _=>[]):=by
 refine Ad (args:=[slv p rs.length cap]) Tryz.func97 rfl rfl rfl ?_
 refine zA (zB ?_)
 refine Bm (z:= .bool false) rfl rfl rfl (fun W=>by kernel_rfl) fun b2=> ?_
 refine zC (zE (zA (zB ?_)))
 refine Bm (z:= .bool false) rfl rfl rfl (fun W=>by kernel_rfl) fun b3=> ?_
 refine wS 1 rfl rfl rfl (zC (zE (zA (zA (zB (wP rfl (wP rfl (wP rfl (zC (zE (zH ?_)))))))))))
 refine Nd ?_
 refine Mz (X:=Nat×Bool×List Nat) (fun x=>x.2.2.map Dh) (fun x=>[(2, .pointer (some ⟨b2,0,none⟩)),(3, .pointer (some ⟨b3,0,none⟩)),(8,slv p rs.length cap),(9, .int .i64 (rs.length:Nat)),(10, .int .i64 (x.1:Nat))])
  (fun x=>[⟨b2,4,[.bool false],true,none⟩,⟨b3,4,[.bool x.2.1],true,none⟩,bag x.2.2]) (fun x=>x.1≤rs.length∧x.2.1=AQ rs x.1∧ ∀i,i<x.1→CH (rg rs i)=true) (fun x=>rs.length-x.1) (0,false,[])
  ⟨Nat.zero_le _,rfl,fun i hi=>absurd hi (Nat.not_lt_zero _)⟩ rfl ⟨rfl,rfl,rfl,rfl,rfl,trivial⟩ [] rfl ?_
 rintro⟨k,sm,ds⟩ ⟨hk,hsm,hok⟩
 have hk:k≤rs.length:=hk
 obtain rfl:sm=AQ rs k:=hsm
 refine zA (zB (wP rfl (zC (zE (zA ?_)))))
 refine Al rfl (fun h=> ?_) (fun h=> ?_)
 rotate_left
 ·refine zJ (zK (zK (zL (zE (zA (zB (wB 1 rfl rfl rfl (wS 0 rfl rfl rfl (zC (zE (zO ?_)))))))))))
  refine GW 2 ds rfl ?_
  have e:k=rs.length:=by simp at h;omega
  subst e
  have hj:jnd rs=AQ rs rs.length:=by
   have:rs.all CH=true:=List.all_eq_true.2 fun l hl=>by
    obtain⟨i,hi,rfl⟩:=List.getElem_of_mem hl
    have:=hok i hi
    rwa [show rg rs i=rs[i] by simp[rg,hi]] at this
   simp[jnd,this]
  exact Af tH rfl (.cell 0 rfl rfl rfl rfl rfl) () (by rw[hj]) trivial fun W _=>Ag.nil _ _
 have hk:k<rs.length:=by simp at h;omega
 obtain⟨b',off,rfl,hrow⟩:=hR.row hk
 obtain⟨q,cap2,hq1,hq2⟩:=hrow k hk
 have hlk:(rg rs k).length<4611686018427387904:=hl _ (List.mem_of_getElem? (AN hk))
 refine zI (zE (zA (zH (zA (zB ?_)))))
 refine wJ ?_
 refine Av rfl rfl rfl rfl (fun W hp=>Ae.load 0 tH rfl ((fun W hp=>hq1.hp hp) W hp) rfl) ?_
 refine wP rfl (zC (zE (zA (zB (wP rfl ?_)))))
 refine Ay (X:=Nat) rfl rfl rfl rfl rfl rfl (by kernel_rfl) (fun W _=>EE q (rg rs k).length cap2 W) ?_
 intro b _
 refine zC (zE (zH ?_))
 refine Eg (X:=Bool×Nat) (fun x=>[⟨b2,4,[.bool false],true,none⟩,⟨b3,4,[.bool x.1],true,none⟩,bag ds,⟨b,32,[slv q (rg rs k).length cap2],true,none⟩])
  (fun j x=>x.2=j∧x.1=AT (rg rs k) (AQ rs k) j∧ ∀i,i<j→Ck (rg rs k) i=true) (fun c _=>c= .ret∧ ∃j,j<(rg rs k).length∧Ck (rg rs k) j=false) (AQ rs k,0) rfl (by kernel_rfl) (Fd b q cap2 (rg rs k) hlk) (fun _=>rfl)
  ⟨rfl,rfl,fun i hi=>absurd hi (Nat.not_lt_zero _)⟩ [] rfl (fun k x W _ hp=>DN.mk' hq2 hp 3 rfl) ?_ ?_ ?_
 ·rintro j' ⟨sm,j⟩ d L rec hj ⟨e1,e2,hin⟩ hrec
  obtain rfl:j=j':=e1
  obtain rfl:sm=AT (rg rs k) (AQ rs k) j:=e2
  refine zB ?_
  refine Bm (z:=GP default default default) rfl rfl rfl (fun W=>by kernel_rfl) fun b7=> ?_
  refine wS 6 rfl rfl rfl (zC ?_)
  refine CL 5 hrec rfl ?_
  refine B6 ?_
  refine Gy (X:=Unit) (fun _=>[(2, .pointer (some ⟨b2,0,none⟩)),(3, .pointer (some ⟨b3,0,none⟩)),(7, .pointer (some ⟨b7,0,none⟩))])
   (fun _=>[⟨b2,4,[.bool false],true,none⟩,⟨b3,4,[.bool (AT (rg rs k) (AQ rs k) (j+1))],true,none⟩,bag ds,⟨b,32,[slv q (rg rs k).length cap2],true,none⟩,BU d,Bn L rec .busy none,
    ⟨b7,96,(GP (sd (rg rs k) (prv (rg rs k).length j)) (sd (rg rs k) j) (sd (rg rs k) (nxt (rg rs k).length j))).cells.toList,true,none⟩]) (fun _=>True) ?_ ?_
  ·refine DR ?_
   refine wB 1 rfl rfl rfl (wP rfl ?_)
   refine AR 19 rfl (fun h19=> ?_) (fun h19=> ?_)
   ·refine Ao rfl rfl ?_
    iterate 3 refine Ao rfl rfl ?_
    refine wP rfl (wS 1 rfl rfl rfl (zC ?_))
    refine AH () trivial ⟨rfl,rfl,rfl,trivial⟩ [] ?_
    have h19:AT (rg rs k) (AQ rs k) j=true:=h19
    have e:AT (rg rs k) (AQ rs k) (j+1)=true:=by simp[AT,h19]
    rw[e];rfl
   ·refine wP rfl (wP rfl (wB 6 rfl rfl rfl (wP rfl (wP rfl (wS 1 rfl rfl rfl (zC ?_))))))
    refine AH () trivial ⟨rfl,rfl,rfl,trivial⟩ [] ?_
    have h19:AT (rg rs k) (AQ rs k) j=false:=h19
    have e:AT (rg rs k) (AQ rs k) (j+1)= !(sd (rg rs k) j).gable:=by simp[AT,h19]
    rw[e];rfl
  intro _ _
  refine zA (zB (wB 6 rfl rfl rfl ?_))
  refine Ab rfl rfl rfl rfl rfl rfl (by kernel_rfl) (fun W _=>Ss (sd (rg rs k) (prv (rg rs k).length j)) (sd (rg rs k) j) (sd (rg rs k) (nxt (rg rs k).length j)) W) ?_
  refine wP rfl (wP rfl ?_)
  have good:Ck (rg rs k) j=true→ ∀i,i<j+1→Ck (rg rs k) i=true:=fun hg i hi=>by
   by_cases e:i=j
   ·subst e;exact hg
   ·exact hin i (by show i<j;omega)
  refine AR 28 rfl (fun h28=> ?_) (fun h28=> ?_)
  ·refine wP rfl (wP rfl (wB 6 rfl rfl rfl (wP rfl ?_)))
   refine AR 32 rfl (fun h32=> ?_) (fun h32=> ?_)
   ·refine Ao rfl rfl ?_
    iterate 2 refine Ao rfl rfl ?_
    refine wP rfl (wP rfl ?_)
    iterate 7 refine Ao rfl rfl ?_
    refine wP rfl (wP rfl (zC (zE (zR rfl (zA (zB (wS 0 rfl rfl rfl (zC (zE (zO (zQ ?_)))))))))))
    exact Dw 5 (AT (rg rs k) (AQ rs k) (j+1),j+1) hrec rfl ⟨rfl,j,hj,by simp_all [Ck,IQ,EM]⟩ [_] rfl
   ·refine wP rfl (wP rfl (wB 6 rfl rfl rfl (wP rfl (wP rfl ?_))))
    refine AR 37 rfl (fun h37=> ?_) (fun h37=> ?_)
    ·refine Ao rfl rfl ?_
     iterate 6 refine Ao rfl rfl ?_
     refine wP rfl (wP rfl (zC (zE (zR rfl (zA (zB (wS 0 rfl rfl rfl (zC (zE (zO (zQ ?_)))))))))))
     exact Dw 5 (AT (rg rs k) (AQ rs k) (j+1),j+1) hrec rfl ⟨rfl,j,hj,by simp_all [Ck,IQ,EM]⟩ [_] rfl
    ·refine wP rfl (wP rfl (wB 6 rfl rfl rfl (wP rfl (wP rfl (wB 6 rfl rfl rfl (wP rfl (wP rfl (wP rfl (Aa (AP ?_))))))))))
     refine Al rfl (fun h=> ?_) (fun h=> ?_)
     ·refine zA (zB (wS 0 rfl rfl rfl (zC (zE (zO (zQ ?_))))))
      exact Dw 5 (AT (rg rs k) (AQ rs k) (j+1),j+1) hrec rfl ⟨rfl,j,hj,by simp_all [Ck,IQ,EM]⟩ [_] rfl
     ·refine zI (zN ?_)
      exact B5 5 (AT (rg rs k) (AQ rs k) (j+1),j+1) hrec rfl ⟨rfl,rfl,good (by simp_all [Ck,IQ,EM])⟩ [_] rfl
  ·refine Ao rfl rfl ?_
   iterate 16 refine Ao rfl rfl ?_
   refine wP rfl (zC (zE (zS rfl (zI (zN ?_)))))
   exact B5 5 (AT (rg rs k) (AQ rs k) (j+1),j+1) hrec rfl ⟨rfl,rfl,good (by simp_all [Ck,IQ,EM])⟩ [_] rfl
 ·rintro⟨sm,j⟩ d L rec ⟨e1,e2,hin⟩
  obtain rfl:j=(rg rs k).length:=e1
  obtain rfl:sm=AT (rg rs k) (AQ rs k) (rg rs k).length:=e2
  refine zN (zN (zE (zB (wP rfl (wP rfl (zC ?_))))))
  refine Sp 2 4 rfl rfl ?_
  refine Jg (X:=Nat×Bool×List Nat) (k+1,AT (rg rs k) (AQ rs k) (rg rs k).length,d::ds) ?_ ?_ rfl ?_ [0,1,2] (by decide) rfl
  rotate_left
  ·show rs.length-(k+1)<rs.length-k;omega
  ·exact⟨rfl,rfl,rfl,rfl,congrArg (fun z=>some (Value.int .i64 z)) (A6 (x:=(k:Int)+1) (by omega) (by omega)),trivial⟩
  refine⟨hk,rfl,fun i hi=> ?_⟩
  by_cases e:i=k
  ·subst e
   exact List.all_eq_true.2 fun x hx=>hin x (List.mem_range.1 hx)
  ·exact hok i (by show i<k;have:i<k+1:=hi;omega)
 ·rintro⟨sm,j'⟩ d L rec c ⟨rfl,j,hj,hf⟩
  refine zO (zQ (zQ (zP (zP (zQ (zP ?_))))))
  refine Sp 2 4 rfl rfl ?_
  refine GW 2 (d::ds) rfl ?_
  have hj:jnd rs=false:=by
   have h1:CH (rg rs k)=false:=Bool.eq_false_iff.2 fun h2=>by
    have:=List.all_eq_true.1 h2 j (List.mem_range.2 hj)
    rw[hf] at this;cases this
   have:rs.all CH=false:=Bool.eq_false_iff.2 fun h2=>by
    have:=List.all_eq_true.1 h2 _ (List.mem_of_getElem? (AN hk))
    rw[h1] at this;cases this
   simp[jnd,this]
  exact Af tH rfl (.cell 0 rfl rfl rfl rfl rfl) () (by rw[hj]) trivial fun W _=>Ag.nil _ _
end
section
open Go Go.RowKit Go.Am
set_option maxRecDepth 10000
-- BOXES 3
abbrev AX (p:Option Addr) (n cap:Nat):Value:= .agg #[slv p n cap]
def chk (rs:List (List Sd)):Int:=
 if rs.any (fun l=>l.length==0)=true then 5
 else if tot rs=0 then 5
 else if tot rs>24 then 4
 else if rs.flatten.any (fun s=> !rgd s)=true then 2
 else if rs.any (fun l=> !shp l)=true then 14
 else if crs rs=true then 15
 else if (!plc rs|| !jnd rs)=true then 14
 else 0
theorem C8 {rs:List (List Sd)} {l:List Sd} (h:l∈rs):l.length≤tot rs:=by
 unfold tot
 induction rs with
 |nil=>cases h
 |cons x rs ih=>
  rw[List.map_cons,List.sum_cons]
  rcases List.mem_cons.1 h with rfl|h
  ·omega
  ·have:=ih h;omega
theorem Dk (W:World) (p:Option Addr) (cap:Nat) (rs:List (List Sd)) (hn:rs.length<4611686018427387904) (hT:tot rs<1099511627776) (hR:AY W p rs):
  Ai Tryz.prog 40 #[AX p rs.length cap] W (fun _:Unit=> .int .i64 (chk rs)) (fun _=>True) (fun _=>[]):=by
 have hl: ∀l∈rs,l.length<4611686018427387904:=fun l h=>by have:=C8 h;omega
 refine Ad (args:=[AX p rs.length cap]) Tryz.func40 rfl rfl rfl ?_
 refine zA (zB ?_)
 (refine A0 rfl rfl rfl rfl ?_;intro)
 refine wP rfl (Aa ?_)
 rename_i b1
 refine zE (zA (zB (wP rfl (Aa (zE (zA (zA (zB (wP rfl (wB 0 rfl rfl rfl (wP rfl (wP rfl (Aa ?_)))))))))))))
 refine zE (zH ?_)
 refine Az (X:=Nat) (fun k=>[(1, .pointer (some ⟨b1,0,none⟩)),(3, .int .i64 (tot (rs.take k):Nat)),(7,slv p rs.length cap),(8, .int .i64 (rs.length:Nat)),(9, .int .i64 (k:Nat))]) (fun _=>[⟨b1,24,[slv p rs.length cap],true,none⟩])
  (fun k=>k≤rs.length∧ ∀j,j<k→(rg rs j).length≠0) (fun k=>rs.length-k) 0 ⟨Nat.zero_le _,fun j hj=>absurd hj (Nat.not_lt_zero _)⟩ ⟨rfl,rfl,rfl,rfl,rfl,trivial⟩ [] rfl ?_
 rintro k ⟨hk,hok⟩
 refine zA (zB (wP rfl (Aa (zE (zA ?_)))))
 refine Al rfl (fun h=> ?_) (fun h=> ?_)
 ·have hk:k<rs.length:=by simp at h;omega
  clear h
  obtain⟨b,off,rfl,hrow⟩:=hR.row hk
  obtain⟨q,cap2,hq1,hq2⟩:=hrow k hk
  refine zI (zE (zA (zH (zA (zB ?_)))))
  refine wJ ?_
  refine Av rfl rfl rfl rfl (fun W hp=>Ae.load 0 tH rfl ((fun W hp=>hq1.hp hp) W hp) rfl) ?_
  refine wP rfl (Aa (zE (zA (zA (zB (wP rfl (wP rfl (wP rfl (Aa (zE ?_))))))))))
  refine Al rfl (fun h=> ?_) (fun h=> ?_)
  ·refine zA (zB (wP rfl (Aa (zE (zO (zP (zQ (zP (zP (zQ (zP ?_)))))))))))
   have he:rs.any (fun l=>l.length==0)=true:=List.any_eq_true.2 ⟨_,List.mem_of_getElem? (AN hk),by have h':((((rg rs k).length:Nat):Int)==0)=true:=h;rw[beq_iff_eq] at h'⊢;omega⟩
   exact Af tH rfl (.tmp rfl) () (by unfold chk;rw[if_pos he]) trivial fun W _=>Ag.nil _ _
  have hz:(rg rs k).length≠0:=by
   have h':((((rg rs k).length:Nat):Int)==0)=false:=h
   rw[beq_eq_false_iff_ne] at h';omega
  clear h
  refine zI (zE (zB ?_))
  iterate 5 refine wP rfl ?_
  refine Aa ?_
  have hs:w64 ((tot (rs.take k):Nat)+((rg rs k).length:Nat))=(tot (rs.take (k+1)):Nat):=by
   have h1:=Ba hk
   have h2:=Ch rs (k+1)
   rw[As (by omega) (by omega)];omega
  refine zN (zE (zB ?_))
  refine Ac 3 _ rfl (congrArg (Value.int .i64) hs) ?_
  refine wP rfl (wP rfl (Aa ?_))
  refine At (k+1) ⟨hk,fun j hj=> ?_⟩ (by omega) ⟨rfl,rfl,rfl,rfl,congrArg (fun z=>some (Value.int .i64 z)) (A6 (x:=(k:Int)+1) (by omega) (by omega)),trivial⟩ [] rfl
  by_cases e:j=k
  ·subst e;exact hz
  ·exact hok j (by omega)
 have e:k=rs.length:=by simp at h;omega
 subst e
 clear h
 rw[List.take_length]
 have hne: ∀l∈rs,l≠[]:=fun l hl e=>by
  obtain⟨i,hi,e2⟩:=List.getElem_of_mem hl
  have:=hok i hi
  rw[show rg rs i=rs[i] by simp[rg,hi],e2,e] at this
  exact this rfl
 have he:rs.any (fun l=>l.length==0)=false:=Bool.eq_false_iff.2 fun h2=>by
  obtain⟨l,h3,h4⟩:=List.any_eq_true.1 h2
  rw[beq_iff_eq] at h4
  exact hne l h3 (List.length_eq_zero_iff.1 h4)
 have hN: ¬(rs.any (fun l=>l.length==0)=true):=by rw[he];decide
 refine zJ (zK (zK (zL (zE (zA (zH (zA (zB (wP rfl (wP rfl (wP rfl (Aa (zE ?_)))))))))))))
 refine Al rfl (fun h=> ?_) (fun h=> ?_)
 ·refine zA (zB (wP rfl (Aa (zE (zO (zQ (zP ?_)))))))
  have h0:tot rs=0:=by have h':(((tot rs:Nat):Int)==0)=true:=h;rw[beq_iff_eq] at h';omega
  exact Af tH rfl (.tmp rfl) () (by unfold chk;rw[if_neg hN,if_pos h0]) trivial fun W _=>Ag.nil _ _
 have h0: ¬tot rs=0:=by have h':(((tot rs:Nat):Int)==0)=false:=h;rw[beq_eq_false_iff_ne] at h';omega
 clear h
 refine zA (zB (wP rfl (wP rfl (wP rfl (Aa (zE ?_))))))
 refine Al rfl (fun h=> ?_) (fun h=> ?_)
 ·refine zA (zB (wP rfl (Aa (zE (zO (zQ (zP ?_)))))))
  have h1:tot rs>24:=by have h':decide (((tot rs:Nat):Int)>24)=true:=h;rw[decide_eq_true_iff] at h';omega
  exact Af tH rfl (.tmp rfl) () (by unfold chk;rw[if_neg hN,if_neg h0,if_pos h1]) trivial fun W _=>Ag.nil _ _
 have h1: ¬tot rs>24:=by have h':decide (((tot rs:Nat):Int)>24)=false:=h;rw[decide_eq_false_iff_not] at h';omega
 clear h
 refine zA (zB (wP rfl (wB 0 rfl rfl rfl ?_)))
 refine Ay (X:=Vec) rfl rfl rfl rfl rfl rfl (by kernel_rfl) (fun W hp=>ES W p cap rs hn hT (hR.below (Nat.le_refl _) hp.below) hne) ?_
 intro V hV
 obtain⟨q,cq,eV,hVR⟩:=Vec.ring hV
 have hfl:rs.flatten.length<4611686018427387904:=by rw[Cv];omega
 refine Ac 30 _ rfl eV ?_
 refine Ab rfl rfl rfl rfl rfl rfl (by kernel_rfl) (fun W hp=>Gn 90 (by kernel_rfl) (fun s=> !rgd s) NY W q cq rs.flatten hfl (hVR hp 1 rfl)) ?_
 refine wP rfl (Aa (zE ?_))
 refine Al rfl (fun h=> ?_) (fun h=> ?_)
 ·refine zA (zB (wP rfl (Aa (zE (zO (zQ (zP ?_)))))))
  exact Af tH rfl (.tmp rfl) () (by unfold chk;rw[if_neg hN,if_neg h0,if_neg h1,if_pos h]) trivial fun W _=>Ag.nil _ _
 have h2: ¬(rs.flatten.any (fun s=> !rgd s)=true):=by rw[h];decide
 clear h
 refine zA (zB (wP rfl (wB 0 rfl rfl rfl ?_)))
 refine Ab rfl rfl rfl rfl rfl rfl (by kernel_rfl) (fun W hp=>JV 93 (by kernel_rfl) (fun l=> !shp l) Oq W p cap rs hn hl (hR.below (Nat.le_refl _) hp.below)) ?_
 refine wP rfl (Aa (zE ?_))
 refine Al rfl (fun h=> ?_) (fun h=> ?_)
 ·refine zA (zB (wP rfl (Aa (zE (zO (zQ (zP ?_)))))))
  exact Af tH rfl (.tmp rfl) () (by unfold chk;rw[if_neg hN,if_neg h0,if_neg h1,if_neg h2,if_pos h]) trivial fun W _=>Ag.nil _ _
 have h3: ¬(rs.any (fun l=> !shp l)=true):=by rw[h];decide
 clear h
 refine zA (zB (wP rfl (wB 0 rfl rfl rfl ?_)))
 refine Ab rfl rfl rfl rfl rfl rfl (by kernel_rfl) (fun W hp=>Li W p cap rs hn hT hl (hR.below (Nat.le_refl _) hp.below)) ?_
 refine wP rfl (Aa (zE ?_))
 refine Al rfl (fun h=> ?_) (fun h=> ?_)
 ·refine zA (zB (wP rfl (Aa (zE (zO (zQ (zP ?_)))))))
  exact Af tH rfl (.tmp rfl) () (by unfold chk;rw[if_neg hN,if_neg h0,if_neg h1,if_neg h2,if_neg h3,if_pos h]) trivial fun W _=>Ag.nil _ _
 have h4: ¬(crs rs=true):=by rw[h];decide
 clear h
 refine zA (zB (wP rfl (wB 0 rfl rfl rfl ?_)))
 refine Ab rfl rfl rfl rfl rfl rfl (by kernel_rfl) (fun W hp=>OE W p cap rs hn hl hne (hR.below (Nat.le_refl _) hp.below)) ?_
 refine wP rfl (wP rfl ?_)
 refine AR 45 rfl (fun h45=> ?_) (fun h45=> ?_)
 ·have h5:(!plc rs|| !jnd rs)=true:=by have h':(!plc rs)=true:=h45;rw[h'];rfl
  iterate 4 refine Ao rfl rfl ?_
  refine wP rfl (wP rfl (Aa (zE (zR rfl (zA (zB (wP rfl (Aa (zE (zO (zQ (zP ?_))))))))))))
  exact Af tH rfl (.tmp rfl) () (by unfold chk;rw[if_neg hN,if_neg h0,if_neg h1,if_neg h2,if_neg h3,if_neg h4,if_pos h5]) trivial fun W _=>Ag.nil _ _
 ·have h':(!plc rs)=false:=h45
  refine wP rfl (wB 0 rfl rfl rfl ?_)
  refine Ab rfl rfl rfl rfl rfl rfl (by kernel_rfl) (fun W hp=>OH W p cap rs hn hl (hR.below (Nat.le_refl _) hp.below)) ?_
  refine wP rfl (wP rfl (wP rfl (Aa (zE ?_))))
  refine Al rfl (fun h=> ?_) (fun h=> ?_)
  ·refine zA (zB (wP rfl (Aa (zE (zO (zQ (zP ?_)))))))
   have h5:(!plc rs|| !jnd rs)=true:=by rw[h',h];rfl
   exact Af tH rfl (.tmp rfl) () (by unfold chk;rw[if_neg hN,if_neg h0,if_neg h1,if_neg h2,if_neg h3,if_neg h4,if_pos h5]) trivial fun W _=>Ag.nil _ _
  ·refine zI (zN (zE (zA (zB (wP rfl (Aa (zE (zO ?_))))))))
   have h5: ¬((!plc rs|| !jnd rs)=true):=by rw[h',h];decide
   exact Af tH rfl (.tmp rfl) () (by unfold chk;rw[if_neg hN,if_neg h0,if_neg h1,if_neg h2,if_neg h3,if_neg h4,if_neg h5]) trivial fun W _=>Ag.nil _ _
-- BOXES 3
theorem AY.hp {W0 W:World} {bxs:List Bx} {p:Option Addr} {rs:List (List Sd)} (h:AY W0 p rs) (hp:Hp W0 bxs W):AY W p rs:=h.below (Nat.le_refl _) hp.below
def grt (rs:List (List Sd)) (m:Int):Bool:=(decide ((tot rs:Int)>m)&&decide ((tot rs:Int)≤24))||decide ((tot rs:Int)>40)||decide ((rs.length:Int)>40)
theorem QQ (W:World) (p:Option Addr) (cap:Nat) (rs:List (List Sd)) (m:Int) (hn:rs.length<4611686018427387904) (hT:tot rs<4611686018427387904) (hR:AY W p rs):
  Ai Tryz.prog 11 #[AX p rs.length cap, .int .i64 m] W (fun _:Unit=> .bool (grt rs m)) (fun _=>True) (fun _=>[]):=by
 refine Ad (args:=[AX p rs.length cap, .int .i64 m]) Tryz.func11 rfl rfl rfl ?_
 refine zA (zB ?_)
 (refine A0 rfl rfl rfl rfl ?_;intro)
 rename_i b1
 refine wP rfl (Aa (zE (zA (zB (wP rfl (Aa (zE (zA (zA (zB (wP rfl (Aa (zE ?_)))))))))))))
 refine zH ?_
 refine Az (X:=Nat) (fun k=>[(1, .int .i64 m),(2, .pointer (some ⟨b1,0,none⟩)),(5, .int .i64 (tot (rs.take k):Nat)),(6, .int .i64 (k:Nat))]) (fun _=>[⟨b1,24,[slv p rs.length cap],true,none⟩])
  (fun k=>k≤rs.length) (fun k=>rs.length-k) 0 (Nat.zero_le _) ⟨rfl,rfl,rfl,rfl,trivial⟩ [] rfl ?_
 intro k hk
 refine zA (zA (zB (wP rfl (wP rfl (wB 0 rfl rfl rfl (wP rfl (wP rfl (Aa (zE ?_)))))))))
 refine Al rfl (fun h=> ?_) (fun h=> ?_)
 ·have hk:k<rs.length:=by simp at h;omega
  clear h
  obtain⟨b,off,rfl,hrow⟩:=hR.row hk
  obtain⟨q,cap2,hq1,hq2⟩:=hrow k hk
  refine zI (zE (zA (zH (zB (wP rfl (wP rfl (wB 0 rfl rfl rfl (wP rfl ?_))))))))
  refine wJ ?_
  refine Av rfl rfl rfl rfl (fun W hp=>Ae.load 0 tH rfl ((fun W hp=>hq1.hp hp) W hp) rfl) ?_
  refine wP rfl (wP rfl (wP rfl (Aa ?_)))
  have hs:w64 ((tot (rs.take k):Nat)+((rg rs k).length:Nat))=(tot (rs.take (k+1)):Nat):=by
   have h1:=Ba hk
   have h2:=Ch rs (k+1)
   rw[As (by omega) (by omega)];omega
  refine zN (zE (zB ?_))
  refine Ac 5 _ rfl (congrArg (Value.int .i64) hs) ?_
  refine wP rfl (wP rfl (wP rfl (Aa ?_)))
  exact At (k+1) hk (by omega) ⟨rfl,rfl,rfl,congrArg (fun z=>some (Value.int .i64 z)) (A6 (x:=(k:Int)+1) (by omega) (by omega)),trivial⟩ [] rfl
 have e:k=rs.length:=by simp at h;omega
 subst e
 clear h
 rw[List.take_length]
 refine zJ (zK (zK (zL (zE (zA (zB (wP rfl (wP rfl (wP rfl (wP rfl ?_))))))))))
 refine AR 25 rfl (fun h25=> ?_) (fun h25=> ?_)
 ·refine wP rfl (wP rfl (wP rfl (wP rfl ?_)))
  have h25':decide ((tot rs:Int)>m)=true:=h25
  refine AR 29 rfl (fun h29=> ?_) (fun h29=> ?_)
  ·have e:grt rs m=true:=by have h':decide ((tot rs:Int)≤24)=true:=h29;unfold grt;rw[h25',h'];rfl
   iterate 2 refine Ao rfl rfl ?_
   refine wP rfl (wP rfl ?_)
   iterate 4 refine Ao rfl rfl ?_
   refine wP rfl (wP rfl (Aa (zE (zO ?_))))
   exact Af tH rfl (.tmp rfl) () (by rw[e]) trivial fun W _=>Ag.nil _ _
  ·refine wP rfl (wP rfl (wP rfl (wP rfl ?_)))
   have h':decide ((tot rs:Int)≤24)=false:=h29
   refine AR 33 rfl (fun h33=> ?_) (fun h33=> ?_)
   ·have e:grt rs m=true:=by have h2:decide ((tot rs:Int)>40)=true:=h33;unfold grt;rw[h2,Bool.or_true];rfl
    iterate 4 refine Ao rfl rfl ?_
    refine wP rfl (wP rfl (Aa (zE (zO ?_))))
    exact Af tH rfl (.tmp rfl) () (by rw[e]) trivial fun W _=>Ag.nil _ _
   ·have e:grt rs m=decide ((rs.length:Int)>40):=by have h2:decide ((tot rs:Int)>40)=false:=h33;unfold grt;rw[h',h2,Bool.and_false];rfl
    refine wP rfl (wB 0 rfl rfl rfl (wP rfl (wP rfl (wP rfl (wP rfl (Aa (zE (zO ?_))))))))
    exact Af tH rfl (.tmp rfl) () (by rw[e]) trivial fun W _=>Ag.nil _ _
 ·have h25':decide ((tot rs:Int)>m)=false:=h25
  iterate 2 refine Ao rfl rfl ?_
  iterate 6 refine wP rfl ?_
  refine AR 33 rfl (fun h33=> ?_) (fun h33=> ?_)
  ·have e:grt rs m=true:=by have h2:decide ((tot rs:Int)>40)=true:=h33;unfold grt;rw[h2,Bool.or_true];rfl
   iterate 4 refine Ao rfl rfl ?_
   refine wP rfl (wP rfl (Aa (zE (zO ?_))))
   exact Af tH rfl (.tmp rfl) () (by rw[e]) trivial fun W _=>Ag.nil _ _
  ·have e:grt rs m=decide ((rs.length:Int)>40):=by have h2:decide ((tot rs:Int)>40)=false:=h33;unfold grt;rw[h25',h2];rfl
   refine wP rfl (wB 0 rfl rfl rfl (wP rfl (wP rfl (wP rfl (wP rfl (Aa (zE (zO ?_))))))))
   exact Af tH rfl (.tmp rfl) () (by rw[e]) trivial fun W _=>Ag.nil _ _
theorem Cf {rs:List (List Sd)} (h:chk rs=0):(∀l∈rs,l≠[])∧tot rs≤24∧tot rs≠0:=by
 unfold chk at h
 split at h
 ·cases h
 ·rename_i h1
  split at h
  ·cases h
  ·rename_i h2
   split at h
   ·cases h
   ·rename_i h3
    refine⟨fun l hl e=>h1 (List.any_eq_true.2 ⟨l,hl,by rw[e];rfl⟩),by omega,h2⟩
theorem VP (W:World) (p:Option Addr) (cap:Nat) (rs:List (List Sd)) (hn:rs.length<4611686018427387904) (hR:AY W p rs) (hc:chk rs=0):
  Ai Tryz.prog 15 #[AX p rs.length cap] W (fun V:Vec=> .tuple #[V.val rs.flatten.length, .int .i64 0]) (fun V=>V.OK 7 rs.flatten.length (cellsOf rs.flatten)) (fun V=>[V.bx 42 (cellsOf rs.flatten)]):=by
 obtain⟨hne,hT,_⟩:=Cf hc
 refine Ad (args:=[AX p rs.length cap]) Tryz.func15 rfl rfl rfl ?_
 refine zA (zB ?_)
 (refine A0 rfl rfl rfl rfl ?_;intro)
 refine wP rfl (wP rfl (Aa (zE (zA (zA (zB (wB 0 rfl rfl rfl ?_)))))))
 refine Ab rfl rfl rfl rfl rfl rfl (by kernel_rfl) (fun W hp=>(Dk W p cap rs hn (by omega) (hR.hp hp)).cast (by rw[hc])) ?_
 refine wP rfl (Aa (zE (zS rfl (zI (zE (zA (zB (wP rfl (wB 0 rfl rfl rfl ?_)))))))))
 refine Ay (X:=Vec) rfl rfl rfl rfl rfl rfl (by kernel_rfl) (fun W hp=>ES W p cap rs hn (by omega) (hR.hp hp) hne) ?_
 intro V hV
 refine wP rfl (wP rfl (Aa (zE (zO ?_))))
 exact Au tH rfl (.tmp rfl) (.tmp rfl) V rfl hV fun W hp=>Ag.of_hp1 hp 1 rfl
end
section
open Go Go.RowKit Go.Am
def AB (f:Nat→Int):Nat→Int
 |0=>0
 |k+1=>AB f k+f k
theorem Bb {f g:Nat→Int}: ∀(n:Nat),(∀i,i<n→f i=g i)→AB f n=AB g n
 |0,_=>rfl
 |n+1,h=>by
  show AB f n+f n=AB g n+g n
  rw[Bb n (fun i hi=>h i (by omega)),h n (by omega)]
theorem DS (f g:Nat→Int): ∀n,AB (fun i=>f i+g i) n=AB f n+AB g n
 |0=>rfl
 |n+1=>by
  show AB _ n+(f n+g n)=AB f n+f n+(AB g n+g n)
  rw[DS f g n];omega
theorem Cs (c:Int) (f:Nat→Int): ∀n,AB (fun i=>c*f i) n=c*AB f n
 |0=>by simp[AB]
 |n+1=>by
  show AB _ n+c*f n=c*(AB f n+f n)
  rw[Cs c f n,Int.mul_add]
theorem Mt (g:Nat→Int): ∀n,AB (fun i=>g (i+1)) n+g 0=AB g (n+1)
 |0=>by simp[AB]
 |n+1=>by
  have ih:=Mt g n
  show AB (fun i=>g (i+1)) n+g (n+1)+g 0=AB g (n+1)+g (n+1)
  omega
theorem Gb (g:Nat→Int) (n:Nat):AB (fun i=>g (nxt n i)) n=AB g n:=by
 cases n with
 |zero=>rfl
 |succ m=>
  rw[←Mt g m]
  show AB (fun i=>g (nxt (m+1) i)) m+g (nxt (m+1) m)=_
  have h0:nxt (m+1) m=0:=Nat.mod_self _
  rw[h0,Bb m (fun i hi=>by rw[show nxt (m+1) i=i+1 from Nat.mod_eq_of_lt (by omega)])]
def inR (s:Sd):Prop:=0≤s.x∧s.x≤65536∧0≤s.y∧s.y≤65536
theorem HZ {s:Sd} (h:rgd s=true):inR s:=by
 unfold rgd at h
 simp only[Bool.and_eq_true,btw,decide_eq_true_eq] at h
 exact⟨h.2.1.1.1.1,h.2.1.1.1.2,h.2.1.1.2.1,h.2.1.1.2.2⟩
theorem BO {l:List Sd} (h: ∀s∈l,inR s) {i:Nat} (hi:i<l.length):inR (sd l i):=h _ (List.mem_of_getElem? (Cz hi))
theorem Bt {n i:Nat} (h:i<n):nxt n i<n:=Nat.mod_lt _ (by omega)
theorem Dc {n i:Nat} (h:i<n):prv n i<n:=Nat.mod_lt _ (by omega)
def Bo (l:List Sd) (i:Nat):Int:=(sd l i).x*(sd l (nxt l.length i)).y-(sd l i).y*(sd l (nxt l.length i)).x
theorem HQ {a b:Int} (ha:0≤a) (ha':a≤65536) (hb:0≤b) (hb':b≤65536):0≤a*b∧a*b≤4294967296:=by
 refine⟨Int.mul_nonneg ha hb, ?_⟩
 calc a*b≤65536*b:=Int.mul_le_mul_of_nonneg_right ha' hb
  _≤65536*65536:=Int.mul_le_mul_of_nonneg_left hb' (by decide)
  _=4294967296:=by decide
theorem Dq {l:List Sd} (h: ∀s∈l,inR s): ∀k,k≤l.length→k≤1000000→BP l k=AB (Bo l) k∧ -(k*4294967296:Int)≤BP l k∧BP l k≤k*4294967296
 |0,_,_=>⟨rfl,by simp[BP],by simp[BP]⟩
 |k+1,hk,hm=>by
  obtain⟨h1,h2,h3⟩:=Dq h k (by omega) (by omega)
  have hs:=BO h (show k<l.length by omega)
  have hn:=BO h (Bt (show k<l.length by omega))
  obtain⟨a1,a2⟩:=HQ hs.1 hs.2.1 hn.2.2.1 hn.2.2.2
  obtain⟨b1,b2⟩:=HQ hs.2.2.1 hs.2.2.2 hn.1 hn.2.1
  have e:BP l (k+1)=BP l k+Bo l k:=by
   show w64 (BP l k+w64 (w64 ((sd l k).x*(sd l (nxt l.length k)).y)-w64 ((sd l k).y*(sd l (nxt l.length k)).x)))=_
   unfold Bo
   rw[As (x:=(sd l k).x*_) (by omega) (by omega),As (x:=(sd l k).y*_) (by omega) (by omega),As (x:=_-_) (by omega) (by omega)]
   exact As (by omega) (by omega)
  have ec:Bo l k=(sd l k).x*(sd l (nxt l.length k)).y-(sd l k).y*(sd l (nxt l.length k)).x:=rfl
  refine⟨by rw[e,h1];rfl, ?_, ?_⟩<;>rw[e,ec]<;>push_cast<;>omega
def Y7 (l:List Sd):Prop:= ∀i,i<l.length→(sd l i).x=(sd l (nxt l.length i)).x∨(sd l i).y=(sd l (nxt l.length i)).y
theorem NF {l:List Sd} (hr: ∀s∈l,inR s) (h:shp l=true):Y7 l:=fun i hi=>by
 unfold shp at h
 obtain⟨_,h⟩:=Bool.and_eq_true_iff.1 h
 have h1:=List.all_eq_true.1 h i (List.mem_range.2 hi)
 have hs:=BO hr hi
 have hn:=BO hr (Bt hi)
 unfold EK OY at h1
 simp only[Bool.and_eq_true,Bool.not_eq_true'] at h1
 have hx:w64 ((sd l (nxt l.length i)).x-(sd l i).x)=(sd l (nxt l.length i)).x-(sd l i).x:=As (by have:=hs.1;have:=hs.2.1;have:=hn.1;omega) (by have:=hs.1;have:=hn.2.1;omega)
 have hy:w64 ((sd l (nxt l.length i)).y-(sd l i).y)=(sd l (nxt l.length i)).y-(sd l i).y:=As (by have:=hs.2.2;have:=hn.2.2;omega) (by have:=hs.2.2;have:=hn.2.2;omega)
 rw[hx,hy] at h1
 by_cases e1:(sd l (nxt l.length i)).x-(sd l i).x=0
 ·left;omega
 ·by_cases e2:(sd l (nxt l.length i)).y-(sd l i).y=0
  ·right;omega
  ·have:=h1.1
   rw[beq_eq_false_iff_ne.2 e1,beq_eq_false_iff_ne.2 e2] at this
   cases this
theorem By {rs:List (List Sd)} (h:chk rs=0):(∀l∈rs, ∀s∈l,rgd s=true)∧(∀l∈rs,shp l=true)∧crs rs=false∧plc rs=true∧jnd rs=true:=by
 unfold chk at h
 split at h
 ·cases h
 split at h
 ·cases h
 split at h
 ·cases h
 split at h
 ·cases h
 rename_i h2
 split at h
 ·cases h
 rename_i h3
 split at h
 ·cases h
 rename_i h4
 split at h
 ·cases h
 rename_i h5
 refine⟨fun l hl s hs=> ?_,fun l hl=> ?_,by simpa using h4, ?_, ?_⟩
 ·cases hr:rgd s with
  |true=>rfl
  |false=>exact absurd (List.any_eq_true.2 ⟨s,List.mem_flatten.2 ⟨l,hl,hs⟩,by rw[hr];rfl⟩) h2
 ·cases hr:shp l with
  |true=>rfl
  |false=>exact absurd (List.any_eq_true.2 ⟨l,hl,by rw[hr];rfl⟩) h3
 ·cases hp:plc rs with
  |true=>rfl
  |false=>rw[hp] at h5;exact absurd rfl h5
 ·cases hp:jnd rs with
  |true=>rfl
  |false=>rw[hp] at h5;exact absurd (by simp) h5
end
section
open Go Go.RowKit Go.Am Go.Lib
set_option maxRecDepth 10000
-- BOXES 5
-- CODE2
section
variable {r:Option Nat} {n:Nat} {P:Program} {N:Nat} {D:List Deferred} {ops:List Oper} {Q:Exit→Act→World→Prop} {o:Oper} {rest:List Oper} {env:Env} {A:World→Prop}
theorem MN {ρ:Operand→Value} {t e:TypeId} {m c:Nat} {x y:Operand} {k:IntKind} {b off:Nat} {z:Int} (ht:P.underlying t=some (.array m e)) (hs: ∀W,(Go.sizeOf e).run P W= .ok c W) (ho:o.op= .indexAddr t x y)
  (hx:ρ x= .pointer (some ⟨b,off,none⟩)) (hy:ρ y= .int k z) (h0:0≤z∧z<m) (W:World):(execOp ρ o).run P W= .ok (.value (.pointer (some ⟨b,off+z.toNat*c,none⟩))) W:=by
 simp[execOp,ho,hx,hy,Instr.indexAt,Instr.sureAddr,asIntOf,run_underlying ht,hs,h0.1,h0.2,Addr.add_none]
theorem Oe {d:Nat} {t e:TypeId} {m c:Nat} {x y:Operand} {k:IntKind} {b off:Nat} {z:Int} (ht:P.underlying t=some (.array m e)) (hs: ∀W,(Go.sizeOf e).run P W= .ok c W) (hg:A9 ops N env o=some true) (hd:o.dst=some d) (ho:o.op= .indexAddr t x y)
  (hx:evO N env x=some (.pointer (some ⟨b,off,none⟩))) (hy:evO N env y=some (.int k z)) (h0:0≤z∧z<m)
  (h:WL r n P N D ops Q rest ((d, .pointer (some ⟨b,off+z.toNat*c,none⟩))::env) A):WL r n P N D ops Q (o::rest) env A:=
 Dj hg hd (fun c e=>by rw[ho] at e;cases e) (fun _ W hρ _=>MN ht hs ho (hρ _ _ hx) (hρ _ _ hy) h0 W) h
end
def hdg (s t:Sd):Nat:=if s.x<t.x then 0 else if s.y<t.y then 1 else if t.x<s.x then 2 else 3
theorem UN (s t:Sd):hdg s t<4:=by
 unfold hdg
 split
 ·decide
 ·split
  ·decide
  ·split<;>decide
theorem MW (s t:Sd) (W:World):Ai Tryz.prog 130 #[s.val,t.val] W (fun _:Unit=> .int .i64 (hdg s t:Nat)) (fun _=>True) (fun _=>[]):=by
 refine Ad (args:=[s.val,t.val]) Tryz.func130 rfl rfl rfl ?_
 refine zA (zB ?_)
 (refine A0 rfl rfl rfl rfl ?_;intro)
 (refine A0 rfl rfl rfl rfl ?_;intro)
 refine wP rfl (Aa (zE (zA (zH (zA (zB (wP rfl (wB 1 rfl rfl rfl (wP rfl (wB 0 rfl rfl rfl (wP rfl (wP rfl (Aa ?_)))))))))))))
 refine zE ?_
 refine Al rfl (fun h=> ?_) (fun h=> ?_)
 ·have c:s.x<t.x:=by have h:=of_decide_eq_true h;omega
  clear h
  have e:hdg s t=0:=by unfold hdg;rw[if_pos c]
  refine zA (zB (wP rfl (Aa (zE (zO (zQ (zP ?_)))))))
  exact Af tH rfl (.tmp rfl) () (by rw[e];rfl) trivial fun W _=>Ag.nil _ _
 have c1: ¬s.x<t.x:=by have h:=of_decide_eq_false h;omega
 clear h
 refine zA (zB (wP rfl (wB 1 rfl rfl rfl (wP rfl (wB 0 rfl rfl rfl (wP rfl (wP rfl (Aa (zE ?_)))))))))
 refine Al rfl (fun h=> ?_) (fun h=> ?_)
 ·have c:s.y<t.y:=by have h:=of_decide_eq_true h;omega
  clear h
  have e:hdg s t=1:=by unfold hdg;rw[if_neg c1,if_pos c]
  refine zA (zB (wP rfl (Aa (zE (zO (zQ (zP ?_)))))))
  exact Af tH rfl (.tmp rfl) () (by rw[e];rfl) trivial fun W _=>Ag.nil _ _
 have c2: ¬s.y<t.y:=by have h:=of_decide_eq_false h;omega
 clear h
 refine zA (zB (wP rfl (wB 1 rfl rfl rfl (wP rfl (wB 0 rfl rfl rfl (wP rfl (wP rfl (Aa (zE ?_)))))))))
 refine Al rfl (fun h=> ?_) (fun h=> ?_)
 ·have c:t.x<s.x:=by have h:=of_decide_eq_true h;omega
  clear h
  have e:hdg s t=2:=by unfold hdg;rw[if_neg c1,if_neg c2,if_pos c]
  refine zA (zB (wP rfl (Aa (zE (zO (zQ (zP ?_)))))))
  exact Af tH rfl (.tmp rfl) () (by rw[e];rfl) trivial fun W _=>Ag.nil _ _
 have c3: ¬t.x<s.x:=by have h:=of_decide_eq_false h;omega
 clear h
 have e:hdg s t=3:=by unfold hdg;rw[if_neg c1,if_neg c2,if_neg c3]
 refine zI (zN (zE (zA (zB (wP rfl (Aa (zE (zO ?_))))))))
 exact Af tH rfl (.tmp rfl) () (by rw[e];rfl) trivial fun W _=>Ag.nil _ _
def PO (k:Nat):Bool:=k==1||k==3
def Ny (k:Nat):Int:=if k=0∨k=3 then 1 else -1
abbrev YR:List Value:=[.bool false, .int .i64 1, .bool true, .int .i64 (-1), .bool false, .int .i64 (-1), .bool true, .int .i64 1]
def I2 (W:World):Prop:=Ae W 0 0 YR
theorem I2.hp {W0 W:World} {bxs:List Bx} (h:I2 W0) (hp:Hp W0 bxs W):I2 W:=Ae.hp h hp
theorem I2.at_ {W:World} (h:I2 W) {k:Nat} (hk:k<4):Ae W 0 (0+k*2) [.bool (PO k), .int .i64 (Ny k)]:=by
 refine⟨h.lt,fun m u hu=> ?_⟩
 have hm:m=0∨m=1:=by
  have:=(List.getElem?_eq_some_iff.1 hu).1
  have:m<2:=this
  omega
 have hk:k=0∨k=1∨k=2∨k=3:=by omega
 have hg:=h.get (k*2+m) u (by
  rcases hk with rfl|rfl|rfl|rfl<;>rcases hm with rfl|rfl<;>exact hu)
 rw[Nat.zero_add] at hg
 rw[Nat.zero_add]
 exact hg
def frO (s t:Sd):FrP:=⟨PO (hdg s t),if PO (hdg s t) then s.x else s.y,Ny (hdg s t),if s.gable then 0 else nrm s.run s.rise,(s.plate:Rat)⟩
theorem Gp {s:Sd} (h:rgd s=true):(0≤s.x∧s.x≤65536)∧(0≤s.y∧s.y≤65536)∧(0≤s.plate∧s.plate≤65536)∧(s.gable=false→(1≤s.rise∧s.rise≤48)∧(1≤s.run∧s.run≤48)):=by
 unfold rgd btw at h
 simp only[Bool.and_eq_true,decide_eq_true_eq] at h
 obtain⟨h1,⟨⟨h2,h3⟩,h4⟩,h5⟩:=h
 refine⟨h2,h3,h4,fun e=> ?_⟩
 rw[e] at h1
 simpa using h1
theorem U7 (s t:Sd) (h:rgd s=true) (W:World) (hd:I2 W) (ht:Bd W):Ai Tryz.prog 53 #[s.val,t.val] W (fun _:Unit=>frV (frO s t)) (fun _=>True) (fun _=>[]):=by
 obtain⟨hx,hy,hp,hr⟩:=Gp h
 obtain⟨k,hk⟩: ∃k,k=hdg s t:=⟨_,rfl⟩
 have hk4:k<4:=hk▸UN s t
 obtain⟨ax,hax⟩: ∃ax,ax=PO k:=⟨_,rfl⟩
 obtain⟨dd,hdd⟩: ∃dd,dd=Ny k:=⟨_,rfl⟩
 have hrow: ∀ {W1:World} {bxs:List Bx},Hp W bxs W1→Ae W1 0 (0+((k:Nat):Int).toNat*2) [.bool ax, .int .i64 dd]:=fun hp1=>by
  rw[Int.toNat_natCast,hax,hdd]
  exact(hd.hp hp1).at_ hk4
 have hf:frO s t=⟨ax,if ax then s.x else s.y,dd,if s.gable then 0 else nrm s.run s.rise,(s.plate:Rat)⟩:=by unfold frO;rw[←hk, ←hax, ←hdd]
 obtain⟨ps,hps⟩: ∃ps,ps=(if ax then s.x else s.y):=⟨_,rfl⟩
 obtain⟨sp,hsp⟩: ∃sp:Rat,sp=(if s.gable then 0 else nrm s.run s.rise):=⟨_,rfl⟩
 rw[←hps, ←hsp] at hf
 rw[hf]
 refine Ad (args:=[s.val,t.val]) Tryz.func53 rfl rfl rfl ?_
 refine zA (zB ?_)
 (refine A0 rfl rfl rfl rfl ?_;intro)
 (refine A0 rfl rfl rfl rfl ?_;intro)
 (refine An Tryz.hZ rfl rfl rfl rfl ?_;intro)
 refine Aa ?_
 rename_i b2 b3 b4
 refine zE (zA (zB (wB 0 rfl rfl rfl (wB 1 rfl rfl rfl ?_))))
 refine Ab rfl rfl rfl rfl rfl rfl (by kernel_rfl) (fun W _=>(MW s t W).cast (by rw[←hk])) ?_
 refine Oe (c:=2) Tryz.underlying177 Tryz.sizeOf176 rfl rfl rfl rfl rfl ⟨by omega,by omega⟩ ?_
 refine Av rfl rfl rfl rfl (fun W hp=>Ae.load 0 tH rfl ((fun W1 hp=>hrow hp) W hp) rfl) ?_
 (refine An Tryz.hZ rfl rfl rfl rfl ?_;intro)
 refine wS 3 rfl rfl rfl (Aa ?_)
 rename_i b5
 refine zE (zA (zB (wP rfl (wB 3 rfl rfl rfl (wP rfl (wB 0 rfl rfl rfl (wP rfl (wB 3 rfl rfl rfl ?_))))))))
 refine AA Tryz.hZ tH rfl rfl rfl rfl rfl rfl rfl rfl ?_
 (refine An Tryz.hZ rfl rfl rfl rfl ?_;intro)
 refine wS 4 rfl rfl rfl (Aa ?_)
 rename_i b6
 refine zE (zA (zA (zB (wP rfl (wB 3 rfl rfl rfl (Aa (AP ?_)))))))
 try refine AL ?_
 refine BF (X:=Unit) (fun _=>[(2,A5 b2),(4,A5 b4),(5,A5 b5),(6,A5 b6)]) (fun _=>[⟨b2,42,s.cells,true,none⟩,⟨b4,39,[.bool false, .int .i64 0, .int .i64 0,str [],str []],true,none⟩,⟨b6,39,[.bool ax, .int .i64 ps, .int .i64 dd,str (Ak 0),str []],true,none⟩]) (fun _=>True) ?_ ?_
 ·refine Al rfl (fun h1=> ?_) (fun h1=> ?_)
  ·have e1:ax=true:=h1
   refine zB (wP rfl (wB 0 rfl rfl rfl (wP rfl (wS 4 rfl rfl rfl (Aa ?_)))))
   exact KJ () trivial ⟨rfl,rfl,rfl,rfl,trivial⟩ [0,2,4] (by decide) (by rw[hps,if_pos e1,Ex];rfl)
  ·have e1:ax=false:=h1
   refine zI ?_
   exact KJ () trivial ⟨rfl,rfl,rfl,rfl,trivial⟩ [0,2,4] (by decide) (by rw[hps,if_neg (by rw[e1];decide),Ex];rfl)
 intro _ _
 refine zA (zA (zB (wP rfl (wB 0 rfl rfl rfl (wP rfl (Aa (AP ?_)))))))
 try refine AL ?_
 refine BF (X:=Unit) (fun _=>[(2,A5 b2),(4,A5 b4),(6,A5 b6)]) (fun _=>[⟨b2,42,s.cells,true,none⟩,⟨b4,39,[.bool false, .int .i64 0, .int .i64 0,str [],str []],true,none⟩,⟨b6,39,[.bool ax, .int .i64 ps, .int .i64 dd,str (Ak sp),str []],true,none⟩]) (fun _=>True) ?_ ?_
 ·refine Al rfl (fun h1=> ?_) (fun h1=> ?_)
  ·have e1:s.gable=false:=by simpa using h1
   obtain⟨r1,r2⟩:=hr e1
   refine zB (wP rfl (wB 0 rfl rfl rfl (wP rfl (wB 0 rfl rfl rfl ?_))))
   refine Ab rfl rfl rfl rfl rfl rfl (by kernel_rfl) (fun W1 hp=>(J4 s.run s.rise (by omega) (by omega) W1 (ht.hp hp)).cast (by rw[ofR,if_neg (by omega)])) ?_
   refine wP rfl (wP rfl (wP rfl (wP rfl (wS 2 rfl rfl rfl (Aa ?_)))))
   exact KJ () trivial ⟨rfl,rfl,rfl,trivial⟩ [0,1,2] (by decide) (by rw[hsp,if_neg (by rw[e1];decide)];rfl)
  ·have e1:s.gable=true:=by simpa using h1
   refine zI ?_
   exact KJ () trivial ⟨rfl,rfl,rfl,trivial⟩ [0,1,2] (by decide) (by rw[hsp,if_pos e1];rfl)
 intro _ _
 refine zA (zB (wP rfl (wB 0 rfl rfl rfl ?_)))
 refine Ab rfl rfl rfl rfl rfl rfl (by kernel_rfl) (fun W1 hp=>(J4 s.plate 1 (by omega) (by decide) W1 (ht.hp hp)).cast (by rw[SC])) ?_
 refine wP rfl (wP rfl (wP rfl (wP rfl (wS 2 rfl rfl rfl (Aa (zE (zA (zB (wB 2 rfl rfl rfl (wS 1 rfl rfl rfl (Aa (zE (zO ?_)))))))))))))
 exact Af tH rfl (.cell 1 rfl rfl rfl rfl rfl) () rfl trivial fun W _=>Ag.nil _ _
-- BOXES 4
-- CODE2
def EL (l:List Sd) (i:Nat):FrP:=frO (sd l i) (sd l (nxt l.length i))
def Es (l:List Sd) (i:Nat):List FrP:=(List.range i).map (EL l)
def Cn (rs:List (List Sd)):Nat→List FrP
 |0=>[]
 |k+1=>Cn rs k++Es (rg rs k) (rg rs k).length
def Aw (rs:List (List Sd)):List FrP:=Cn rs rs.length
def frC (l:List FrP):List Value:=l.flatMap fun f=>(frV f).cells.toList
theorem Ts (a b:List FrP):frC (a++b)=frC a++frC b:=List.flatMap_append
theorem XY (l:List FrP):(frC l).length=l.length*5:=by
 induction l with
 |nil=>rfl
 |cons f l ih=>show((frV f).cells.toList++frC l).length=_;rw[List.length_append,ih,List.length_cons];show 5+_=_;omega
theorem Q7 (l:List Sd) (i:Nat):(Es l i).length=i:=by unfold Es;rw[List.length_map,List.length_range]
theorem U9 (l:List Sd) (i:Nat):Es l (i+1)=Es l i++[EL l i]:=by unfold Es;rw[List.range_succ,List.map_append];rfl
theorem Je {rs:List (List Sd)}: ∀k,k≤rs.length→(Cn rs k).length=tot (rs.take k)
 |0,_=>rfl
 |k+1,h=>by
  show(Cn rs k++Es _ _).length=_
  rw[List.length_append,Je k (by omega),Q7,Ba h]
theorem Ed (rs:List (List Sd)):(Aw rs).length=tot rs:=by
 unfold Aw
 rw[Je _ (Nat.le_refl _),List.take_length]
theorem Ti {rs:List (List Sd)} {r i:Nat} (hi:i<(rg rs r).length): ∀k,r<k→k≤rs.length→(Cn rs k)[tot (rs.take r)+i]? =some (EL (rg rs r) i)
 |0,h,_=>absurd h (Nat.not_lt_zero _)
 |k+1,h,hk=>by
  have hl:=Je (rs:=rs) k (by omega)
  show(Cn rs k++Es _ _)[_]? =_
  by_cases e:r=k
  ·subst e
   rw[List.getElem?_append_right (by omega),hl,Nat.add_sub_cancel_left]
   unfold Es
   rw[List.getElem?_map,List.getElem?_range hi];rfl
  ·have ih:=Ti hi k (by omega) (by omega)
   rw[List.getElem?_append_left (List.getElem?_eq_some_iff.1 ih).1]
   exact ih
theorem Tg {rs:List (List Sd)} {r i:Nat} (hr:r<rs.length) (hi:i<(rg rs r).length):(Aw rs)[tot (rs.take r)+i]? =some (EL (rg rs r) i):=Ti hi rs.length hr (Nat.le_refl _)
theorem LJ (W:World) (p:Option Addr) (cap:Nat) (rs:List (List Sd)) (hn:rs.length<4611686018427387904) (hR:AY W p rs) (hc:chk rs=0) (hd:I2 W) (ht:Bd W):
  Ai Tryz.prog 14 #[AX p rs.length cap] W (fun V:Vec=> .tuple #[V.val (Aw rs).length, .int .i64 0]) (fun V=>V.OK 5 (Aw rs).length (frC (Aw rs))) (fun V=>[V.bx 39 (frC (Aw rs))]):=by
 obtain⟨hne,hT,_⟩:=Cf hc
 obtain⟨hrg,_⟩:=By hc
 refine Ad (args:=[AX p rs.length cap]) Tryz.func14 rfl rfl rfl ?_
 refine zA (zB ?_)
 (refine A0 rfl rfl rfl rfl ?_;intro)
 refine wP rfl (wP rfl (Aa ?_))
 rename_i b1
 refine zE (zA (zA (zB (wB 0 rfl rfl rfl ?_))))
 refine Ab rfl rfl rfl rfl rfl rfl (by kernel_rfl) (fun W1 hp=>(Dk W1 p cap rs hn (by omega) (hR.hp hp)).cast (by rw[hc])) ?_
 refine wP rfl (Aa (zE (zS rfl (zI (zE (zA (zB (wP rfl (Aa (zE (zA (zA (zB ?_)))))))))))))
 refine wP rfl (wB 0 rfl rfl rfl (wP rfl (wP rfl (Aa (zE (zH ?_))))))
 refine Cl ?_
 refine Az (X:=Nat×Vec) (fun s=>[(1,A5 b1),(4,s.2.val (Cn rs s.1).length),(13,slv p rs.length cap),(14, .int .i64 (rs.length:Nat)),(15, .int .i64 (s.1:Nat))]) (fun s=>[⟨b1,24,[slv p rs.length cap],true,none⟩,s.2.bx 39 (frC (Cn rs s.1))])
  (fun s=>s.1≤rs.length∧s.2.OK 5 (Cn rs s.1).length (frC (Cn rs s.1))) (fun s=>rs.length-s.1) (0,Vec.empty) ⟨Nat.zero_le _,Vec.OK.empty 5⟩ ⟨rfl,rfl,rfl,rfl,rfl,trivial⟩ [] rfl ?_
 rintro⟨k,V⟩ ⟨hk,hV⟩
 have hk:k≤rs.length:=hk
 have hV:V.OK 5 (Cn rs k).length (frC (Cn rs k)):=hV
 have hl:=Je k hk
 refine zA (zB (wP rfl ?_))
 by_cases hlt:k<rs.length
 ·refine Ac 16 (.bool true) rfl (congrArg Value.bool (decide_eq_true (by omega))) ?_
  refine Aa (zE (zA (zR rfl (zI (zE (zA (zH (zA (zB ?_)))))))))
  obtain⟨l,hle⟩: ∃l,l=rg rs k:=⟨_,rfl⟩
  have hs:=Ba hlt
  have hs1:=Ch rs (k+1)
  obtain⟨gR,oR,hpe,hrows⟩:=hR.row hlt
  obtain⟨q,c,hrow,hring⟩:=hrows k hlt
  rw[←hle] at hrow hring hs
  have hrl: ∀s∈l,rgd s=true:=fun s hs=>hrg l (by rw[hle];exact List.mem_of_getElem? (AN hlt)) s hs
  have hln:l.length≤24:=by omega
  subst hpe
  refine wJ ?_
  refine Av rfl rfl rfl rfl (fun W hp=>Ae.load 0 tH rfl ((fun W1 hp=>hrow.hp hp) W hp) rfl) ?_
  refine wP rfl (Aa (zE (zA (zB (wP rfl (wP rfl (wP rfl (Aa (zE (zH ?_))))))))))
  refine Az (X:=Nat×Vec) (fun s=>[(1,A5 b1),(4,s.2.val ((Cn rs k).length+s.1)),(13,slv (some ⟨gR,oR,none⟩) rs.length cap),(14, .int .i64 (rs.length:Nat)),(15, .int .i64 (k:Nat)),(6,slv q l.length c),(19,slv q l.length c),(20, .int .i64 (l.length:Nat)),(21, .int .i64 (s.1:Nat))]) (fun s=>[⟨b1,24,[slv (some ⟨gR,oR,none⟩) rs.length cap],true,none⟩,s.2.bx 39 (frC (Cn rs k++Es l s.1))])
   (fun s=>s.1≤l.length∧s.2.OK 5 ((Cn rs k).length+s.1) (frC (Cn rs k++Es l s.1))) (fun s=>l.length-s.1) (0,V) ⟨Nat.zero_le _,by show V.OK 5 _ (frC (Cn rs k++[]));rw[List.append_nil];exact hV⟩ ⟨rfl,rfl,rfl,rfl,rfl,rfl,rfl,rfl,rfl,trivial⟩ [] (by show _=[_,V.bx 39 (frC (Cn rs k++[]))]++[];rw[List.append_nil,List.append_nil]) ?_
  rintro⟨i,U⟩ ⟨hi,hU⟩
  have hi:i≤l.length:=hi
  have hU:U.OK 5 ((Cn rs k).length+i) (frC (Cn rs k++Es l i)):=hU
  refine zA (zB (wP rfl ?_))
  by_cases hil:i<l.length
  ·refine Ac 22 (.bool true) rfl (congrArg Value.bool (decide_eq_true (by omega))) ?_
   refine Aa (zE (zA (zR rfl (zI (zE (zA (zH (zA (zB ?_)))))))))
   obtain⟨gS,oS,hqe,hsd⟩:=hring.row hil
   have hs0:=hsd i hil
   have hs1:=hsd (nxt l.length i) (Bt hil)
   have hnl:=Bt hil
   have hsuc:=U9 l i
   subst hqe
   refine wP rfl ?_
   refine wJ ?_
   refine Av rfl rfl rfl rfl (fun W hp=>Ae.load 0 tH rfl ((fun W1 hp=>hs0.hp hp) W hp) rfl) ?_
   (refine An Tryz.hZ rfl rfl rfl rfl ?_;intro)
   refine wP rfl (wS 2 rfl rfl rfl (Aa ?_))
   rename_i b8
   refine zE ?_
   refine BW (X:= { V':Vec//V'.OK 5 ((Cn rs k).length+(i+1)) (frC (Cn rs k++Es l (i+1))) }) [true,true,true,true,true,true,true,true,true,true,true,false,false,false] (fun V'=>[(1,A5 b1),(4,V'.1.val ((Cn rs k).length+(i+1))),(13,slv (some ⟨gR,oR,none⟩) rs.length cap),(14, .int .i64 (rs.length:Nat)),(15, .int .i64 (k:Nat)),(6,slv (some ⟨gS,oS,none⟩) l.length c),(19,slv (some ⟨gS,oS,none⟩) l.length c),(20, .int .i64 (l.length:Nat)),(21, .int .i64 (i:Nat))])
    (fun V'=>[⟨b1,24,[slv (some ⟨gR,oR,none⟩) rs.length cap],true,none⟩,V'.1.bx 39 (frC (Cn rs k++Es l (i+1)))])
    3 [⟨b1,24,[slv (some ⟨gR,oR,none⟩) rs.length cap],true,none⟩,U.bx 39 (frC (Cn rs k++Es l i)),⟨b8,42,(sd l i).cells,true,none⟩] Tryz.mixed (by kernel_rfl) ?_ ?_
   ·refine qP rfl (qB 2 rfl rfl rfl (qP rfl (qP rfl (qP rfl ?_))))
    refine AF 30 (.int .i64 ((i+1:Nat):Int)) rfl (congrArg (Value.int .i64) (AM (by omega))) ?_
    refine qP rfl (qP rfl ?_)
    refine GD rfl rfl rfl rfl rfl (by omega) ?_
    refine AF 33 (.int .i64 (nxt l.length i:Nat)) rfl (congrArg (Value.int .i64) (by rw[Int.tmod_eq_emod_of_nonneg (by omega)];exact(Int.natCast_emod _ _).symm)) ?_
    refine qJ ?_
    refine Ap rfl rfl rfl rfl (fun W hp=>Ae.load 0 tH rfl ((fun W1 hp=>hs1.hp hp) W hp) rfl) ?_
    refine A8 rfl rfl rfl rfl rfl rfl (by kernel_rfl) (fun W1 hp=>U7 (sd l i) (sd l (nxt l.length i)) (hrl _ (List.mem_of_getElem? (Cz hil))) W1 (hd.hp hp) (ht.hp hp)) ?_
    refine CX ?_
    refine wX ?_
    refine RS.cons ?_ (RS.nil)
    refine A4 Tryz.hZ tH rfl rfl rfl rfl rfl rfl rfl rfl rfl rfl rfl fun bN=> ?_
    refine Aa (Ah ?_)
    refine wX ?_
    refine RS.cons ?_ (RS.nil)
    refine AO (V:=U) (len:=(Cn rs k).length+i) (xs:=frC (Cn rs k++Es l i)) 1 3 Tryz.vec29 ((Cn rs k).length+(i+1)) (frC (Cn rs k++Es l (i+1))) rfl rfl rfl rfl rfl rfl rfl rfl rfl rfl rfl hU rfl rfl rfl (by rw[hsuc, ←List.append_assoc,Ts (Cn rs k++Es l i)];rfl) (by simp only[maxLen];omega) (by omega) rfl ?_;intro gV cV jV hV1
    refine Aa (Ah ?_)
    refine wY ?_
    refine RS.cons ?_ (RS.nil)
    refine wP rfl (Aa (Ah ?_))
    refine A3 rfl (by kernel_rfl) ?_
    exact Ax ⟨⟨some gV,cV,jV⟩,hV1⟩ ⟨rfl,rfl,rfl,rfl,rfl,rfl,rfl,rfl,rfl,trivial⟩ [0,1] (by decide) rfl
   intro V'
   refine zN (zE (zB (wP rfl ?_)))
   refine Ac 39 (.int .i64 ((i+1:Nat):Int)) rfl (congrArg (Value.int .i64) (AM (by omega))) ?_
   refine wP rfl (Aa ?_)
   exact At (i+1,V'.1) ⟨hil,V'.2⟩ (by show l.length-(i+1)<l.length-i;omega) ⟨rfl,rfl,rfl,rfl,rfl,rfl,rfl,rfl,rfl,trivial⟩ [] rfl
  have e:i=l.length:=by omega
  subst e
  refine Ac 22 (.bool false) rfl (congrArg Value.bool (decide_eq_false (by omega))) ?_
  refine Aa (zE (zA (zS rfl (zJ (zK (zK (zL (zN (zE (zB ?_))))))))))
  have hall:Cn rs (k+1)=Cn rs k++Es l l.length:=by rw[hle];rfl
  have hall2:(Cn rs (k+1)).length=(Cn rs k).length+l.length:=by rw[hall,List.length_append,Q7]
  refine wP rfl ?_
  refine Ac 40 (.int .i64 ((k+1:Nat):Int)) rfl (congrArg (Value.int .i64) (AM (by omega))) ?_
  refine wP rfl (Aa ?_)
  exact At (k+1,U) ⟨hlt,by show U.OK 5 (Cn rs (k+1)).length (frC (Cn rs (k+1)));rw[hall2,hall];exact hU⟩ (by show rs.length-(k+1)<rs.length-k;omega) ⟨rfl,by show some (U.val _)=some (U.val (Cn rs (k+1)).length);rw[hall2],rfl,rfl,rfl,trivial⟩ [] (by show _=[_,U.bx 39 (frC (Cn rs (k+1)))]++[];rw[hall];rfl)
 have e:k=rs.length:=by omega
 subst e
 refine Ac 16 (.bool false) rfl (congrArg Value.bool (decide_eq_false (by omega))) ?_
 refine Aa (zE (zA (zS rfl (zJ (zK (zK (zL (zE (zA (zB (wP rfl (wP rfl (wP rfl ?_)))))))))))))
 refine Aa (zE (zO ?_))
 exact Au tH rfl (.tmp rfl) (.tmp rfl) V rfl hV fun W1 hp=>Ag.of_hp (hp.pick (l:=[V.bx 39 (frC (Cn rs rs.length))]) [1] (by decide) rfl)
end
section
open Go Go.RowKit Go.Am
set_option maxRecDepth 10000
-- BOXES 8
theorem K7 (W:World) (p:Option Addr) (cap:Nat) (l:List Sd) (hn:l.length<1099511627776) (hR:Br W p l) (hne:l≠[]):
  Ai Tryz.prog 187 #[slv p l.length cap] W (fun V:Vec=>V.val l.length) (fun V=>V.OK 7 l.length (cellsOf l)∧V.p≠none) (fun V=>[V.bx 42 (cellsOf l)]):=by
 obtain⟨b,off,rfl,hRl⟩: ∃b off,p=some ⟨b,off,none⟩∧Ef W b off l:=by
  rcases hR with h|h
  ·exact absurd h hne
  ·exact h
 refine Ad (args:=[slv (some ⟨b,off,none⟩) l.length cap]) Tryz.func187 rfl rfl rfl ?_
 refine zA (zB (wP rfl (Aa (zE (zA (zA (zB (wP rfl ?_))))))))
 refine Q3 tH rfl rfl rfl rfl rfl rfl rfl ?_
 refine zC (zE (zS rfl (zI (zE (zA (zB ?_))))))
 refine IdZ tH rfl rfl rfl rfl rfl ?_
 intro g
 refine wP rfl ?_
 refine E1 (len:=0) (V:=⟨some g,0,[]⟩) (xs:=[]) 0 Tryz.vec32 rfl rfl rfl rfl rfl rfl rfl rfl rfl ⟨rfl,(fun h=>by cases h),fun _=>⟨Nat.le_refl _,Nat.zero_le _,rfl⟩⟩ (A7 l) (fun W hp j u hj=> ?_) (HD _) (by simp only[maxLen];omega) (by omega) ?_
 ·have hR':=Br.hp (.inr ⟨b,off,rfl,hRl⟩) hp
  rcases hR' with h|⟨b3,off3,e,hR'⟩
  ·exact absurd h hne
  ·cases e
   rw[Addr.add_none]
   exact hR'.cells j u hj
 intro V hV hp0
 refine wP rfl (Aa (zE (zO ?_)))
 have e0:0+l.length=l.length:=Nat.zero_add _
 rw[e0,List.nil_append] at hV
 exact Af tH rfl (.tmp rfl) V (by rw[e0]) ⟨hV,fun h=>hne (List.length_eq_zero_iff.1 (hp0 h))⟩ fun W hp=>Ag.of_hp1 hp 0 rfl
abbrev GC:=List (Vec×List Sd)
def AG (mk:GC):List Value:=mk.map fun p=>p.1.val p.2.length
def mkB (mk:GC):Bx:=AI (mk.reverse.flatMap fun p=>(p.1.bx 42 (cellsOf p.2)).blk)
structure DE (mk:GC) (rs:List (List Sd)):Prop where
 eq:mk.map (·.2)=rs
 ok: ∀p∈mk,p.1.OK 7 p.2.length (cellsOf p.2)
theorem Qc (mk:GC) (U:Vec) (l:List Sd):(mkB (mk++[(U,l)])).blk=(U.bx 42 (cellsOf l)).blk++(mkB mk).blk:=by
 show((mk++[(U,l)]).reverse.flatMap _)=_++(mk.reverse.flatMap _)
 rw[List.reverse_append]
 simp
theorem DE.snoc {mk:GC} {rs:List (List Sd)} {U:Vec} {l:List Sd} (h:DE mk rs) (hU:U.OK 7 l.length (cellsOf l)):DE (mk++[(U,l)]) (rs++[l]):=by
 refine⟨by rw[List.map_append,h.eq];rfl,fun p hp=> ?_⟩
 rcases List.mem_append.1 hp with hp|hp
 ·exact h.ok p hp
 ·obtain rfl:=List.mem_singleton.1 hp;exact hU
theorem If (mk:GC) (U:Vec) (l:List Sd):AG (mk++[(U,l)])=AG mk++[U.val l.length]:=by simp[AG]
theorem Ae.of_grp {W0 W:World} {bxs:List Bx} (hp:Hp W0 bxs W) (k:Nat) {l:List (Nat×Obj)} (hk:nth bxs k=some (AI l)) {g:Nat} {c:List Value} {ty:TypeId} (hm:(g,Obj.cells c.toArray ty (0,0))∈l):Ae W g 0 c:=by
 rw[AV] at hk
 exact Ae.of_block (hp.own.cell k _ hk _ hm).1
theorem K0 {V:Vec} {size n:Nat} {xs:List Value} (h:V.OK size n xs): ∃q cq,V.val n=slv q n cq:=⟨_,_,Vec.val_eq h⟩
theorem Et {mk:GC} {rs:List (List Sd)} (h:DE mk rs) {V:Vec} (hV:V.OK 1 rs.length (AG mk)):
  ∃p cap,V.val rs.length=slv p rs.length cap∧ ∀ {W0 W:World} {bxs:List Bx},Hp W0 bxs W→ ∀k i,nth bxs k=some (V.bx 32 (AG mk))→nth bxs i=some (mkB mk)→AY W p rs:=by
 obtain⟨p,cap,junk⟩:=V
 cases p with
 |none=>
  have h0:=hV.nil rfl
  refine⟨none,0,by rw[h0];rfl,fun _ _ _ _ _=> .inl (List.length_eq_zero_iff.1 h0)⟩
 |some g=>
  refine⟨some ⟨g,0,none⟩,cap,rfl,fun {W0 W bxs} hp k i hk hi=> .inr ⟨g,0,rfl,⟨fun j l hj=> ?_⟩⟩⟩
  have hjm:j<mk.length:=by
   have:=(List.getElem?_eq_some_iff.1 hj).1
   rw[←h.eq,List.length_map] at this;exact this
  have hl:(mk[j]).2=l:=by
   rw[←h.eq,List.getElem?_map,List.getElem?_eq_getElem hjm] at hj
   simpa using hj
  have hok:=h.ok _ (List.getElem_mem hjm)
  obtain⟨q,cq,e1⟩:=K0 hok
  refine⟨q,cq, ?_, ?_⟩
  ·have hrow:=Ae.of_bx hp k hk rfl
   refine⟨hrow.lt,fun m u hu=> ?_⟩
   have hm:m=0∧u=slv q l.length cq:=by
    cases m with
    |zero=>simp at hu;exact⟨rfl,hu.symm⟩
    |succ m=>simp at hu
   obtain⟨rfl,rfl⟩:=hm
   have:=hrow.get j (slv q l.length cq) (by
    show(AG mk++junk)[j]? =_
    rw[List.getElem?_append_left (by rw[AG,List.length_map];exact hjm),AG,List.getElem?_map,List.getElem?_eq_getElem hjm]
    simp only[Option.map_some]
    rw[e1,hl])
   rw[Nat.mul_one,Nat.zero_add,Nat.add_zero]
   rw[Nat.zero_add] at this
   exact this
  ·by_cases hl0:l=[]
   ·exact .inl hl0
   ·obtain⟨⟨⟨p2,cap2,junk2⟩,l2⟩,hmk⟩: ∃x:Vec×List Sd,mk[j]=x:=⟨_,rfl⟩
    have e2:l2=l:=by rw[hmk] at hl;exact hl
    subst e2
    rw[hmk] at hok e1
    cases p2 with
    |none=>exact absurd (List.length_eq_zero_iff.1 (hok.nil rfl)) hl0
    |some g2=>
     have e3:q=some ⟨g2,0,none⟩:=by
      have e1':Value.slice (some ⟨g2,0,none⟩) l2.length cap2=slv q l2.length cq:=e1
      injection e1' with e1' _ _
      exact e1'.symm
     refine .inr ⟨g2,0,e3, ?_⟩
     have hin:(g2,Obj.cells (cellsOf l2++junk2).toArray 42 (0,0))∈mk.reverse.flatMap fun p=>(p.1.bx 42 (cellsOf p.2)).blk:=by
      refine List.mem_flatMap.2 ⟨mk[j],List.mem_reverse.2 (List.getElem_mem hjm), ?_⟩
      rw[hmk]
      exact List.mem_cons_self ..
     have hrow:=Ae.of_grp hp i hi hin
     refine Ef.of_cells hrow.lt fun m u hu=>hrow.get m u ?_
     rw[List.getElem?_append_left (List.getElem?_eq_some_iff.1 hu).1]
     exact hu
theorem JK {s':Sd} {f:Nat} {v:Value} {junk:List Value} (hf:f<7): ∀(l:List Sd) (j:Nat),j<l.length→s'.cells=AS (sd l j).cells f [v]→AS (cellsOf l++junk) (j*7+f) [v]=cellsOf (l.set j s')++junk
 |[],j,h,_=>by simp at h
 |s::l,0,_,hs=>by
  have hs:s'.cells=AS s.cells f [v]:=hs
  show AS (s.cells++cellsOf l++junk) (0*7+f) [v]=s'.cells++cellsOf l++junk
  rw[hs,Nat.zero_mul,Nat.zero_add]
  match f,hf with
  |0,_=>rfl
  |1,_=>rfl
  |2,_=>rfl
  |3,_=>rfl
  |4,_=>rfl
  |5,_=>rfl
  |6,_=>rfl
 |s::l,j+1,h,hs=>by
  have ih:=JK (s':=s') (v:=v) (junk:=junk) hf l j (by simpa using h) (by rw[hs];simp[sd])
  show AS (s.cells++cellsOf l++junk) ((j+1)*7+f) [v]=s.cells++cellsOf (l.set j s')++junk
  rw[List.append_assoc,List.append_assoc, ←ih,show(j+1)*7+f=s.cells.length+(j*7+f) by show _=7+_;omega,Bj]
def mvS (f:Int→Int→Int×Int) (s:Sd):Sd:= { s with x:=(f s.x s.y).1,y:=(f s.x s.y).2 }
def mvR (f:Int→Int→Int×Int) (rs:List (List Sd)):List (List Sd):=rs.map (·.map (mvS f))
theorem VF (f:Sd→Sd) (l:List Sd) (j:Nat):((l.take j).map f++l.drop j).length=l.length:=by
 rw[List.length_append,List.length_map,List.length_take,List.length_drop];omega
theorem Ys (f:Sd→Sd) (l:List Sd) {j:Nat} (hj:j<l.length):sd ((l.take j).map f++l.drop j) j=sd l j:=by
 have hlen:((l.take j).map f).length=j:=by rw[List.length_map,List.length_take];omega
 have:((l.take j).map f++l.drop j)[j]? =some (sd l j):=by
  rw[List.getElem?_append_right (by omega),hlen,Nat.sub_self,List.getElem?_drop,Nat.add_zero,Cz hj]
 show List.getD _ _ _=_
 rw[List.getD_eq_getElem?_getD,this]
 rfl
theorem VA (f:Sd→Sd) (l:List Sd) {j:Nat} (hj:j<l.length):((l.take j).map f++l.drop j).set j (f (sd l j))=(l.take (j+1)).map f++l.drop (j+1):=by
 have hlen:((l.take j).map f).length=j:=by rw[List.length_map,List.length_take];omega
 have hd:l.drop j=sd l j::l.drop (j+1):=by rw[List.drop_eq_getElem_cons hj];simp[sd,hj]
 rw[List.set_append_right _ _ (by omega),hlen,Nat.sub_self,hd,List.set_cons_zero,List.take_add_one,Cz hj]
 simp
theorem F5 (g:Nat) (hE:Bk Tryz.prog g=true) (capt:List Value) (f:Int→Int→Int×Int) (W:World) (p:Option Addr) (cap:Nat) (rs:List (List Sd)) (hn:rs.length<1099511627776) (hT:tot rs<1099511627776) (hR:AY W p rs) (hne: ∀l∈rs,l≠[])
  (hf: ∀W',Below W.heap.size W W'→ ∀x y,Ai Tryz.prog g ([spot x y]++capt).toArray W' (fun _:Unit=>spot (f x y).1 (f x y).2) (fun _=>True) (fun _=>[])):
  Ai Tryz.prog 104 #[AX p rs.length cap, .func (.func g) #[] capt.toArray] W (fun x:Vec×GC=> .agg #[x.1.val rs.length]) (fun x=>DE x.2 (mvR f rs)∧x.1.OK 1 rs.length (AG x.2)) (fun x=>[x.1.bx 32 (AG x.2),mkB x.2]):=by
 have hl: ∀l∈rs,l.length<1099511627776:=fun l h=>by have:=C8 h;omega
 refine Ad (args:=[AX p rs.length cap, .func (.func g) #[] capt.toArray]) Tryz.func104 rfl rfl rfl ?_
 refine zA (zB ?_)
 (refine A0 rfl rfl rfl rfl ?_;intro)
 (refine An Tryz.hZ rfl rfl rfl rfl ?_;intro)
 refine Aa ?_
 rename_i b2 b4
 refine zE (zA (zB ?_))
 (refine An Tryz.hZ rfl rfl rfl rfl ?_;intro)
 refine Aa ?_
 rename_i b5
 refine zE (zA (zA (zB (wP rfl (wB 0 rfl rfl rfl (wP rfl (wP rfl (Aa (zE (zH ?_))))))))))
 refine Cl ?_
 refine No ?_
 refine Az (X:=Nat×Vec×GC) (fun x=>[(1, .func (.func g) #[] capt.toArray),(4, .pointer (some ⟨b4,0,none⟩)),(5, .pointer (some ⟨b5,0,none⟩)),(12,slv p rs.length cap),(13, .int .i64 (rs.length:Nat)),(14, .int .i64 (x.1:Nat))])
  (fun x=>[⟨b2,24,[slv p rs.length cap],true,none⟩,⟨b4,24,[slv none 0 0],true,none⟩,⟨b5,24,[x.2.1.val x.1],true,none⟩,x.2.1.bx 32 (AG x.2.2),mkB x.2.2])
  (fun x=>x.1≤rs.length∧DE x.2.2 (mvR f (rs.take x.1))∧x.2.1.OK 1 x.1 (AG x.2.2)) (fun x=>rs.length-x.1) (0,Vec.empty,[]) ⟨Nat.zero_le _,⟨rfl,fun p hp=>by cases hp⟩,Vec.OK.empty 1⟩ ⟨rfl,rfl,rfl,rfl,rfl,rfl,trivial⟩ [] rfl ?_
 rintro⟨k,V,mk⟩ ⟨hk0,hmk0,hV0⟩
 have hk:k≤rs.length:=hk0
 have hmk:DE mk (mvR f (rs.take k)):=hmk0
 have hV:V.OK 1 k (AG mk):=hV0
 clear hk0 hmk0 hV0
 refine zA (zB (wP rfl (Aa (zE (zA ?_)))))
 refine Al rfl (fun h=> ?_) (fun h=> ?_)
 rotate_left
 ·have e:k=rs.length:=by simp at h;omega
  subst e
  have ev:=Vec.val_eq hV
  refine zJ (zK (zK (zL (zE (zA (zB (wB 2 rfl rfl rfl ?_)))))))
  refine Ac 52 (.agg #[.slice (V.p.map fun g=>⟨g,0,none⟩) rs.length (match V.p with|none=>0|some _=>V.cap)]) rfl (congrArg (fun v=>Value.agg #[v]) ev) ?_
  refine wS 1 rfl rfl rfl (Aa (zE (zO ?_)))
  rw[List.take_length] at hmk
  exact Af tH rfl (.cell 1 rfl rfl rfl rfl rfl) (V,mk) (congrArg (fun v=>Value.agg #[v]) ev.symm) ⟨hmk,hV⟩ fun W hp=>(hp.pick [3,4] (by decide) rfl).own
 have hk:k<rs.length:=by simp at h;omega
 clear h
 obtain⟨b,off,rfl,hrow⟩:=hR.row hk
 obtain⟨q,cap2,hq1,hq2⟩:=hrow k hk
 have hlk:=hl _ (List.mem_of_getElem? (AN hk))
 have hnek:=hne _ (List.mem_of_getElem? (AN hk))
 refine zI (zE (zA (zH (zA (zB ?_)))))
 refine wJ ?_
 refine Av rfl rfl rfl rfl (fun W hp=>Ae.load 0 tH rfl ((fun W hp=>hq1.hp hp) W hp) rfl) ?_
 refine wP rfl (Aa (zE (zA (zB (wP rfl ?_)))))
 refine Ay (X:=Vec) rfl rfl rfl rfl rfl rfl (by kernel_rfl) (fun W hp=>K7 W q cap2 (rg rs k) hlk (hq2.hp hp) hnek) ?_
 rintro U0 ⟨hU0,hUp⟩
 obtain⟨pU,capU,junk⟩:=U0
 cases pU with
 |none=>exact absurd rfl hUp
 |some gU=>
 obtain⟨hc0,_,hc2⟩:=hU0.cap (by simp)
 have hc0:(rg rs k).length≤capU:=hc0
 have hc2:(cellsOf (rg rs k)).length+junk.length=capU*7:=hc2
 refine wP rfl (Aa (zE (zA (zA (zB (wP rfl (wP rfl (wP rfl (Aa (zE (zH ?_)))))))))))
 refine Az (X:=Nat) (fun j=>[(1, .func (.func g) #[] capt.toArray),(4, .pointer (some ⟨b4,0,none⟩)),(5, .pointer (some ⟨b5,0,none⟩)),(12,slv (some ⟨b,off,none⟩) rs.length cap),(13, .int .i64 (rs.length:Nat)),(14, .int .i64 (k:Nat)),(8,slv (some ⟨gU,0,none⟩) (rg rs k).length capU),(21, .int .i64 ((rg rs k).length:Nat)),(22, .int .i64 (j:Nat))])
  (fun j=>[⟨b2,24,[slv (some ⟨b,off,none⟩) rs.length cap],true,none⟩,⟨b4,24,[slv none 0 0],true,none⟩,⟨b5,24,[V.val k],true,none⟩,V.bx 32 (AG mk),mkB mk,(⟨some gU,capU,junk⟩:Vec).bx 42 (cellsOf (((rg rs k).take j).map (mvS f)++(rg rs k).drop j))])
  (fun j=>j≤(rg rs k).length) (fun j=>(rg rs k).length-j) 0 (Nat.zero_le _) ⟨rfl,rfl,rfl,rfl,rfl,rfl,rfl,rfl,rfl,trivial⟩ [] rfl ?_
 intro j hj
 refine zA (zB (wP rfl (Aa (zE (zA ?_)))))
 refine Al rfl (fun h=> ?_) (fun h=> ?_)
 ·have hj:j<(rg rs k).length:=by simp at h;omega
  clear h
  have hlj:=VF (mvS f) (rg rs k) j
  have hsj:=Ys (mvS f) (rg rs k) hj
  have hset:=VA (mvS f) (rg rs k) hj
  generalize eL:((rg rs k).take j).map (mvS f)++(rg rs k).drop j=L at hlj hsj hset
  have hgj:L[j]? =some (sd (rg rs k) j):=by rw[←hsj];exact Cz (by omega)
  refine zI (zE (zA (zH (zA (zB (wP rfl (wP rfl (Aa (zE (zA (zB (wP rfl (wP rfl (wP rfl ?_))))))))))))))
  refine wJ ?_
  refine Av rfl rfl rfl rfl (fun W hp=>Ae.load 0 tH rfl ((fun W hp=>Vec.rowAt (f:=Sd.cells) (n:=7) (fun _=>rfl) hp 5 rfl hgj) W hp) rfl) ?_
  refine Ab rfl rfl rfl rfl rfl rfl (by kernel_rfl) (fun W _=>(Bl ..)) ?_
  refine Ab (g:=g) (capt:=capt) (v:=spot (f (sd (rg rs k) j).x (sd (rg rs k) j).y).1 (f (sd (rg rs k) j).x (sd (rg rs k) j).y).2) rfl rfl rfl rfl rfl rfl hE (fun W' hp=>hf W' hp.below (sd (rg rs k) j).x (sd (rg rs k) j).y) ?_
  (refine An Tryz.hZ rfl rfl rfl rfl ?_;intro)
  refine wS 6 rfl rfl rfl (Aa ?_)
  rename_i b10
  refine zE ?_
  generalize hX:(f (sd (rg rs k) j).x (sd (rg rs k) j).y).1=X at*
  generalize hY:(f (sd (rg rs k) j).x (sd (rg rs k) j).y).2=Y at*
  have hjL:j<L.length:=by omega
  have hlen7:(cellsOf L++junk).length=capU*7:=by rw[List.length_append,A7,hlj, ←A7];exact hc2
  have h1:AS (cellsOf L++junk) (0+j*7+0) [.int .i64 X]=cellsOf (L.set j { sd (rg rs k) j with x:=X })++junk:=by
   rw[Nat.zero_add]
   exact JK (s':= { sd (rg rs k) j with x:=X }) (by omega) L j hjL (by rw[hsj];rfl)
  have h2:AS (cellsOf (L.set j { sd (rg rs k) j with x:=X })++junk) (0+j*7+1) [.int .i64 Y]=cellsOf (((rg rs k).take (j+1)).map (mvS f)++(rg rs k).drop (j+1))++junk:=by
   rw[Nat.zero_add,JK (s':=mvS f (sd (rg rs k) j)) (by omega) (L.set j { sd (rg rs k) j with x:=X }) j (by rw[List.length_set];exact hjL) (by
    have e:sd (L.set j { sd (rg rs k) j with x:=X }) j= { sd (rg rs k) j with x:=X }:=by simp[sd,hjL]
    rw[e, ←hY]
    show(mvS f (sd (rg rs k) j)).cells=_
    unfold mvS
    rw[hX];rfl),List.set_set,hset]
  refine Ha (X:=Unit) (fun _=>[(1, .func (.func g) #[] capt.toArray),(4, .pointer (some ⟨b4,0,none⟩)),(5, .pointer (some ⟨b5,0,none⟩)),(12,slv (some ⟨b,off,none⟩) rs.length cap),(13, .int .i64 (rs.length:Nat)),(14, .int .i64 (k:Nat)),(8,slv (some ⟨gU,0,none⟩) (rg rs k).length capU),(21, .int .i64 ((rg rs k).length:Nat)),(22, .int .i64 (j:Nat))])
   (fun _=>[⟨b2,24,[slv (some ⟨b,off,none⟩) rs.length cap],true,none⟩,⟨b4,24,[slv none 0 0],true,none⟩,⟨b5,24,[V.val k],true,none⟩,V.bx 32 (AG mk),mkB mk,(⟨some gU,capU,junk⟩:Vec).bx 42 (cellsOf (((rg rs k).take (j+1)).map (mvS f)++(rg rs k).drop (j+1)))])
   4 [C9,C9,C9,C9,C9,C9,⟨b10,147,(spot X Y).cells.toList,true,none⟩] Tryz.mixed (by kernel_rfl) ?_ ?_
  ·refine qP rfl (qP rfl (qP rfl (qP rfl (qP rfl (qB 6 rfl rfl rfl (qP rfl (qB 6 rfl rfl rfl ?_)))))))
   refine qJ ?_
   refine qP rfl (CX ?_)
   refine wX ?_
   refine RS.cons ?_ (RS.nil)
   refine Aj 5 _ tH rfl rfl rfl rfl rfl rfl rfl rfl rfl rfl (by show 0+j*7+0+1≤(cellsOf L++junk).length;omega) h1 ?_
   refine Aa (Ah ?_)
   refine wX ?_
   refine RS.cons ?_ (RS.nil)
   refine wJ ?_
   refine Aa (Ah ?_)
   refine wX ?_
   refine RS.cons ?_ (RS.nil)
   refine wP rfl (Aa (Ah ?_))
   refine wX ?_
   refine RS.cons ?_ (RS.nil)
   refine Aj 5 _ tH rfl rfl rfl rfl rfl rfl rfl rfl rfl rfl (by show 0+j*7+1+1≤(cellsOf (L.set j { sd (rg rs k) j with x:=X })++junk).length;rw[List.length_append,A7,List.length_set, ←A7, ←List.length_append];omega) h2 ?_
   refine Aa (Ah ?_)
   refine BT rfl (by((repeat (first|refine BM.same ?_|refine BM.off rfl ?_));exact trivial)) ?_
   exact Ax () ⟨rfl,rfl,rfl,rfl,rfl,rfl,rfl,rfl,rfl,trivial⟩ [0,1,2,3,4,5] (by decide) rfl
  ·intro _
   refine zN (zE (zB (wP rfl (wP rfl (Aa ?_)))))
   exact At (j+1) hj (by omega) ⟨rfl,rfl,rfl,rfl,rfl,rfl,rfl,rfl,congrArg (fun z=>some (Value.int .i64 z)) (A6 (x:=(j:Int)+1) (by omega) (by omega)),trivial⟩ [] rfl
 ·have e:j=(rg rs k).length:=by simp at h;omega
  subst e
  clear h
  have hfull:((rg rs k).take (rg rs k).length).map (mvS f)++(rg rs k).drop (rg rs k).length=(rg rs k).map (mvS f):=by rw[List.take_length,List.drop_length,List.append_nil]
  have hlm:((rg rs k).map (mvS f)).length=(rg rs k).length:=List.length_map _
  have hU1:(⟨some gU,capU,junk⟩:Vec).OK 7 ((rg rs k).map (mvS f)).length (cellsOf ((rg rs k).map (mvS f))):=by
   refine⟨A7 _,(fun h=>by cases h),fun _=>⟨by rw[hlm];exact hc0,(hU0.cap (by simp)).2.1, ?_⟩⟩
   rw[A7,hlm, ←A7];exact hc2
  have hrow:AG (mk++[((⟨some gU,capU,junk⟩:Vec),(rg rs k).map (mvS f))])=AG mk++[slv (some ⟨gU,0,none⟩) (rg rs k).length capU]:=by
   rw[If]
   show _++[slv (some ⟨gU,0,none⟩) ((rg rs k).map (mvS f)).length capU]=_
   rw[hlm]
  have htk:mvR f (rs.take (k+1))=mvR f (rs.take k)++[(rg rs k).map (mvS f)]:=by
   unfold mvR
   rw[List.take_add_one,AN hk];simp
  rw[hfull]
  refine zJ (zK (zK (zL (zE (zB (wP rfl (wB 2 rfl rfl rfl (wP rfl ?_))))))))
  (refine A4 Tryz.hZ tH rfl rfl rfl rfl rfl rfl rfl rfl rfl rfl rfl ?_;intro)
  refine AO (V:=V) (xs:=AG mk) (len:=k) 3 6 Tryz.vec22 (k+1) (AG (mk++[((⟨some gU,capU,junk⟩:Vec),(rg rs k).map (mvS f))])) rfl rfl rfl rfl rfl rfl rfl rfl rfl rfl rfl hV rfl rfl rfl (by rw[hrow];rfl) (by simp only[maxLen];omega) (by omega) rfl ?_
  intro g1 c1 j1 hV1
  refine wP rfl (wS 2 rfl rfl rfl (Aa (zN (zE (zB (wP rfl (wP rfl (Aa ?_))))))))
  refine KP 4 5 (mkB (mk++[((⟨some gU,capU,junk⟩:Vec),(rg rs k).map (mvS f))])) rfl rfl rfl (Qc mk _ _) ?_
  exact At (k+1,⟨some g1,c1,j1⟩,mk++[((⟨some gU,capU,junk⟩:Vec),(rg rs k).map (mvS f))]) ⟨hk,htk▸hmk.snoc hU1,hV1⟩ (by show rs.length-(k+1)<rs.length-k;omega) ⟨rfl,rfl,rfl,rfl,rfl,congrArg (fun z=>some (Value.int .i64 z)) (A6 (x:=(k:Int)+1) (by omega) (by omega)),trivial⟩ [C9,_] rfl
-- BOXES 8
theorem Mn (s:Sd):Bv Tryz.prog 186 [s.val] (.bool (!rgd s)):=by
 intro W
 refine Ad Tryz.func186 rfl rfl rfl ?_
 refine zA (zB ?_)
 (refine A0 rfl rfl rfl rfl ?_;intro)
 refine wP rfl (Aa (zE (zA (zB (wB 0 rfl rfl rfl ?_)))))
 refine Ab rfl rfl rfl rfl rfl rfl (by kernel_rfl) (fun W _=>(Jf ..)) ?_
 refine wP rfl (wP rfl (Aa (zE (zO ?_))))
 exact Af tH rfl (.tmp rfl) () rfl trivial fun W _=>Ag.nil _ _
abbrev Mm:Value:= .agg #[.slice none 0 0]
theorem FH (W:World) (p:Option Addr) (cap:Nat) (rs:List (List Sd)) (hn:rs.length<4611686018427387904) (hT:tot rs<1099511627776) (hR:AY W p rs) (hne: ∀l∈rs,l≠[]):
  Ai Tryz.prog 103 #[AX p rs.length cap] W (fun _:Unit=>if rs.flatten.any (fun s=> !rgd s)=true then .tuple #[Mm, .int .i64 2] else .tuple #[AX p rs.length cap, .int .i64 0]) (fun _=>True) (fun _=>[]):=by
 refine Ad (args:=[AX p rs.length cap]) Tryz.func103 rfl rfl rfl ?_
 refine zA (zB ?_)
 (refine A0 rfl rfl rfl rfl ?_;intro)
 (refine An Tryz.hZ rfl rfl rfl rfl ?_;intro)
 refine wP rfl (Aa (zE (zA (zA (zB (wP rfl (wB 0 rfl rfl rfl ?_)))))))
 refine Ay (X:=Vec) rfl rfl rfl rfl rfl rfl (by kernel_rfl) (fun W hp=>ES W p cap rs hn hT (hR.hp hp) hne) ?_
 intro V hV
 obtain⟨q,cq,eV,hVR⟩:=Vec.ring hV
 have hfl:rs.flatten.length<4611686018427387904:=by rw[Cv];omega
 refine Ac 6 _ rfl eV ?_
 refine Ab rfl rfl rfl rfl rfl rfl (by kernel_rfl) (fun W hp=>Gn 186 (by kernel_rfl) (fun s=> !rgd s) Mn W q cq rs.flatten hfl (hVR hp 2 rfl)) ?_
 refine Aa (zE ?_)
 refine Al rfl (fun h=> ?_) (fun h=> ?_)
 ·refine zA (zB ?_)
  refine AA Tryz.hZ tH rfl rfl rfl rfl rfl rfl rfl rfl ?_
  refine wS 1 rfl rfl rfl (wP rfl (Aa (zE (zO (zP ?_)))))
  exact Au tH rfl (.cell 1 rfl rfl rfl rfl rfl) (.tmp rfl) () (by rw[if_pos h];rfl) trivial fun W _=>Ag.nil _ _
 ·refine zI (zE (zA (zB (wB 0 rfl rfl rfl (wS 1 rfl rfl rfl (wP rfl (Aa (zE (zO ?_)))))))))
  exact Au tH rfl (.cell 1 rfl rfl rfl rfl rfl) (.tmp rfl) () (by rw[if_neg (by rw[h];decide)];rfl) trivial fun W _=>Ag.nil _ _
def shF (dx dy:Int) (x y:Int):Int×Int:=(w64 (x+dx),w64 (y+dy))
theorem IU (dx dy x y:Int) (W:World) (b1 b2:Nat) (h1:Ae W b1 0 [.int .i64 dx]) (h2:Ae W b2 0 [.int .i64 dy]):
  Ai Tryz.prog 105 #[spot x y, .pointer (some ⟨b1,0,none⟩), .pointer (some ⟨b2,0,none⟩)] W (fun _:Unit=>spot (shF dx dy x y).1 (shF dx dy x y).2) (fun _=>True) (fun _=>[]):=by
 refine Ad (args:=[spot x y, .pointer (some ⟨b1,0,none⟩), .pointer (some ⟨b2,0,none⟩)]) Tryz.func105 rfl rfl rfl ?_
 refine zA (zB ?_)
 (refine A0 rfl rfl rfl rfl ?_;intro)
 (refine An Tryz.hZ rfl rfl rfl rfl ?_;intro)
 refine Aa (zE (zA (zB (wP rfl (wB 0 rfl rfl rfl ?_)))))
 refine Av rfl rfl rfl rfl (fun W hp=>Ae.load 0 tH rfl ((fun W hp=>h1.hp hp) W hp) rfl) ?_
 refine wP rfl (wP rfl (wB 0 rfl rfl rfl ?_))
 refine Av rfl rfl rfl rfl (fun W hp=>Ae.load 0 tH rfl ((fun W hp=>h2.hp hp) W hp) rfl) ?_
 refine wP rfl ?_
 refine AA Tryz.hZ tH rfl rfl rfl rfl rfl rfl rfl rfl ?_
 refine wS 1 rfl rfl rfl (Aa (zE (zO ?_)))
 exact Af tH rfl (.cell 1 rfl rfl rfl rfl rfl) () rfl trivial fun W _=>Ag.nil _ _
def Jz (dx dy:Int):Bool:=decide ((if dy>dx then dy else dx)>65536)||decide ((if dy<dx then dy else dx)< -65536)
def shE (rs:List (List Sd)) (dx dy:Int):Int:=
 if chk rs≠0 then 1
 else if Jz dx dy=true then 2
 else if (mvR (shF dx dy) rs).flatten.any (fun s=> !rgd s)=true then 2
 else 0
theorem KO (f:Int→Int→Int×Int) (rs:List (List Sd)):tot (mvR f rs)=tot rs:=by
 unfold tot mvR
 rw[List.map_map]
 congr 1
 apply List.map_congr_left
 intro l _
 simp
theorem Ea (f:Int→Int→Int×Int) (rs:List (List Sd)):(mvR f rs).length=rs.length:=by simp[mvR]
theorem Oz {f:Int→Int→Int×Int} {rs:List (List Sd)} (h: ∀l∈rs,l≠[]): ∀l∈mvR f rs,l≠[]:=fun l hl=>by
 obtain⟨l0,h1,rfl⟩:=List.mem_map.1 hl
 exact fun e=>h l0 h1 (List.map_eq_nil_iff.1 e)
theorem Rj {rs:List (List Sd)} {dx dy:Int} (h:shE rs dx dy=0):chk rs=0∧Jz dx dy=false∧(mvR (shF dx dy) rs).flatten.any (fun s=> !rgd s)=false:=by
 unfold shE at h
 split at h
 ·cases h
 ·rename_i h1
  split at h
  ·cases h
  ·rename_i h2
   split at h
   ·cases h
   ·rename_i h3
    exact⟨Classical.byContradiction h1,by simpa using h2,by simpa using h3⟩
theorem UP (W:World) (p:Option Addr) (cap:Nat) (rs:List (List Sd)) (dx dy:Int) (hn:rs.length<1099511627776) (hR:AY W p rs) (he:shE rs dx dy=0):
  Ai Tryz.prog 42 #[AX p rs.length cap, .int .i64 dx, .int .i64 dy] W (fun x:Vec×GC=> .tuple #[.agg #[x.1.val rs.length], .int .i64 0]) (fun x=>DE x.2 (mvR (shF dx dy) rs)∧x.1.OK 1 rs.length (AG x.2)) (fun x=>[x.1.bx 32 (AG x.2),mkB x.2]):=by
 obtain⟨hc,hf,h3⟩:=Rj he
 obtain⟨hne,hT24,_⟩:=Cf hc
 have hT:tot rs<1099511627776:=by omega
 unfold Jz at hf
 obtain⟨h16',h17'⟩:=Bool.or_eq_false_iff.1 hf
 refine Ad (args:=[AX p rs.length cap, .int .i64 dx, .int .i64 dy]) Tryz.func42 rfl rfl rfl ?_
 refine zA (zB ?_)
 (refine A0 rfl rfl rfl rfl ?_;intro)
 (refine A0 rfl rfl rfl rfl ?_;intro)
 (refine A0 rfl rfl rfl rfl ?_;intro)
 (refine An Tryz.hZ rfl rfl rfl rfl ?_;intro)
 refine wP rfl (Aa ?_)
 rename_i b3 b4 b5 b6
 refine zE (zA (zA (zB (wB 0 rfl rfl rfl ?_))))
 refine Ab rfl rfl rfl rfl rfl rfl (by kernel_rfl) (fun W hp=>(Dk W p cap rs (by omega) hT (hR.hp hp)).cast (by rw[hc])) ?_
 refine wP rfl (Aa (zE (zS rfl (zI (zE (zA (zA (zB (wB 1 rfl rfl rfl (wB 2 rfl rfl rfl (wP rfl (wP rfl (wP rfl ?_)))))))))))))
 refine Ac 16 (.bool false) rfl (congrArg Value.bool h16') ?_
 refine wB 1 rfl rfl rfl (wB 2 rfl rfl rfl (wP rfl (wP rfl (wP rfl (Aa (AP ?_))))))
 refine AW 21 (.bool false) rfl (congrArg Value.bool h17') ?_
 refine zS rfl (zI (zE (zA (zB (wB 0 rfl rfl rfl (wP rfl ?_))))))
 refine Ay (X:=Vec×GC) rfl rfl rfl rfl rfl rfl (by kernel_rfl) (fun W hp=>F5 105 (by kernel_rfl) [.pointer (some ⟨b4,0,none⟩), .pointer (some ⟨b5,0,none⟩)] (shF dx dy) W p cap rs hn hT (hR.hp hp) hne (fun W' hb x y=>IU dx dy x y W' b4 b5 ((Ae.of_bx hp 1 rfl rfl).below (Nat.le_refl _) hb) ((Ae.of_bx hp 2 rfl rfl).below (Nat.le_refl _) hb))) ?_
 rintro⟨V,mk⟩ ⟨hmk,hV⟩
 have hV':V.OK 1 (mvR (shF dx dy) rs).length (AG mk):=by rw[Ea];exact hV
 obtain⟨q,cq,eV,hrings⟩:=Et hmk hV'
 refine Ac 25 (AX q (mvR (shF dx dy) rs).length cq) rfl (congrArg (fun v=>Value.agg #[v]) (by rw[←eV,Ea])) ?_
 refine Ab rfl rfl rfl rfl rfl rfl (by kernel_rfl) (fun W hp=>(FH W q cq (mvR (shF dx dy) rs) (by rw[Ea];omega) (by rw[KO];exact hT) (hrings hp 4 5 rfl rfl) (Oz hne)).cast (if_neg (by rw[h3];decide))) ?_
 refine wP rfl (wP rfl (wS 3 rfl rfl rfl (wP rfl (Aa (zE (zO ?_))))))
 exact Au tH rfl (.cell 3 rfl rfl rfl rfl rfl) (.tmp rfl) (V,mk) (by show Value.tuple #[.agg #[slv q _ cq],_]= .tuple #[.agg #[V.val rs.length],_];rw[←eV,Ea]) ⟨hmk,hV⟩ fun W hp=>(hp.pick [4,5] (by decide) rfl).own
theorem WW (W:World) (p:Option Addr) (cap:Nat) (rs:List (List Sd)) (dx dy:Int) (hn:rs.length<1099511627776) (hT:tot rs<1099511627776) (hR:AY W p rs) (he:shE rs dx dy≠0):
  Ai Tryz.prog 42 #[AX p rs.length cap, .int .i64 dx, .int .i64 dy] W (fun _:Unit=> .tuple #[Mm, .int .i64 (shE rs dx dy)]) (fun _=>True) (fun _=>[]):=by
 refine Ad (args:=[AX p rs.length cap, .int .i64 dx, .int .i64 dy]) Tryz.func42 rfl rfl rfl ?_
 refine zA (zB ?_)
 (refine A0 rfl rfl rfl rfl ?_;intro)
 (refine A0 rfl rfl rfl rfl ?_;intro)
 (refine A0 rfl rfl rfl rfl ?_;intro)
 (refine An Tryz.hZ rfl rfl rfl rfl ?_;intro)
 refine wP rfl (Aa ?_)
 rename_i b3 b4 b5 b6
 refine zE (zA (zA (zB (wB 0 rfl rfl rfl ?_))))
 refine Ab rfl rfl rfl rfl rfl rfl (by kernel_rfl) (fun W hp=>Dk W p cap rs (by omega) hT (hR.hp hp)) ?_
 refine wP rfl (Aa (zE ?_))
 refine Al rfl (fun h=> ?_) (fun h=> ?_)
 ·have h:chk rs≠0:=by have h':(chk rs !=0)=true:=h;simpa using h'
  refine zA (zB ?_)
  refine AA Tryz.hZ tH rfl rfl rfl rfl rfl rfl rfl rfl ?_
  refine wS 3 rfl rfl rfl (wP rfl (Aa (zE (zO (zP ?_)))))
  exact Au tH rfl (.cell 3 rfl rfl rfl rfl rfl) (.tmp rfl) () (by unfold shE;rw[if_pos h];rfl) trivial fun W _=>Ag.nil _ _
 have hc:chk rs=0:=by have h':(chk rs !=0)=false:=h;simpa using h'
 clear h
 obtain⟨hne,hT24,_⟩:=Cf hc
 have hN: ¬(chk rs≠0):=fun h=>h hc
 refine zI (zE (zA (zA (zB (wB 1 rfl rfl rfl (wB 2 rfl rfl rfl (wP rfl (wP rfl (wP rfl ?_)))))))))
 refine AR 16 rfl (fun h16=> ?_) (fun h16=> ?_)
 ·have hfar:Jz dx dy=true:=by have h':decide ((if dy>dx then dy else dx)>65536)=true:=h16;unfold Jz;rw[h'];rfl
  iterate 4 refine Ao rfl rfl ?_
  refine wP rfl (Aa (zE (zR rfl (zA (zB ?_)))))
  refine AA Tryz.hZ tH rfl rfl rfl rfl rfl rfl rfl rfl ?_
  refine wS 3 rfl rfl rfl (wP rfl (Aa (zE (zO (zP ?_)))))
  exact Au tH rfl (.cell 3 rfl rfl rfl rfl rfl) (.tmp rfl) () (by unfold shE;rw[if_neg hN,if_pos hfar];rfl) trivial fun W _=>Ag.nil _ _
 have h16':decide ((if dy>dx then dy else dx)>65536)=false:=h16
 refine wB 1 rfl rfl rfl (wB 2 rfl rfl rfl (wP rfl (wP rfl (wP rfl (Aa (zE ?_))))))
 refine Al rfl (fun h=> ?_) (fun h=> ?_)
 ·have hfar:Jz dx dy=true:=by have h':decide ((if dy<dx then dy else dx)< -65536)=true:=h;unfold Jz;rw[h',Bool.or_true]
  refine zA (zB ?_)
  refine AA Tryz.hZ tH rfl rfl rfl rfl rfl rfl rfl rfl ?_
  refine wS 3 rfl rfl rfl (wP rfl (Aa (zE (zO (zP ?_)))))
  exact Au tH rfl (.cell 3 rfl rfl rfl rfl rfl) (.tmp rfl) () (by unfold shE;rw[if_neg hN,if_pos hfar];rfl) trivial fun W _=>Ag.nil _ _
 have hfar: ¬(Jz dx dy=true):=by have h':decide ((if dy<dx then dy else dx)< -65536)=false:=h;unfold Jz;rw[h16',h'];decide
 clear h
 refine zI (zE (zA (zB (wB 0 rfl rfl rfl (wP rfl ?_)))))
 refine Ay (X:=Vec×GC) rfl rfl rfl rfl rfl rfl (by kernel_rfl) (fun W hp=>F5 105 (by kernel_rfl) [.pointer (some ⟨b4,0,none⟩), .pointer (some ⟨b5,0,none⟩)] (shF dx dy) W p cap rs hn hT (hR.hp hp) hne (fun W' hb x y=>IU dx dy x y W' b4 b5 ((Ae.of_bx hp 1 rfl rfl).below (Nat.le_refl _) hb) ((Ae.of_bx hp 2 rfl rfl).below (Nat.le_refl _) hb))) ?_
 rintro⟨V,mk⟩ ⟨hmk,hV⟩
 have hV':V.OK 1 (mvR (shF dx dy) rs).length (AG mk):=by rw[Ea];exact hV
 obtain⟨q,cq,eV,hrings⟩:=Et hmk hV'
 refine Ac 25 (AX q (mvR (shF dx dy) rs).length cq) rfl (congrArg (fun v=>Value.agg #[v]) (by rw[←eV,Ea])) ?_
 have h3:(mvR (shF dx dy) rs).flatten.any (fun s=> !rgd s)=true:=by
  cases h:(mvR (shF dx dy) rs).flatten.any (fun s=> !rgd s) with
  |true=>rfl
  |false=>exact absurd (by unfold shE;rw[if_neg hN,if_neg hfar,if_neg (by rw[h];decide)]) he
 refine Ab rfl rfl rfl rfl rfl rfl (by kernel_rfl) (fun W hp=>(FH W q cq (mvR (shF dx dy) rs) (by rw[Ea];omega) (by rw[KO];exact hT) (hrings hp 4 5 rfl rfl) (Oz hne)).cast (if_pos h3)) ?_
 refine wP rfl (wP rfl (wS 3 rfl rfl rfl (wP rfl (Aa (zE (zO ?_))))))
 exact Au tH rfl (.cell 3 rfl rfl rfl rfl rfl) (.tmp rfl) () (by unfold shE;rw[if_neg hN,if_neg hfar,if_pos h3];rfl) trivial fun W _=>Ag.nil _ _
end
end Go.Proofs.YtlagebbefnnnnaaGreatDoor
