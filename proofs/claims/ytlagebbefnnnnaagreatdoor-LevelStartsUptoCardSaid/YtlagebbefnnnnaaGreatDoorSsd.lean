/-
  Lemmas that the theorem levelStarts_upto_card needs (part 4 of 8).
-/
import Derived.Test.YtlagebbefnnnnaaGreatDoorSsc
set_option maxHeartbeats 64000000
namespace Go.Proofs.YtlagebbefnnnnaaGreatDoor
section
open Go Go.RowKit Go.Am Go.Lib
set_option maxRecDepth 10000
-- BOXES 4
theorem Fo {z:Int} {k:Nat} (h:z.natAbs<10^k) (hk:k≤300):okN z:=Nat.lt_of_lt_of_le h (Nat.pow_le_pow_right (by decide) (show k≤mxd from hk))
theorem szQ.ok {q:Rat} {k:Nat} (h:szQ q k) (hk:k≤300):okQ q:=⟨Fo h.1 hk,Fo (k:=k) (by rw[Int.natAbs_natCast];exact h.2) hk⟩
theorem szQ.mono {q:Rat} {k m:Nat} (h:szQ q k) (hk:k≤m):szQ q m:=⟨Nat.lt_of_lt_of_le h.1 (Nat.pow_le_pow_right (by decide) hk),Nat.lt_of_lt_of_le h.2 (Nat.pow_le_pow_right (by decide) hk)⟩
theorem Ck {x y:Int} {a b:Nat} (hx:x.natAbs<10^a) (hy:y.natAbs<10^b):(x*y).natAbs<10^(a+b):=by
 rw[Int.natAbs_mul];exact RP hx hy (Nat.le_refl _)
theorem ON {x y:Int} {a:Nat} (hx:x.natAbs<10^a) (hy:y.natAbs<10^a):(x+y).natAbs<10^(a+1):=by
 rw[Nat.pow_succ];omega
theorem PB {x y:Int} {a:Nat} (hx:x.natAbs<10^a) (hy:y.natAbs<10^a):(x-y).natAbs<10^(a+1):=by
 rw[Nat.pow_succ];omega
structure Sz2 (p q:Rat):Prop where
 okp:okQ p
 okq:okQ q
 c1:okN (p.num*(q.den:Nat))
 c2:okN (q.num*(p.den:Nat))
 d:okN ((p.den:Nat)*(q.den:Nat))
 n:okN (p.num*q.num)
 add:okN (p.num*(q.den:Nat)+q.num*(p.den:Nat))
 sub:okN (p.num*(q.den:Nat)-q.num*(p.den:Nat))
theorem sz2 {p q:Rat} {a b:Nat} (hp:szQ p a) (hq:szQ q b) (hk:a+b+1≤300):Sz2 p q:=by
 have hqd:((q.den:Nat):Int).natAbs<10^b:=by rw[Int.natAbs_natCast];exact hq.2
 have hpd:((p.den:Nat):Int).natAbs<10^a:=by rw[Int.natAbs_natCast];exact hp.2
 have e1:=Ck hp.1 hqd
 have e2:=Ck hq.1 hpd
 rw[Nat.add_comm b a] at e2
 exact⟨hp.ok (by omega),hq.ok (by omega),Fo e1 (by omega),Fo e2 (by omega),Fo (Ck hpd hqd) (by omega),Fo (Ck hp.1 hq.1) (by omega),Fo (ON e1 e2) hk,Fo (PB e1 e2) hk⟩
theorem szQ.add {p q:Rat} {a b:Nat} (hp:szQ p a) (hq:szQ q b):szQ (p+q) (a+b+1):=by
 have hqd:((q.den:Nat):Int).natAbs<10^b:=by rw[Int.natAbs_natCast];exact hq.2
 have hpd:((p.den:Nat):Int).natAbs<10^a:=by rw[Int.natAbs_natCast];exact hp.2
 have e1:=Ck hp.1 hqd
 have e2:=Ck hq.1 hpd
 rw[Nat.add_comm b a] at e2
 rw[←Ol]
 exact H9 _ Fq (ON e1 e2) (Nat.lt_of_lt_of_le (Ck hpd hqd) (Nat.pow_le_pow_right (by decide) (by omega)))
theorem szQ.sub {p q:Rat} {a b:Nat} (hp:szQ p a) (hq:szQ q b):szQ (p-q) (a+b+1):=by
 have hqd:((q.den:Nat):Int).natAbs<10^b:=by rw[Int.natAbs_natCast];exact hq.2
 have hpd:((p.den:Nat):Int).natAbs<10^a:=by rw[Int.natAbs_natCast];exact hp.2
 have e1:=Ck hp.1 hqd
 have e2:=Ck hq.1 hpd
 rw[Nat.add_comm b a] at e2
 rw[←Nv]
 exact H9 _ Fq (PB e1 e2) (Nat.lt_of_lt_of_le (Ck hpd hqd) (Nat.pow_le_pow_right (by decide) (by omega)))
theorem szQ.mul {p q:Rat} {a b:Nat} (hp:szQ p a) (hq:szQ q b):szQ (p*q) (a+b):=by
 have hqd:((q.den:Nat):Int).natAbs<10^b:=by rw[Int.natAbs_natCast];exact hq.2
 have hpd:((p.den:Nat):Int).natAbs<10^a:=by rw[Int.natAbs_natCast];exact hp.2
 rw[←Nx]
 exact H9 _ Fq (Ck hp.1 hq.1) (Ck hpd hqd)
theorem szQ.div {p q:Rat} {a b:Nat} (hp:szQ p a) (hq:szQ q b) (h0:q.num≠0):szQ (p/q) (a+b):=by
 have hqd:((q.den:Nat):Int).natAbs<10^b:=by rw[Int.natAbs_natCast];exact hq.2
 have hpd:((p.den:Nat):Int).natAbs<10^a:=by rw[Int.natAbs_natCast];exact hp.2
 rw[←NF p q h0]
 exact H9 _ (Int.mul_ne_zero (by have:=p.den_nz;omega) h0) (Ck hp.1 hqd) (Ck hpd hq.1)
theorem AV.below {W0 W:World} (h:AV W0) (hb:Below W0.heap.size W0 W):AV W:=tabBelow_of_tabIs h W hb
theorem Fh (p:Rat) (h:smQ p):((p.den:Nat):Int).natAbs<100000000:=by rw[Int.natAbs_natCast];exact h.2
theorem QN (p q:Rat) (h:Sz2 p q) (W0:World) (hv:BJ W0) (ht:AV W0):
  Aj Tryz.prog 41 #[str (Ai p),str (Ai q)] W0 (fun _:Unit=> .tuple #[str (Ai (p+q)), .int .i64 0]) (fun _=>True) (fun _=>[]):=by
 have hlp:=BR h.okp
 have hlq:=BR h.okq
 refine Ad (args:=[str (Ai p),str (Ai q)]) Tryz.func41 rfl rfl rfl ?_
 refine zA (zB (wP rfl (wP rfl (Aa (zE (zA (zA (zB (wP rfl (wP rfl ?_))))))))))
 have hquick: ∀W,AV W→Aj Tryz.prog 98 #[str (Ai p),str (Ai q), .func (.func 99) #[] #[]] W (fun _:Unit=>if smQ p∧smQ q then .tuple #[str (Ai (p+q)), .bool true] else .tuple #[str [], .bool false]) (fun _=>True) (fun _=>[]):=
  fun W ht=>Fm p q (p+q) (p.num*(q.den:Nat)+q.num*(p.den:Nat)) ((p.den:Nat)*(q.den:Nat)) _ (by kernel_rfl) (by omega) (by omega) (fun hp hq=>by
   have m1:=EX hp.1 (Fh q hq)
   have m2:=EX hq.1 (Fh p hp)
   have m3:=EX (Fh p hp) (Fh q hq)
   exact⟨Q4 _ _ _ _ hp.1 (Fh p hp) hq.1 (Fh q hq),Fq,by omega,by omega,Ol p q⟩) W ht
 by_cases hs:smQ p∧smQ q
 ·refine Ac rfl rfl rfl rfl rfl rfl (by kernel_rfl) (fun W h=>(hquick W (ht.hp h)).cast (if_pos hs)) ?_
  iterate 5 refine wP rfl ?_
  refine Aa (zE (zA (zB (wP rfl (Aa (zE (zR rfl (zA (zB (wP rfl (wP rfl (wP rfl (Aa ?_)))))))))))))
  refine zE (zO (zP ?_))
  exact Ar tH rfl (.tmp rfl) (.tmp rfl) () rfl trivial fun W _=>Ae.nil _ _
 ·refine Ac rfl rfl rfl rfl rfl rfl (by kernel_rfl) (fun W h=>(hquick W (ht.hp h)).cast (if_neg hs)) ?_
  iterate 5 refine wP rfl ?_
  refine Aa (zE (zA (zB (wP rfl (Aa (zE (zS rfl (zI (zE (zA (zB (wP rfl (wP rfl ?_)))))))))))))
  refine Au (X:=Nat) rfl rfl rfl rfl rfl rfl (by kernel_rfl) (fun W _=>GR 102 W) ?_
  intro b18 _
  refine Ac rfl rfl rfl rfl rfl rfl (by kernel_rfl) (fun W hp=>Fi p q (Ai (p+q)) 0 179 [Ax b18] h.okp h.okq W (hv.hp hp) (ht.hp hp) (by kernel_rfl) (fun W' hb=>(JZ p q b18 102 (p.num*(q.den:Nat)+q.num*(p.den:Nat)) h.okp h.okq h.c1 h.c2 h.add h.d (by kernel_rfl) (fun W2 ht2=>(Ph _ _ h.c1 h.c2 W2 ht2).cast (Ia h.add)) W' ((ht.hp hp).below hb) ((Ag.of_bx hp 0 rfl rfl).below (Nat.le_refl _) hb)).cast (congrArg (fun r=>Value.tuple #[str (Ai r), .int .i64 0]) (Ol p q)))) ?_
  refine wP rfl (wP rfl (wP rfl (wP rfl (Aa (zE (zO ?_))))))
  exact Ar tH rfl (.tmp rfl) (.tmp rfl) () rfl trivial fun W _=>Ae.nil _ _
-- BOXES 4
theorem LS (p q:Rat) (h:Sz2 p q) (W0:World) (hv:BJ W0) (ht:AV W0):
  Aj Tryz.prog 78 #[str (Ai p),str (Ai q)] W0 (fun _:Unit=> .tuple #[str (Ai (p-q)), .int .i64 0]) (fun _=>True) (fun _=>[]):=by
 have hlp:=BR h.okp
 have hlq:=BR h.okq
 refine Ad (args:=[str (Ai p),str (Ai q)]) Tryz.func78 rfl rfl rfl ?_
 refine zA (zB (wP rfl (wP rfl (Aa (zE (zA (zA (zB (wP rfl (wP rfl ?_))))))))))
 have hquick: ∀W,AV W→Aj Tryz.prog 98 #[str (Ai p),str (Ai q), .func (.func 158) #[] #[]] W (fun _:Unit=>if smQ p∧smQ q then .tuple #[str (Ai (p-q)), .bool true] else .tuple #[str [], .bool false]) (fun _=>True) (fun _=>[]):=
  fun W ht=>Fm p q (p-q) (p.num*(q.den:Nat)-q.num*(p.den:Nat)) ((p.den:Nat)*(q.den:Nat)) _ (by kernel_rfl) (by omega) (by omega) (fun hp hq=>by
   have m1:=EX hp.1 (Fh q hq)
   have m2:=EX hq.1 (Fh p hp)
   have m3:=EX (Fh p hp) (Fh q hq)
   exact⟨Ri _ _ _ _ hp.1 (Fh p hp) hq.1 (Fh q hq),Fq,by omega,by omega,Nv p q⟩) W ht
 by_cases hs:smQ p∧smQ q
 ·refine Ac rfl rfl rfl rfl rfl rfl (by kernel_rfl) (fun W h=>(hquick W (ht.hp h)).cast (if_pos hs)) ?_
  iterate 5 refine wP rfl ?_
  refine Aa (zE (zA (zB (wP rfl (Aa (zE (zR rfl (zA (zB (wP rfl (wP rfl (wP rfl (Aa ?_)))))))))))))
  refine zE (zO (zP ?_))
  exact Ar tH rfl (.tmp rfl) (.tmp rfl) () rfl trivial fun W _=>Ae.nil _ _
 ·refine Ac rfl rfl rfl rfl rfl rfl (by kernel_rfl) (fun W h=>(hquick W (ht.hp h)).cast (if_neg hs)) ?_
  iterate 5 refine wP rfl ?_
  refine Aa (zE (zA (zB (wP rfl (Aa (zE (zS rfl (zI (zE (zA (zB (wP rfl (wP rfl ?_)))))))))))))
  refine Au (X:=Nat) rfl rfl rfl rfl rfl rfl (by kernel_rfl) (fun W _=>GR 159 W) ?_
  intro b18 _
  refine Ac rfl rfl rfl rfl rfl rfl (by kernel_rfl) (fun W hp=>Fi p q (Ai (p-q)) 0 179 [Ax b18] h.okp h.okq W (hv.hp hp) (ht.hp hp) (by kernel_rfl) (fun W' hb=>(JZ p q b18 159 (p.num*(q.den:Nat)-q.num*(p.den:Nat)) h.okp h.okq h.c1 h.c2 h.sub h.d (by kernel_rfl) (fun W2 ht2=>(QC _ _ h.c1 h.c2 W2 ht2).cast (Ia h.sub)) W' ((ht.hp hp).below hb) ((Ag.of_bx hp 0 rfl rfl).below (Nat.le_refl _) hb)).cast (congrArg (fun r=>Value.tuple #[str (Ai r), .int .i64 0]) (Nv p q)))) ?_
  refine wP rfl (wP rfl (wP rfl (wP rfl (Aa (zE (zO ?_))))))
  exact Ar tH rfl (.tmp rfl) (.tmp rfl) () rfl trivial fun W _=>Ae.nil _ _
theorem QA (p q:Rat) (h:Sz2 p q) (W0:World) (hv:BJ W0) (ht:AV W0):
  Aj Tryz.prog 134 #[str (Ai p),str (Ai q)] W0 (fun _:Unit=> .tuple #[str (Ai (p*q)), .int .i64 0]) (fun _=>True) (fun _=>[]):=by
 have hlp:=BR h.okp
 have hlq:=BR h.okq
 refine Ad (args:=[str (Ai p),str (Ai q)]) Tryz.func134 rfl rfl rfl ?_
 refine zA (zB (wP rfl (wP rfl (Aa (zE (zA (zA (zB (wP rfl (wP rfl ?_))))))))))
 have hquick: ∀W,AV W→Aj Tryz.prog 98 #[str (Ai p),str (Ai q), .func (.func 200) #[] #[]] W (fun _:Unit=>if smQ p∧smQ q then .tuple #[str (Ai (p*q)), .bool true] else .tuple #[str [], .bool false]) (fun _=>True) (fun _=>[]):=
  fun W ht=>Fm p q (p*q) (p.num*q.num) ((p.den:Nat)*(q.den:Nat)) _ (by kernel_rfl) (by omega) (by omega) (fun hp hq=>by
   have m1:=EX hp.1 hq.1
   have m3:=EX (Fh p hp) (Fh q hq)
   exact⟨Rz _ _ _ _ hp.1 (Fh p hp) hq.1 (Fh q hq),Fq,by omega,by omega,Nx p q⟩) W ht
 by_cases hs:smQ p∧smQ q
 ·refine Ac rfl rfl rfl rfl rfl rfl (by kernel_rfl) (fun W h=>(hquick W (ht.hp h)).cast (if_pos hs)) ?_
  iterate 5 refine wP rfl ?_
  refine Aa (zE (zA (zB (wP rfl (Aa (zE (zR rfl (zA (zB (wP rfl (wP rfl (wP rfl (Aa ?_)))))))))))))
  refine zE (zO (zP ?_))
  exact Ar tH rfl (.tmp rfl) (.tmp rfl) () rfl trivial fun W _=>Ae.nil _ _
 ·refine Ac rfl rfl rfl rfl rfl rfl (by kernel_rfl) (fun W h=>(hquick W (ht.hp h)).cast (if_neg hs)) ?_
  iterate 5 refine wP rfl ?_
  refine Aa (zE (zA (zB (wP rfl (Aa (zE (zS rfl (zI (zE (zA (zB (wP rfl (wP rfl ?_)))))))))))))
  refine Ac rfl rfl rfl rfl rfl rfl (by kernel_rfl) (fun W hp=>Fi p q (Ai (p*q)) 0 201 [] h.okp h.okq W (hv.hp hp) (ht.hp hp) (by kernel_rfl) (fun W' hb=>QD p q h.okp h.okq h.n h.d W' ((ht.hp hp).below hb))) ?_
  refine wP rfl (wP rfl (wP rfl (wP rfl (Aa (zE (zO ?_))))))
  exact Ar tH rfl (.tmp rfl) (.tmp rfl) () rfl trivial fun W _=>Ae.nil _ _
theorem Ry {q:Rat}:Ai q=[48]↔q.num=0:=by
 constructor
 ·intro h
  unfold Ai FW at h
  split at h
  ·exact Lh.1 h
  ·have:(47:UInt8)∈([48]:List UInt8):=by rw[←h];exact List.mem_append_right _ (List.mem_cons_self ..)
   exact absurd this (by decide)
 ·intro h
  have hd:q.den=1:=by
   have:=q.reduced
   rw[h] at this
   simpa[Nat.Coprime] using this
  rw[Ai,FW,if_pos hd,h,CT]
theorem Ru (p q:Rat) (h:Sz2 p q) (W0:World) (hv:BJ W0) (ht:AV W0):
  Aj Tryz.prog 74 #[str (Ai p),str (Ai q)] W0 (fun _:Unit=> .tuple #[str (MA p q).1, .int .i64 (MA p q).2]) (fun _=>True) (fun _=>[]):=by
 have hlp:=BR h.okp
 have hlq:=BR h.okq
 have hboth: ∀W,BJ W→AV W→Aj Tryz.prog 100 #[str (Ai p),str (Ai q), .func (.func 156) #[] #[]] W (fun _:Unit=> .tuple #[str (MA p q).1, .int .i64 (MA p q).2]) (fun _=>True) (fun _=>[]):=
  fun W hv ht=>Fi p q _ _ 156 [] h.okp h.okq W hv ht (by kernel_rfl) (fun W' hb=>Rc p q h.okp h.okq h.c1 h.c2 W' (ht.below hb))
 refine Ad (args:=[str (Ai p),str (Ai q)]) Tryz.func74 rfl rfl rfl ?_
 refine zA (zB (wP rfl (wP rfl (Aa (zE (zA (zA (zB (wP rfl (wP rfl ?_))))))))))
 by_cases h0:q.num=0
 ·refine Ab 9 (.bool false) rfl (congrArg Value.bool (by show(!_)=false;rw[AR,decide_eq_true (Ry.2 h0)];rfl)) ?_
  refine Aa (zE (zS rfl (zI (zE (zA (zB (wP rfl (wP rfl ?_))))))))
  refine Ac rfl rfl rfl rfl rfl rfl (by kernel_rfl) (fun W hp=>hboth W (hv.hp hp) (ht.hp hp)) ?_
  refine wP rfl (wP rfl (wP rfl (wP rfl (Aa (zE (zO ?_))))))
  exact Ar tH rfl (.tmp rfl) (.tmp rfl) () rfl trivial fun W _=>Ae.nil _ _
 ·have hval:MA p q=(Ai (p/q),0):=if_neg h0
  refine Ab 9 (.bool true) rfl (congrArg Value.bool (by show(!_)=true;rw[AR,decide_eq_false fun e=>h0 (Ry.1 e)];rfl)) ?_
  refine Aa (zE (zR rfl (zA (zB (wP rfl (wP rfl ?_))))))
  have hquick: ∀W,AV W→Aj Tryz.prog 98 #[str (Ai p),str (Ai q), .func (.func 155) #[] #[]] W (fun _:Unit=>if smQ p∧smQ q then .tuple #[str (Ai (p/q)), .bool true] else .tuple #[str [], .bool false]) (fun _=>True) (fun _=>[]):=
   fun W ht=>Fm p q (p/q) (p.num*(q.den:Nat)) ((p.den:Nat)*q.num) _ (by kernel_rfl) (by omega) (by omega) (fun hp hq=>by
    have m1:=EX hp.1 (Fh q hq)
    have m3:=EX (Fh p hp) hq.1
    exact⟨QI _ _ _ _ hp.1 (Fh p hp) hq.1 (Fh q hq),Int.mul_ne_zero (by have:=p.den_nz;omega) h0,by omega,by omega,NF p q h0⟩) W ht
  by_cases hs:smQ p∧smQ q
  ·refine Ac rfl rfl rfl rfl rfl rfl (by kernel_rfl) (fun W h=>(hquick W (ht.hp h)).cast (if_pos hs)) ?_
   iterate 5 refine wP rfl ?_
   refine Aa (zE (zA (zB (wP rfl (Aa (zE (zR rfl (zA (zB (wP rfl (wP rfl (wP rfl (Aa ?_)))))))))))))
   refine zE (zO (zP ?_))
   exact Ar tH rfl (.tmp rfl) (.tmp rfl) () (by rw[hval]) trivial fun W _=>Ae.nil _ _
  ·refine Ac rfl rfl rfl rfl rfl rfl (by kernel_rfl) (fun W h=>(hquick W (ht.hp h)).cast (if_neg hs)) ?_
   iterate 5 refine wP rfl ?_
   refine Aa (zE (zA (zB (wP rfl (Aa (zE (zS rfl (zI (zE (zA (zB (wP rfl (wP rfl ?_)))))))))))))
   refine Ac rfl rfl rfl rfl rfl rfl (by kernel_rfl) (fun W hp=>hboth W (hv.hp hp) (ht.hp hp)) ?_
   refine wP rfl (wP rfl (wP rfl (wP rfl (Aa (zE (zO ?_))))))
   exact Ar tH rfl (.tmp rfl) (.tmp rfl) () rfl trivial fun W _=>Ae.nil _ _
-- BOXES 5
theorem Hy (p q:Rat) (h:Sz2 p q) (W0:World) (hv:BJ W0) (ht:AV W0):
  Aj Tryz.prog 162 #[str (Ai p),str (Ai q)] W0 (fun _:Unit=> .tuple #[.int .i64 (FV (p.num*(q.den:Nat)) (q.num*(p.den:Nat))), .int .i64 0]) (fun _=>True) (fun _=>[]):=by
 have hlp:=BR h.okp
 have hlq:=BR h.okq
 refine Ad (args:=[str (Ai p),str (Ai q)]) Tryz.func162 rfl rfl rfl ?_
 refine zA (zB (wP rfl (wP rfl (Aa (AC (A7 ?_))))))
 refine AK (X:=Unit) (fun _=>[(0,str (Ai p)),(1,str (Ai q)),(4, .int .i64 0),(5, .int .i64 0)]) (fun _=>[]) (fun _=>True) ?_ ?_
 ·refine zA (zB (wP rfl ?_))
  by_cases hp:smQ p
  ·refine Ac rfl rfl rfl rfl rfl rfl (by kernel_rfl) (fun W _=>(Bv (Ai p) (by omega) W).cast ((D8 p).trans (if_pos hp))) ?_
   refine wP rfl (wP rfl (wP rfl ?_))
   (refine Ao Tryz.hZ rfl rfl rfl rfl ?_;intro)
   refine wS 0 rfl rfl rfl (wP rfl (Aa ?_))
   rename_i b6
   refine zE (zA (zB (wP rfl (Aa (zE (zR rfl (zA (zB (wP rfl ?_)))))))))
   by_cases hq:smQ q
   ·refine Ac rfl rfl rfl rfl rfl rfl (by kernel_rfl) (fun W _=>(Bv (Ai q) (by omega) W).cast ((D8 q).trans (if_pos hq))) ?_
    refine wP rfl (wP rfl (wP rfl ?_))
    (refine Ao Tryz.hZ rfl rfl rfl rfl ?_;intro)
    refine wS 1 rfl rfl rfl (wP rfl (Aa ?_))
    rename_i b8
    refine zE (zA (zB (wP rfl (Aa (zE (zR rfl (zA (zB (wP rfl (wB 0 rfl rfl rfl (wP rfl (wB 1 rfl rfl rfl (wP rfl ?_)))))))))))))
    refine Ab 31 (.int .i64 (p.num*(q.den:Nat))) rfl (congrArg (Value.int .i64) (CD hp.1 (Fh q hq))) ?_
    refine wP rfl (wB 1 rfl rfl rfl (wP rfl (wB 0 rfl rfl rfl (wP rfl ?_))))
    refine Ab 36 (.int .i64 (q.num*(p.den:Nat))) rfl (congrArg (Value.int .i64) (CD hq.1 (Fh p hp))) ?_
    refine Ac rfl rfl rfl rfl rfl rfl (by kernel_rfl) (fun W _=>Le _ _ W) ?_
    refine wP rfl (wP rfl (Aa (zE (zO (zP ?_)))))
    exact Ar tH rfl (.tmp rfl) (.tmp rfl) () rfl trivial fun W _=>Ae.nil _ _
   ·refine Ac rfl rfl rfl rfl rfl rfl (by kernel_rfl) (fun W _=>(Bv (Ai q) (by omega) W).cast ((D8 q).trans (if_neg hq))) ?_
    refine wP rfl (wP rfl (wP rfl ?_))
    (refine Ao Tryz.hZ rfl rfl rfl rfl ?_;intro)
    refine wS 1 rfl rfl rfl (wP rfl (Aa (zE (zA (zB (wP rfl (Aa (zE (zS rfl (zI ?_))))))))))
    exact At () trivial ⟨rfl,rfl,rfl,rfl,trivial⟩ _ rfl
  ·refine Ac rfl rfl rfl rfl rfl rfl (by kernel_rfl) (fun W _=>(Bv (Ai p) (by omega) W).cast ((D8 p).trans (if_neg hp))) ?_
   refine wP rfl (wP rfl (wP rfl ?_))
   (refine Ao Tryz.hZ rfl rfl rfl rfl ?_;intro)
   refine wS 0 rfl rfl rfl (wP rfl (Aa (zE (zA (zB (wP rfl (Aa (zE (zS rfl (zI ?_))))))))))
   exact At () trivial ⟨rfl,rfl,rfl,rfl,trivial⟩ _ rfl
 ·intro _ _
  refine zA (zB (wP rfl ?_))
  refine Ac rfl rfl rfl rfl rfl rfl (by kernel_rfl) (fun W hp=>(D9 (Ai p) (by omega) W (hv.hp hp) (ht.hp hp)).cast (Mg h.okp)) ?_
  refine wP rfl (wP rfl (wP rfl ?_))
  (refine Ao Tryz.hZ rfl rfl rfl rfl ?_;intro)
  refine wS 0 rfl rfl rfl (wP rfl (Aa ?_))
  rename_i b10
  refine zE (zA (zA (zB (wP rfl (wP rfl (Aa (zE (zS rfl (zI (zE (zA (zB (wP rfl ?_)))))))))))))
  refine Ac rfl rfl rfl rfl rfl rfl (by kernel_rfl) (fun W hp=>(D9 (Ai q) (by omega) W (hv.hp hp) (ht.hp hp)).cast (Mg h.okq)) ?_
  refine wP rfl (wP rfl (wP rfl ?_))
  (refine Ao Tryz.hZ rfl rfl rfl rfl ?_;intro)
  refine wS 1 rfl rfl rfl (wP rfl (Aa ?_))
  rename_i b12
  refine zE (zA (zA (zB (wP rfl (wP rfl (Aa (zE (zS rfl (zI (zE (zA (zB (wB 0 rfl rfl rfl ?_)))))))))))))
  refine wB 1 rfl rfl rfl ?_
  refine Ac rfl rfl rfl rfl rfl rfl (by kernel_rfl) (fun W hp=>F0 p q h.okp h.okq h.c1 h.c2 W (ht.hp hp)) ?_
  iterate 7 refine wP rfl ?_
  refine Aa (zE (zA (zA (zB (wP rfl (wP rfl (Aa (zE (zS rfl (zI (zE (zA (zB ?_)))))))))))))
  refine wP rfl (wP rfl ?_)
  refine Ac rfl rfl rfl rfl rfl rfl (by kernel_rfl) (fun W _=>KG _ _ h.c1 h.c2 W) ?_
  refine wP rfl (wP rfl (wP rfl (wP rfl (Aa (zE (zO ?_))))))
  exact Ar tH rfl (.tmp rfl) (.tmp rfl) () rfl trivial fun W _=>Ae.nil _ _
-- BOXES 4
theorem VH (a:Int):Ai (nrm a 1)=itoa a:=by
 have e:nrm a 1=mkRat a 1:=rfl
 rw[e,Lg (by decide) (by rw[Nat.gcd_one_right])]
 rw[Nat.gcd_one_right]
 show itoa (a/1)=_
 rw[Int.ediv_one]
def ofR (a b:Int):List UInt8×Int:=if b=0 then([],12) else(Ai (nrm a b),0)
theorem Tv {z:Int} (h0: -9223372036854775808≤z) (h1:z≤9223372036854775807):okN z:=Oq (by
 have:(10:Nat)^20=100000000000000000000:=by decide
 omega)
theorem H2 (a b:Int) (ha: -9223372036854775808≤a∧a≤9223372036854775807) (hb: -9223372036854775808≤b∧b≤9223372036854775807) (W:World) (ht:AV W):
  Aj Tryz.prog 27 #[.int .i64 a, .int .i64 b] W (fun _:Unit=> .tuple #[str (ofR a b).1, .int .i64 (ofR a b).2]) (fun _=>True) (fun _=>[]):=by
 refine Ad (args:=[.int .i64 a, .int .i64 b]) Tryz.func27 rfl rfl rfl ?_
 refine zA (zB (wP rfl (wP rfl (Aa (zE (zA (zA (zB (wP rfl (Aa (zE (zH (zA ?_)))))))))))))
 refine zB (wP rfl ?_)
 by_cases h0:b=0
 ·refine Ab 8 (.bool true) rfl (congrArg Value.bool (by rw[h0];rfl)) ?_
  refine wP rfl (Aa (zE (zR rfl (zA (zB (wP rfl (wP rfl (Aa (zE (zO (zQ (zP ?_))))))))))))
  exact Ar tH rfl (.tmp rfl) (.tmp rfl) () (by rw[ofR,if_pos h0]) trivial fun W _=>Ae.nil _ _
 ·have hval:ofR a b=(Ai (nrm a b),0):=if_neg h0
  refine Ab 8 (.bool false) rfl (congrArg Value.bool (by rw[beq_eq_false_iff_ne];exact h0)) ?_
  refine wP rfl (Aa (zE (zS rfl (zA (zB (wP rfl ?_))))))
  by_cases h1:b=1
  ·refine Ab 10 (.bool true) rfl (congrArg Value.bool (by rw[h1];rfl)) ?_
   refine wP rfl (Aa (zE (zR rfl (zA (zB (wP rfl ?_))))))
   refine Ac rfl rfl rfl rfl rfl rfl (by kernel_rfl) (fun W hp=>BA a ha.1 ha.2 W (ht.hp hp)) ?_
   refine wP rfl (wP rfl (Aa (zE (zO (zQ (zP ?_))))))
   exact Ar tH rfl (.tmp rfl) (.tmp rfl) () (by rw[hval,h1,VH]) trivial fun W _=>Ae.nil _ _
  ·refine Ab 10 (.bool false) rfl (congrArg Value.bool (by rw[beq_eq_false_iff_ne];exact h1)) ?_
   refine wP rfl (Aa (zE (zS rfl (zI (zN (zE (zA (zB (wP rfl ?_)))))))))
   refine Ac rfl rfl rfl rfl rfl rfl (by kernel_rfl) (fun W hp=>BA a ha.1 ha.2 W (ht.hp hp)) ?_
   refine wP rfl ?_
   refine Ac rfl rfl rfl rfl rfl rfl (by kernel_rfl) (fun W hp=>BA b hb.1 hb.2 W (ht.hp hp)) ?_
   refine Ac rfl rfl rfl rfl rfl rfl (by kernel_rfl) (fun W hp=>Dq a b h0 (Tv ha.1 ha.2) (Tv hb.1 hb.2) W (ht.hp hp)) ?_
   refine wP rfl (wP rfl (wP rfl (wP rfl (Aa (zE (zO ?_))))))
   exact Ar tH rfl (.tmp rfl) (.tmp rfl) () (by rw[hval]) trivial fun W _=>Ae.nil _ _
theorem Gq (a:List UInt8) (hl:a.length≤4000000000) (W:World) (hv:BJ W) (ht:AV W):
  Aj Tryz.prog 195 #[str a] W (fun _:Unit=> .int .i64 (rdR a).2) (fun _=>True) (fun _=>[]):=by
 refine Ad (args:=[str a]) Tryz.func195 rfl rfl rfl ?_
 refine zA (zB (wP rfl (Aa (zE (zA (zB (wP rfl ?_)))))))
 refine Ac rfl rfl rfl rfl rfl rfl (by kernel_rfl) (fun W h=>D9 a hl W (hv.hp h) (ht.hp h)) ?_
 refine wP rfl (wP rfl (wP rfl ?_))
 (refine Ao Tryz.hZ rfl rfl rfl rfl ?_;intro)
 refine wS 0 rfl rfl rfl (wP rfl (Aa (zE (zA (zB (wP rfl (wP rfl (Aa (zE (zO ?_))))))))))
 exact Af tH rfl (.tmp rfl) () rfl trivial fun W _=>Ae.nil _ _
theorem Oe {q:Rat} (h:okQ q):rdR (Ai q)=((itoa q.num,decDigits q.den),0):=by
 have hd:q.den<Bp:=by have:=h.2;unfold okN at this;rwa [Int.natAbs_natCast] at this
 have hf:frm (Ai q)=some (q.num,q.den):=FR q.num q.den_pos
 unfold rdR;rw[hf];exact(if_pos ⟨h.1,hd⟩).trans (if_pos q.reduced)
theorem Ww (z:Int):nrm z 1=(z:Rat):=by
 show mkRat z 1=_
 exact Rat.mkRat_one z
theorem Oy (z:Int):ofR z 1=(Ai (z:Rat),0):=by
 rw[ofR,if_neg (by decide),Ww]
theorem Vk (p q:Rat):p.num*(q.den:Nat)<q.num*(p.den:Nat)↔p<q:=(Rat.lt_iff p q).symm
def E6 (p q:Rat):Int:=if p<q then -1 else if p=q then 0 else 1
theorem Q8 (p q:Rat):FV (p.num*(q.den:Nat)) (q.num*(p.den:Nat))=E6 p q:=by
 unfold FV E6
 have h1:=Vk p q
 have h2:p.num*(q.den:Nat)=q.num*(p.den:Nat)↔p=q:=by
  constructor
  ·intro h
   have a:=Rat.num_divInt_den p
   have b:=Rat.num_divInt_den q
   rw[←a, ←b]
   exact(Rat.divInt_eq_divInt_iff (by have:=p.den_nz;omega) (by have:=q.den_nz;omega)).2 h
  ·rintro rfl;rfl
 by_cases h:p<q
 ·rw[if_pos h,if_pos (h1.2 h)]
 ·rw[if_neg h,if_neg (fun e=>h (h1.1 e))]
  by_cases e:p=q
  ·rw[if_pos e,if_pos (h2.2 e)]
  ·rw[if_neg e,if_neg (fun h=>e (h2.1 h))]
theorem Ft {z:Int} {k:Nat} (h:z.natAbs<10^k) (hk:1<10^k):szQ (z:Rat) k:=⟨by rw[Rat.num_intCast];exact h,by rw[Rat.den_intCast];exact hk⟩
theorem Sk (p q:Rat):(decide (E6 p q≤0))=decide (p≤q):=by
 unfold E6
 refine decide_eq_decide.2 ?_
 by_cases h:p<q
 ·rw[if_pos h];exact⟨fun _=>Rat.le_of_lt h,fun _=>by decide⟩
 ·rw[if_neg h]
  by_cases e:p=q
  ·rw[if_pos e];exact⟨fun _=>by rw[e];exact Rat.le_refl,fun _=>by decide⟩
  ·rw[if_neg e]
   exact⟨fun h=>absurd h (by decide),fun h2=>absurd (Rat.lt_of_le_of_ne h2 e) h⟩
theorem DU:Ai 0=[48]:=Ry.2 rfl
theorem Mf (p q:Rat):(decide (E6 p q<0))=decide (p<q):=by
 unfold E6
 refine decide_eq_decide.2 ?_
 by_cases h:p<q
 ·rw[if_pos h];exact⟨fun _=>h,fun _=>by decide⟩
 ·rw[if_neg h]
  by_cases e:p=q
  ·rw[if_pos e];exact⟨fun h2=>absurd h2 (by decide),fun h2=>absurd h2 h⟩
  ·rw[if_neg e]
   exact⟨fun h=>absurd h (by decide),fun h2=>absurd h2 h⟩
theorem Cl {p q:Rat}:Ai p=Ai q↔p=q:=by
 refine⟨fun h=> ?_,fun h=>by rw[h]⟩
 have h1:=FR p.num p.den_pos
 have h2:=FR q.num q.den_pos
 have h:FW p.num p.den=FW q.num q.den:=h
 rw[h,h2] at h1
 injection h1 with h1
 injection h1 with a b
 exact Rat.ext a.symm b.symm
theorem FF (q:Rat):decide (Ai q=[48])=decide (q=0):=decide_eq_decide.2 (by rw[←DU,Cl])
theorem TY {q:Rat} (h:q≠0):q.num≠0:=by rwa [ne_eq,Rat.num_eq_zero]
theorem Uc (p q:Rat):(decide (E6 p q≤0))=decide (p≤q):=Sk p q
theorem Ur (p q:Rat):(decide (E6 p q>0))=decide (q<p):=by
 have h:=Uc p q
 rw[decide_eq_decide] at h⊢
 constructor
 ·intro h1
  exact Rat.not_le.1 fun h2=>by have:=h.2 h2;omega
 ·intro h1
  have: ¬E6 p q≤0:=fun h2=>Rat.not_le.2 h1 (h.1 h2)
  omega
-- BOXES 4
theorem DI (z:Int) (hz: -9223372036854775808≤z∧z≤9223372036854775807) (W:World) (ht:AV W):
  Aj Tryz.prog 58 #[.int .i64 z] W (fun _:Unit=>str (Ai (z:Rat))) (fun _=>True) (fun _=>[]):=by
 refine Ad (args:=[.int .i64 z]) Tryz.func58 rfl rfl rfl ?_
 refine zA (zB (wP rfl (Aa (zE (zA (zB (wP rfl ?_)))))))
 refine Ac rfl rfl rfl rfl rfl rfl (by kernel_rfl) (fun W hp=>(H2 z 1 hz (by decide) W (ht.hp hp)).cast (by rw[Oy])) ?_
 iterate 5 refine wP rfl ?_
 refine Aa (zE (zA (zB (wP rfl (wP rfl (Aa (zE (zO ?_))))))))
 exact Af tH rfl (.tmp rfl) () rfl trivial fun W _=>Ae.nil _ _
theorem Il (p q:Rat) (h:Sz2 p q) (W:World) (hv:BJ W) (ht:AV W):
  Aj Tryz.prog 164 #[str (Ai p),str (Ai q)] W (fun _:Unit=>str (Ai (p+q))) (fun _=>True) (fun _=>[]):=by
 refine Ad (args:=[str (Ai p),str (Ai q)]) Tryz.func164 rfl rfl rfl ?_
 refine zA (zB (wP rfl (Aa (zE (zA (zB (wP rfl (wP rfl ?_))))))))
 refine Ac rfl rfl rfl rfl rfl rfl (by kernel_rfl) (fun W hp=>QN p q h W (hv.hp hp) (ht.hp hp)) ?_
 iterate 5 refine wP rfl ?_
 refine Aa (zE (zA (zB (wP rfl (wP rfl (Aa (zE (zO ?_))))))))
 exact Af tH rfl (.tmp rfl) () rfl trivial fun W _=>Ae.nil _ _
theorem ER (p q:Rat) (h:Sz2 p q) (W:World) (hv:BJ W) (ht:AV W):
  Aj Tryz.prog 59 #[str (Ai p),str (Ai q)] W (fun _:Unit=>str (Ai (p-q))) (fun _=>True) (fun _=>[]):=by
 refine Ad (args:=[str (Ai p),str (Ai q)]) Tryz.func59 rfl rfl rfl ?_
 refine zA (zB (wP rfl (Aa (zE (zA (zB (wP rfl (wP rfl ?_))))))))
 refine Ac rfl rfl rfl rfl rfl rfl (by kernel_rfl) (fun W hp=>LS p q h W (hv.hp hp) (ht.hp hp)) ?_
 iterate 5 refine wP rfl ?_
 refine Aa (zE (zA (zB (wP rfl (wP rfl (Aa (zE (zO ?_))))))))
 exact Af tH rfl (.tmp rfl) () rfl trivial fun W _=>Ae.nil _ _
theorem Gj (p q:Rat) (h:Sz2 p q) (W:World) (hv:BJ W) (ht:AV W):
  Aj Tryz.prog 57 #[str (Ai p),str (Ai q)] W (fun _:Unit=>str (Ai (p*q))) (fun _=>True) (fun _=>[]):=by
 refine Ad (args:=[str (Ai p),str (Ai q)]) Tryz.func57 rfl rfl rfl ?_
 refine zA (zB (wP rfl (Aa (zE (zA (zB (wP rfl (wP rfl ?_))))))))
 refine Ac rfl rfl rfl rfl rfl rfl (by kernel_rfl) (fun W hp=>QA p q h W (hv.hp hp) (ht.hp hp)) ?_
 iterate 5 refine wP rfl ?_
 refine Aa (zE (zA (zB (wP rfl (wP rfl (Aa (zE (zO ?_))))))))
 exact Af tH rfl (.tmp rfl) () rfl trivial fun W _=>Ae.nil _ _
theorem HY (p q:Rat) (h:Sz2 p q) (h0:q.num≠0) (W:World) (hv:BJ W) (ht:AV W):
  Aj Tryz.prog 124 #[str (Ai p),str (Ai q)] W (fun _:Unit=>str (Ai (p/q))) (fun _=>True) (fun _=>[]):=by
 refine Ad (args:=[str (Ai p),str (Ai q)]) Tryz.func124 rfl rfl rfl ?_
 refine zA (zB (wP rfl (Aa (zE (zA (zB (wP rfl (wP rfl ?_))))))))
 refine Ac rfl rfl rfl rfl rfl rfl (by kernel_rfl) (fun W hp=>(Ru p q h W (hv.hp hp) (ht.hp hp)).cast (by rw[MA,if_neg h0])) ?_
 iterate 5 refine wP rfl ?_
 refine Aa (zE (zA (zB (wP rfl (wP rfl (Aa (zE (zO ?_))))))))
 exact Af tH rfl (.tmp rfl) () rfl trivial fun W _=>Ae.nil _ _
theorem Cu (p q:Rat) (h:Sz2 p q) (W:World) (hv:BJ W) (ht:AV W):
  Aj Tryz.prog 128 #[str (Ai p),str (Ai q)] W (fun _:Unit=> .int .i64 (E6 p q)) (fun _=>True) (fun _=>[]):=by
 refine Ad (args:=[str (Ai p),str (Ai q)]) Tryz.func128 rfl rfl rfl ?_
 refine zA (zB (wP rfl (Aa (zE (zA (zB (wP rfl (wP rfl ?_))))))))
 refine Ac rfl rfl rfl rfl rfl rfl (by kernel_rfl) (fun W hp=>(Hy p q h W (hv.hp hp) (ht.hp hp)).cast (by rw[Q8])) ?_
 iterate 5 refine wP rfl ?_
 refine Aa (zE (zA (zB (wP rfl (wP rfl (Aa (zE (zO ?_))))))))
 exact Af tH rfl (.tmp rfl) () rfl trivial fun W _=>Ae.nil _ _
-- BOXES 4
theorem IB (q:Rat) (h:okQ q) (W:World) (hv:BJ W) (ht:AV W):
  Aj Tryz.prog 153 #[str (Ai q)] W (fun _:Unit=> .tuple #[str (itoa q.num),str (itoa (q.den:Nat)), .int .i64 0]) (fun _=>True) (fun _=>[]):=by
 have hl:=BR h
 refine Ad (args:=[str (Ai q)]) Tryz.func153 rfl rfl rfl ?_
 repeat (first|refine zA ?_|refine zB ?_|refine zC ?_|refine zD ?_|refine zE ?_|refine zF ?_|refine zG ?_|refine zH ?_|refine zI ?_|refine zJ ?_|refine zK ?_|refine zL ?_|refine zM rfl ?_|refine zN ?_|refine zO ?_|refine zP ?_|refine zQ ?_|refine zR rfl ?_|refine zS rfl ?_|refine zT Tryz.mixed (by kernel_rfl) ?_)
 refine wP rfl (wP rfl (wP rfl (Aa ?_)))
 repeat (first|refine zA ?_|refine zB ?_|refine zC ?_|refine zD ?_|refine zE ?_|refine zF ?_|refine zG ?_|refine zH ?_|refine zI ?_|refine zJ ?_|refine zK ?_|refine zL ?_|refine zM rfl ?_|refine zN ?_|refine zO ?_|refine zP ?_|refine zQ ?_|refine zR rfl ?_|refine zS rfl ?_|refine zT Tryz.mixed (by kernel_rfl) ?_)
 refine wP rfl ?_
 refine Ac rfl rfl rfl rfl rfl rfl (by kernel_rfl) (fun W hp=>(D9 (Ai q) (by omega) W (hv.hp hp) (ht.hp hp)).cast (Mg h)) ?_
 refine wP rfl (wP rfl (wP rfl ?_))
 (refine Ao Tryz.hZ rfl rfl rfl rfl ?_;intro)
 (first|refine wS 0 rfl rfl rfl ?_|refine wS 1 rfl rfl rfl ?_|refine wS 2 rfl rfl rfl ?_|refine wS 3 rfl rfl rfl ?_)
 refine wP rfl (Aa ?_)
 repeat (first|refine zA ?_|refine zB ?_|refine zC ?_|refine zD ?_|refine zE ?_|refine zF ?_|refine zG ?_|refine zH ?_|refine zI ?_|refine zJ ?_|refine zK ?_|refine zL ?_|refine zM rfl ?_|refine zN ?_|refine zO ?_|refine zP ?_|refine zQ ?_|refine zR rfl ?_|refine zS rfl ?_|refine zT Tryz.mixed (by kernel_rfl) ?_)
 refine qP rfl ?_
 (first|refine qB 0 rfl rfl rfl ?_|refine qB 1 rfl rfl rfl ?_|refine qB 2 rfl rfl rfl ?_|refine qB 3 rfl rfl rfl ?_)
 refine qP rfl ?_
 (first|refine qB 0 rfl rfl rfl ?_|refine qB 1 rfl rfl rfl ?_|refine qB 2 rfl rfl rfl ?_|refine qB 3 rfl rfl rfl ?_)
 refine qP rfl (qP rfl (qP rfl (qP rfl (AE (Aa ?_)))))
 repeat (first|refine zA ?_|refine zB ?_|refine zC ?_|refine zD ?_|refine zE ?_|refine zF ?_|refine zG ?_|refine zH ?_|refine zI ?_|refine zJ ?_|refine zK ?_|refine zL ?_|refine zM rfl ?_|refine zN ?_|refine zO ?_|refine zP ?_|refine zQ ?_|refine zR rfl ?_|refine zS rfl ?_|refine zT Tryz.mixed (by kernel_rfl) ?_)
 exact BW tH rfl (.tmp rfl) (.tmp rfl) (.tmp rfl) () rfl trivial fun W _=>Ae.nil _ _
def Fz (W:World) (p:Option Addr) (l:List (List UInt8)):Prop:=l=[]∨ ∃b off,p=some ⟨b,off,none⟩∧Ag W b off (l.map str)
theorem Fz.below {W W':World} {p:Option Addr} {l:List (List UInt8)} {n:Nat} (h:Fz W p l) (hn:W.heap.size≤n) (hb:Below n W W'):Fz W' p l:=by
 rcases h with h|⟨b,off,h1,h2⟩
 ·exact .inl h
 ·exact .inr ⟨b,off,h1,h2.below hn hb⟩
theorem Fz.hp {W0 W:World} {bxs:List Bx} {p:Option Addr} {l:List (List UInt8)} (h:Fz W0 p l) (hp:Hp W0 bxs W):Fz W p l:=h.below (Nat.le_refl _) hp.below
theorem Fz.row {W:World} {p:Option Addr} {l:List (List UInt8)} (h:Fz W p l) {i:Nat} (hi:i<l.length): ∃b off,p=some ⟨b,off,none⟩∧ ∀k (hk:k<l.length),Ag W b (off+k*1) [str l[k]]:=by
 rcases h with rfl|⟨b,off,h1,h2⟩
 ·exact absurd hi (Nat.not_lt_zero _)
 ·refine⟨b,off,h1,fun k hk=>⟨h2.lt,fun j u hu=> ?_⟩⟩
  have hj:j=0:=by have:=(List.getElem?_eq_some_iff.1 hu).1;simpa using this
  subst hj
  have:=h2.get k (str l[k]) (by rw[List.getElem?_map,List.getElem?_eq_getElem hk];rfl)
  rw[Nat.mul_one,Nat.add_zero,this]
  simpa using hu
theorem Hb (n:Nat):itoa (n:Int)=decDigits n:=by
 unfold itoa;rw[if_neg (by omega)];rfl
abbrev q2 (n:Int) (d:Nat) (h:d≠0:=by decide) (hc:n.natAbs.Coprime d:=by decide):Rat:=⟨n,d,h,hc⟩
theorem dd1 (n:Nat) (h:n<10):decDigits n=[UInt8.ofNat (48+n)]:=by rw[decDigits,dif_pos h]
theorem dd2 (n:Nat) (h: ¬n<10) (h2:n/10<10):decDigits n=[UInt8.ofNat (48+n/10),UInt8.ofNat (48+n%10)]:=by
 rw[decDigits,dif_neg h,dd1 _ h2];rfl
theorem ns0:Ai (q2 0 1)=[48]:=by rw[Ai,FW,if_pos rfl];exact(Hb 0).trans (dd1 0 (by decide))
theorem ns5:Ai (q2 5 1)=[53]:=by rw[Ai,FW,if_pos rfl];exact(Hb 5).trans (dd1 5 (by decide))
theorem XJ:Ai (q2 10 1)=[49,48]:=by rw[Ai,FW,if_pos rfl];exact(Hb 10).trans (dd2 10 (by decide) (by decide))
-- BOXES 4
theorem HP (z:Int):AX Tryz.prog 199 [str (itoa z)] (.int .i64 ((decDigits z.natAbs).length:Nat)):=by
 intro W
 refine Ad Tryz.func199 rfl rfl rfl ?_
 refine zA (zB (wP rfl (Aa (zE (zA (zB (wP rfl ?_)))))))
 refine Ac rfl rfl rfl rfl rfl rfl (by kernel_rfl) (fun W _=>(Cw (itoa z) [45] W).cast (by rw[Bn])) ?_
 refine wP rfl ?_
 refine Ab 5 (.int .i64 ((decDigits z.natAbs).length:Nat)) rfl (congrArg (fun n:Nat=>Value.int .i64 (n:Int)) (AF _)) ?_
 refine wP rfl (Aa (zE (zO ?_)))
 exact Af tH rfl (.tmp rfl) () rfl trivial fun W _=>Ae.nil _ _
theorem FA (q:Rat) (h:szQ q 36) (W:World) (hv:BJ W) (ht:AV W):
  Aj Tryz.prog 133 #[str (Ai q)] W (fun _:Unit=> .int .i64 0) (fun _=>True) (fun _=>[]):=by
 have hk:=h.ok (by decide)
 have hl:=BR hk
 have l1:=F2 36 q.num.natAbs (by decide) h.1
 have l2:=F2 36 ((q.den:Nat):Int).natAbs (by decide) (by rw[Int.natAbs_natCast];exact h.2)
 refine Ad (args:=[str (Ai q)]) Tryz.func133 rfl rfl rfl ?_
 refine zA (zB (wP rfl (Aa (zE (zA (zA (zB (wP rfl ?_))))))))
 refine Ac rfl rfl rfl rfl rfl rfl (by kernel_rfl) (fun W hp=>(Gq (Ai q) (by omega) W (hv.hp hp) (ht.hp hp)).cast (by rw[Oe hk])) ?_
 refine wP rfl (Aa (zE (zA (zB (wP rfl (wP rfl (Aa (zE (zS rfl (zI (zE (zA (zA ?_)))))))))))))
 refine zB (wP rfl ?_)
 refine Ac rfl rfl rfl rfl rfl rfl (by kernel_rfl) (fun W hp=>IB q hk W (hv.hp hp) (ht.hp hp)) ?_
 iterate 7 refine wP rfl ?_
 refine Aa (zE (zA (zB (wP rfl ?_))))
 refine Ac rfl rfl rfl rfl rfl rfl (by kernel_rfl) (fun W _=>HP q.num W) ?_
 refine wP rfl ?_
 refine Ac rfl rfl rfl rfl rfl rfl (by kernel_rfl) (fun W _=>HP (q.den:Nat) W) ?_
 refine wP rfl (wP rfl ?_)
 refine Ab 23 (.bool false) rfl (congrArg Value.bool (decide_eq_false (by
  show¬((if _>_ then _ else _)>_)
  split<;>omega))) ?_
 refine Aa (zE (zS rfl (zI (zE (zA (zB (wP rfl (Aa (zE (zO ?_))))))))))
 exact Af tH rfl (.tmp rfl) () rfl trivial fun W _=>Ae.nil _ _
theorem Ly (q:Rat):hasPrefix (Ai q) [45]=decide (q.num<0):=by
 have h:=DH q.num
 unfold Ai FW
 split
 ·exact h
 ·rw[Bt] at h⊢
  rw[←h]
  have hne:(itoa q.num)≠[]:=by
   unfold itoa
   split
   ·intro h;cases h
   ·exact G8 _
  rw[List.getElem?_append_left (List.length_pos_iff.2 hne)]
structure FrP where
 ax:Bool
 pos:Int
 hd:Int
 sp:Rat
 st:Rat
abbrev frV (f:FrP):Value:= .agg #[.bool f.ax, .int .i64 f.pos, .int .i64 f.hd,str (Ai f.sp),str (Ai f.st)]
structure FrP.OK (f:FrP):Prop where
 p0:0≤f.pos
 p1:f.pos≤65536
 hd:f.hd=1∨f.hd= -1
 sp:szQ f.sp 36
 st:szQ f.st 36
 sp0:0≤f.sp.num
theorem Gr (f:FrP) (h:f.OK) (W:World) (hv:BJ W) (ht:AV W):
  Aj Tryz.prog 123 #[frV f] W (fun _:Unit=> .int .i64 0) (fun _=>True) (fun _=>[]):=by
 obtain⟨p0,p1,hhd,hsp,hst,hsp0⟩:=h
 have l1:=BR (hsp.ok (by decide))
 have l2:=BR (hst.ok (by decide))
 refine Ad (args:=[frV f]) Tryz.func123 rfl rfl rfl ?_
 refine zA (zB ?_)
 (refine A8 rfl rfl rfl rfl ?_;intro)
 refine wP rfl (Aa ?_)
 rename_i b1
 refine AC (A7 (A7 ?_))
 refine AK (X:=Unit) (fun _=>[(1,Ax b1),(2, .int .i64 0),(26, .bool false)]) (fun _=>[⟨b1,39,[.bool f.ax, .int .i64 f.pos, .int .i64 f.hd,str (Ai f.sp),str (Ai f.st)],true,none⟩]) (fun _=>True) ?_ ?_
 ·refine zB (wP rfl (wB 0 rfl rfl rfl (wP rfl ?_)))
  refine Ab 11 (.bool false) rfl (congrArg Value.bool (decide_eq_false (by omega))) ?_
  refine wP rfl (wP rfl (wB 0 rfl rfl rfl (wP rfl ?_)))
  refine Ab 15 (.bool false) rfl (congrArg Value.bool (decide_eq_false (by omega))) ?_
  refine wP rfl (wP rfl (wP rfl (wB 0 rfl rfl rfl (wP rfl ?_))))
  rcases hhd with e|e
  ·refine Ab 20 (.bool false) rfl (congrArg Value.bool (by rw[e];rfl)) ?_
   refine wP rfl ?_
   iterate 3 refine Ah rfl rfl ?_
   refine wP rfl (wP rfl (Aa ?_))
   exact At () trivial ⟨rfl,rfl,rfl,trivial⟩ [] rfl
  ·refine Ab 20 (.bool true) rfl (congrArg Value.bool (by rw[e];rfl)) ?_
   refine wP rfl (wP rfl (wB 0 rfl rfl rfl (wP rfl ?_)))
   refine Ab 24 (.bool false) rfl (congrArg Value.bool (by rw[e];rfl)) ?_
   refine wP rfl (wP rfl (Aa ?_))
   exact At () trivial ⟨rfl,rfl,rfl,trivial⟩ [] rfl
 ·intro _ _
  refine zS rfl (zI (zE (zA (zA (zB (wP rfl (wB 0 rfl rfl rfl (wP rfl (wB 0 rfl rfl rfl ?_)))))))))
  refine A0 Tryz.hZ tH rfl rfl rfl rfl rfl rfl rfl rfl rfl rfl rfl fun bS=> ?_
  refine wP rfl (wP rfl (Aa (AC ?_)))
  refine AK (X:=Unit) (fun _=>[(1,Ax b1),(2, .int .i64 0)]) (fun _=>[⟨b1,39,[.bool f.ax, .int .i64 f.pos, .int .i64 f.hd,str (Ai f.sp),str (Ai f.st)],true,none⟩]) (fun _=>True) ?_ ?_
  ·refine BI ?_
   refine Av (X:=Nat) (fun i=>[(1,Ax b1),(2, .int .i64 0),(31, .slice (some ⟨bS,0,none⟩) 2 2),(32, .int .i64 2),(33, .int .i64 (i:Nat))]) (fun _=>[⟨b1,39,[.bool f.ax, .int .i64 f.pos, .int .i64 f.hd,str (Ai f.sp),str (Ai f.st)],true,none⟩,⟨bS,37,[str (Ai f.sp),str (Ai f.st)],true,none⟩]) (fun i=>i≤2) (fun i=>2-i) 0 (Nat.zero_le _) ⟨rfl,rfl,rfl,rfl,rfl,trivial⟩ [] rfl ?_
   intro i hi
   have hi:i=0∨i=1∨i=2:=by have:i≤2:=hi;omega
   rcases hi with rfl|rfl|rfl
   ·refine zA (zB (wP rfl (Aa (zE (zA (zR rfl (zI (zE (zA (zH (zA (zB ?_))))))))))))
    refine wJ ?_
    refine wB 1 rfl rfl rfl (wP rfl (Aa (zE (zA (zB (wP rfl ?_))))))
    refine Ac rfl rfl rfl rfl rfl rfl (by kernel_rfl) (fun W hp=>(Gq (Ai f.sp) (by omega) W (hv.hp hp) (ht.hp hp)).cast (by rw[Oe (hsp.ok (by decide))])) ?_
    refine wP rfl (Aa (zE (zA (zB (wP rfl (wP rfl (Aa (zE (zS rfl (zI (zN (zE (zB ?_)))))))))))))
    refine wP rfl (wP rfl (Aa ?_))
    exact As 1 (by decide) (by decide) ⟨rfl,rfl,rfl,rfl,rfl,trivial⟩ [] rfl
   ·refine zA (zB (wP rfl (Aa (zE (zA (zR rfl (zI (zE (zA (zH (zA (zB ?_))))))))))))
    refine wJ ?_
    refine wB 1 rfl rfl rfl (wP rfl (Aa (zE (zA (zB (wP rfl ?_))))))
    refine Ac rfl rfl rfl rfl rfl rfl (by kernel_rfl) (fun W hp=>(Gq (Ai f.st) (by omega) W (hv.hp hp) (ht.hp hp)).cast (by rw[Oe (hst.ok (by decide))])) ?_
    refine wP rfl (Aa (zE (zA (zB (wP rfl (wP rfl (Aa (zE (zS rfl (zI (zN (zE (zB ?_)))))))))))))
    refine wP rfl (wP rfl (Aa ?_))
    exact As 2 (by decide) (by decide) ⟨rfl,rfl,rfl,rfl,rfl,trivial⟩ [] rfl
   ·refine zA (zB (wP rfl (Aa (zE (zA (zS rfl (zJ (zK (zK (zL ?_))))))))))
    exact At () trivial ⟨rfl,rfl,trivial⟩ _ rfl
  ·intro _ _
   refine A7 (zA (zB (wP rfl (wB 0 rfl rfl rfl (wP rfl (wB 0 rfl rfl rfl ?_))))))
   refine A0 Tryz.hZ tH rfl rfl rfl rfl rfl rfl rfl rfl rfl rfl rfl fun bT=> ?_
   refine wP rfl (wP rfl (Aa (AC ?_)))
   refine AK (X:=Unit) (fun _=>[(1,Ax b1),(2, .int .i64 0)]) (fun _=>[⟨b1,39,[.bool f.ax, .int .i64 f.pos, .int .i64 f.hd,str (Ai f.sp),str (Ai f.st)],true,none⟩]) (fun _=>True) ?_ ?_
   ·refine BI ?_
    refine Av (X:=Nat) (fun i=>[(1,Ax b1),(2, .int .i64 0),(47, .slice (some ⟨bT,0,none⟩) 2 2),(48, .int .i64 2),(49, .int .i64 (i:Nat))]) (fun _=>[⟨b1,39,[.bool f.ax, .int .i64 f.pos, .int .i64 f.hd,str (Ai f.sp),str (Ai f.st)],true,none⟩,⟨bT,37,[str (Ai f.sp),str (Ai f.st)],true,none⟩]) (fun i=>i≤2) (fun i=>2-i) 0 (Nat.zero_le _) ⟨rfl,rfl,rfl,rfl,rfl,trivial⟩ [] rfl ?_
    intro i hi
    have hi:i=0∨i=1∨i=2:=by have:i≤2:=hi;omega
    rcases hi with rfl|rfl|rfl
    ·refine zA (zB (wP rfl (Aa (zE (zA (zR rfl (zI (zE (zA (zH (zA (zB ?_))))))))))))
     refine wJ ?_
     refine wB 1 rfl rfl rfl (wP rfl (Aa (zE (zA (zB (wP rfl ?_))))))
     refine Ac rfl rfl rfl rfl rfl rfl (by kernel_rfl) (fun W hp=>FA f.sp hsp W (hv.hp hp) (ht.hp hp)) ?_
     refine wP rfl (Aa (zE (zA (zB (wP rfl (wP rfl (Aa (zE (zS rfl (zI (zN (zE (zB ?_)))))))))))))
     refine wP rfl (wP rfl (Aa ?_))
     exact As 1 (by decide) (by decide) ⟨rfl,rfl,rfl,rfl,rfl,trivial⟩ [] rfl
    ·refine zA (zB (wP rfl (Aa (zE (zA (zR rfl (zI (zE (zA (zH (zA (zB ?_))))))))))))
     refine wJ ?_
     refine wB 1 rfl rfl rfl (wP rfl (Aa (zE (zA (zB (wP rfl ?_))))))
     refine Ac rfl rfl rfl rfl rfl rfl (by kernel_rfl) (fun W hp=>FA f.st hst W (hv.hp hp) (ht.hp hp)) ?_
     refine wP rfl (Aa (zE (zA (zB (wP rfl (wP rfl (Aa (zE (zS rfl (zI (zN (zE (zB ?_)))))))))))))
     refine wP rfl (wP rfl (Aa ?_))
     exact As 2 (by decide) (by decide) ⟨rfl,rfl,rfl,rfl,rfl,trivial⟩ [] rfl
    ·refine zA (zB (wP rfl (Aa (zE (zA (zS rfl (zJ (zK (zK (zL ?_))))))))))
     exact At () trivial ⟨rfl,rfl,trivial⟩ _ rfl
   ·intro _ _
    refine A7 (zA (zB (wP rfl (wB 0 rfl rfl rfl ?_))))
    refine Ac rfl rfl rfl rfl rfl rfl (by kernel_rfl) (fun W _=>(IX (Ai f.sp) [45] W).cast (by rw[Ly,decide_eq_false (by omega)])) ?_
    refine Aa (zE (zS rfl (zI (zE (zA (zB (wP rfl (Aa (zE (zO ?_))))))))))
    exact Af tH rfl (.tmp rfl) () rfl trivial fun W _=>Ae.nil _ _
-- BOXES 4
theorem Iu (f:FrP) (h:f.OK) (q:Rat) (hq:szQ q 36) (b:Nat) (W:World) (hv:BJ W) (ht:AV W) (hrow:Ag W b 0 [str (Ai q)]):
  Aj Tryz.prog 56 #[frV f, .slice (some ⟨b,0,none⟩) 1 1] W (fun _:Unit=> .int .i64 0) (fun _=>True) (fun _=>[]):=by
 refine Ad (args:=[frV f, .slice (some ⟨b,0,none⟩) 1 1]) Tryz.func56 rfl rfl rfl ?_
 refine zA (zB ?_)
 (refine A8 rfl rfl rfl rfl ?_;intro)
 refine wP rfl (Aa ?_)
 rename_i b2
 refine zE (zA (zA (zB (wB 0 rfl rfl rfl ?_))))
 refine Ac rfl rfl rfl rfl rfl rfl (by kernel_rfl) (fun W hp=>Gr f h W (hv.hp hp) (ht.hp hp)) ?_
 refine wP rfl (Aa (zE (zS rfl (zI (zE (zA (zA (zB (wP rfl (wP rfl (wP rfl (Aa (AC ?_)))))))))))))
 refine AK (X:=Unit) (fun _=>[(4, .int .i64 0)]) (fun _=>[]) (fun _=>True) ?_ ?_
 ·refine BI ?_
  refine Av (X:=Nat) (fun i=>[(4, .int .i64 0),(11, .slice (some ⟨b,0,none⟩) 1 1),(12, .int .i64 1),(13, .int .i64 (i:Nat))]) (fun _=>[]) (fun i=>i≤1) (fun i=>1-i) 0 (Nat.zero_le _) ⟨rfl,rfl,rfl,rfl,trivial⟩ _ rfl ?_
  intro i hi
  have hi:i=0∨i=1:=by have:i≤1:=hi;omega
  rcases hi with rfl|rfl
  ·refine zA (zB (wP rfl (Aa (zE (zA (zR rfl (zI (zE (zA (zH (zA (zB ?_))))))))))))
   refine wJ ?_
   refine Aw rfl rfl rfl rfl (fun W hp=>Ag.load 0 tH rfl ((fun W hp=>hrow.hp hp) W hp) rfl) ?_
   refine wP rfl (Aa (zE (zA (zB (wP rfl ?_)))))
   refine Ac rfl rfl rfl rfl rfl rfl (by kernel_rfl) (fun W hp=>FA q hq W (hv.hp hp) (ht.hp hp)) ?_
   refine wP rfl (Aa (zE (zA (zB (wP rfl (wP rfl (Aa (zE (zS rfl (zI (zN (zE (zB ?_)))))))))))))
   refine wP rfl (wP rfl (Aa ?_))
   exact As 1 (by decide) (by decide) ⟨rfl,rfl,rfl,rfl,trivial⟩ [] rfl
  ·refine zA (zB (wP rfl (Aa (zE (zA (zS rfl (zJ (zK (zK (zL ?_))))))))))
   exact At () trivial ⟨rfl,trivial⟩ _ rfl
 ·intro _ _
  refine zA (zB (wP rfl (Aa (zE (zO ?_)))))
  exact Af tH rfl (.tmp rfl) () rfl trivial fun W _=>Ae.nil _ _
def FrP.vel (f:FrP):Rat:=(f.hd:Rat)*f.sp
def FrP.at (f:FrP) (t:Rat):Rat:=if t≤f.st then(f.pos:Rat) else(f.pos:Rat)+f.vel*(t-f.st)
theorem FrP.OK.hdz {f:FrP} (h:f.OK):szQ (f.hd:Rat) 1:=Ft (by rcases h.hd with e|e<;>rw[e]<;>decide) (by decide)
theorem FrP.OK.posz {f:FrP} (h:f.OK):szQ (f.pos:Rat) 5:=Ft (by have:=h.p0;have:=h.p1;show f.pos.natAbs<100000;omega) (by decide)
theorem FrP.OK.pos64 {f:FrP} (h:f.OK): -9223372036854775808≤f.pos∧f.pos≤9223372036854775807:=by have:=h.p0;have:=h.p1;omega
theorem FrP.OK.hd64 {f:FrP} (h:f.OK): -9223372036854775808≤f.hd∧f.hd≤9223372036854775807:=by rcases h.hd with e|e<;>omega
theorem Ch (f:FrP) (h:f.OK) (W:World) (hv:BJ W) (ht:AV W):
  Aj Tryz.prog 165 #[frV f] W (fun _:Unit=>str (Ai f.vel)) (fun _=>True) (fun _=>[]):=by
 have hz:=sz2 h.hdz h.sp (by decide)
 refine Ad (args:=[frV f]) Tryz.func165 rfl rfl rfl ?_
 refine zA (zB ?_)
 (refine A8 rfl rfl rfl rfl ?_;intro)
 refine wP rfl (Aa ?_)
 rename_i b1
 refine zE (zA ?_)
 refine zT Tryz.mixed (by kernel_rfl) ?_
 refine qP rfl (qB 0 rfl rfl rfl ?_)
 refine A9 rfl rfl rfl rfl rfl rfl (by kernel_rfl) (fun W hp=>DI f.hd h.hd64 W (ht.hp hp)) ?_
 refine qP rfl (qB 0 rfl rfl rfl ?_)
 refine A9 rfl rfl rfl rfl rfl rfl (by kernel_rfl) (fun W hp=>Gj (f.hd:Rat) f.sp hz W (hv.hp hp) (ht.hp hp)) ?_
 refine qP rfl (AE (Aa (zE (zO ?_))))
 exact Af tH rfl (.tmp rfl) () rfl trivial fun W _=>Ae.nil _ _
theorem DW (f:FrP) (h:f.OK) (t:Rat) (a b k:Nat) (hs:szQ f.sp a) (hb:szQ f.st b) (hz:szQ t k) (hk:a+b+k+9≤300) (W:World) (hv:BJ W) (ht:AV W):
  Aj Tryz.prog 86 #[frV f,str (Ai t)] W (fun _:Unit=>str (Ai (f.at t))) (fun _=>True) (fun _=>[]):=by
 have z1:=sz2 hz hb (by omega)
 have z2:=hz.sub hb
 have zv:szQ f.vel (1+a):=h.hdz.mul hs
 have z3:=sz2 zv z2 (by omega)
 have z4:=zv.mul z2
 have z5:=sz2 h.posz z4 (by omega)
 refine Ad (args:=[frV f,str (Ai t)]) Tryz.func86 rfl rfl rfl ?_
 refine zA (zB ?_)
 (refine A8 rfl rfl rfl rfl ?_;intro)
 refine wP rfl (Aa ?_)
 rename_i b2
 refine zE (zA (zA (zB (wP rfl (wP rfl (wB 0 rfl rfl rfl ?_))))))
 refine Ac rfl rfl rfl rfl rfl rfl (by kernel_rfl) (fun W hp=>Cu t f.st z1 W (hv.hp hp) (ht.hp hp)) ?_
 refine wP rfl ?_
 refine Ab 9 (.bool (decide (t≤f.st))) rfl (congrArg Value.bool (Sk t f.st)) ?_
 refine Aa (zE ?_)
 refine Ak rfl (fun hc=> ?_) (fun hc=> ?_)
 ·have hc:=of_decide_eq_true hc
  refine zA (zB (wP rfl (wB 0 rfl rfl rfl ?_)))
  refine Ac rfl rfl rfl rfl rfl rfl (by kernel_rfl) (fun W hp=>DI f.pos h.pos64 W (ht.hp hp)) ?_
  refine wP rfl (Aa (zE (zO (zP ?_))))
  exact Af tH rfl (.tmp rfl) () (by rw[FrP.at,if_pos hc]) trivial fun W _=>Ae.nil _ _
 ·have hc:=of_decide_eq_false hc
  refine zI (zE (zA ?_))
  refine zT Tryz.mixed (by kernel_rfl) ?_
  refine qP rfl (qB 0 rfl rfl rfl ?_)
  refine A9 rfl rfl rfl rfl rfl rfl (by kernel_rfl) (fun W hp=>DI f.pos h.pos64 W (ht.hp hp)) ?_
  refine qB 0 rfl rfl rfl ?_
  refine A9 rfl rfl rfl rfl rfl rfl (by kernel_rfl) (fun W hp=>Ch f h W (hv.hp hp) (ht.hp hp)) ?_
  refine qP rfl (qP rfl (qB 0 rfl rfl rfl ?_))
  refine A9 rfl rfl rfl rfl rfl rfl (by kernel_rfl) (fun W hp=>ER t f.st z1 W (hv.hp hp) (ht.hp hp)) ?_
  refine A9 rfl rfl rfl rfl rfl rfl (by kernel_rfl) (fun W hp=>Gj f.vel (t-f.st) z3 W (hv.hp hp) (ht.hp hp)) ?_
  refine A9 rfl rfl rfl rfl rfl rfl (by kernel_rfl) (fun W hp=>Il (f.pos:Rat) (f.vel*(t-f.st)) z5 W (hv.hp hp) (ht.hp hp)) ?_
  refine qP rfl (AE (Aa (zE (zO ?_))))
  exact Af tH rfl (.tmp rfl) () (by rw[FrP.at,if_neg hc]) trivial fun W _=>Ae.nil _ _
theorem Kp (f:FrP) (h:f.OK) (t:Rat) (hz:szQ t 36) (W:World) (hv:BJ W) (ht:AV W):
  Aj Tryz.prog 86 #[frV f,str (Ai t)] W (fun _:Unit=>str (Ai (f.at t))) (fun _=>True) (fun _=>[]):=DW f h t 36 36 36 h.sp h.st hz (by decide) W hv ht
end
section
-- OLD
open Go Go.RowKit Go.Am
set_option maxRecDepth 10000
structure Sd where
 x:Int
 y:Int
 rise:Int
 run:Int
 gable:Bool
 plate:Int
 over:Int
 deriving DecidableEq,Inhabited
abbrev Sd.cells (s:Sd):List Value:=[.int .i64 s.x, .int .i64 s.y, .int .i64 s.rise, .int .i64 s.run, .bool s.gable, .int .i64 s.plate, .int .i64 s.over]
abbrev Sd.val (s:Sd):Value:= .agg #[.int .i64 s.x, .int .i64 s.y, .int .i64 s.rise, .int .i64 s.run, .bool s.gable, .int .i64 s.plate, .int .i64 s.over]
abbrev spot (x y:Int):Value:= .agg #[.int .i64 x, .int .i64 y]
abbrev GD (s t u:Sd):Value:= .agg #[.int .i64 s.x, .int .i64 s.y, .int .i64 s.rise, .int .i64 s.run, .bool s.gable, .int .i64 s.plate, .int .i64 s.over, .int .i64 t.x, .int .i64 t.y, .int .i64 t.rise, .int .i64 t.run, .bool t.gable, .int .i64 t.plate, .int .i64 t.over, .int .i64 u.x, .int .i64 u.y, .int .i64 u.rise, .int .i64 u.run, .bool u.gable, .int .i64 u.plate, .int .i64 u.over]
theorem B6 (s:Sd):AX Tryz.prog 168 [s.val] (spot s.x s.y):=by
 intro W
 refine Ad Tryz.func168 rfl rfl rfl ?_
 refine zA (zB ?_)
 refine A8 rfl rfl rfl rfl ?_
 intro
 refine Bi (z:=spot 0 0) rfl rfl rfl (fun W=>by kernel_rfl) fun b3=> ?_
 refine zC (zE (zA (zB (wP rfl (wB 0 rfl rfl rfl (wP rfl (wB 0 rfl rfl rfl ?_)))))))
 refine FJ (spot 0 0) tH rfl rfl rfl rfl rfl (fun W=>by kernel_rfl) rfl rfl ?_
 refine wS 1 rfl rfl rfl (zC (zE (zO ?_)))
 exact Af tH rfl (.cell 1 rfl rfl rfl rfl rfl) () rfl trivial fun W _=>Ae.nil _ _
theorem LN (x y u v:Int):AX Tryz.prog 169 [spot x y,spot u v] (spot (w64 (u-x)) (w64 (v-y))):=by
 intro W
 refine Ad Tryz.func169 rfl rfl rfl ?_
 refine zA (zB ?_)
 refine A8 rfl rfl rfl rfl ?_
 intro
 refine A8 rfl rfl rfl rfl ?_
 intro
 refine Bi (z:=spot 0 0) rfl rfl rfl (fun W=>by kernel_rfl) fun b3=> ?_
 refine zC (zE (zA (zB (wP rfl (wB 1 rfl rfl rfl (wP rfl (wB 0 rfl rfl rfl (wP rfl (wP rfl (wB 1 rfl rfl rfl (wP rfl (wB 0 rfl rfl rfl (wP rfl ?_)))))))))))))
 refine FJ (spot 0 0) tH rfl rfl rfl rfl rfl (fun W=>by kernel_rfl) rfl rfl ?_
 refine wS 2 rfl rfl rfl (zC (zE (zO ?_)))
 exact Af tH rfl (.cell 2 rfl rfl rfl rfl rfl) () rfl trivial fun W _=>Ae.nil _ _
theorem JW (x y u v:Int):AX Tryz.prog 234 [spot x y,spot u v] (.int .i64 (w64 (w64 (x*v)-w64 (y*u)))):=by
 intro W
 refine Ad Tryz.func234 rfl rfl rfl ?_
 refine zA (zB ?_)
 refine A8 rfl rfl rfl rfl ?_
 intro
 refine A8 rfl rfl rfl rfl ?_
 intro
 refine wP rfl (zC (zE (zA (zB (wP rfl (wB 0 rfl rfl rfl (wP rfl (wB 1 rfl rfl rfl (wP rfl (wP rfl (wB 0 rfl rfl rfl (wP rfl (wB 1 rfl rfl rfl ?_)))))))))))))
 refine wP rfl (wP rfl (wP rfl (zC (zE (zO ?_)))))
 exact Af tH rfl (.tmp rfl) () rfl trivial fun W _=>Ae.nil _ _
theorem Jf (s t u:Sd):AX Tryz.prog 170 [GD s t u] (spot (w64 (u.x-t.x)) (w64 (u.y-t.y))):=by
 intro W
 refine Ad Tryz.func170 rfl rfl rfl ?_
 refine zA (zB ?_)
 refine A8 rfl rfl rfl rfl ?_
 intro
 refine Bi (z:=spot 0 0) rfl rfl rfl (fun W=>by kernel_rfl) fun b3=> ?_
 refine zC (zE (zA ?_))
 refine zT Tryz.mixed (by kernel_rfl) ?_
 refine qP rfl (qB 0 rfl rfl rfl ?_)
 refine A9 rfl rfl rfl rfl rfl rfl (by kernel_rfl) (fun W _=>B6 t W) ?_
 refine qP rfl (qB 0 rfl rfl rfl ?_)
 refine A9 rfl rfl rfl rfl rfl rfl (by kernel_rfl) (fun W _=>B6 u W) ?_
 refine A9 rfl rfl rfl rfl rfl rfl (by kernel_rfl) (fun W _=>LN t.x t.y u.x u.y W) ?_
 refine zD (wS 1 rfl rfl rfl (zC (zE (zO ?_))))
 exact Af tH rfl (.cell 1 rfl rfl rfl rfl rfl) () rfl trivial fun W _=>Ae.nil _ _
theorem Q9 (s t u:Sd):AX Tryz.prog 175 [GD s t u] (.bool (decide (w64 (w64 (w64 (t.x-s.x)*w64 (u.y-t.y))-w64 (w64 (t.y-s.y)*w64 (u.x-t.x)))>0))):=by
 intro W
 refine Ad Tryz.func175 rfl rfl rfl ?_
 refine zA (zB ?_)
 refine A8 rfl rfl rfl rfl ?_
 intro
 refine wP rfl (zC (zE (zA ?_)))
 refine zT Tryz.mixed (by kernel_rfl) ?_
 refine qP rfl (qB 0 rfl rfl rfl ?_)
 refine A9 rfl rfl rfl rfl rfl rfl (by kernel_rfl) (fun W _=>B6 s W) ?_
 refine qP rfl (qB 0 rfl rfl rfl ?_)
 refine A9 rfl rfl rfl rfl rfl rfl (by kernel_rfl) (fun W _=>B6 t W) ?_
 refine A9 rfl rfl rfl rfl rfl rfl (by kernel_rfl) (fun W _=>LN s.x s.y t.x t.y W) ?_
 refine qB 0 rfl rfl rfl ?_
 refine A9 rfl rfl rfl rfl rfl rfl (by kernel_rfl) (fun W _=>Jf s t u W) ?_
 refine A9 rfl rfl rfl rfl rfl rfl (by kernel_rfl) (fun W _=>JW _ _ _ _ W) ?_
 refine qP rfl (qP rfl (zD (zC (zE (zO ?_)))))
 exact Af tH rfl (.tmp rfl) () rfl trivial fun W _=>Ae.nil _ _
structure Fd (W:World) (b off:Nat) (l:List Sd):Prop where
 get: ∀(i:Nat) (s:Sd),l[i]? =some s→Ag W b (off+i*7) s.cells
def BT (W:World) (p:Option Addr) (l:List Sd):Prop:=l=[]∨ ∃b off,p=some ⟨b,off,none⟩∧Fd W b off l
theorem BT.below {W W':World} {p:Option Addr} {l:List Sd} {n:Nat} (h:BT W p l) (hn:W.heap.size≤n) (hb:Below n W W'):BT W' p l:=by
 rcases h with h|⟨b,off,h1,h2⟩
 ·exact .inl h
 ·exact .inr ⟨b,off,h1,⟨fun i s hs=>(h2.get i s hs).below hn hb⟩⟩
theorem BT.hp {W0 W:World} {bxs:List Bx} {p:Option Addr} {l:List Sd} (h:BT W0 p l) (hp:Hp W0 bxs W):BT W p l:=h.below (Nat.le_refl _) hp.below
def sd (l:List Sd) (i:Nat):Sd:=l.getD i default
theorem DY {l:List Sd} {i:Nat} (h:i<l.length):l[i]? =some (sd l i):=by simp[sd,h]
theorem BT.row {W:World} {p:Option Addr} {l:List Sd} (h:BT W p l) {i:Nat} (hi:i<l.length): ∃b off,p=some ⟨b,off,none⟩∧ ∀k,k<l.length→Ag W b (off+k*7) (sd l k).cells:=by
 rcases h with rfl|⟨b,off,h1,h2⟩
 ·simp at hi
 ·exact⟨b,off,h1,fun k hk=>h2.get k _ (DY hk)⟩
end
section
-- OLD
open Go Go.RowKit Go.Am
set_option maxRecDepth 10000
theorem Ep (p:Option Addr) (n cap:Nat) (W:World):Aj Tryz.prog 132 #[slv p n cap] W (fun b:Nat=> .func (.func 198) #[] #[.pointer (some ⟨b,0,none⟩)]) (fun _=>True) (fun b=>[⟨b,32,[slv p n cap],true,none⟩]):=by
 refine Ad (args:=[slv p n cap]) Tryz.func132 rfl rfl rfl ?_
 refine zA (zB ?_)
 refine A8 rfl rfl rfl rfl ?_;intro b
 refine wP rfl (zC (zE (zA (zB (wP rfl (wP rfl (zC (zE (zO ?_)))))))))
 exact Af tH rfl (.tmp rfl) b rfl trivial fun W hp=>Ae.of_hp hp
def prv (n i:Nat):Nat:=(i+n-1)%n
def nxt (n i:Nat):Nat:=(i+1)%n
abbrev VZ (l:List Sd) (k:Nat):List Value:=[.int .i64 k,GD (sd l (prv l.length k)) (sd l k) (sd l (nxt l.length k))]
structure D5 (b:Nat) (p:Option Addr) (cap:Nat) (l:List Sd) (W:World):Prop where
 var:Ag W b 0 [slv p l.length cap]
 ring:BT W p l
theorem EQ (b:Nat) (p:Option Addr) (cap:Nat) (l:List Sd) (hn:l.length<4611686018427387904):
  SU Tryz.prog 198 [.pointer (some ⟨b,0,none⟩)] l.length (VZ l) (D5 b p cap l):=by
 refine⟨fun y J Jx hNeed hdr hY W hJ=> ?_⟩
 refine DV (args:=[.func (.yield y) #[] #[], .pointer (some ⟨b,0,none⟩)]) (J0:=J 0) Tryz.func198 rfl rfl rfl hJ ?_
 refine zA (zB ?_)
 refine Aw rfl rfl rfl rfl (fun W hp=>Ag.load 0 tH rfl ((fun W hp=>(hNeed 0 W hp).var) W hp) rfl) ?_
 refine wP rfl (wP rfl (zC (zE (zA (zB ?_)))))
 refine Aw rfl rfl rfl rfl (fun W hp=>Ag.load 0 tH rfl ((fun W hp=>(hNeed 0 W hp).var) W hp) rfl) ?_
 refine wP rfl (wP rfl (zC (zE (zH ?_))))
 refine DG (X:=Nat) (fun k=>[(0, .func (.yield y) #[] #[]),(1, .pointer (some ⟨b,0,none⟩)),(3, .int .i64 (l.length:Nat)),(8, .int .i64 (l.length:Nat)),(9, .int .i64 (k:Nat))]) J (fun k=>k≤l.length) (fun k=>l.length-k) 0 (Nat.zero_le _) ⟨rfl,rfl,rfl,rfl,rfl,trivial⟩ (fun W h=>h) ?_
 intro k hk
 refine zA (zB (wP rfl (zC (zE (zA ?_)))))
 refine Ak rfl ?_ ?_
 rotate_left
 ·intro h
  refine zJ (zK (zK (zL ?_)))
  have:k=l.length:=by simp at h;omega
  subst this
  exact Gw rfl fun W h=>h
 intro h
 have hk:k<l.length:=by simp at h;omega
 clear h
 refine zI (zE (zA (zH (zA (zB (wP rfl (wP rfl (zC (zE (zA ?_))))))))))
 have hz:(l.length:Int)≠0:=by omega
 have e1:(w64 (w64 ((k:Int)+(l.length:Int))-1)).tmod (l.length:Int)=((prv l.length k:Nat):Int):=by
  rw[An (x:=(k:Int)+l.length) (by omega) (by omega),An (by omega) (by omega)]
  have:(k:Int)+l.length-1=((k+l.length-1:Nat):Int):=by omega
  rw[this];rfl
 have e2:(w64 ((k:Int)+1)).tmod (l.length:Int)=((nxt l.length k:Nat):Int):=by
  rw[An (x:=(k:Int)+1) (by omega) (by omega)]
  rfl
 have l1:prv l.length k<l.length:=Nat.mod_lt _ (by omega)
 have l2:nxt l.length k<l.length:=Nat.mod_lt _ (by omega)
 refine Fk 23 (hdr k) Tryz.mixed (by kernel_rfl) rfl ?_
 refine qP rfl (qP rfl ?_)
 refine Ap rfl rfl rfl rfl (fun W hp=>Ag.load 0 tH rfl ((fun W hp=>(hNeed k W hp).var) W hp) rfl) ?_
 iterate 5 refine qP rfl ?_
 refine EN rfl rfl rfl rfl rfl hz ?_
 refine A6 20 _ rfl (congrArg (Value.int .i64) e1) ?_
 obtain⟨b2,off,rfl,hrow⟩: ∃b2 off,p=some ⟨b2,off,none⟩∧ ∀i,i<l.length→ ∀W,J k W→Ag W b2 (off+i*7) (sd l i).cells:=by
  obtain⟨b2,off,e,_⟩:=(hNeed 0 W hJ).ring.row hk
  refine⟨b2,off,e,fun i hi W hW=> ?_⟩
  obtain⟨b3,off3,e',h⟩:=(hNeed k W hW).ring.row hk
  rw[e] at e'
  cases e'
  exact h i hi
 refine qJ ?_
 refine Ap rfl rfl rfl rfl (fun W hp=>Ag.load 0 tH rfl ((hrow _ l1) W hp) rfl) ?_
 refine Ap rfl rfl rfl rfl (fun W hp=>Ag.load 0 tH rfl ((fun W hp=>(hNeed k W hp).var) W hp) rfl) ?_
 refine qP rfl ?_
 refine qJ ?_
 refine Ap rfl rfl rfl rfl (fun W hp=>Ag.load 0 tH rfl ((hrow _ hk) W hp) rfl) ?_
 refine Ap rfl rfl rfl rfl (fun W hp=>Ag.load 0 tH rfl ((fun W hp=>(hNeed k W hp).var) W hp) rfl) ?_
 refine qP rfl (qP rfl (qP rfl ?_))
 refine EN rfl rfl rfl rfl rfl hz ?_
 refine A6 31 _ rfl (congrArg (Value.int .i64) e2) ?_
 refine qJ ?_
 refine Ap rfl rfl rfl rfl (fun W hp=>Ag.load 0 tH rfl ((hrow _ l2) W hp) rfl) ?_
 refine OH (GD default default default) tH rfl rfl rfl rfl rfl (fun W=>by kernel_rfl) rfl rfl ?_
 refine zD ?_
 refine Dj (A1:=J (k+1)) (A2:=Jx) rfl rfl rfl rfl rfl rfl (fun W hp=>hY k W hk hp) ?_ ?_
 ·refine wP rfl (zC (zE (zS rfl (zI (zN (zE (zB (wP rfl (wP rfl (zC ?_))))))))))
  exact Dl (k+1) hk (by omega) ⟨rfl,rfl,rfl,rfl,congrArg (fun z=>some (Value.int .i64 z)) (AI (x:=(k:Int)+1) (by omega) (by omega)),trivial⟩ (fun W h=>h)
 ·refine wP rfl (zC (zE (zR rfl (zO (zQ (zP (zP (zQ ?_))))))))
  exact BZ rfl (fun W h=>h)
end
section
-- OLD
open Go Go.RowKit Go.Am
set_option maxRecDepth 10000
-- BOXES 6
abbrev SA (a b c d:Int):Value:= .agg #[.int .i64 a, .int .i64 b, .int .i64 c, .int .i64 d]
theorem P7 (s t u:Sd):AX Tryz.prog 171 [GD s t u] (SA (if u.x<t.x then u.x else t.x) (if u.y<t.y then u.y else t.y) (if u.x>t.x then u.x else t.x) (if u.y>t.y then u.y else t.y)):=by
 intro W
 refine Ad Tryz.func171 rfl rfl rfl ?_
 refine zA (zB ?_)
 refine A8 rfl rfl rfl rfl ?_
 intro
 refine Bi (z:=SA 0 0 0 0) rfl rfl rfl (fun W=>by kernel_rfl) fun b2=> ?_
 refine Aa (AC (A7 ?_))
 refine Lf (X:=Nat×Nat) (fun x=>[(2, .pointer (some ⟨b2,0,none⟩)),(3, .pointer (some ⟨x.1,0,none⟩)),(4, .pointer (some ⟨x.2,0,none⟩))])
  (fun x=>[⟨b2,213,(SA 0 0 0 0).cells.toList,true,none⟩,⟨x.1,147,(spot t.x t.y).cells.toList,true,none⟩,⟨x.2,147,(spot u.x u.y).cells.toList,true,none⟩]) 4 Tryz.mixed (by kernel_rfl) ?_ ?_
 ·refine qP rfl (qB 0 rfl rfl rfl ?_)
  refine A9 rfl rfl rfl rfl rfl rfl (by kernel_rfl) (fun W _=>B6 t W) ?_
  refine qP rfl (qB 0 rfl rfl rfl ?_)
  refine A9 rfl rfl rfl rfl rfl rfl (by kernel_rfl) (fun W _=>B6 u W) ?_
  refine zG ?_
  refine wX ?_
  refine RS.cons ?_ (RS.cons ?_ RS.nil)
  ·refine Bi (z:=spot 0 0) rfl rfl rfl (fun W=>by kernel_rfl) fun b3=> ?_
   refine zC (zF ?_)
   refine wX ?_
   refine RS.cons ?_ RS.nil
   refine Bi (z:=spot 0 0) rfl rfl rfl (fun W=>by kernel_rfl) fun b4=> ?_
   refine zC (zF ?_)
   refine wX ?_
   refine RS.cons ?_ RS.nil
   refine wS 2 rfl rfl rfl (zC (zF ?_))
   refine wX ?_
   refine RS.cons ?_ RS.nil
   refine wS 3 rfl rfl rfl (zC (zF ?_))
   refine B8 rfl (by((repeat (first|refine Bu.same ?_|refine Bu.off rfl ?_));exact trivial)) ?_
   exact AD (b3,b4) ⟨rfl,rfl,rfl,trivial⟩ [1,2,3] (by decide) rfl
  ·refine Bi (z:=spot 0 0) rfl rfl rfl (fun W=>by kernel_rfl) fun b4=> ?_
   refine zC (zF ?_)
   refine wX ?_
   refine RS.cons ?_ RS.nil
   refine Bi (z:=spot 0 0) rfl rfl rfl (fun W=>by kernel_rfl) fun b3=> ?_
   refine zC (zF ?_)
   refine wX ?_
   refine RS.cons ?_ RS.nil
   refine wS 3 rfl rfl rfl (zC (zF ?_))
   refine wX ?_
   refine RS.cons ?_ RS.nil
   refine wS 2 rfl rfl rfl (zC (zF ?_))
   refine B8 rfl (by((repeat (first|refine Bu.same ?_|refine Bu.off rfl ?_));exact trivial)) ?_
   exact AD (b3,b4) ⟨rfl,rfl,rfl,trivial⟩ [1,3,2] (by decide) rfl
 ·rintro⟨b3,b4⟩
  refine zE (zA (zB (wP rfl (wB 1 rfl rfl rfl (wP rfl (wB 2 rfl rfl rfl (wP rfl (wP rfl (wB 1 rfl rfl rfl (wP rfl (wB 2 rfl rfl rfl (wP rfl ?_))))))))))))
  refine FJ (spot 0 0) tH rfl rfl rfl rfl rfl (fun W=>by kernel_rfl) rfl rfl ?_
  refine wP rfl (wB 1 rfl rfl rfl (wP rfl (wB 2 rfl rfl rfl (wP rfl (wP rfl (wB 1 rfl rfl rfl (wP rfl (wB 2 rfl rfl rfl (wP rfl ?_)))))))))
  refine FJ (spot 0 0) tH rfl rfl rfl rfl rfl (fun W=>by kernel_rfl) rfl rfl ?_
  refine FJ (SA 0 0 0 0) tH rfl rfl rfl rfl rfl (fun W=>by kernel_rfl) rfl rfl ?_
  refine wS 0 rfl rfl rfl (zC (zE (zO ?_)))
  exact Af tH rfl (.cell 0 rfl rfl rfl rfl rfl) () rfl trivial fun W _=>Ae.nil _ _
theorem Pp (a b c d a' b' c' d':Int):AX Tryz.prog 172 [SA a b c d,SA a' b' c' d'] (.bool (decide (a≤c')&&decide (a'≤c)&&decide (b≤d')&&decide (b'≤d))):=by
 intro W
 refine Ad Tryz.func172 rfl rfl rfl ?_
 refine zA (zB ?_)
 refine A8 rfl rfl rfl rfl ?_
 intro
 refine A8 rfl rfl rfl rfl ?_
 intro
 refine wP rfl (zC (zE (zA (zB (wP rfl (wP rfl (wB 0 rfl rfl rfl (wP rfl (wP rfl (wB 1 rfl rfl rfl (wP rfl (wP rfl ?_))))))))))))
 refine AM 12 rfl (fun h12=> ?_) (fun h12=> ?_)
 ·refine wP rfl (wP rfl (wB 1 rfl rfl rfl (wP rfl (wP rfl (wB 0 rfl rfl rfl (wP rfl (wP rfl (wP rfl ?_))))))))
  refine AM 21 rfl (fun h21=> ?_) (fun h21=> ?_)
  ·refine wP rfl (wP rfl (wB 0 rfl rfl rfl (wP rfl (wP rfl (wB 1 rfl rfl rfl (wP rfl (wP rfl (wP rfl ?_))))))))
   refine AM 30 rfl (fun h30=> ?_) (fun h30=> ?_)
   ·refine wP rfl (wP rfl (wB 1 rfl rfl rfl (wP rfl (wP rfl (wB 0 rfl rfl rfl (wP rfl (wP rfl (wP rfl (zC (zE (zO ?_)))))))))))
    exact Af tH rfl (.tmp rfl) () (by simp_all<;>(intros;omega)) trivial fun W _=>Ae.nil _ _
   ·refine Ah rfl rfl ?_
    iterate 6 refine Ah rfl rfl ?_
    refine wP rfl (wP rfl (zC (zE (zO ?_))))
    exact Af tH rfl (.tmp rfl) () (by simp_all<;>(intros;omega)) trivial fun W _=>Ae.nil _ _
  ·refine Ah rfl rfl ?_
   iterate 6 refine Ah rfl rfl ?_
   refine wP rfl (wP rfl ?_)
   iterate 7 refine Ah rfl rfl ?_
   refine wP rfl (wP rfl (zC (zE (zO ?_))))
   exact Af tH rfl (.tmp rfl) () (by simp_all<;>(intros;omega)) trivial fun W _=>Ae.nil _ _
 ·refine Ah rfl rfl ?_
  iterate 6 refine Ah rfl rfl ?_
  refine wP rfl (wP rfl ?_)
  iterate 7 refine Ah rfl rfl ?_
  refine wP rfl (wP rfl ?_)
  iterate 7 refine Ah rfl rfl ?_
  refine wP rfl (wP rfl (zC (zE (zO ?_))))
  exact Af tH rfl (.tmp rfl) () (by simp_all<;>(intros;omega)) trivial fun W _=>Ae.nil _ _
end
section
-- OLD
open Go Go.RowKit Go.Am
set_option maxRecDepth 10000
-- BOXES 6
theorem D5.mk' {W0 W:World} {bxs:List Bx} {b:Nat} {p:Option Addr} {cap:Nat} {l:List Sd} (h:BT W0 p l) (hp:Hp W0 bxs W) (k:Nat) (hk:nth bxs k=some ⟨b,32,[slv p l.length cap],true,none⟩):D5 b p cap l W:=
 ⟨Ag.of_bx hp k hk rfl,h.hp hp⟩
def C9 (l:List Sd):Nat→Int
 |0=>0
 |k+1=>w64 (C9 l k+w64 (w64 ((sd l k).x*(sd l (nxt l.length k)).y)-w64 ((sd l k).y*(sd l (nxt l.length k)).x)))
theorem QZ (W:World) (p:Option Addr) (cap:Nat) (l:List Sd) (hn:l.length<4611686018427387904) (hR:BT W p l):
  Aj Tryz.prog 173 #[slv p l.length cap] W (fun _:Unit=> .int .i64 (C9 l l.length)) (fun _=>True) (fun _=>[]):=by
 refine Ad (args:=[slv p l.length cap]) Tryz.func173 rfl rfl rfl ?_
 refine zA (zB (wP rfl (zC (zE (zA (zB ?_))))))
 refine Bi (z:= .int .i64 0) rfl rfl rfl (fun W=>by kernel_rfl) fun b3=> ?_
 refine wS 0 rfl rfl rfl (zC (zE (zA (zA (zB (wP rfl ?_))))))
 refine Au (X:=Nat) rfl rfl rfl rfl rfl rfl (by kernel_rfl) (fun W _=>Ep p l.length cap W) ?_
 intro b _
 refine zC (zE (zH ?_))
 refine DR (X:=Nat) (fun k=>[⟨b3,3,[.int .i64 (C9 l k)],true,none⟩,⟨b,32,[slv p l.length cap],true,none⟩]) (fun k x=>x=k) (fun _ _=>False) 0 rfl (by kernel_rfl) (EQ b p cap l hn) (fun _=>rfl) rfl [] rfl (fun k x W _ hp=>D5.mk' hR hp 1 rfl) ?_ ?_ (fun _ _ _ _ _ h=>h.elim)
 ·intro k x d L rec hk hx hrec
  subst hx
  refine zB ?_
  refine Bi (z:=GD default default default) rfl rfl rfl (fun W=>by kernel_rfl) fun b5=> ?_
  refine wS 4 rfl rfl rfl (zC ?_)
  refine Ct 3 hrec rfl ?_
  refine zH ?_
  refine zT Tryz.mixed (by kernel_rfl) ?_
  refine qB 0 rfl rfl rfl (qP rfl (qB 4 rfl rfl rfl ?_))
  refine A9 rfl rfl rfl rfl rfl rfl (by kernel_rfl) (fun W _=>B6 (sd l x) W) ?_
  refine qP rfl (qB 4 rfl rfl rfl ?_)
  refine A9 rfl rfl rfl rfl rfl rfl (by kernel_rfl) (fun W _=>B6 (sd l (nxt l.length x)) W) ?_
  refine A9 rfl rfl rfl rfl rfl rfl (by kernel_rfl) (fun W _=>JW _ _ _ _ W) ?_
  refine qP rfl (zD (wS 0 rfl rfl rfl (zC (zN ?_))))
  exact Bw 3 (x+1) hrec rfl rfl [_] rfl
 ·intro x d L rec hx
  subst hx
  refine zN (zE (zA (zB (wB 0 rfl rfl rfl (wP rfl (zC (zE (zO ?_))))))))
  refine CS 2 rfl ?_
  exact Af tH rfl (.tmp rfl) () rfl trivial fun W _=>Ae.nil _ _
end
section
-- OLD
open Go Go.RowKit Go.Am
set_option maxRecDepth 10000
-- BOXES 8
-- EQB 4
structure V9 (W:World) (b off:Nat) (rs:List (List Sd)):Prop where
 get: ∀(i:Nat) (l:List Sd),rs[i]? =some l→ ∃p cap,Ag W b (off+i*1) [slv p l.length cap]∧BT W p l
def Bz (W:World) (p:Option Addr) (rs:List (List Sd)):Prop:=rs=[]∨ ∃b off,p=some ⟨b,off,none⟩∧V9 W b off rs
def rg (rs:List (List Sd)) (i:Nat):List Sd:=rs.getD i []
theorem Bf {rs:List (List Sd)} {i:Nat} (h:i<rs.length):rs[i]? =some (rg rs i):=by simp[rg,h]
theorem Bz.row {W:World} {p:Option Addr} {rs:List (List Sd)} (h:Bz W p rs) {i:Nat} (hi:i<rs.length):
  ∃b off,p=some ⟨b,off,none⟩∧ ∀k,k<rs.length→ ∃q cap,Ag W b (off+k*1) [slv q (rg rs k).length cap]∧BT W q (rg rs k):=by
 rcases h with rfl|⟨b,off,h1,h2⟩
 ·simp at hi
 ·exact⟨b,off,h1,fun k hk=>h2.get k _ (Bf hk)⟩
theorem Bz.below {W W':World} {p:Option Addr} {rs:List (List Sd)} {n:Nat} (h:Bz W p rs) (hn:W.heap.size≤n) (hb:Below n W W'):Bz W' p rs:=by
 rcases h with h|⟨b,off,h1,h2⟩
 ·exact .inl h
 ·refine .inr ⟨b,off,h1,⟨fun i l hl=> ?_⟩⟩
  obtain⟨q,cap,h3,h4⟩:=h2.get i l hl
  exact⟨q,cap,h3.below hn hb,h4.below hn hb⟩
end
section
open Go Go.RowKit Go.Am
set_option maxRecDepth 10000
-- BOXES 3
theorem Rp (W:World) (m:Nat) (hm:m<1099511627776):Aj Tryz.prog 131 #[.slice none 0 0, .int .i64 (m:Nat)] W (fun V:Vec=>V.val 0) (fun V=>V.OK 7 0 []∧(0<m→V.p≠none)) (fun V=>[V.bx 42 []]):=by
 refine Ad (args:=[.slice none 0 0, .int .i64 (m:Nat)]) Tryz.func131 rfl rfl rfl ?_
 refine zA (zB (wP rfl (Aa (zE (zA (zA (zB (wP rfl (wP rfl (Aa (zE (zS rfl (zI ?_)))))))))))))
 refine zE (zA (zA (zB ?_)))
 iterate 8 refine wP rfl ?_
 refine Aa (zE (zA (zB (wP rfl (wP rfl (Aa (zE ?_)))))))
 have e14:w64 ((m:Int)-w64 (0-0))=m:=by
  have:w64 (0-0)=0:=rfl
  rw[this];exact(An (by omega) (by omega)).trans (by omega)
 refine AT 16 _ rfl (show Value.bool (decide (w64 ((m:Int)-w64 (0-0))>0))= .bool (decide (0<m)) by rw[e14];congr 1;simp) ?_
 refine Ak rfl (fun h=> ?_) (fun h=> ?_)
 ·have h:0<m:=by simpa using h
  refine zB (wP rfl (wP rfl (wP rfl ?_)))
  refine Dt 0 tH rfl rfl rfl rfl rfl rfl rfl rfl (Nat.le_refl _) ?_
  refine wP rfl ?_
  refine Lx Tryz.vec32 (ku:= .i64) (by kernel_rfl) m rfl rfl rfl rfl rfl rfl rfl rfl e14 h (by simp only[maxLen];omega) (by omega) ?_
  intro V hV hp hj
  refine wP rfl (wP rfl ?_)
  obtain⟨p,cap,junk⟩:=V
  cases p with
  |none=>exact absurd rfl hp
  |some g=>
  refine Dt (a:=some ⟨g,0,none⟩) (len:=m) (cap:=cap) 0 tH rfl rfl rfl rfl rfl rfl rfl rfl (Nat.zero_le _) ?_
  refine wP rfl (Aa (zE (zA (zB (wP rfl (wP rfl (Aa (zE (zO ?_)))))))))
  obtain⟨h1,h2,h3⟩:=hV.cap (by simp)
  refine Af tH rfl (.tmp rfl) (⟨some g,cap,By [.int .i64 0, .int .i64 0, .int .i64 0, .int .i64 0, .bool false, .int .i64 0, .int .i64 0] m++junk⟩:Vec) rfl ⟨⟨rfl,(fun h=>by cases h),fun _=>⟨Nat.zero_le _,h2, ?_⟩⟩,fun _=>by simp⟩ fun W hp=>Ae.of_hp1 hp 0 rfl
  show 0+(By _ m++junk).length=cap*7
  rw[List.length_append,Nat.zero_add]
  exact h3
 ·have h:m=0:=by simp at h;omega
  subst h
  refine zI (zE (zA (zB (wP rfl (wP rfl (Aa (zE (zO ?_))))))))
  exact Af tH rfl (.tmp rfl) Vec.empty rfl ⟨Vec.OK.empty 7,fun h=>absurd h (Nat.lt_irrefl _)⟩ fun W hp=>Own.one (fun p hp=>by cases hp) List.nodup_nil
def cellsOf (l:List Sd):List Value:=l.flatMap Sd.cells
theorem GN (l m:List Sd):cellsOf (l++m)=cellsOf l++cellsOf m:=List.flatMap_append
theorem DO: ∀l:List Sd,(cellsOf l).length=l.length*7
 |[]=>rfl
 |s::l=>by
  show(s.cells++cellsOf l).length=_
  rw[List.length_append,DO l,List.length_cons]
  show 7+l.length*7=(l.length+1)*7
  omega
theorem GV: ∀(l:List Sd) (i:Nat) (s:Sd),l[i]? =some s→ ∀j,j<7→(cellsOf l)[i*7+j]? =s.cells[j]?
 |[],i,s,h,_,_=>by simp at h
 |t::l,0,s,h,j,hj=>by
  obtain rfl:t=s:=by simpa using h
  show(t.cells++cellsOf l)[0*7+j]? =_
  rw[Nat.zero_mul,Nat.zero_add,List.getElem?_append_left (show j<t.cells.length from hj)]
 |t::l,i+1,s,h,j,hj=>by
  show(t.cells++cellsOf l)[(i+1)*7+j]? =_
  rw[List.getElem?_append_right (show t.cells.length≤(i+1)*7+j by show 7≤_;omega)]
  show(cellsOf l)[(i+1)*7+j-7]? =_
  rw[show(i+1)*7+j-7=i*7+j by omega]
  exact GV l i s (by simpa using h) j hj
theorem JT: ∀l:List Sd, ∀u∈cellsOf l,u.oneCell'=true:=fun l u hu=>by
 obtain⟨s,_,h⟩:=List.mem_flatMap.1 hu
 simp at h
 rcases h with rfl|rfl|rfl|rfl|rfl|rfl|rfl<;>rfl
theorem Fd.of_cells {W:World} {b off:Nat} {l:List Sd} (hlt:b<W.heap.size) (h: ∀j u,(cellsOf l)[j]? =some u→W.cell? ⟨b,off+j,none⟩=some u):Fd W b off l:=by
 refine⟨fun i s hs=>⟨hlt,fun j u hj=> ?_⟩⟩
 have hj':j<7:=(List.getElem?_eq_some_iff.1 hj).1
 have h1:=GV l i s hs j hj'
 rw[hj] at h1
 rw[Nat.add_assoc]
 exact h _ _ h1
theorem Fd.cells {W:World} {b off:Nat} {l:List Sd} (h:Fd W b off l): ∀j u,(cellsOf l)[j]? =some u→W.cell? ⟨b,off+j,none⟩=some u:=by
 intro j u hj
 have hlt:j<l.length*7:=by rw[←DO];exact(List.getElem?_eq_some_iff.1 hj).1
 have hi:j/7<l.length:=by omega
 have h1:=GV l (j/7) _ (List.getElem?_eq_getElem hi) (j%7) (Nat.mod_lt _ (by omega))
 have e:j/7*7+j%7=j:=by omega
 rw[e,hj] at h1
 have h2:=(h.get (j/7) _ (List.getElem?_eq_getElem hi)).get (j%7) u h1.symm
 rw[Nat.add_assoc,e] at h2
 exact h2
theorem Vec.ring {V:Vec} {l:List Sd} (hV:V.OK 7 l.length (cellsOf l)): ∃p cap,V.val l.length=slv p l.length cap∧ ∀ {W0 W:World} {bxs:List Bx},Hp W0 bxs W→ ∀k,nth bxs k=some (V.bx 42 (cellsOf l))→BT W p l:=by
 obtain⟨p,cap,junk⟩:=V
 cases p with
 |none=>
  have h0:=hV.nil rfl
  refine⟨none,0,by rw[h0];rfl,fun _ _ _=> .inl (List.length_eq_zero_iff.1 h0)⟩
 |some g=>
  refine⟨some ⟨g,0,none⟩,cap,rfl,fun hp k hk=> .inr ⟨g,0,rfl,Fd.of_cells (Ag.of_bx hp k hk rfl).lt fun j u hj=> ?_⟩⟩
  refine(Ag.of_bx hp k hk rfl).get j u ?_
  show(cellsOf l++junk)[j]? =some u
  rw[List.getElem?_append_left (List.getElem?_eq_some_iff.1 hj).1]
  exact hj
def tot (rs:List (List Sd)):Nat:=(rs.map List.length).sum
theorem Fb (rs:List (List Sd)):rs.flatten.length=tot rs:=by simp[tot,List.length_flatten]
theorem J2 {rs:List (List Sd)} {k:Nat} (hk:k<rs.length):(rs.take (k+1)).flatten=(rs.take k).flatten++rg rs k:=by
 rw[List.take_add_one,Bf hk];simp
theorem Cn (rs:List (List Sd)) (k:Nat):tot (rs.take k)≤tot rs:=by
 conv=>rhs;rw[←List.take_append_drop k rs]
 unfold tot
 rw[List.map_append,List.sum_append];omega
theorem Bm {rs:List (List Sd)} {k:Nat} (hk:k<rs.length):tot (rs.take (k+1))=tot (rs.take k)+(rg rs k).length:=by
 rw[←Fb, ←Fb,J2 hk,List.length_append]
theorem I7 (W:World) (p:Option Addr) (cap:Nat) (rs:List (List Sd)) (hn:rs.length<4611686018427387904) (hT:tot rs<1099511627776) (hR:Bz W p rs) (hne: ∀l∈rs,l≠[]):
  Aj Tryz.prog 54 #[slv p rs.length cap] W (fun V:Vec=>V.val rs.flatten.length) (fun V=>V.OK 7 rs.flatten.length (cellsOf rs.flatten)) (fun V=>[V.bx 42 (cellsOf rs.flatten)]):=by
 refine Ad (args:=[slv p rs.length cap]) Tryz.func54 rfl rfl rfl ?_
 refine zA (zB (wP rfl (Aa (zE (zA (zB (wP rfl (Aa (zE (zA (zA (zB (wP rfl (wP rfl (wP rfl ?_)))))))))))))))
 refine Aa (zE (zH ?_))
 refine Av (X:=Nat) (fun k=>[(0,slv p rs.length cap),(3, .int .i64 (tot (rs.take k):Nat)),(9,slv p rs.length cap),(10, .int .i64 (rs.length:Nat)),(11, .int .i64 (k:Nat))]) (fun _=>[])
  (fun k=>k≤rs.length) (fun k=>rs.length-k) 0 (Nat.zero_le _) ⟨rfl,rfl,rfl,rfl,rfl,trivial⟩ [] rfl ?_
 intro k hk
 refine zA (zB (wP rfl (Aa (zE (zA ?_)))))
 refine Ak rfl (fun h=> ?_) (fun h=> ?_)
 ·have hk:k<rs.length:=by simp at h;omega
  clear h
  obtain⟨b,off,rfl,hrow⟩:=hR.row hk
  obtain⟨q,cap2,hq1,hq2⟩:=hrow k hk
  refine zI (zE (zA (zH (zA (zB ?_)))))
  refine wJ ?_
  refine Aw rfl rfl rfl rfl (fun W hp=>Ag.load 0 tH rfl ((fun W hp=>hq1.hp hp) W hp) rfl) ?_
  refine wP rfl (Aa (zE (zA (zB ?_))))
  iterate 5 refine wP rfl ?_
  refine Aa ?_
  have hs:w64 ((tot (rs.take k):Nat)+((rg rs k).length:Nat))=(tot (rs.take (k+1)):Nat):=by
   have h1:=Bm hk
   have h2:=Cn rs (k+1)
   rw[An (by omega) (by omega)];omega
  refine zE (zA (zB ?_))
  refine Ab 3 _ rfl (congrArg (Value.int .i64) hs) ?_
  refine wP rfl (wP rfl (Aa (zE (zS rfl (zI (zN (zE (zB (wP rfl (wP rfl (Aa ?_)))))))))))
  exact As (k+1) hk (by omega) ⟨rfl,rfl,rfl,rfl,congrArg (fun z=>some (Value.int .i64 z)) (AI (x:=(k:Int)+1) (by omega) (by omega)),trivial⟩ [] rfl
 ·have e:k=rs.length:=by simp at h;omega
  subst e
  clear h
  rw[List.take_length]
  refine zJ (zK (zK (zL (zE (zA (zB (wP rfl ?_)))))))
  refine Au (X:=Vec) rfl rfl rfl rfl rfl rfl (by kernel_rfl) (fun W _=>Rp W (tot rs) hT) ?_
  rintro V0 ⟨hV0,hV0p⟩
  refine wP rfl (Aa (zE (zA (zA (zB (wP rfl (wP rfl (wP rfl (Aa (zE (zH ?_)))))))))))
  refine Av (X:=Nat×Vec) (fun x=>[(6,x.2.val (tot (rs.take x.1))),(25,slv p rs.length cap),(26, .int .i64 (rs.length:Nat)),(27, .int .i64 (x.1:Nat))]) (fun x=>[x.2.bx 42 (cellsOf (rs.take x.1).flatten)])
   (fun x=>x.1≤rs.length∧x.2.OK 7 (tot (rs.take x.1)) (cellsOf (rs.take x.1).flatten)) (fun x=>rs.length-x.1) (0,V0) ⟨Nat.zero_le _,hV0⟩ ⟨rfl,rfl,rfl,rfl,trivial⟩ [] rfl ?_
  rintro⟨k,V⟩ ⟨hk,hV⟩
  refine zA (zB (wP rfl (Aa (zE (zA ?_)))))
  refine Ak rfl (fun h=> ?_) (fun h=> ?_)
  ·have hk:k<rs.length:=by simp at h;omega
   clear h
   obtain⟨b,off,rfl,hrow⟩:=hR.row hk
   obtain⟨q,cap2,hq1,hq2⟩:=hrow k hk
   refine zI (zE (zA (zH (zA (zB ?_)))))
   refine wJ ?_
   refine Aw rfl rfl rfl rfl (fun W hp=>Ag.load 0 tH rfl ((fun W hp=>hq1.hp hp) W hp) rfl) ?_
   refine wP rfl (Aa (zE (zB (wP rfl (wP rfl ?_)))))
   obtain⟨b2,off2,rfl,hRk⟩: ∃b off,q=some ⟨b,off,none⟩∧Fd W b off (rg rs k):=by
    rcases hq2 with h|h
    ·exact absurd h (hne _ (List.mem_of_getElem? (Bf hk)))
    ·exact h
   have h1:=Bm hk
   have h2:=Cn rs (k+1)
   refine EA (len:=tot (rs.take k)) 0 Tryz.vec32 rfl rfl rfl rfl rfl rfl rfl rfl rfl hV (DO (rg rs k)) (fun W hp j u hj=> ?_) (JT _) (by simp only[maxLen];omega) (by omega) ?_
   ·have hR':BT W (some ⟨b2,off2,none⟩) (rg rs k):=BT.hp (.inr ⟨b2,off2,rfl,hRk⟩) hp
    rcases hR' with h|⟨b3,off3,e,hR'⟩
    ·exact absurd h (hne _ (List.mem_of_getElem? (Bf hk)))
    ·cases e
     rw[Addr.add_none]
     exact hR'.cells j u hj
   intro V' hV' _
   have e3:cellsOf (rs.take k).flatten++cellsOf (rg rs k)=cellsOf (rs.take (k+1)).flatten:=by rw[J2 hk,GN]
   rw[e3, ←h1] at hV'
   rw[e3, ←h1]
   refine wP rfl (Aa (zN (zE (zB (wP rfl (wP rfl (Aa ?_)))))))
   exact As (k+1,V') ⟨hk,hV'⟩ (by show rs.length-(k+1)<rs.length-k;omega) ⟨rfl,rfl,rfl,congrArg (fun z=>some (Value.int .i64 z)) (AI (x:=(k:Int)+1) (by omega) (by omega)),trivial⟩ [] rfl
  ·have e:k=rs.length:=by simp at h;omega
   subst e
   rw[List.take_length] at hV
   rw[List.take_length]
   refine zJ (zK (zK (zL (zE (zA (zB (wP rfl (wP rfl (Aa (zE (zO ?_)))))))))))
   refine Af tH rfl (.tmp rfl) V (by rw[Fb]) (by rw[Fb];exact hV) fun W hp=>Ae.of_hp1 hp 0 rfl
-- BOXES 12
def lox (t u:Sd):Int:=if u.x<t.x then u.x else t.x
def loy (t u:Sd):Int:=if u.y<t.y then u.y else t.y
def hix (t u:Sd):Int:=if u.x>t.x then u.x else t.x
def hiy (t u:Sd):Int:=if u.y>t.y then u.y else t.y
def bsd (rs:List (List Sd)) (q:Nat×Nat):Sd:=sd (rg rs q.1) q.2
def esd (rs:List (List Sd)) (q:Nat×Nat):Sd:=sd (rg rs q.1) (nxt (rg rs q.1).length q.2)
def Cf (rs:List (List Sd)) (q:Nat×Nat):List Value:=[.int .i64 (lox (bsd rs q) (esd rs q)), .int .i64 (loy (bsd rs q) (esd rs q)), .int .i64 (hix (bsd rs q) (esd rs q)), .int .i64 (hiy (bsd rs q) (esd rs q))]
def BY (q:Nat×Nat):List Value:=[.int .i64 (q.1:Nat), .int .i64 (q.2:Nat)]
def Bg (k j:Nat):List (Nat×Nat):=(List.range j).map fun i=>(k,i)
def AH (rs:List (List Sd)):Nat→List (Nat×Nat)
 |0=>[]
 |k+1=>AH rs k++Bg k (rg rs k).length
theorem Ti (k j:Nat):Bg k (j+1)=Bg k j++[(k,j)]:=by simp[Bg,List.range_succ]
theorem Lt (k j:Nat):(Bg k j).length=j:=by simp[Bg]
theorem H6 (rs:List (List Sd)): ∀k,k≤rs.length→(AH rs k).length=tot (rs.take k)
 |0,_=>rfl
 |k+1,h=>by
  rw[Bm (by omega)]
  show(AH rs k++Bg k _).length=_
  rw[List.length_append,H6 rs k (by omega),Lt]
theorem Nb (rs:List (List Sd)): ∀k, ∀q∈AH rs k,q.1<k∧q.2<(rg rs q.1).length
 |0,q,h=>by cases h
 |k+1,q,h=>by
  rcases List.mem_append.1 h with h|h
  ·have:=Nb rs k q h
   exact⟨by omega,this.2⟩
  ·obtain⟨i,hi,rfl⟩:=List.mem_map.1 h
   exact⟨Nat.lt_succ_self k,List.mem_range.1 hi⟩
def nbB (n:Nat) (q q':Nat×Nat):Bool:=(q.1==q'.1)&&(((q.2:Int)-q'.2==1)||((q.2:Int)-q'.2==(n:Int)-1))
def DT (t u t' u':Sd):Bool:=decide (lox t u≤hix t' u')&&decide (lox t' u'≤hix t u)&&decide (loy t u≤hiy t' u')&&decide (loy t' u'≤hiy t u)
def CH (rs:List (List Sd)) (q q':Nat×Nat):Bool:= !nbB (rg rs q.1).length q q'&&DT (bsd rs q) (esd rs q) (bsd rs q') (esd rs q')
def pl (rs:List (List Sd)) (i:Nat):Nat×Nat:=(AH rs rs.length).getD i (0,0)
def crs (rs:List (List Sd)):Bool:=(List.range (tot rs)).any fun i=>(List.range i).any fun k=>CH rs (pl rs i) (pl rs k)
theorem PE {α:Type} (f:α→List Value) (n:Nat) (hf: ∀x,(f x).length=n): ∀(l:List α) (i:Nat) (x:α),l[i]? =some x→ ∀(j:Nat) (u:Value),(f x)[j]? =some u→(l.flatMap f)[i*n+j]? =some u
 |[],i,x,h,_,_,_=>by simp at h
 |y::l,0,x,h,j,u,hu=>by
  obtain rfl:y=x:=by simpa using h
  rw[List.flatMap_cons,Nat.zero_mul,Nat.zero_add,List.getElem?_append_left (List.getElem?_eq_some_iff.1 hu).1]
  exact hu
 |y::l,i+1,x,h,j,u,hu=>by
  rw[List.flatMap_cons,List.getElem?_append_right (by rw[hf];rw[Nat.add_mul];omega),hf]
  rw[show(i+1)*n+j-n=i*n+j by rw[Nat.add_mul];omega]
  exact PE f n hf l i x (by simpa using h) j u hu
theorem Vec.rowAt {α:Type} {f:α→List Value} {n:Nat} (hf: ∀x,(f x).length=n) {l:List α} {g cap:Nat} {junk:List Value} {e:TypeId} {W0 W:World} {bxs:List Bx} (hp:Hp W0 bxs W) (k:Nat) (hk:nth bxs k=some ((⟨some g,cap,junk⟩:Vec).bx e (l.flatMap f))) {i:Nat} {x:α} (hi:l[i]? =some x):
  Ag W g (0+i*n) (f x):=by
 have h:=Ag.of_bx hp k hk rfl
 refine⟨h.lt,fun j u hu=> ?_⟩
 have h1:=PE f n hf l i x hi j u hu
 have:=h.get (i*n+j) u (by
  show(l.flatMap f++junk)[i*n+j]? =some u
  rw[List.getElem?_append_left (List.getElem?_eq_some_iff.1 h1).1]
  exact h1)
 rw[Nat.zero_add] at this⊢
 exact this
theorem Vec.val_eq {V:Vec} {size n:Nat} {xs:List Value} (h:V.OK size n xs):V.val n= .slice (V.p.map fun g=>⟨g,0,none⟩) n (match V.p with|none=>0|some _=>V.cap):=by
 obtain⟨p,cap,junk⟩:=V
 cases p with
 |none=>have:=h.nil rfl;subst this;rfl
 |some g=>rfl
theorem GQ {n:Nat} {f:Nat→Bool} {k:Nat} (hk:k<n) (h:f k=true):(List.range n).any f=true:=List.any_eq_true.2 ⟨k,List.mem_range.2 hk,h⟩
theorem Dp {n:Nat} {f:Nat→Bool} (h: ∀k,k<n→f k=false):(List.range n).any f=false:=Bool.eq_false_iff.2 fun h2=>by
 obtain⟨k,hk,h3⟩:=List.any_eq_true.1 h2
 rw[h k (List.mem_range.1 hk)] at h3;cases h3
theorem Lj (W:World) (p:Option Addr) (cap:Nat) (rs:List (List Sd)) (hn:rs.length<4611686018427387904) (hT:tot rs<1099511627776) (hl: ∀l∈rs,l.length<4611686018427387904) (hR:Bz W p rs):
  Aj Tryz.prog 95 #[slv p rs.length cap] W (fun _:Unit=> .bool (crs rs)) (fun _=>True) (fun _=>[]):=by
 refine Ad (args:=[slv p rs.length cap]) Tryz.func95 rfl rfl rfl ?_
 refine zA (zB (wP rfl (Aa (zE (zA (zB ?_))))))
 (refine Ao Tryz.hZ rfl rfl rfl rfl ?_;intro)
 refine Aa ?_
 rename_i b3
 refine zE (zA (zB ?_))
 (refine Ao Tryz.hZ rfl rfl rfl rfl ?_;intro)
 refine Aa ?_
 rename_i b4
 refine zE (zA (zA (zB (wP rfl (wP rfl (wP rfl (Aa (zE (zH ?_)))))))))
 iterate 2 refine CM ?_
 refine MZ ?_
 refine KW (X:=Nat×Vec×Vec×List Nat) (fun x=>x.2.2.2.map CQ) (fun x=>[(0,slv p rs.length cap),(3, .pointer (some ⟨b3,0,none⟩)),(4, .pointer (some ⟨b4,0,none⟩)),(14,slv p rs.length cap),(15, .int .i64 (rs.length:Nat)),(16, .int .i64 (x.1:Nat))])
  (fun x=>[⟨b3,210,[x.2.1.val (AH rs x.1).length],true,none⟩,⟨b4,211,[x.2.2.1.val (AH rs x.1).length],true,none⟩,x.2.1.bx 213 ((AH rs x.1).flatMap (Cf rs)),x.2.2.1.bx 216 ((AH rs x.1).flatMap BY),bag x.2.2.2])
  (fun x=>x.1≤rs.length∧x.2.1.OK 4 (AH rs x.1).length ((AH rs x.1).flatMap (Cf rs))∧x.2.2.1.OK 2 (AH rs x.1).length ((AH rs x.1).flatMap BY)) (fun x=>rs.length-x.1) (0,Vec.empty,Vec.empty,[])
  ⟨Nat.zero_le _,Vec.OK.empty 4,Vec.OK.empty 2⟩ rfl ⟨rfl,rfl,rfl,rfl,rfl,rfl,trivial⟩ [] rfl ?_
 rintro⟨k,V1,V2,ds⟩ ⟨hk0,hV10,hV20⟩
 have hk:k≤rs.length:=hk0
 have hV1:V1.OK 4 (AH rs k).length ((AH rs k).flatMap (Cf rs)):=hV10
 have hV2:V2.OK 2 (AH rs k).length ((AH rs k).flatMap BY):=hV20
 clear hk0 hV10 hV20
 refine zA (zB (wP rfl (Aa (zE (zA ?_)))))
 refine Ak rfl (fun h=> ?_) (fun h=> ?_)
 ·have hk:k<rs.length:=by simp at h;omega
  clear h
  obtain⟨b',off,rfl,hrow⟩:=hR.row hk
  obtain⟨q,cap2,hq1,hq2⟩:=hrow k hk
  have hlk:(rg rs k).length<4611686018427387904:=hl _ (List.mem_of_getElem? (Bf hk))
  refine zI (zE (zA (zH (zA (zB (wP rfl ?_))))))
  refine wJ ?_
  refine Aw rfl rfl rfl rfl (fun W hp=>Ag.load 0 tH rfl ((fun W hp=>hq1.hp hp) W hp) rfl) ?_
  (refine Ao Tryz.hZ rfl rfl rfl rfl ?_;intro)
  rename_i b5
  refine wS 5 rfl rfl rfl (wP rfl (Aa (zE (zA (zB (wP rfl ?_))))))
  refine Au (X:=Nat) rfl rfl rfl rfl rfl rfl (by kernel_rfl) (fun W _=>Ep q (rg rs k).length cap2 W) ?_
  intro b _
  refine Aa (zE (zH ?_))
  refine DR (X:=Vec×Vec×Nat) (fun x=>[⟨b3,210,[x.1.val (AH rs k++Bg k x.2.2).length],true,none⟩,⟨b4,211,[x.2.1.val (AH rs k++Bg k x.2.2).length],true,none⟩,x.1.bx 213 ((AH rs k++Bg k x.2.2).flatMap (Cf rs)),x.2.1.bx 216 ((AH rs k++Bg k x.2.2).flatMap BY),bag ds,⟨b5,3,[.int .i64 (k:Nat)],true,none⟩,⟨b,32,[slv q (rg rs k).length cap2],true,none⟩])
   (fun j x=>x.2.2=j∧x.1.OK 4 (AH rs k++Bg k x.2.2).length ((AH rs k++Bg k x.2.2).flatMap (Cf rs))∧x.2.1.OK 2 (AH rs k++Bg k x.2.2).length ((AH rs k++Bg k x.2.2).flatMap BY)) (fun _ _=>False) (V1,V2,0) rfl (by kernel_rfl) (EQ b q cap2 (rg rs k) hlk) (fun _=>rfl)
   ⟨rfl,by show V1.OK 4 (AH rs k++Bg k 0).length _;rw[show AH rs k++Bg k 0=AH rs k by simp[Bg]];exact hV1,by show V2.OK 2 (AH rs k++Bg k 0).length _;rw[show AH rs k++Bg k 0=AH rs k by simp[Bg]];exact hV2⟩ []
   (by show _=_++[];rw[show AH rs k++Bg k (V1,V2,0).2.2=AH rs k by simp[Bg]];rfl) (fun j x W _ hp=>D5.mk' hq2 hp 6 rfl) ?_ ?_ (fun _ _ _ _ _ h=>h.elim)
  ·rintro j' ⟨U1,U2,j⟩ d L rec hj ⟨e1,hU1,hU2⟩ hrec
   obtain rfl:j=j':=e1
   have hU1:U1.OK 4 (AH rs k++Bg k j).length ((AH rs k++Bg k j).flatMap (Cf rs)):=hU1
   have hU2:U2.OK 2 (AH rs k++Bg k j).length ((AH rs k++Bg k j).flatMap BY):=hU2
   have hlen:(AH rs k++Bg k (j+1)).length≤tot rs:=by
    rw[List.length_append,Lt,H6 rs k (by omega)]
    have h1:=Bm hk
    have h2:=Cn rs (k+1)
    omega
   have hlen1:(AH rs k++Bg k (j+1)).length=(AH rs k++Bg k j).length+1:=by
    simp only[List.length_append,Lt];omega
   have es:AH rs k++Bg k (j+1)=(AH rs k++Bg k j)++[(k,j)]:=by rw[Ti,List.append_assoc]
   have eb1:(AH rs k++Bg k (j+1)).flatMap (Cf rs)=(AH rs k++Bg k j).flatMap (Cf rs)++Cf rs (k,j):=by rw[es,List.flatMap_append];simp
   have eb2:(AH rs k++Bg k (j+1)).flatMap BY=(AH rs k++Bg k j).flatMap BY++BY (k,j):=by rw[es,List.flatMap_append];simp
   refine zA (zB (wP rfl (Aa (zE (zB ?_)))))
   (refine Ao Tryz.hZ rfl rfl rfl rfl ?_;intro)
   refine wS 9 rfl rfl rfl (Aa ?_)
   rename_i b8
   refine Ct 8 hrec rfl ?_
   refine BI ?_
   refine Jd (X:= {x:Vec×Vec//x.1.OK 4 (AH rs k++Bg k (j+1)).length ((AH rs k++Bg k (j+1)).flatMap (Cf rs))∧x.2.OK 2 (AH rs k++Bg k (j+1)).length ((AH rs k++Bg k (j+1)).flatMap BY)}) (fun _=>[(3, .pointer (some ⟨b3,0,none⟩)),(4, .pointer (some ⟨b4,0,none⟩))])
    (fun x=>[⟨b3,210,[x.1.1.val (AH rs k++Bg k (j+1)).length],true,none⟩,⟨b4,211,[x.1.2.val (AH rs k++Bg k (j+1)).length],true,none⟩,x.1.1.bx 213 ((AH rs k++Bg k (j+1)).flatMap (Cf rs)),x.1.2.bx 216 ((AH rs k++Bg k (j+1)).flatMap BY),bag ds,⟨b5,3,[.int .i64 (k:Nat)],true,none⟩,⟨b,32,[slv q (rg rs k).length cap2],true,none⟩,BO d,Bj L rec .busy none]) 6 [⟨b3,210,[U1.val (AH rs k++Bg k j).length],true,none⟩,⟨b4,211,[U2.val (AH rs k++Bg k j).length],true,none⟩,Du,Du,bag ds,⟨b5,3,[.int .i64 (k:Nat)],true,none⟩,⟨b,32,[slv q (rg rs k).length cap2],true,none⟩,BO d,Bj L rec .busy none,⟨b8,96,(GD (sd (rg rs k) (prv (rg rs k).length j)) (sd (rg rs k) j) (sd (rg rs k) (nxt (rg rs k).length j))).cells.toList,true,none⟩] Tryz.mixed (by kernel_rfl) ?_ ?_
   ·refine qB 0 rfl rfl rfl (qB 9 rfl rfl rfl ?_)
    refine A9 rfl rfl rfl rfl rfl rfl (by kernel_rfl) (fun W _=>(P7 ..)) ?_
    refine qB 1 rfl rfl rfl (qB 5 rfl rfl rfl (qP rfl ?_))
    refine SH Tryz.hZ tH rfl rfl rfl rfl rfl rfl rfl rfl ?_
    refine Dd ?_
    refine wX ?_
    refine RS.cons ?_ (RS.cons ?_ (RS.nil))
    ·(refine A0 Tryz.hZ tH rfl rfl rfl rfl rfl rfl rfl rfl rfl rfl rfl ?_;intro)
     refine Aa (Al ?_)
     refine wX ?_
     refine RS.cons ?_ (RS.cons ?_ (RS.nil))
     ·(first|refine AP 2 10 Tryz.vec210 (AH rs k++Bg k (j+1)).length ((AH rs k++Bg k (j+1)).flatMap (Cf rs)) rfl rfl rfl rfl rfl rfl rfl rfl rfl rfl rfl hU1 rfl rfl hlen1.symm (by rw[eb1];rfl) (by simp only[maxLen];omega) (by omega) rfl ?_|refine AP 2 11 Tryz.vec210 (AH rs k++Bg k (j+1)).length ((AH rs k++Bg k (j+1)).flatMap (Cf rs)) rfl rfl rfl rfl rfl rfl rfl rfl rfl rfl rfl hU1 rfl rfl hlen1.symm (by rw[eb1];rfl) (by simp only[maxLen];omega) (by omega) rfl ?_);intro g1 c1 j1 hU1'
      refine Aa (Al ?_)
      refine wX ?_
      refine RS.cons ?_ (RS.nil)
      (refine A0 Tryz.hZ tH rfl rfl rfl rfl rfl rfl rfl rfl rfl rfl rfl ?_;intro)
      refine Aa (Al ?_)
      refine wX ?_
      refine RS.cons ?_ (RS.nil)
      (first|refine AP 3 10 Tryz.vec211 (AH rs k++Bg k (j+1)).length ((AH rs k++Bg k (j+1)).flatMap BY) rfl rfl rfl rfl rfl rfl rfl rfl rfl rfl rfl hU2 rfl rfl hlen1.symm (by rw[eb2];rfl) (by simp only[maxLen];omega) (by omega) rfl ?_|refine AP 3 11 Tryz.vec211 (AH rs k++Bg k (j+1)).length ((AH rs k++Bg k (j+1)).flatMap BY) rfl rfl rfl rfl rfl rfl rfl rfl rfl rfl rfl hU2 rfl rfl hlen1.symm (by rw[eb2];rfl) (by simp only[maxLen];omega) (by omega) rfl ?_);intro g2 c2 j2 hU2'
      refine Aa (Al ?_)
      refine wX ?_
      refine RS.cons ?_ (RS.nil)
      refine wS 0 rfl rfl rfl (Aa (Al ?_))
      refine wY ?_
      refine RS.cons ?_ (RS.nil)
      refine wS 1 rfl rfl rfl (Aa (Al ?_))
      refine AJ rfl (by kernel_rfl) ?_
      exact AD ⟨(⟨some g1,c1,j1⟩,⟨some g2,c2,j2⟩),hU1',hU2'⟩ ⟨rfl,rfl,trivial⟩ [0,1,2,3,4,5,6,7,8] (by decide) rfl
     ·(refine A0 Tryz.hZ tH rfl rfl rfl rfl rfl rfl rfl rfl rfl rfl rfl ?_;intro)
      refine Aa (Al ?_)
      refine wX ?_
      refine RS.cons ?_ (RS.nil)
      (first|refine AP 2 10 Tryz.vec210 (AH rs k++Bg k (j+1)).length ((AH rs k++Bg k (j+1)).flatMap (Cf rs)) rfl rfl rfl rfl rfl rfl rfl rfl rfl rfl rfl hU1 rfl rfl hlen1.symm (by rw[eb1];rfl) (by simp only[maxLen];omega) (by omega) rfl ?_|refine AP 2 11 Tryz.vec210 (AH rs k++Bg k (j+1)).length ((AH rs k++Bg k (j+1)).flatMap (Cf rs)) rfl rfl rfl rfl rfl rfl rfl rfl rfl rfl rfl hU1 rfl rfl hlen1.symm (by rw[eb1];rfl) (by simp only[maxLen];omega) (by omega) rfl ?_);intro g1 c1 j1 hU1'
      refine Aa (Al ?_)
      refine wX ?_
      refine RS.cons ?_ (RS.nil)
      (first|refine AP 3 10 Tryz.vec211 (AH rs k++Bg k (j+1)).length ((AH rs k++Bg k (j+1)).flatMap BY) rfl rfl rfl rfl rfl rfl rfl rfl rfl rfl rfl hU2 rfl rfl hlen1.symm (by rw[eb2];rfl) (by simp only[maxLen];omega) (by omega) rfl ?_|refine AP 3 11 Tryz.vec211 (AH rs k++Bg k (j+1)).length ((AH rs k++Bg k (j+1)).flatMap BY) rfl rfl rfl rfl rfl rfl rfl rfl rfl rfl rfl hU2 rfl rfl hlen1.symm (by rw[eb2];rfl) (by simp only[maxLen];omega) (by omega) rfl ?_);intro g2 c2 j2 hU2'
      refine Aa (Al ?_)
      refine wX ?_
      refine RS.cons ?_ (RS.nil)
      refine wS 0 rfl rfl rfl (Aa (Al ?_))
      refine wY ?_
      refine RS.cons ?_ (RS.nil)
      refine wS 1 rfl rfl rfl (Aa (Al ?_))
      refine AJ rfl (by kernel_rfl) ?_
      exact AD ⟨(⟨some g1,c1,j1⟩,⟨some g2,c2,j2⟩),hU1',hU2'⟩ ⟨rfl,rfl,trivial⟩ [0,1,2,3,4,5,6,7,8] (by decide) rfl
    ·(refine A0 Tryz.hZ tH rfl rfl rfl rfl rfl rfl rfl rfl rfl rfl rfl ?_;intro)
     refine Aa (Al ?_)
     refine wX ?_
     refine RS.cons ?_ (RS.nil)
     (refine A0 Tryz.hZ tH rfl rfl rfl rfl rfl rfl rfl rfl rfl rfl rfl ?_;intro)
     refine Aa (Al ?_)
     refine wX ?_
     refine RS.cons ?_ (RS.nil)
     (first|refine AP 2 10 Tryz.vec210 (AH rs k++Bg k (j+1)).length ((AH rs k++Bg k (j+1)).flatMap (Cf rs)) rfl rfl rfl rfl rfl rfl rfl rfl rfl rfl rfl hU1 rfl rfl hlen1.symm (by rw[eb1];rfl) (by simp only[maxLen];omega) (by omega) rfl ?_|refine AP 2 11 Tryz.vec210 (AH rs k++Bg k (j+1)).length ((AH rs k++Bg k (j+1)).flatMap (Cf rs)) rfl rfl rfl rfl rfl rfl rfl rfl rfl rfl rfl hU1 rfl rfl hlen1.symm (by rw[eb1];rfl) (by simp only[maxLen];omega) (by omega) rfl ?_);intro g1 c1 j1 hU1'
     refine Aa (Al ?_)
     refine wX ?_
     refine RS.cons ?_ (RS.nil)
     (first|refine AP 3 10 Tryz.vec211 (AH rs k++Bg k (j+1)).length ((AH rs k++Bg k (j+1)).flatMap BY) rfl rfl rfl rfl rfl rfl rfl rfl rfl rfl rfl hU2 rfl rfl hlen1.symm (by rw[eb2];rfl) (by simp only[maxLen];omega) (by omega) rfl ?_|refine AP 3 11 Tryz.vec211 (AH rs k++Bg k (j+1)).length ((AH rs k++Bg k (j+1)).flatMap BY) rfl rfl rfl rfl rfl rfl rfl rfl rfl rfl rfl hU2 rfl rfl hlen1.symm (by rw[eb2];rfl) (by simp only[maxLen];omega) (by omega) rfl ?_);intro g2 c2 j2 hU2'
     refine Aa (Al ?_)
     refine wX ?_
     refine RS.cons ?_ (RS.nil)
     refine wS 0 rfl rfl rfl (Aa (Al ?_))
     refine wY ?_
     refine RS.cons ?_ (RS.nil)
     refine wS 1 rfl rfl rfl (Aa (Al ?_))
     refine AJ rfl (by kernel_rfl) ?_
     exact AD ⟨(⟨some g1,c1,j1⟩,⟨some g2,c2,j2⟩),hU1',hU2'⟩ ⟨rfl,rfl,trivial⟩ [0,1,2,3,4,5,6,7,8] (by decide) rfl
   ·rintro⟨⟨U1',U2'⟩,hU1',hU2'⟩
    refine zN ?_
    exact Bw 8 (U1',U2',j+1) hrec rfl ⟨rfl,hU1',hU2'⟩ [] rfl
  ·rintro⟨U1,U2,j⟩ d L rec ⟨e1,hU1,hU2⟩
   obtain rfl:j=(rg rs k).length:=e1
   refine zN (zN (zE (zB (wP rfl (wP rfl (Aa ?_))))))
   refine QV 4 7 rfl rfl ?_
   exact I1 (X:=Nat×Vec×Vec×List Nat) (k+1,U1,U2,d::ds) ⟨hk,hU1,hU2⟩ (by show rs.length-(k+1)<rs.length-k;omega) rfl ⟨rfl,rfl,rfl,rfl,rfl,congrArg (fun z=>some (Value.int .i64 z)) (AI (x:=(k:Int)+1) (by omega) (by omega)),trivial⟩ [0,1,2,3,4] (by decide) rfl
 ·have e:k=rs.length:=by simp at h;omega
  subst e
  clear h hk
  have hpl:(AH rs rs.length).length=tot rs:=by rw[H6 rs _ (Nat.le_refl _),List.take_length]
  have hget: ∀i,i<tot rs→(AH rs rs.length)[i]? =some (pl rs i):=fun i hi=>by
   rw[←hpl] at hi
   simp[pl,hi]
  have hmem: ∀i,i<tot rs→(pl rs i).1<rs.length∧(pl rs i).2<(rg rs (pl rs i).1).length:=fun i hi=>Nb rs _ _ (List.mem_of_getElem? (hget i hi))
  rw[hpl] at hV1 hV2
  have hR2:=hR
  have hm62:tot rs<1099511627776:=hT
  refine zJ (zK (zK (zL (zE (zA (zA (zB (wB 0 rfl rfl rfl ?_))))))))
  refine Ab 37 (.slice (V1.p.map fun g=>⟨g,0,none⟩) (tot rs) (match V1.p with|none=>0|some _=>V1.cap)) rfl (show V1.val (AH rs rs.length).length=_ by rw[hpl];exact Vec.val_eq hV1) ?_
  refine wP rfl (wP rfl (Aa (zE (zH ?_))))
  refine Av (X:=Nat) (fun i=>[(0,slv p rs.length cap),(3, .pointer (some ⟨b3,0,none⟩)),(4, .pointer (some ⟨b4,0,none⟩)),(38, .int .i64 (tot rs:Nat)),(39, .int .i64 (i:Nat))])
   (fun _=>[⟨b3,210,[V1.val (tot rs)],true,none⟩,⟨b4,211,[V2.val (tot rs)],true,none⟩,V1.bx 213 ((AH rs rs.length).flatMap (Cf rs)),V2.bx 216 ((AH rs rs.length).flatMap BY),bag ds])
   (fun i=>i≤tot rs∧ ∀i',i'<i→((List.range i').any fun k=>CH rs (pl rs i') (pl rs k))=false) (fun i=>tot rs-i) 0 ⟨Nat.zero_le _,fun j hj=>absurd hj (Nat.not_lt_zero _)⟩ ⟨rfl,rfl,rfl,rfl,rfl,trivial⟩ []
   (by show _=_++[];rw[hpl];rfl) ?_
  rintro i ⟨hi,hno⟩
  refine zA (zB (wP rfl (Aa (zE (zA ?_)))))
  refine Ak rfl (fun h=> ?_) (fun h=> ?_)
  rotate_left
  ·have e:i=tot rs:=by simp at h;omega
   subst e
   refine zJ (zK (zK (zL (zE (zA (zB (wP rfl (Aa (zE (zO ?_))))))))))
   refine Ha 4 ds rfl ?_
   have hf:crs rs=false:=Dp hno
   exact Af tH rfl (.tmp rfl) () (by rw[hf]) trivial fun W _=>Ae.nil _ _
  have hi:i<tot rs:=by simp at h;omega
  clear h
  obtain⟨p1,cap1,junk1⟩:=V1
  obtain⟨p2,cap3,junk2⟩:=V2
  cases p1 with
  |none=>exact absurd (hV1.nil rfl) (Nat.ne_of_gt (Nat.lt_of_le_of_lt (Nat.zero_le i) hi))
  |some g1=>
  cases p2 with
  |none=>exact absurd (hV2.nil rfl) (Nat.ne_of_gt (Nat.lt_of_le_of_lt (Nat.zero_le i) hi))
  |some g2=>
  refine zI (zE (zA (zH (zA (zB (wP rfl (wP rfl (Aa (zE (zA (zB (wP rfl (wP rfl ?_)))))))))))))
  refine Aa (zE (zH ?_))
  refine Av (X:=Nat) (fun k=>[(0,slv p rs.length cap),(3, .pointer (some ⟨b3,0,none⟩)),(4, .pointer (some ⟨b4,0,none⟩)),(38, .int .i64 (tot rs:Nat)),(39, .int .i64 (i:Nat)),(9, .int .i64 (i:Nat)),(42, .int .i64 (i:Nat)),(43, .int .i64 (k:Nat))])
   (fun _=>[⟨b3,210,[slv (some ⟨g1,0,none⟩) (tot rs) cap1],true,none⟩,⟨b4,211,[slv (some ⟨g2,0,none⟩) (tot rs) cap3],true,none⟩,(⟨some g1,cap1,junk1⟩:Vec).bx 213 ((AH rs rs.length).flatMap (Cf rs)),(⟨some g2,cap3,junk2⟩:Vec).bx 216 ((AH rs rs.length).flatMap BY),bag ds])
   (fun k=>k≤i∧ ∀k',k'<k→CH rs (pl rs i) (pl rs k')=false) (fun k=>i-k) 0 ⟨Nat.zero_le _,fun j hj=>absurd hj (Nat.not_lt_zero _)⟩ ⟨rfl,rfl,rfl,rfl,rfl,rfl,rfl,rfl,trivial⟩ [] rfl ?_
  rintro k ⟨hk,hnok⟩
  refine zA (zB (wP rfl (Aa (zE (zA ?_)))))
  refine Ak rfl (fun h=> ?_) (fun h=> ?_)
  rotate_left
  ·have e:k=i:=by simp at h;omega
   subst e
   refine zJ (zK (zK (zL (zN (zE (zB (wP rfl (wP rfl (Aa ?_)))))))))
   refine As (k+1) ⟨hi,fun i' hi'=> ?_⟩ (by omega) ⟨rfl,rfl,rfl,rfl,congrArg (fun z=>some (Value.int .i64 z)) (AI (x:=(k:Int)+1) (by omega) (by omega)),trivial⟩ [] rfl
   by_cases e:i'=k
   ·subst e;exact Dp hnok
   ·exact hno i' (by omega)
  have hk:k<i:=by simp at h;omega
  clear h
  have hkt:k<tot rs:=by omega
  obtain⟨hi1,hi2⟩:=hmem i hi
  obtain⟨hk1,hk2⟩:=hmem k hkt
  obtain⟨b',off,rfl,hrow⟩:=hR.row hi1
  obtain⟨q,cap2,hq1,hq2⟩:=hrow _ hi1
  have hlk:(rg rs (pl rs i).1).length<4611686018427387904:=hl _ (List.mem_of_getElem? (Bf hi1))
  have hlk2:(rg rs (pl rs k).1).length<4611686018427387904:=hl _ (List.mem_of_getElem? (Bf hk1))
  refine zI (zE (zA (zH (zA (zB (wP rfl (wP rfl (Aa (zE (zA (zB (wP rfl (wB 1 rfl rfl rfl ?_)))))))))))))
  refine wP rfl ?_
  refine wJ ?_
  refine wP rfl ?_
  refine Aw rfl rfl rfl rfl (fun W hp=>Ag.load 0 tH rfl ((fun W hp=>Vec.rowAt (f:=BY) (n:=2) (fun _=>rfl) hp 3 rfl (hget i hi)) W hp) rfl) ?_
  refine wJ ?_
  refine Aw rfl rfl rfl rfl (fun W hp=>Ag.load 0 tH rfl ((fun W hp=>hq1.hp hp) W hp) rfl) ?_
  refine wP rfl (wP rfl (Aa (zE (zA ?_))))
  refine zT Tryz.mixed (by kernel_rfl) ?_
  refine qB 1 rfl rfl rfl (qP rfl ?_)
  refine qJ ?_
  refine qP rfl ?_
  refine Ap rfl rfl rfl rfl (fun W hp=>Ag.load 1 tH rfl ((fun W hp=>Vec.rowAt (f:=BY) (n:=2) (fun _=>rfl) hp 3 rfl (hget i hi)) W hp) rfl) ?_
  refine qB 1 rfl rfl rfl (qP rfl ?_)
  refine qJ ?_
  refine qP rfl ?_
  refine Ap rfl rfl rfl rfl (fun W hp=>Ag.load 1 tH rfl ((fun W hp=>Vec.rowAt (f:=BY) (n:=2) (fun _=>rfl) hp 3 rfl (hget k hkt)) W hp) rfl) ?_
  refine qP rfl (qP rfl (AE (Aa ?_)))
  have egap:w64 (((pl rs i).2:Nat)-((pl rs k).2:Nat))=((pl rs i).2:Int)-(pl rs k).2:=An (by omega) (by omega)
  have en1:w64 (((rg rs (pl rs i).1).length:Nat)-1)=((rg rs (pl rs i).1).length:Int)-1:=An (by omega) (by omega)
  refine AC ?_
  refine AT 12 _ rfl (congrArg (Value.int .i64) egap) ?_
  refine Gp (X:=Unit) (fun _=>[(0,slv (some ⟨b',off,none⟩) rs.length cap),(3, .pointer (some ⟨b3,0,none⟩)),(4, .pointer (some ⟨b4,0,none⟩)),(38, .int .i64 (tot rs:Nat)),(39, .int .i64 (i:Nat)),(9, .int .i64 (i:Nat)),(10, .int .i64 (k:Nat)),(42, .int .i64 (i:Nat)),(43, .int .i64 (k:Nat)),(13, .bool (nbB (rg rs (pl rs i).1).length (pl rs i) (pl rs k)))])
   (fun _=>[⟨b3,210,[slv (some ⟨g1,0,none⟩) (tot rs) cap1],true,none⟩,⟨b4,211,[slv (some ⟨g2,0,none⟩) (tot rs) cap3],true,none⟩,(⟨some g1,cap1,junk1⟩:Vec).bx 213 ((AH rs rs.length).flatMap (Cf rs)),(⟨some g2,cap3,junk2⟩:Vec).bx 216 ((AH rs rs.length).flatMap BY),bag ds]) (fun _=>True) ?_ ?_
  ·refine zT Tryz.mixed (by kernel_rfl) ?_
   refine qB 1 rfl rfl rfl (qP rfl ?_)
   refine qJ ?_
   refine qP rfl ?_
   refine Ap rfl rfl rfl rfl (fun W hp=>Ag.load 0 tH rfl ((fun W hp=>Vec.rowAt (f:=BY) (n:=2) (fun _=>rfl) hp 3 rfl (hget i hi)) W hp) rfl) ?_
   refine qB 1 rfl rfl rfl (qP rfl ?_)
   refine qJ ?_
   refine qP rfl ?_
   refine Ap rfl rfl rfl rfl (fun W hp=>Ag.load 0 tH rfl ((fun W hp=>Vec.rowAt (f:=BY) (n:=2) (fun _=>rfl) hp 3 rfl (hget k hkt)) W hp) rfl) ?_
   refine qP rfl (qP rfl ?_)
   have e1:((((pl rs i).1:Nat):Int)==(((pl rs k).1:Nat):Int))=((pl rs i).1==(pl rs k).1):=by
    by_cases h:(pl rs i).1=(pl rs k).1
    ·rw[h,beq_self_eq_true,beq_self_eq_true]
    ·have h1:(((pl rs i).1:Nat):Int)≠(pl rs k).1:=by omega
     rw[beq_eq_false_iff_ne.2 h1,beq_eq_false_iff_ne.2 h]
   refine G4 77 rfl (fun h77=> ?_) (fun h77=> ?_)
   ·have h77':((pl rs i).1==(pl rs k).1)=true:=e1.symm.trans h77
    refine qP rfl (qP rfl (qP rfl ?_))
    refine G4 80 rfl (fun h80=> ?_) (fun h80=> ?_)
    ·have e:nbB (rg rs (pl rs i).1).length (pl rs i) (pl rs k)=true:=by
      have h80':(((pl rs i).2:Int)-(pl rs k).2==1)=true:=h80
      unfold nbB;rw[h77',h80'];rfl
     iterate 4 refine BC rfl rfl ?_
     refine qP rfl (qP rfl (qP rfl (AE (Aa ?_))))
     exact At () trivial ⟨rfl,rfl,rfl,rfl,rfl,rfl,rfl,rfl,rfl,by rw[e];rfl,trivial⟩ [] rfl
    ·have e:nbB (rg rs (pl rs i).1).length (pl rs i) (pl rs k)=(((pl rs i).2:Int)-(pl rs k).2==w64 (((rg rs (pl rs i).1).length:Nat)-1)):=by
      have h80':(((pl rs i).2:Int)-(pl rs k).2==1)=false:=h80
      unfold nbB;rw[h77',h80',en1];rfl
     iterate 7 refine qP rfl ?_
     refine AE (Aa ?_)
     exact At () trivial ⟨rfl,rfl,rfl,rfl,rfl,rfl,rfl,rfl,rfl,by rw[e];rfl,trivial⟩ [] rfl
   ·have h77':((pl rs i).1==(pl rs k).1)=false:=e1.symm.trans h77
    have e:nbB (rg rs (pl rs i).1).length (pl rs i) (pl rs k)=false:=by unfold nbB;rw[h77'];rfl
    iterate 8 refine BC rfl rfl ?_
    refine qP rfl (qP rfl (AE (Aa ?_)))
    exact At () trivial ⟨rfl,rfl,rfl,rfl,rfl,rfl,rfl,rfl,rfl,by rw[e];rfl,trivial⟩ [] rfl
  intro _ _
  have next:CH rs (pl rs i) (pl rs k)=false→ ∀k',k'<k+1→CH rs (pl rs i) (pl rs k')=false:=fun h k' hk'=>by
   by_cases e:k'=k
   ·subst e;exact h
   ·exact hnok k' (by omega)
  refine zA ?_
  refine zT Tryz.mixed (by kernel_rfl) ?_
  refine qP rfl (qP rfl (qP rfl ?_))
  refine G4 89 rfl (fun h89=> ?_) (fun h89=> ?_)
  ·have hnb:nbB (rg rs (pl rs i).1).length (pl rs i) (pl rs k)=false:=by simpa using h89
   refine qB 0 rfl rfl rfl (qP rfl ?_)
   refine qJ ?_
   refine Ap rfl rfl rfl rfl (fun W hp=>Ag.load 0 tH rfl ((fun W hp=>Vec.rowAt (f:=Cf rs) (n:=4) (fun _=>rfl) hp 2 rfl (hget i hi)) W hp) rfl) ?_
   refine qB 0 rfl rfl rfl (qP rfl ?_)
   refine qJ ?_
   refine Ap rfl rfl rfl rfl (fun W hp=>Ag.load 0 tH rfl ((fun W hp=>Vec.rowAt (f:=Cf rs) (n:=4) (fun _=>rfl) hp 2 rfl (hget k hkt)) W hp) rfl) ?_
   refine A9 rfl rfl rfl rfl rfl rfl (by kernel_rfl) (fun W _=>(Pp ..)) ?_
   refine qP rfl (AE (Aa (zE ?_)))
   refine Ak rfl (fun h=> ?_) (fun h=> ?_)
   ·refine zA (zB (wP rfl (Aa (zE (zO (zQ (zP (zP (zQ (zQ (zP (zP (zQ ?_)))))))))))))
    refine zP ?_
    refine Ha 4 ds rfl ?_
    have hf:crs rs=true:=GQ hi (GQ hk (by unfold CH;rw[hnb];exact h))
    exact Af tH rfl (.tmp rfl) () (by rw[hf]) trivial fun W _=>Ae.nil _ _
   ·refine zI (zN (zE (zB (wP rfl (wP rfl (Aa ?_))))))
    exact As (k+1) ⟨hk,next (by unfold CH;rw[hnb];exact h)⟩ (by omega) ⟨rfl,rfl,rfl,rfl,rfl,rfl,rfl,congrArg (fun z=>some (Value.int .i64 z)) (AI (x:=(k:Int)+1) (by omega) (by omega)),trivial⟩ [] rfl
  ·have hnb:nbB (rg rs (pl rs i).1).length (pl rs i) (pl rs k)=true:=by simpa using h89
   iterate 9 refine BC rfl rfl ?_
   refine qP rfl (AE (Aa (zE (zS rfl (zI (zN (zE (zB (wP rfl (wP rfl (Aa ?_)))))))))))
   exact As (k+1) ⟨hk,next (by unfold CH;rw[hnb];rfl)⟩ (by omega) ⟨rfl,rfl,rfl,rfl,rfl,rfl,rfl,congrArg (fun z=>some (Value.int .i64 z)) (AI (x:=(k:Int)+1) (by omega) (by omega)),trivial⟩ [] rfl
end
section
-- OLD
open Go Go.RowKit Go.Am
set_option maxRecDepth 10000
-- BOXES 8
-- EQB 4
def Rv (s t u:Sd):Bool:=
 !((w64 (u.x-t.x)==0)==(w64 (u.y-t.y)==0))&& !((w64 (t.x-s.x)==0)==(w64 (u.x-t.x)==0))
def Gx (l:List Sd) (k:Nat):Bool:=Rv (sd l (prv l.length k)) (sd l k) (sd l (nxt l.length k))
def shp (l:List Sd):Bool:=decide (4≤l.length)&&(List.range l.length).all (Gx l)
theorem S9 {l:List Sd} {k:Nat} (hk:k<l.length) (h:Gx l k=false):shp l=false:=by
 unfold shp
 have:(List.range l.length).all (Gx l)=false:=by
  apply Bool.eq_false_iff.2
  intro h2
  have:=List.all_eq_true.1 h2 k (List.mem_range.2 hk)
  rw[h] at this;cases this
 rw[this,Bool.and_false]
theorem O8 (W:World) (p:Option Addr) (cap:Nat) (l:List Sd) (hn:l.length<4611686018427387904) (hR:BT W p l):
  Aj Tryz.prog 94 #[slv p l.length cap] W (fun _:Unit=> .bool (shp l)) (fun _=>True) (fun _=>[]):=by
 refine Ad (args:=[slv p l.length cap]) Tryz.func94 rfl rfl rfl ?_
 refine zA (zB ?_)
 refine Bi (z:= .bool false) rfl rfl rfl (fun W=>by kernel_rfl) fun b2=> ?_
 refine Aa (AC ?_)
 refine Gp (X:=Unit) (fun _=>[(0,slv p l.length cap),(2, .pointer (some ⟨b2,0,none⟩))]) (fun _=>[⟨b2,4,[.bool false],true,none⟩]) (fun _=>4≤l.length) ?_ ?_
 ·(refine A7 ?_;refine D4 ?_)
  refine wP rfl (wP rfl (wP rfl (Aa (AC ?_))))
  refine Ak rfl (fun h=> ?_) (fun h=> ?_)
  ·refine zA (zB (wS 0 rfl rfl rfl (zC (zE (zO (zP ?_))))))
   have hs:shp l=false:=by simp at h;simp[shp];omega
   exact Af tH rfl (.cell 0 rfl rfl rfl rfl rfl) () (by rw[hs]) trivial fun W _=>Ae.nil _ _
  ·refine zI ?_
   exact At () (by simp at h;omega) ⟨rfl,rfl,trivial⟩ [] rfl
 intro _ h4
 refine zA (zA (zB (wP rfl ?_)))
 refine Au (X:=Nat) rfl rfl rfl rfl rfl rfl (by kernel_rfl) (fun W _=>Ep p l.length cap W) ?_
 intro b _
 refine zC (zE (zH ?_))
 refine DR (X:=Bool×Nat) (fun x=>[⟨b2,4,[.bool x.1],true,none⟩,⟨b,32,[slv p l.length cap],true,none⟩]) (fun k x=>x.1=false∧x.2=k∧ ∀i,i<k→Gx l i=true) (fun c x=>c= .ret∧x.1=false∧ ∃k,k<l.length∧Gx l k=false) (false,0) rfl (by kernel_rfl) (EQ b p cap l hn) (fun _=>rfl) ⟨rfl,rfl,fun i hi=>by omega⟩ [] rfl (fun k x W _ hp=>D5.mk' hR hp 1 rfl) ?_ ?_ ?_
 ·rintro k ⟨_,_⟩ d L rec hk ⟨rfl,rfl,hok⟩ hrec
  rename_i k
  refine zB ?_
  refine Bi (z:=GD default default default) rfl rfl rfl (fun W=>by kernel_rfl) fun b4=> ?_
  refine wS 4 rfl rfl rfl (zC ?_)
  refine Ct 3 hrec rfl ?_
  refine BI (A7 ?_)
  refine Lf (X:=Nat×Nat) (fun x=>[(2, .pointer (some ⟨b2,0,none⟩)),(5, .pointer (some ⟨x.1,0,none⟩)),(6, .pointer (some ⟨x.2,0,none⟩))])
   (fun x=>[⟨b2,4,[.bool false],true,none⟩,⟨b,32,[slv p l.length cap],true,none⟩,BO d,Bj L rec .busy none,⟨b4,96,(GD (sd l (prv l.length k)) (sd l k) (sd l (nxt l.length k))).cells.toList,true,none⟩,
    ⟨x.1,147,(spot (w64 ((sd l k).x-(sd l (prv l.length k)).x)) (w64 ((sd l k).y-(sd l (prv l.length k)).y))).cells.toList,true,none⟩,
    ⟨x.2,147,(spot (w64 ((sd l (nxt l.length k)).x-(sd l k).x)) (w64 ((sd l (nxt l.length k)).y-(sd l k).y))).cells.toList,true,none⟩]) 4 Tryz.mixed (by kernel_rfl) ?_ ?_
  ·refine qP rfl (qB 4 rfl rfl rfl ?_)
   refine A9 rfl rfl rfl rfl rfl rfl (by kernel_rfl) (fun W _=>B6 (sd l (prv l.length k)) W) ?_
   refine qP rfl (qB 4 rfl rfl rfl ?_)
   refine A9 rfl rfl rfl rfl rfl rfl (by kernel_rfl) (fun W _=>B6 (sd l k) W) ?_
   refine A9 rfl rfl rfl rfl rfl rfl (by kernel_rfl) (fun W _=>LN _ _ _ _ W) ?_
   refine qB 4 rfl rfl rfl ?_
   refine A9 rfl rfl rfl rfl rfl rfl (by kernel_rfl) (fun W _=>Jf (sd l (prv l.length k)) (sd l k) (sd l (nxt l.length k)) W) ?_
   refine zG ?_
   refine wX ?_
   refine RS.cons ?_ (RS.cons ?_ RS.nil)
   ·refine Bi (z:=spot 0 0) rfl rfl rfl (fun W=>by kernel_rfl) fun bA=> ?_
    refine zC (zF ?_)
    refine wX ?_
    refine RS.cons ?_ RS.nil
    refine Bi (z:=spot 0 0) rfl rfl rfl (fun W=>by kernel_rfl) fun bB=> ?_
    refine zC (zF ?_)
    refine wX ?_
    refine RS.cons ?_ RS.nil
    refine wS 5 rfl rfl rfl (zC (zF ?_))
    refine wX ?_
    refine RS.cons ?_ RS.nil
    refine wS 6 rfl rfl rfl (zC (zF ?_))
    refine B8 rfl (by((repeat (first|refine Bu.same ?_|refine Bu.off rfl ?_));exact trivial)) ?_
    exact AD (bA,bB) ⟨rfl,rfl,rfl,trivial⟩ [0,1,2,3,4,5,6] (by decide) rfl
   ·refine Bi (z:=spot 0 0) rfl rfl rfl (fun W=>by kernel_rfl) fun bB=> ?_
    refine zC (zF ?_)
    refine wX ?_
    refine RS.cons ?_ RS.nil
    refine Bi (z:=spot 0 0) rfl rfl rfl (fun W=>by kernel_rfl) fun bA=> ?_
    refine zC (zF ?_)
    refine wX ?_
    refine RS.cons ?_ RS.nil
    refine wS 6 rfl rfl rfl (zC (zF ?_))
    refine wX ?_
    refine RS.cons ?_ RS.nil
    refine wS 5 rfl rfl rfl (zC (zF ?_))
    refine B8 rfl (by((repeat (first|refine Bu.same ?_|refine Bu.off rfl ?_));exact trivial)) ?_
    exact AD (bA,bB) ⟨rfl,rfl,rfl,trivial⟩ [0,1,2,3,4,6,5] (by decide) rfl
  rintro⟨bA,bB⟩
  refine zE (zA (zB (wP rfl (wB 6 rfl rfl rfl (wP rfl (wP rfl (wB 6 rfl rfl rfl (wP rfl ?_))))))))
  refine DZ Tryz.underlying4 rfl rfl rfl rfl rfl rfl ?_
  refine wP rfl ?_
  refine AM 30 rfl (fun h30=> ?_) (fun h30=> ?_)
  ·refine Ah rfl rfl ?_
   iterate 6 refine Ah rfl rfl ?_
   refine wP rfl (zC (zE (zR rfl (zA (zB (wS 0 rfl rfl rfl (zC (zE (zO (zQ ?_))))))))))
   refine Db 3 (false,k) hrec rfl ⟨rfl,rfl,k,hk, ?_⟩ [_,_,_] rfl
   simp[Gx,Rv] at h30⊢
   simp[h30]
  ·refine wP rfl (wB 5 rfl rfl rfl (wP rfl (wP rfl (wB 6 rfl rfl rfl (wP rfl ?_)))))
   refine DZ Tryz.underlying4 rfl rfl rfl rfl rfl rfl ?_
   refine wP rfl (Aa (AC ?_))
   refine Ak rfl (fun h=> ?_) (fun h=> ?_)
   ·refine zA (zB (wS 0 rfl rfl rfl (zC (zE (zO (zQ ?_))))))
    refine Db 3 (false,k) hrec rfl ⟨rfl,rfl,k,hk, ?_⟩ [_,_,_] rfl
    simp[Gx,Rv] at h⊢
    intro _
    exact h
   ·refine zI (zN ?_)
    refine Bw 3 (false,k+1) hrec rfl ⟨rfl,rfl,fun i hi=> ?_⟩ [_,_,_] rfl
    by_cases e:i=k
    ·subst e
     show Rv _ _ _=true
     unfold Rv
     rw[Bool.and_eq_true,Bool.not_eq_true',Bool.not_eq_true']
     exact⟨h30,h⟩
    ·exact hok i (by show i<k;have:i<k+1:=hi;omega)
 ·rintro⟨_,_⟩ d L rec ⟨rfl,rfl,hok⟩
  refine zN (zE (zA (zB (wS 0 rfl rfl rfl (zC (zE (zO ?_)))))))
  refine CS 2 rfl ?_
  have hs:shp l=true:=by simp only[shp,Bool.and_eq_true,decide_eq_true_eq,List.all_eq_true];exact⟨h4,fun i hi=>hok i (List.mem_range.1 hi)⟩
  exact Af tH rfl (.cell 0 rfl rfl rfl rfl rfl) () (by rw[hs]) trivial fun W _=>Ae.nil _ _
 ·rintro⟨_,_⟩ d L rec c ⟨rfl,rfl,k,hk,hf⟩
  refine zO (zQ (zP ?_))
  refine CS 2 rfl ?_
  have hs:=S9 hk hf
  exact Af tH rfl (.cell 0 rfl rfl rfl rfl rfl) () (by rw[hs]) trivial fun W _=>Ae.nil _ _
end
section
-- OLD
open Go Go.RowKit Go.Am
set_option maxRecDepth 10000
-- BOXES 6
def btw (n a b:Int):Bool:=decide (a≤n)&&decide (n≤b)
theorem F9 (n a b:Int):AX Tryz.prog 166 [.int .i64 n, .int .i64 a, .int .i64 b] (.bool (btw n a b)):=by
 intro W
 refine Ad Tryz.func166 rfl rfl rfl ?_
 refine zA (zB (wP rfl (zC (zE (zA (zB (wP rfl (wP rfl (wP rfl (wP rfl ?_))))))))))
 refine AM 10 rfl (fun h10=> ?_) (fun h10=> ?_)
 ·refine wP rfl (wP rfl (wP rfl (wP rfl (wP rfl (zC (zE (zO ?_)))))))
  exact Af tH rfl (.tmp rfl) () (by simp_all [btw]) trivial fun W _=>Ae.nil _ _
 ·refine Ah rfl rfl ?_
  iterate 2 refine Ah rfl rfl ?_
  refine wP rfl (wP rfl (zC (zE (zO ?_))))
  exact Af tH rfl (.tmp rfl) () (by simp_all [btw]<;>intros<;>omega) trivial fun W _=>Ae.nil _ _
def rgd (s:Sd):Bool:=(if s.gable then s.rise==0&&s.run==0 else btw s.rise 1 48&&btw s.run 1 48)&&(btw s.x 0 65536&&btw s.y 0 65536&&btw s.plate 0 65536&&btw s.over 0 65536)
def num (s:Sd):Nat→Int
 |0=>s.x
 |1=>s.y
 |2=>s.plate
 |_=>s.over
theorem Ny (s:Sd):AX Tryz.prog 91 [s.val] (.bool (rgd s)):=by
 intro W
 refine Ad Tryz.func91 rfl rfl rfl ?_
 (refine A7 ?_;refine D4 ?_)
 refine A8 rfl rfl rfl rfl ?_
 intro
 refine wP rfl (Aa (AC ?_))
 rename_i b1
 refine Gp (X:=Unit) (fun _=>[(1, .pointer (some ⟨b1,0,none⟩))]) (fun _=>[⟨b1,42,s.cells,true,none⟩]) (fun _=>(if s.gable then s.rise==0&&s.run==0 else btw s.rise 1 48&&btw s.run 1 48)=true) ?_ ?_
 ·(refine A7 ?_;refine D4 ?_)
  refine wP rfl (wB 0 rfl rfl rfl (Aa (AC ?_)))
  refine Ak rfl (fun hg=> ?_) (fun hg=> ?_)
  ·(refine A7 ?_;refine D4 ?_)
   refine wP rfl (wB 0 rfl rfl rfl (wP rfl (wP rfl ?_)))
   refine AM 10 rfl (fun h10=> ?_) (fun h10=> ?_)
   ·refine Ah rfl rfl ?_
    iterate 2 refine Ah rfl rfl ?_
    refine wP rfl (zC (zE (zR rfl (zA (zB (wP rfl (zC (zE (zO (zP ?_))))))))))
    exact Af tH rfl (.tmp rfl) () (by simp_all [rgd]) trivial fun W _=>Ae.nil _ _
   ·refine wP rfl (wB 0 rfl rfl rfl (wP rfl (wP rfl (Aa (AC ?_)))))
    refine Ak rfl (fun h14=> ?_) (fun h14=> ?_)
    ·refine zA (zB (wP rfl (zC (zE (zO (zP ?_))))))
     exact Af tH rfl (.tmp rfl) () (by simp_all [rgd]) trivial fun W _=>Ae.nil _ _
    ·refine zI ?_
     exact At () (by simp_all) ⟨rfl,trivial⟩ [] rfl
  ·(refine A7 ?_;refine D4 ?_)
   refine wP rfl (wB 0 rfl rfl rfl ?_)
   refine Ac rfl rfl rfl rfl rfl rfl (by kernel_rfl) (fun W _=>F9 _ _ _ W) ?_
   refine wP rfl (wP rfl ?_)
   refine AM 19 rfl (fun h19=> ?_) (fun h19=> ?_)
   ·refine Ah rfl rfl ?_
    iterate 3 refine Ah rfl rfl ?_
    refine wP rfl (zC (zE (zR rfl (zA (zB (wP rfl (zC (zE (zO (zP ?_))))))))))
    exact Af tH rfl (.tmp rfl) () (by simp_all [rgd]) trivial fun W _=>Ae.nil _ _
   ·refine wP rfl (wB 0 rfl rfl rfl ?_)
    refine Ac rfl rfl rfl rfl rfl rfl (by kernel_rfl) (fun W _=>F9 _ _ _ W) ?_
    refine wP rfl (wP rfl (Aa (AC ?_)))
    refine Ak rfl (fun h14=> ?_) (fun h14=> ?_)
    ·refine zA (zB (wP rfl (zC (zE (zO (zP ?_))))))
     exact Af tH rfl (.tmp rfl) () (by simp_all [rgd]) trivial fun W _=>Ae.nil _ _
    ·refine zI ?_
     exact At () (by simp_all) ⟨rfl,trivial⟩ [] rfl
 ·intro _ hg
  refine zA (zA (zB (wP rfl (wB 0 rfl rfl rfl (wP rfl (wB 0 rfl rfl rfl (wP rfl (wB 0 rfl rfl rfl (wP rfl (wB 0 rfl rfl rfl ?_))))))))))
  refine JJ (.int .i64 0) tH rfl rfl rfl rfl rfl (fun W=>by kernel_rfl) rfl rfl (by rfl) (by rfl) rfl fun b33=> ?_
  refine wP rfl (wP rfl (zC (zE (zH ?_))))
  refine Av (X:=Nat) (fun k=>[(33, .slice (some ⟨b33,0,none⟩) 4 4),(34, .int .i64 4),(35, .int .i64 (k:Nat))]) (fun _=>[⟨b1,42,s.cells,true,none⟩,⟨b33,3,[.int .i64 s.x, .int .i64 s.y, .int .i64 s.plate, .int .i64 s.over],true,none⟩])
   (fun k=>k≤4∧ ∀i,i<k→btw (num s i) 0 65536=true) (fun k=>4-k) 0 ⟨by omega,fun i hi=>by omega⟩ ⟨rfl,rfl,rfl,trivial⟩ [] rfl ?_
  rintro k ⟨hk,hin⟩
  (refine A7 ?_;refine D4 ?_)
  refine wP rfl (Aa (AC ?_))
  refine Gp (X:=Unit) (fun _=>[(33, .slice (some ⟨b33,0,none⟩) 4 4),(34, .int .i64 4),(35, .int .i64 (k:Nat))]) (fun _=>[⟨b1,42,s.cells,true,none⟩,⟨b33,3,[.int .i64 s.x, .int .i64 s.y, .int .i64 s.plate, .int .i64 s.over],true,none⟩]) (fun _=>k<4) ?_ ?_
  ·skip
   refine Ak rfl (fun h=> ?_) (fun h=> ?_)
   ·refine zI ?_
    exact At () (by simp at h;omega) ⟨rfl,rfl,rfl,trivial⟩ [] rfl
   ·refine zJ (zK (zK (zL (zE (zA (zB (wP rfl (zC (zE (zO ?_))))))))))
    have:k=4:=by simp at h;omega
    subst this
    exact Af tH rfl (.tmp rfl) () (by have h0:=hin 0 (by omega);have h1:=hin 1 (by omega);have h2:=hin 2 (by omega);have h3:=hin 3 (by omega);simp only[num] at h0 h1 h2 h3;simp[rgd,h0,h1,h2,h3,hg]) trivial fun W _=>Ae.nil _ _
  ·intro _ hk
   refine zA (zH (zA (zB ?_)))
   refine wJ ?_
   refine Aw (v:= .int .i64 (num s k)) rfl rfl rfl rfl (fun W hp=>K0 (k:=1) tH rfl rfl rfl (by
    match k,hk with
    |0,_=>rfl
    |1,_=>rfl
    |2,_=>rfl
    |3,_=>rfl) W hp) ?_
   refine wP rfl (zC (zE (zA (zB (wP rfl ?_)))))
   refine Ac rfl rfl rfl rfl rfl rfl (by kernel_rfl) (fun W _=>F9 _ _ _ W) ?_
   refine wP rfl (Aa (AC ?_))
   refine Ak rfl (fun h=> ?_) (fun h=> ?_)
   ·refine zA (zB (wP rfl (zC (zE (zO (zQ (zP (zP (zQ (zP ?_))))))))))
    have h:btw (num s k) 0 65536=false:=by simpa using h
    have hr:rgd s=false:=by
     match k,hk with
     |0,_=>simp only[num] at h;simp[rgd,h]
     |1,_=>simp only[num] at h;simp[rgd,h]
     |2,_=>simp only[num] at h;simp[rgd,h]
     |3,_=>simp only[num] at h;simp[rgd,h]
    exact Af tH rfl (.tmp rfl) () (by rw[hr]) trivial fun W _=>Ae.nil _ _
   ·refine zI (zN (zE (zB (wP rfl (wP rfl (zC ?_))))))
    refine As (k+1) ⟨hk,fun i hi=> ?_⟩ (by omega) ⟨rfl,rfl,congrArg (fun z=>some (Value.int .i64 z)) (AI (x:=(k:Int)+1) (by omega) (by omega)),trivial⟩ [] rfl
    by_cases e:i=k
    ·subst e;simpa using h
    ·exact hin i (by omega)
end
section
open Go Go.RowKit Go.Am
set_option maxRecDepth 10000
-- BOXES 2
-- USES Ny
def Iv {α:Type} (f:α→Bool):List α→Nat→Int
 |[],_=> -1
 |x::l,k=>if f x=true then(k:Int) else Iv f l (k+1)
theorem Mi {α:Type} (f:α→Bool): ∀(l:List α) (k:Nat),decide (Iv f l k≥0)=l.any f
 |[],k=>by simp[Iv]
 |x::l,k=>by
  unfold Iv
  by_cases h:f x=true
  ·rw[if_pos h,List.any_cons,h,Bool.true_or,decide_eq_true_iff];omega
  ·rw[if_neg h,Mi f l (k+1),List.any_cons]
   simp[h]
theorem Ms (g:Nat) (hE:Bq Tryz.prog g=true) (f:Sd→Bool) (hf: ∀s,AX Tryz.prog g [s.val] (.bool (f s))) (W:World) (p:Option Addr) (cap:Nat) (l:List Sd) (hn:l.length<4611686018427387904) (hR:BT W p l):
  Aj Tryz.prog 109 #[slv p l.length cap, .func (.func g) #[] #[]] W (fun _:Unit=> .int .i64 (Iv f l 0)) (fun _=>True) (fun _=>[]):=by
 refine Ad (args:=[slv p l.length cap, .func (.func g) #[] #[]]) Tryz.func109 rfl rfl rfl ?_
 refine zA (zB (wP rfl (Aa (zE (zA (zA (zB (wP rfl (wP rfl (wP rfl (Aa (zE (zH ?_)))))))))))))
 refine Av (X:=Nat) (fun k=>[(0,slv p l.length cap),(1, .func (.func g) #[] #[]),(7, .int .i64 (l.length:Nat)),(8, .int .i64 (k:Nat))]) (fun _=>[])
  (fun k=>k≤l.length∧Iv f l 0=Iv f (l.drop k) k) (fun k=>l.length-k) 0 ⟨Nat.zero_le _,rfl⟩ ⟨rfl,rfl,rfl,rfl,trivial⟩ [] rfl ?_
 rintro k ⟨hk,hi⟩
 refine zA (zB (wP rfl (Aa (zE (zA ?_)))))
 refine Ak rfl (fun h=> ?_) (fun h=> ?_)
 rotate_left
 ·refine zJ (zK (zK (zL (zE (zA (zB (wP rfl (Aa (zE (zO ?_))))))))))
  have e:k=l.length:=by simp at h;omega
  rw[e,List.drop_length] at hi
  exact Af tH rfl (.tmp rfl) () (by rw[hi];rfl) trivial fun W _=>Ae.nil _ _
 ·have hk:k<l.length:=by simp at h;omega
  clear h
  obtain⟨b,off,rfl,hrow⟩:=hR.row hk
  refine zI (zE (zA (zH (zA (zB (wP rfl (wP rfl (Aa (zE (zA (zB (wP rfl (wP rfl (wP rfl ?_))))))))))))))
  refine wJ ?_
  refine Aw rfl rfl rfl rfl (fun W hp=>Ag.load 0 tH rfl ((fun W hp=>(hrow k hk).hp hp) W hp) rfl) ?_
  refine Ac (g:=g) (v:= .bool (f (sd l k))) rfl rfl rfl rfl rfl rfl hE (fun W _=>hf (sd l k) W) ?_
  have hd:l.drop k=sd l k::l.drop (k+1):=by
   rw[List.drop_eq_getElem_cons hk];simp[sd,hk]
  have hstep:Iv f (l.drop k) k=if f (sd l k)=true then(k:Int) else Iv f (l.drop (k+1)) (k+1):=by rw[hd];rfl
  rw[hstep] at hi
  refine zC (zE ?_)
  refine Ak rfl (fun h=> ?_) (fun h=> ?_)
  ·refine zA (zB (wP rfl (wP rfl (Aa (zE (zO (zQ (zP (zP (zQ (zP ?_)))))))))))
   rw[if_pos h] at hi
   exact Af tH rfl (.tmp rfl) () (by rw[hi]) trivial fun W _=>Ae.nil _ _
  ·refine zI (zN (zE (zB (wP rfl (wP rfl (Aa ?_))))))
   rw[if_neg (by rw[h];decide)] at hi
   exact As (k+1) ⟨hk,hi⟩ (by omega) ⟨rfl,rfl,rfl,congrArg (fun z=>some (Value.int .i64 z)) (AI (x:=(k:Int)+1) (by omega) (by omega)),trivial⟩ [] rfl
theorem Jz (g:Nat) (hE:Bq Tryz.prog g=true) (f:Sd→Bool) (hf: ∀s,AX Tryz.prog g [s.val] (.bool (f s))) (W:World) (p:Option Addr) (cap:Nat) (l:List Sd) (hn:l.length<4611686018427387904) (hR:BT W p l):
  Aj Tryz.prog 89 #[slv p l.length cap, .func (.func g) #[] #[]] W (fun _:Unit=> .bool (l.any f)) (fun _=>True) (fun _=>[]):=by
 refine Ad (args:=[slv p l.length cap, .func (.func g) #[] #[]]) Tryz.func89 rfl rfl rfl ?_
 refine zA (zB (wP rfl (zC (zE (zA (zB (wP rfl (wP rfl ?_))))))))
 refine Ac rfl rfl rfl rfl rfl rfl (by kernel_rfl) (fun W hp=>Ms g hE f hf W p cap l hn (hR.hp hp)) ?_
 refine wP rfl (wP rfl (zC (zE (zO ?_))))
 exact Af tH rfl (.tmp rfl) () (by rw[Mi]) trivial fun W _=>Ae.nil _ _
theorem My (g:Nat) (hE:Bq Tryz.prog g=true) (f:List Sd→Bool) (hf: ∀W p cap l,l.length<4611686018427387904→BT W p l→Aj Tryz.prog g #[slv p l.length cap] W (fun _:Unit=> .bool (f l)) (fun _=>True) (fun _=>[])) (W:World) (p:Option Addr) (cap:Nat) (rs:List (List Sd)) (hn:rs.length<4611686018427387904) (hl: ∀l∈rs,l.length<4611686018427387904) (hR:Bz W p rs):
  Aj Tryz.prog 167 #[slv p rs.length cap, .func (.func g) #[] #[]] W (fun _:Unit=> .int .i64 (Iv f rs 0)) (fun _=>True) (fun _=>[]):=by
 refine Ad (args:=[slv p rs.length cap, .func (.func g) #[] #[]]) Tryz.func167 rfl rfl rfl ?_
 refine zA (zB (wP rfl (Aa (zE (zA (zA (zB (wP rfl (wP rfl (wP rfl (Aa (zE (zH ?_)))))))))))))
 refine Av (X:=Nat) (fun k=>[(0,slv p rs.length cap),(1, .func (.func g) #[] #[]),(7, .int .i64 (rs.length:Nat)),(8, .int .i64 (k:Nat))]) (fun _=>[])
  (fun k=>k≤rs.length∧Iv f rs 0=Iv f (rs.drop k) k) (fun k=>rs.length-k) 0 ⟨Nat.zero_le _,rfl⟩ ⟨rfl,rfl,rfl,rfl,trivial⟩ [] rfl ?_
 rintro k ⟨hk,hi⟩
 refine zA (zB (wP rfl (Aa (zE (zA ?_)))))
 refine Ak rfl (fun h=> ?_) (fun h=> ?_)
 rotate_left
 ·refine zJ (zK (zK (zL (zE (zA (zB (wP rfl (Aa (zE (zO ?_))))))))))
  have e:k=rs.length:=by simp at h;omega
  rw[e,List.drop_length] at hi
  exact Af tH rfl (.tmp rfl) () (by rw[hi];rfl) trivial fun W _=>Ae.nil _ _
 ·have hk:k<rs.length:=by simp at h;omega
  clear h
  obtain⟨b,off,rfl,hrow⟩:=hR.row hk
  obtain⟨q,cap2,hq1,hq2⟩:=hrow k hk
  refine zI (zE (zA (zH (zA (zB (wP rfl (wP rfl (Aa (zE (zA (zB (wP rfl (wP rfl (wP rfl ?_))))))))))))))
  refine wJ ?_
  refine Aw rfl rfl rfl rfl (fun W hp=>Ag.load 0 tH rfl ((fun W hp=>hq1.hp hp) W hp) rfl) ?_
  refine Ac (g:=g) (v:= .bool (f (rg rs k))) rfl rfl rfl rfl rfl rfl hE (fun W hp=>hf W q cap2 (rg rs k) (hl _ (List.mem_of_getElem? (Bf hk))) (hq2.hp hp)) ?_
  have hd:rs.drop k=rg rs k::rs.drop (k+1):=by
   rw[List.drop_eq_getElem_cons hk];simp[rg,hk]
  have hstep:Iv f (rs.drop k) k=if f (rg rs k)=true then(k:Int) else Iv f (rs.drop (k+1)) (k+1):=by rw[hd];rfl
  rw[hstep] at hi
  refine zC (zE ?_)
  refine Ak rfl (fun h=> ?_) (fun h=> ?_)
  ·refine zA (zB (wP rfl (wP rfl (Aa (zE (zO (zQ (zP (zP (zQ (zP ?_)))))))))))
   rw[if_pos h] at hi
   exact Af tH rfl (.tmp rfl) () (by rw[hi]) trivial fun W _=>Ae.nil _ _
  ·refine zI (zN (zE (zB (wP rfl (wP rfl (Aa ?_))))))
   rw[if_neg (by rw[h];decide)] at hi
   exact As (k+1) ⟨hk,hi⟩ (by omega) ⟨rfl,rfl,rfl,congrArg (fun z=>some (Value.int .i64 z)) (AI (x:=(k:Int)+1) (by omega) (by omega)),trivial⟩ [] rfl
theorem Jk (g:Nat) (hE:Bq Tryz.prog g=true) (f:List Sd→Bool) (hf: ∀W p cap l,l.length<4611686018427387904→BT W p l→Aj Tryz.prog g #[slv p l.length cap] W (fun _:Unit=> .bool (f l)) (fun _=>True) (fun _=>[])) (W:World) (p:Option Addr) (cap:Nat) (rs:List (List Sd)) (hn:rs.length<4611686018427387904) (hl: ∀l∈rs,l.length<4611686018427387904) (hR:Bz W p rs):
  Aj Tryz.prog 92 #[slv p rs.length cap, .func (.func g) #[] #[]] W (fun _:Unit=> .bool (rs.any f)) (fun _=>True) (fun _=>[]):=by
 refine Ad (args:=[slv p rs.length cap, .func (.func g) #[] #[]]) Tryz.func92 rfl rfl rfl ?_
 refine zA (zB (wP rfl (zC (zE (zA (zB (wP rfl (wP rfl ?_))))))))
 refine Ac rfl rfl rfl rfl rfl rfl (by kernel_rfl) (fun W hp=>My g hE f hf W p cap rs hn hl (hR.below (Nat.le_refl _) hp.below)) ?_
 refine wP rfl (wP rfl (zC (zE (zO ?_))))
 exact Af tH rfl (.tmp rfl) () (by rw[Mi]) trivial fun W _=>Ae.nil _ _
theorem NJ (s:Sd):AX Tryz.prog 90 [s.val] (.bool (!rgd s)):=by
 intro W
 refine Ad Tryz.func90 rfl rfl rfl ?_
 refine zA (zB ?_)
 refine A8 rfl rfl rfl rfl ?_
 intro
 refine wP rfl (zC (zE (zA (zB (wB 0 rfl rfl rfl ?_)))))
 refine Ac rfl rfl rfl rfl rfl rfl (by kernel_rfl) (fun W _=>(Ny ..)) ?_
 refine wP rfl (wP rfl (zC (zE (zO ?_))))
 exact Af tH rfl (.tmp rfl) () rfl trivial fun W _=>Ae.nil _ _
theorem Ok (W:World) (p:Option Addr) (cap:Nat) (l:List Sd) (hn:l.length<4611686018427387904) (hR:BT W p l):
  Aj Tryz.prog 93 #[slv p l.length cap] W (fun _:Unit=> .bool (!shp l)) (fun _=>True) (fun _=>[]):=by
 refine Ad (args:=[slv p l.length cap]) Tryz.func93 rfl rfl rfl ?_
 refine zA (zB (wP rfl (zC (zE (zA (zB (wP rfl ?_)))))))
 refine Ac rfl rfl rfl rfl rfl rfl (by kernel_rfl) (fun W hp=>O8 W p cap l hn (hR.hp hp)) ?_
 refine wP rfl (wP rfl (zC (zE (zO ?_))))
 exact Af tH rfl (.tmp rfl) () rfl trivial fun W _=>Ae.nil _ _
end
section
-- OLD
open Go Go.RowKit Go.Am
set_option maxRecDepth 10000
-- BOXES 8
-- EQB 4
def HJ (t u:Sd) (px py:Int):Bool:=(w64 (u.x-t.x)==0)&&decide (t.x>px)&& !(decide (t.y>py)==decide (u.y>py))
def D1 (l:List Sd) (px py:Int):Nat→Bool
 |0=>false
 |k+1=>if HJ (sd l k) (sd l (nxt l.length k)) px py=true then !D1 l px py k else D1 l px py k
theorem OA (W:World) (p:Option Addr) (cap:Nat) (l:List Sd) (px py:Int) (hn:l.length<4611686018427387904) (hR:BT W p l):
  Aj Tryz.prog 174 #[slv p l.length cap,spot px py] W (fun _:Unit=> .bool (D1 l px py l.length)) (fun _=>True) (fun _=>[]):=by
 refine Ad (args:=[slv p l.length cap,spot px py]) Tryz.func174 rfl rfl rfl ?_
 refine zA (zB ?_)
 refine A8 rfl rfl rfl rfl ?_
 intro
 refine wP rfl (zC (zE (zA (zB ?_))))
 rename_i b3
 refine Bi (z:= .bool false) rfl rfl rfl (fun W=>by kernel_rfl) fun b5=> ?_
 refine wS 1 rfl rfl rfl (zC (zE (zA (zA (zB (wP rfl ?_))))))
 refine Au (X:=Nat) rfl rfl rfl rfl rfl rfl (by kernel_rfl) (fun W _=>Ep p l.length cap W) ?_
 intro b _
 refine zC (zE (zH ?_))
 refine DR (X:=Bool×Nat) (fun x=>[⟨b3,147,(spot px py).cells.toList,true,none⟩,⟨b5,4,[.bool x.1],true,none⟩,⟨b,32,[slv p l.length cap],true,none⟩]) (fun k x=>x.2=k∧x.1=D1 l px py k) (fun _ _=>False) (false,0) rfl (by kernel_rfl) (EQ b p cap l hn) (fun _=>rfl) ⟨rfl,rfl⟩ [] rfl (fun k x W _ hp=>D5.mk' hR hp 2 rfl) ?_ ?_ (fun _ _ _ _ _ h=>h.elim)
 ·rintro j ⟨i,k⟩ d L rec hk ⟨hj,hi⟩ hrec
  obtain rfl:k=j:=hj
  obtain rfl:i=D1 l px py k:=hi
  refine zB ?_
  refine Bi (z:=GD default default default) rfl rfl rfl (fun W=>by kernel_rfl) fun b7=> ?_
  refine wS 5 rfl rfl rfl (zC ?_)
  refine Ct 4 hrec rfl ?_
  refine zH (zA (zB (wP rfl (wB 5 rfl rfl rfl ?_))))
  refine Ac rfl rfl rfl rfl rfl rfl (by kernel_rfl) (fun W _=>B6 (sd l k) W) ?_
  refine Bi (z:=spot 0 0) rfl rfl rfl (fun W=>by kernel_rfl) fun b8=> ?_
  refine wS 6 rfl rfl rfl (zC (zE (zA (zB (wB 5 rfl rfl rfl ?_)))))
  refine Ac rfl rfl rfl rfl rfl rfl (by kernel_rfl) (fun W _=>Jf (sd l (prv l.length k)) (sd l k) (sd l (nxt l.length k)) W) ?_
  refine wP rfl (wP rfl (wP rfl ?_))
  have no:HJ (sd l k) (sd l (nxt l.length k)) px py=false→D1 l px py (k+1)=D1 l px py k:=fun h=>by simp[D1,h]
  have yes:HJ (sd l k) (sd l (nxt l.length k)) px py=true→D1 l px py (k+1)= !D1 l px py k:=fun h=>by simp[D1,h]
  refine AM 20 rfl (fun h20=> ?_) (fun h20=> ?_)
  ·refine wP rfl (wB 6 rfl rfl rfl (wP rfl (wB 0 rfl rfl rfl (wP rfl (wP rfl (wP rfl ?_))))))
   refine AM 27 rfl (fun h27=> ?_) (fun h27=> ?_)
   ·refine wP rfl (wB 6 rfl rfl rfl (wP rfl (wB 0 rfl rfl rfl (wP rfl (wP rfl (wP rfl (wB 5 rfl rfl rfl (wP rfl (wB 0 rfl rfl rfl (wP rfl ?_))))))))))
    refine DZ Tryz.underlying4 rfl rfl rfl rfl rfl rfl ?_
    refine wP rfl (Aa (AC ?_))
    refine Ak rfl (fun h=> ?_) (fun h=> ?_)
    ·refine zB (wB 1 rfl rfl rfl (wP rfl (wS 1 rfl rfl rfl (zC (zN ?_)))))
     exact Bw 4 (!D1 l px py k,k+1) hrec rfl ⟨rfl,(yes (by simp_all [HJ])).symm⟩ [_,_] rfl
    ·refine zI (zN ?_)
     exact Bw 4 (D1 l px py k,k+1) hrec rfl ⟨rfl,(no (by simp_all [HJ])).symm⟩ [_,_] rfl
   ·refine Ah rfl rfl ?_
    iterate 11 refine Ah rfl rfl ?_
    refine wP rfl (zC (zE (zS rfl (zI (zN ?_)))))
    exact Bw 4 (D1 l px py k,k+1) hrec rfl ⟨rfl,(no (by simp_all [HJ]<;>(intros;omega))).symm⟩ [_,_] rfl
  ·refine Ah rfl rfl ?_
   iterate 4 refine Ah rfl rfl ?_
   refine wP rfl (wP rfl ?_)
   iterate 12 refine Ah rfl rfl ?_
   refine wP rfl (zC (zE (zS rfl (zI (zN ?_)))))
   exact Bw 4 (D1 l px py k,k+1) hrec rfl ⟨rfl,(no (by simp_all [HJ])).symm⟩ [_,_] rfl
 ·rintro⟨i,j⟩ d L rec ⟨hj,hi⟩
  obtain rfl:j=l.length:=hj
  obtain rfl:i=D1 l px py l.length:=hi
  refine zN (zE (zA (zB (wB 1 rfl rfl rfl (wP rfl (zC (zE (zO ?_))))))))
  refine CS 3 rfl ?_
  exact Af tH rfl (.tmp rfl) () rfl trivial fun W _=>Ae.nil _ _
end
section
open Go Go.RowKit Go.Am
set_option maxRecDepth 10000
-- BOXES 2
def Fa (rs:List (List Sd)) (i k:Nat):Bool:=(k==i||i==0)||(D1 (rg rs k) (sd (rg rs i) 0).x (sd (rg rs i) 0).y (rg rs k).length==(k==0))
def CX (rs:List (List Sd)) (i:Nat):Bool:=(decide (C9 (rg rs i) (rg rs i).length>0)==(i==0))&&(List.range rs.length).all (Fa rs i)
def plc (rs:List (List Sd)):Bool:=(List.range rs.length).all (CX rs)
theorem BF {n:Nat} {f:Nat→Bool} {k:Nat} (hk:k<n) (h:f k=false):(List.range n).all f=false:=Bool.eq_false_iff.2 fun h2=>by
 have:=List.all_eq_true.1 h2 k (List.mem_range.2 hk)
 rw[h] at this;cases this
theorem Cq (a b:Nat):((a:Int)==(b:Int))=(a==b):=by
 by_cases h:a=b
 ·subst h;rw[beq_self_eq_true,beq_self_eq_true]
 ·have h1:(a:Int)≠b:=by omega
  rw[beq_eq_false_iff_ne.2 h1,beq_eq_false_iff_ne.2 h]
theorem Oc (W:World) (p:Option Addr) (cap:Nat) (rs:List (List Sd)) (hn:rs.length<4611686018427387904) (hl: ∀l∈rs,l.length<4611686018427387904) (hne: ∀l∈rs,l≠[]) (hR:Bz W p rs):
  Aj Tryz.prog 96 #[slv p rs.length cap] W (fun _:Unit=> .bool (plc rs)) (fun _=>True) (fun _=>[]):=by
 refine Ad (args:=[slv p rs.length cap]) Tryz.func96 rfl rfl rfl ?_
 refine zA (zB (wP rfl (Aa (zE (zA (zA (zB (wP rfl (wP rfl (wP rfl (Aa (zE (zH ?_)))))))))))))
 refine Av (X:=Nat) (fun i=>[(0,slv p rs.length cap),(7,slv p rs.length cap),(8, .int .i64 (rs.length:Nat)),(9, .int .i64 (i:Nat))]) (fun _=>[])
  (fun i=>i≤rs.length∧ ∀j,j<i→CX rs j=true) (fun i=>rs.length-i) 0 ⟨Nat.zero_le _,fun j hj=>absurd hj (Nat.not_lt_zero _)⟩ ⟨rfl,rfl,rfl,rfl,trivial⟩ [] rfl ?_
 rintro i ⟨hi,hok⟩
 refine zA (zB (wP rfl (Aa (zE (zA ?_)))))
 refine Ak rfl (fun h=> ?_) (fun h=> ?_)
 rotate_left
 ·have e:i=rs.length:=by simp at h;omega
  subst e
  refine zJ (zK (zK (zL (zE (zA (zB (wP rfl (Aa (zE (zO ?_))))))))))
  have:plc rs=true:=List.all_eq_true.2 fun j hj=>hok j (List.mem_range.1 hj)
  exact Af tH rfl (.tmp rfl) () (by rw[this]) trivial fun W _=>Ae.nil _ _
 have hi:i<rs.length:=by simp at h;omega
 clear h
 obtain⟨b,off,rfl,hrow⟩:=hR.row hi
 obtain⟨q,cap2,hq1,hq2⟩:=hrow i hi
 have hli:=hl _ (List.mem_of_getElem? (Bf hi))
 have hnei:0<(rg rs i).length:=List.length_pos_iff.2 (hne _ (List.mem_of_getElem? (Bf hi)))
 refine zI (zE (zA (zH (zA (zB (wP rfl ?_))))))
 refine wJ ?_
 refine Aw rfl rfl rfl rfl (fun W hp=>Ag.load 0 tH rfl ((fun W hp=>hq1.hp hp) W hp) rfl) ?_
 refine wP rfl (wP rfl (Aa (zE (zA (zA (zB (wP rfl ?_)))))))
 refine Ac rfl rfl rfl rfl rfl rfl (by kernel_rfl) (fun W hp=>QZ W q cap2 (rg rs i) hli (hq2.hp hp)) ?_
 refine wP rfl (wP rfl (wP rfl ?_))
 refine DZ Tryz.underlying4 rfl rfl rfl rfl rfl rfl ?_
 refine Aa (zE ?_)
 refine Ak rfl (fun h=> ?_) (fun h=> ?_)
 ·refine zA (zB (wP rfl (Aa (zE (zO (zP (zQ (zP (zP (zQ (zP ?_)))))))))))
  have hf:plc rs=false:=BF hi (by
   unfold CX
   rw[show(decide (C9 (rg rs i) (rg rs i).length>0)==(i==0))=false by
    have h':=h
    rw[show((i:Int)==0)=(i==0) from Cq i 0] at h'
    simpa using h']
   rfl)
  exact Af tH rfl (.tmp rfl) () (by rw[hf]) trivial fun W _=>Ae.nil _ _
 have hA:(decide (C9 (rg rs i) (rg rs i).length>0)==(i==0))=true:=by
  have h':=h
  rw[show((i:Int)==0)=(i==0) from Cq i 0] at h'
  simpa using h'
 clear h
 refine zI (zE (zA (zB (wP rfl (wP rfl (wP rfl (Aa (zE (zH ?_)))))))))
 refine Av (X:=Nat) (fun k=>[(0,slv (some ⟨b,off,none⟩) rs.length cap),(7,slv (some ⟨b,off,none⟩) rs.length cap),(8, .int .i64 (rs.length:Nat)),(9, .int .i64 (i:Nat)),(3, .int .i64 (i:Nat)),(4,slv q (rg rs i).length cap2),(20,slv (some ⟨b,off,none⟩) rs.length cap),(21, .int .i64 (rs.length:Nat)),(22, .int .i64 (k:Nat))]) (fun _=>[])
  (fun k=>k≤rs.length∧ ∀j,j<k→Fa rs i j=true) (fun k=>rs.length-k) 0 ⟨Nat.zero_le _,fun j hj=>absurd hj (Nat.not_lt_zero _)⟩ ⟨rfl,rfl,rfl,rfl,rfl,rfl,rfl,rfl,rfl,trivial⟩ [] rfl ?_
 rintro k ⟨hk,hokk⟩
 refine zA (zB (wP rfl (Aa (zE (zA ?_)))))
 refine Ak rfl (fun h=> ?_) (fun h=> ?_)
 rotate_left
 ·have e:k=rs.length:=by simp at h;omega
  subst e
  refine zJ (zK (zK (zL (zN (zE (zB (wP rfl (wP rfl (Aa ?_)))))))))
  refine As (i+1) ⟨hi,fun j hj=> ?_⟩ (by omega) ⟨rfl,rfl,rfl,congrArg (fun z=>some (Value.int .i64 z)) (AI (x:=(i:Int)+1) (by omega) (by omega)),trivial⟩ [] rfl
  by_cases e:j=i
  ·subst e
   unfold CX
   rw[hA,Bool.true_and]
   exact List.all_eq_true.2 fun m hm=>hokk m (List.mem_range.1 hm)
  ·exact hok j (by omega)
 have hk:k<rs.length:=by simp at h;omega
 clear h
 obtain⟨q2,cap3,hq3,hq4⟩:=hrow k hk
 have hlk:=hl _ (List.mem_of_getElem? (Bf hk))
 have next:Fa rs i k=true→ ∀j,j<k+1→Fa rs i j=true:=fun h j hj=>by
  by_cases e:j=k
  ·subst e;exact h
  ·exact hokk j (by omega)
 refine zI (zE (zA (zH (zA (zB (wP rfl ?_))))))
 refine wJ ?_
 refine Aw rfl rfl rfl rfl (fun W hp=>Ag.load 0 tH rfl ((fun W hp=>hq3.hp hp) W hp) rfl) ?_
 refine wP rfl (wP rfl (Aa (zE (A7 ?_))))
 refine Gp (X:=Unit) (fun _=>[(0,slv (some ⟨b,off,none⟩) rs.length cap),(7,slv (some ⟨b,off,none⟩) rs.length cap),(8, .int .i64 (rs.length:Nat)),(9, .int .i64 (i:Nat)),(3, .int .i64 (i:Nat)),(4,slv q (rg rs i).length cap2),(5, .int .i64 (k:Nat)),(6,slv q2 (rg rs k).length cap3),(20,slv (some ⟨b,off,none⟩) rs.length cap),(21, .int .i64 (rs.length:Nat)),(22, .int .i64 (k:Nat)),(33, .bool (k==i||i==0))]) (fun _=>[]) (fun _=>True) ?_ ?_
 ·refine zB (wP rfl (wP rfl (wP rfl (wP rfl ?_))))
  refine AM 30 rfl (fun h30=> ?_) (fun h30=> ?_)
  ·have e:(k==i||i==0)=true:=by
    have:(k==i)=true:=by rw[←Cq];exact h30
    rw[this];rfl
   iterate 2 refine Ah rfl rfl ?_
   refine wP rfl (Aa ?_)
   exact At () trivial ⟨rfl,rfl,rfl,rfl,rfl,rfl,rfl,rfl,rfl,rfl,rfl,by rw[e];rfl,trivial⟩ [] rfl
  ·have e:(k==i||i==0)=((i:Int)==0):=by
    have:(k==i)=false:=by rw[←Cq];exact h30
    rw[this,Bool.false_or];exact(Cq i 0).symm
   refine wP rfl (wP rfl (wP rfl (Aa ?_)))
   exact At () trivial ⟨rfl,rfl,rfl,rfl,rfl,rfl,rfl,rfl,rfl,rfl,rfl,by rw[e];rfl,trivial⟩ [] rfl
 intro _ _
 refine Ak rfl (fun h=> ?_) (fun h=> ?_)
 ·refine zJ (zK (zL (zE (zB (wP rfl (wP rfl (Aa ?_)))))))
  exact As (k+1) ⟨hk,next (by unfold Fa;rw[h];rfl)⟩ (by omega) ⟨rfl,rfl,rfl,rfl,rfl,rfl,rfl,rfl,congrArg (fun z=>some (Value.int .i64 z)) (AI (x:=(k:Int)+1) (by omega) (by omega)),trivial⟩ [] rfl
 obtain⟨b3,off3,rfl,hrow3⟩:=hq2.row hnei
 refine zI (zE (zA (zB (wP rfl (wP rfl ?_)))))
 refine wJ ?_
 refine Aw rfl rfl rfl rfl (fun W hp=>Ag.load 0 tH rfl ((fun W hp=>(hrow3 0 hnei).hp hp) W hp) rfl) ?_
 refine Ac rfl rfl rfl rfl rfl rfl (by kernel_rfl) (fun W _=>(B6 ..)) ?_
 refine Ac rfl rfl rfl rfl rfl rfl (by kernel_rfl) (fun W hp=>OA W q2 cap3 (rg rs k) _ _ hlk (hq4.hp hp)) ?_
 refine wP rfl (wP rfl ?_)
 refine DZ Tryz.underlying4 rfl rfl rfl rfl rfl rfl ?_
 refine Aa (zE ?_)
 refine Ak rfl (fun h2=> ?_) (fun h2=> ?_)
 ·refine zA (zB (wP rfl (Aa (zE (zO (zQ (zP (zP (zQ (zQ (zP (zP (zQ ?_)))))))))))))
  refine zP ?_
  have hf:plc rs=false:=BF hi (by
   unfold CX
   rw[BF hk (by
    unfold Fa
    rw[h,Bool.false_or]
    have h':=h2
    rw[show((k:Int)==0)=(k==0) from Cq k 0] at h'
    simpa using h'),Bool.and_false])
  exact Af tH rfl (.tmp rfl) () (by rw[hf]) trivial fun W _=>Ae.nil _ _
 ·refine zI (zN (zE (zB (wP rfl (wP rfl (Aa ?_))))))
  refine As (k+1) ⟨hk,next ?_⟩ (by omega) ⟨rfl,rfl,rfl,rfl,rfl,rfl,rfl,rfl,congrArg (fun z=>some (Value.int .i64 z)) (AI (x:=(k:Int)+1) (by omega) (by omega)),trivial⟩ [] rfl
  unfold Fa
  rw[h,Bool.false_or]
  have h':=h2
  rw[show((k:Int)==0)=(k==0) from Cq k 0] at h'
  simpa using h'
end
section
-- OLD
open Go Go.RowKit Go.Am
set_option maxRecDepth 10000
-- BOXES 8
-- EQB 4
def GS (s t u:Sd):Bool:=decide (w64 (w64 (w64 (t.x-s.x)*w64 (u.y-t.y))-w64 (w64 (t.y-s.y)*w64 (u.x-t.x)))>0)
def Mk (s t u:Sd):Bool:=GS s t u||(!t.gable&& !s.gable&&(t.plate==s.plate))
def CC (l:List Sd) (k:Nat):Bool:=Mk (sd l (prv l.length k)) (sd l k) (sd l (nxt l.length k))
def Bl (l:List Sd) (b:Bool):Nat→Bool
 |0=>b
 |k+1=>Bl l b k|| !(sd l k).gable
def Ba (rs:List (List Sd)):Nat→Bool
 |0=>false
 |k+1=>Bl (rg rs k) (Ba rs k) (rg rs k).length
def FM (l:List Sd):Bool:=(List.range l.length).all (CC l)
def jnd (rs:List (List Sd)):Bool:=rs.all FM&&Ba rs rs.length
theorem Nw (W:World) (p:Option Addr) (cap:Nat) (rs:List (List Sd)) (hn:rs.length<4611686018427387904) (hl: ∀l∈rs,l.length<4611686018427387904) (hR:Bz W p rs):
  Aj Tryz.prog 97 #[slv p rs.length cap] W (fun _:Unit=> .bool (jnd rs)) (fun _=>True) (fun _=>[]):=by
 refine Ad (args:=[slv p rs.length cap]) Tryz.func97 rfl rfl rfl ?_
 refine zA (zB ?_)
 refine Bi (z:= .bool false) rfl rfl rfl (fun W=>by kernel_rfl) fun b2=> ?_
 refine zC (zE (zA (zB ?_)))
 refine Bi (z:= .bool false) rfl rfl rfl (fun W=>by kernel_rfl) fun b3=> ?_
 refine wS 1 rfl rfl rfl (zC (zE (zA (zA (zB (wP rfl (wP rfl (wP rfl (zC (zE (zH ?_)))))))))))
 refine MZ ?_
 refine KW (X:=Nat×Bool×List Nat) (fun x=>x.2.2.map CQ) (fun x=>[(2, .pointer (some ⟨b2,0,none⟩)),(3, .pointer (some ⟨b3,0,none⟩)),(8,slv p rs.length cap),(9, .int .i64 (rs.length:Nat)),(10, .int .i64 (x.1:Nat))])
  (fun x=>[⟨b2,4,[.bool false],true,none⟩,⟨b3,4,[.bool x.2.1],true,none⟩,bag x.2.2]) (fun x=>x.1≤rs.length∧x.2.1=Ba rs x.1∧ ∀i,i<x.1→FM (rg rs i)=true) (fun x=>rs.length-x.1) (0,false,[])
  ⟨Nat.zero_le _,rfl,fun i hi=>absurd hi (Nat.not_lt_zero _)⟩ rfl ⟨rfl,rfl,rfl,rfl,rfl,trivial⟩ [] rfl ?_
 rintro⟨k,sm,ds⟩ ⟨hk,hsm,hok⟩
 have hk:k≤rs.length:=hk
 obtain rfl:sm=Ba rs k:=hsm
 refine zA (zB (wP rfl (zC (zE (zA ?_)))))
 refine Ak rfl (fun h=> ?_) (fun h=> ?_)
 rotate_left
 ·refine zJ (zK (zK (zL (zE (zA (zB (wB 1 rfl rfl rfl (wS 0 rfl rfl rfl (zC (zE (zO ?_)))))))))))
  refine Ha 2 ds rfl ?_
  have e:k=rs.length:=by simp at h;omega
  subst e
  have hj:jnd rs=Ba rs rs.length:=by
   have:rs.all FM=true:=List.all_eq_true.2 fun l hl=>by
    obtain⟨i,hi,rfl⟩:=List.getElem_of_mem hl
    have:=hok i hi
    rwa [show rg rs i=rs[i] by simp[rg,hi]] at this
   simp[jnd,this]
  exact Af tH rfl (.cell 0 rfl rfl rfl rfl rfl) () (by rw[hj]) trivial fun W _=>Ae.nil _ _
 have hk:k<rs.length:=by simp at h;omega
 obtain⟨b',off,rfl,hrow⟩:=hR.row hk
 obtain⟨q,cap2,hq1,hq2⟩:=hrow k hk
 have hlk:(rg rs k).length<4611686018427387904:=hl _ (List.mem_of_getElem? (Bf hk))
 refine zI (zE (zA (zH (zA (zB ?_)))))
 refine wJ ?_
 refine Aw rfl rfl rfl rfl (fun W hp=>Ag.load 0 tH rfl ((fun W hp=>hq1.hp hp) W hp) rfl) ?_
 refine wP rfl (zC (zE (zA (zB (wP rfl ?_)))))
 refine Au (X:=Nat) rfl rfl rfl rfl rfl rfl (by kernel_rfl) (fun W _=>Ep q (rg rs k).length cap2 W) ?_
 intro b _
 refine zC (zE (zH ?_))
 refine DR (X:=Bool×Nat) (fun x=>[⟨b2,4,[.bool false],true,none⟩,⟨b3,4,[.bool x.1],true,none⟩,bag ds,⟨b,32,[slv q (rg rs k).length cap2],true,none⟩])
  (fun j x=>x.2=j∧x.1=Bl (rg rs k) (Ba rs k) j∧ ∀i,i<j→CC (rg rs k) i=true) (fun c _=>c= .ret∧ ∃j,j<(rg rs k).length∧CC (rg rs k) j=false) (Ba rs k,0) rfl (by kernel_rfl) (EQ b q cap2 (rg rs k) hlk) (fun _=>rfl)
  ⟨rfl,rfl,fun i hi=>absurd hi (Nat.not_lt_zero _)⟩ [] rfl (fun k x W _ hp=>D5.mk' hq2 hp 3 rfl) ?_ ?_ ?_
 ·rintro j' ⟨sm,j⟩ d L rec hj ⟨e1,e2,hin⟩ hrec
  obtain rfl:j=j':=e1
  obtain rfl:sm=Bl (rg rs k) (Ba rs k) j:=e2
  refine zB ?_
  refine Bi (z:=GD default default default) rfl rfl rfl (fun W=>by kernel_rfl) fun b7=> ?_
  refine wS 6 rfl rfl rfl (zC ?_)
  refine Ct 5 hrec rfl ?_
  refine BI ?_
  refine Gp (X:=Unit) (fun _=>[(2, .pointer (some ⟨b2,0,none⟩)),(3, .pointer (some ⟨b3,0,none⟩)),(7, .pointer (some ⟨b7,0,none⟩))])
   (fun _=>[⟨b2,4,[.bool false],true,none⟩,⟨b3,4,[.bool (Bl (rg rs k) (Ba rs k) (j+1))],true,none⟩,bag ds,⟨b,32,[slv q (rg rs k).length cap2],true,none⟩,BO d,Bj L rec .busy none,
    ⟨b7,96,(GD (sd (rg rs k) (prv (rg rs k).length j)) (sd (rg rs k) j) (sd (rg rs k) (nxt (rg rs k).length j))).cells.toList,true,none⟩]) (fun _=>True) ?_ ?_
  ·refine D4 ?_
   refine wB 1 rfl rfl rfl (wP rfl ?_)
   refine AM 19 rfl (fun h19=> ?_) (fun h19=> ?_)
   ·refine Ah rfl rfl ?_
    iterate 3 refine Ah rfl rfl ?_
    refine wP rfl (wS 1 rfl rfl rfl (zC ?_))
    refine At () trivial ⟨rfl,rfl,rfl,trivial⟩ [] ?_
    have h19:Bl (rg rs k) (Ba rs k) j=true:=h19
    have e:Bl (rg rs k) (Ba rs k) (j+1)=true:=by simp[Bl,h19]
    rw[e];rfl
   ·refine wP rfl (wP rfl (wB 6 rfl rfl rfl (wP rfl (wP rfl (wS 1 rfl rfl rfl (zC ?_))))))
    refine At () trivial ⟨rfl,rfl,rfl,trivial⟩ [] ?_
    have h19:Bl (rg rs k) (Ba rs k) j=false:=h19
    have e:Bl (rg rs k) (Ba rs k) (j+1)= !(sd (rg rs k) j).gable:=by simp[Bl,h19]
    rw[e];rfl
  intro _ _
  refine zA (zB (wB 6 rfl rfl rfl ?_))
  refine Ac rfl rfl rfl rfl rfl rfl (by kernel_rfl) (fun W _=>Q9 (sd (rg rs k) (prv (rg rs k).length j)) (sd (rg rs k) j) (sd (rg rs k) (nxt (rg rs k).length j)) W) ?_
  refine wP rfl (wP rfl ?_)
  have good:CC (rg rs k) j=true→ ∀i,i<j+1→CC (rg rs k) i=true:=fun hg i hi=>by
   by_cases e:i=j
   ·subst e;exact hg
   ·exact hin i (by show i<j;omega)
  refine AM 28 rfl (fun h28=> ?_) (fun h28=> ?_)
  ·refine wP rfl (wP rfl (wB 6 rfl rfl rfl (wP rfl ?_)))
   refine AM 32 rfl (fun h32=> ?_) (fun h32=> ?_)
   ·refine Ah rfl rfl ?_
    iterate 2 refine Ah rfl rfl ?_
    refine wP rfl (wP rfl ?_)
    iterate 7 refine Ah rfl rfl ?_
    refine wP rfl (wP rfl (zC (zE (zR rfl (zA (zB (wS 0 rfl rfl rfl (zC (zE (zO (zQ ?_)))))))))))
    exact Db 5 (Bl (rg rs k) (Ba rs k) (j+1),j+1) hrec rfl ⟨rfl,j,hj,by simp_all [CC,Mk,GS]⟩ [_] rfl
   ·refine wP rfl (wP rfl (wB 6 rfl rfl rfl (wP rfl (wP rfl ?_))))
    refine AM 37 rfl (fun h37=> ?_) (fun h37=> ?_)
    ·refine Ah rfl rfl ?_
     iterate 6 refine Ah rfl rfl ?_
     refine wP rfl (wP rfl (zC (zE (zR rfl (zA (zB (wS 0 rfl rfl rfl (zC (zE (zO (zQ ?_)))))))))))
     exact Db 5 (Bl (rg rs k) (Ba rs k) (j+1),j+1) hrec rfl ⟨rfl,j,hj,by simp_all [CC,Mk,GS]⟩ [_] rfl
    ·refine wP rfl (wP rfl (wB 6 rfl rfl rfl (wP rfl (wP rfl (wB 6 rfl rfl rfl (wP rfl (wP rfl (wP rfl (Aa (AC ?_))))))))))
     refine Ak rfl (fun h=> ?_) (fun h=> ?_)
     ·refine zA (zB (wS 0 rfl rfl rfl (zC (zE (zO (zQ ?_))))))
      exact Db 5 (Bl (rg rs k) (Ba rs k) (j+1),j+1) hrec rfl ⟨rfl,j,hj,by simp_all [CC,Mk,GS]⟩ [_] rfl
     ·refine zI (zN ?_)
      exact Bw 5 (Bl (rg rs k) (Ba rs k) (j+1),j+1) hrec rfl ⟨rfl,rfl,good (by simp_all [CC,Mk,GS])⟩ [_] rfl
  ·refine Ah rfl rfl ?_
   iterate 16 refine Ah rfl rfl ?_
   refine wP rfl (zC (zE (zS rfl (zI (zN ?_)))))
   exact Bw 5 (Bl (rg rs k) (Ba rs k) (j+1),j+1) hrec rfl ⟨rfl,rfl,good (by simp_all [CC,Mk,GS])⟩ [_] rfl
 ·rintro⟨sm,j⟩ d L rec ⟨e1,e2,hin⟩
  obtain rfl:j=(rg rs k).length:=e1
  obtain rfl:sm=Bl (rg rs k) (Ba rs k) (rg rs k).length:=e2
  refine zN (zN (zE (zB (wP rfl (wP rfl (zC ?_))))))
  refine QV 2 4 rfl rfl ?_
  refine I1 (X:=Nat×Bool×List Nat) (k+1,Bl (rg rs k) (Ba rs k) (rg rs k).length,d::ds) ?_ ?_ rfl ?_ [0,1,2] (by decide) rfl
  rotate_left
  ·show rs.length-(k+1)<rs.length-k;omega
  ·exact⟨rfl,rfl,rfl,rfl,congrArg (fun z=>some (Value.int .i64 z)) (AI (x:=(k:Int)+1) (by omega) (by omega)),trivial⟩
  refine⟨hk,rfl,fun i hi=> ?_⟩
  by_cases e:i=k
  ·subst e
   exact List.all_eq_true.2 fun x hx=>hin x (List.mem_range.1 hx)
  ·exact hok i (by show i<k;have:i<k+1:=hi;omega)
 ·rintro⟨sm,j'⟩ d L rec c ⟨rfl,j,hj,hf⟩
  refine zO (zQ (zQ (zP (zP (zQ (zP ?_))))))
  refine QV 2 4 rfl rfl ?_
  refine Ha 2 (d::ds) rfl ?_
  have hj:jnd rs=false:=by
   have h1:FM (rg rs k)=false:=Bool.eq_false_iff.2 fun h2=>by
    have:=List.all_eq_true.1 h2 j (List.mem_range.2 hj)
    rw[hf] at this;cases this
   have:rs.all FM=false:=Bool.eq_false_iff.2 fun h2=>by
    have:=List.all_eq_true.1 h2 _ (List.mem_of_getElem? (Bf hk))
    rw[h1] at this;cases this
   simp[jnd,this]
  exact Af tH rfl (.cell 0 rfl rfl rfl rfl rfl) () (by rw[hj]) trivial fun W _=>Ae.nil _ _
end
section
open Go Go.RowKit Go.Am
set_option maxRecDepth 10000
-- BOXES 3
abbrev B5 (p:Option Addr) (n cap:Nat):Value:= .agg #[slv p n cap]
def chk (rs:List (List Sd)):Int:=
 if rs.any (fun l=>l.length==0)=true then 5
 else if tot rs=0 then 5
 else if tot rs>24 then 4
 else if rs.flatten.any (fun s=> !rgd s)=true then 2
 else if rs.any (fun l=> !shp l)=true then 14
 else if crs rs=true then 15
 else if (!plc rs|| !jnd rs)=true then 14
 else 0
theorem Gk {rs:List (List Sd)} {l:List Sd} (h:l∈rs):l.length≤tot rs:=by
 unfold tot
 induction rs with
 |nil=>cases h
 |cons x rs ih=>
  rw[List.map_cons,List.sum_cons]
  rcases List.mem_cons.1 h with rfl|h
  ·omega
  ·have:=ih h;omega
theorem GM (W:World) (p:Option Addr) (cap:Nat) (rs:List (List Sd)) (hn:rs.length<4611686018427387904) (hT:tot rs<1099511627776) (hR:Bz W p rs):
  Aj Tryz.prog 40 #[B5 p rs.length cap] W (fun _:Unit=> .int .i64 (chk rs)) (fun _=>True) (fun _=>[]):=by
 have hl: ∀l∈rs,l.length<4611686018427387904:=fun l h=>by have:=Gk h;omega
 refine Ad (args:=[B5 p rs.length cap]) Tryz.func40 rfl rfl rfl ?_
 refine zA (zB ?_)
 (refine A8 rfl rfl rfl rfl ?_;intro)
 refine wP rfl (Aa ?_)
 rename_i b1
 refine zE (zA (zB (wP rfl (Aa (zE (zA (zA (zB (wP rfl (wB 0 rfl rfl rfl (wP rfl (wP rfl (Aa ?_)))))))))))))
 refine zE (zH ?_)
 refine Av (X:=Nat) (fun k=>[(1, .pointer (some ⟨b1,0,none⟩)),(3, .int .i64 (tot (rs.take k):Nat)),(7,slv p rs.length cap),(8, .int .i64 (rs.length:Nat)),(9, .int .i64 (k:Nat))]) (fun _=>[⟨b1,24,[slv p rs.length cap],true,none⟩])
  (fun k=>k≤rs.length∧ ∀j,j<k→(rg rs j).length≠0) (fun k=>rs.length-k) 0 ⟨Nat.zero_le _,fun j hj=>absurd hj (Nat.not_lt_zero _)⟩ ⟨rfl,rfl,rfl,rfl,rfl,trivial⟩ [] rfl ?_
 rintro k ⟨hk,hok⟩
 refine zA (zB (wP rfl (Aa (zE (zA ?_)))))
 refine Ak rfl (fun h=> ?_) (fun h=> ?_)
 ·have hk:k<rs.length:=by simp at h;omega
  clear h
  obtain⟨b,off,rfl,hrow⟩:=hR.row hk
  obtain⟨q,cap2,hq1,hq2⟩:=hrow k hk
  refine zI (zE (zA (zH (zA (zB ?_)))))
  refine wJ ?_
  refine Aw rfl rfl rfl rfl (fun W hp=>Ag.load 0 tH rfl ((fun W hp=>hq1.hp hp) W hp) rfl) ?_
  refine wP rfl (Aa (zE (zA (zA (zB (wP rfl (wP rfl (wP rfl (Aa (zE ?_))))))))))
  refine Ak rfl (fun h=> ?_) (fun h=> ?_)
  ·refine zA (zB (wP rfl (Aa (zE (zO (zP (zQ (zP (zP (zQ (zP ?_)))))))))))
   have he:rs.any (fun l=>l.length==0)=true:=List.any_eq_true.2 ⟨_,List.mem_of_getElem? (Bf hk),by have h':((((rg rs k).length:Nat):Int)==0)=true:=h;rw[beq_iff_eq] at h'⊢;omega⟩
   exact Af tH rfl (.tmp rfl) () (by unfold chk;rw[if_pos he]) trivial fun W _=>Ae.nil _ _
  have hz:(rg rs k).length≠0:=by
   have h':((((rg rs k).length:Nat):Int)==0)=false:=h
   rw[beq_eq_false_iff_ne] at h';omega
  clear h
  refine zI (zE (zB ?_))
  iterate 5 refine wP rfl ?_
  refine Aa ?_
  have hs:w64 ((tot (rs.take k):Nat)+((rg rs k).length:Nat))=(tot (rs.take (k+1)):Nat):=by
   have h1:=Bm hk
   have h2:=Cn rs (k+1)
   rw[An (by omega) (by omega)];omega
  refine zN (zE (zB ?_))
  refine Ab 3 _ rfl (congrArg (Value.int .i64) hs) ?_
  refine wP rfl (wP rfl (Aa ?_))
  refine As (k+1) ⟨hk,fun j hj=> ?_⟩ (by omega) ⟨rfl,rfl,rfl,rfl,congrArg (fun z=>some (Value.int .i64 z)) (AI (x:=(k:Int)+1) (by omega) (by omega)),trivial⟩ [] rfl
  by_cases e:j=k
  ·subst e;exact hz
  ·exact hok j (by omega)
 have e:k=rs.length:=by simp at h;omega
 subst e
 clear h
 rw[List.take_length]
 have hne: ∀l∈rs,l≠[]:=fun l hl e=>by
  obtain⟨i,hi,e2⟩:=List.getElem_of_mem hl
  have:=hok i hi
  rw[show rg rs i=rs[i] by simp[rg,hi],e2,e] at this
  exact this rfl
 have he:rs.any (fun l=>l.length==0)=false:=Bool.eq_false_iff.2 fun h2=>by
  obtain⟨l,h3,h4⟩:=List.any_eq_true.1 h2
  rw[beq_iff_eq] at h4
  exact hne l h3 (List.length_eq_zero_iff.1 h4)
 have hN: ¬(rs.any (fun l=>l.length==0)=true):=by rw[he];decide
 refine zJ (zK (zK (zL (zE (zA (zH (zA (zB (wP rfl (wP rfl (wP rfl (Aa (zE ?_)))))))))))))
 refine Ak rfl (fun h=> ?_) (fun h=> ?_)
 ·refine zA (zB (wP rfl (Aa (zE (zO (zQ (zP ?_)))))))
  have h0:tot rs=0:=by have h':(((tot rs:Nat):Int)==0)=true:=h;rw[beq_iff_eq] at h';omega
  exact Af tH rfl (.tmp rfl) () (by unfold chk;rw[if_neg hN,if_pos h0]) trivial fun W _=>Ae.nil _ _
 have h0: ¬tot rs=0:=by have h':(((tot rs:Nat):Int)==0)=false:=h;rw[beq_eq_false_iff_ne] at h';omega
 clear h
 refine zA (zB (wP rfl (wP rfl (wP rfl (Aa (zE ?_))))))
 refine Ak rfl (fun h=> ?_) (fun h=> ?_)
 ·refine zA (zB (wP rfl (Aa (zE (zO (zQ (zP ?_)))))))
  have h1:tot rs>24:=by have h':decide (((tot rs:Nat):Int)>24)=true:=h;rw[decide_eq_true_iff] at h';omega
  exact Af tH rfl (.tmp rfl) () (by unfold chk;rw[if_neg hN,if_neg h0,if_pos h1]) trivial fun W _=>Ae.nil _ _
 have h1: ¬tot rs>24:=by have h':decide (((tot rs:Nat):Int)>24)=false:=h;rw[decide_eq_false_iff_not] at h';omega
 clear h
 refine zA (zB (wP rfl (wB 0 rfl rfl rfl ?_)))
 refine Au (X:=Vec) rfl rfl rfl rfl rfl rfl (by kernel_rfl) (fun W hp=>I7 W p cap rs hn hT (hR.below (Nat.le_refl _) hp.below) hne) ?_
 intro V hV
 obtain⟨q,cq,eV,hVR⟩:=Vec.ring hV
 have hfl:rs.flatten.length<4611686018427387904:=by rw[Fb];omega
 refine Ab 30 _ rfl eV ?_
 refine Ac rfl rfl rfl rfl rfl rfl (by kernel_rfl) (fun W hp=>Jz 90 (by kernel_rfl) (fun s=> !rgd s) NJ W q cq rs.flatten hfl (hVR hp 1 rfl)) ?_
 refine wP rfl (Aa (zE ?_))
 refine Ak rfl (fun h=> ?_) (fun h=> ?_)
 ·refine zA (zB (wP rfl (Aa (zE (zO (zQ (zP ?_)))))))
  exact Af tH rfl (.tmp rfl) () (by unfold chk;rw[if_neg hN,if_neg h0,if_neg h1,if_pos h]) trivial fun W _=>Ae.nil _ _
 have h2: ¬(rs.flatten.any (fun s=> !rgd s)=true):=by rw[h];decide
 clear h
 refine zA (zB (wP rfl (wB 0 rfl rfl rfl ?_)))
 refine Ac rfl rfl rfl rfl rfl rfl (by kernel_rfl) (fun W hp=>Jk 93 (by kernel_rfl) (fun l=> !shp l) Ok W p cap rs hn hl (hR.below (Nat.le_refl _) hp.below)) ?_
 refine wP rfl (Aa (zE ?_))
 refine Ak rfl (fun h=> ?_) (fun h=> ?_)
 ·refine zA (zB (wP rfl (Aa (zE (zO (zQ (zP ?_)))))))
  exact Af tH rfl (.tmp rfl) () (by unfold chk;rw[if_neg hN,if_neg h0,if_neg h1,if_neg h2,if_pos h]) trivial fun W _=>Ae.nil _ _
 have h3: ¬(rs.any (fun l=> !shp l)=true):=by rw[h];decide
 clear h
 refine zA (zB (wP rfl (wB 0 rfl rfl rfl ?_)))
 refine Ac rfl rfl rfl rfl rfl rfl (by kernel_rfl) (fun W hp=>Lj W p cap rs hn hT hl (hR.below (Nat.le_refl _) hp.below)) ?_
 refine wP rfl (Aa (zE ?_))
 refine Ak rfl (fun h=> ?_) (fun h=> ?_)
 ·refine zA (zB (wP rfl (Aa (zE (zO (zQ (zP ?_)))))))
  exact Af tH rfl (.tmp rfl) () (by unfold chk;rw[if_neg hN,if_neg h0,if_neg h1,if_neg h2,if_neg h3,if_pos h]) trivial fun W _=>Ae.nil _ _
 have h4: ¬(crs rs=true):=by rw[h];decide
 clear h
 refine zA (zB (wP rfl (wB 0 rfl rfl rfl ?_)))
 refine Ac rfl rfl rfl rfl rfl rfl (by kernel_rfl) (fun W hp=>Oc W p cap rs hn hl hne (hR.below (Nat.le_refl _) hp.below)) ?_
 refine wP rfl (wP rfl ?_)
 refine AM 45 rfl (fun h45=> ?_) (fun h45=> ?_)
 ·have h5:(!plc rs|| !jnd rs)=true:=by have h':(!plc rs)=true:=h45;rw[h'];rfl
  iterate 4 refine Ah rfl rfl ?_
  refine wP rfl (wP rfl (Aa (zE (zR rfl (zA (zB (wP rfl (Aa (zE (zO (zQ (zP ?_))))))))))))
  exact Af tH rfl (.tmp rfl) () (by unfold chk;rw[if_neg hN,if_neg h0,if_neg h1,if_neg h2,if_neg h3,if_neg h4,if_pos h5]) trivial fun W _=>Ae.nil _ _
 ·have h':(!plc rs)=false:=h45
  refine wP rfl (wB 0 rfl rfl rfl ?_)
  refine Ac rfl rfl rfl rfl rfl rfl (by kernel_rfl) (fun W hp=>Nw W p cap rs hn hl (hR.below (Nat.le_refl _) hp.below)) ?_
  refine wP rfl (wP rfl (wP rfl (Aa (zE ?_))))
  refine Ak rfl (fun h=> ?_) (fun h=> ?_)
  ·refine zA (zB (wP rfl (Aa (zE (zO (zQ (zP ?_)))))))
   have h5:(!plc rs|| !jnd rs)=true:=by rw[h',h];rfl
   exact Af tH rfl (.tmp rfl) () (by unfold chk;rw[if_neg hN,if_neg h0,if_neg h1,if_neg h2,if_neg h3,if_neg h4,if_pos h5]) trivial fun W _=>Ae.nil _ _
  ·refine zI (zN (zE (zA (zB (wP rfl (Aa (zE (zO ?_))))))))
   have h5: ¬((!plc rs|| !jnd rs)=true):=by rw[h',h];decide
   exact Af tH rfl (.tmp rfl) () (by unfold chk;rw[if_neg hN,if_neg h0,if_neg h1,if_neg h2,if_neg h3,if_neg h4,if_neg h5]) trivial fun W _=>Ae.nil _ _
-- BOXES 3
theorem Bz.hp {W0 W:World} {bxs:List Bx} {p:Option Addr} {rs:List (List Sd)} (h:Bz W0 p rs) (hp:Hp W0 bxs W):Bz W p rs:=h.below (Nat.le_refl _) hp.below
def grt (rs:List (List Sd)) (m:Int):Bool:=(decide ((tot rs:Int)>m)&&decide ((tot rs:Int)≤24))||decide ((tot rs:Int)>40)||decide ((rs.length:Int)>40)
theorem Qb (W:World) (p:Option Addr) (cap:Nat) (rs:List (List Sd)) (m:Int) (hn:rs.length<4611686018427387904) (hT:tot rs<4611686018427387904) (hR:Bz W p rs):
  Aj Tryz.prog 11 #[B5 p rs.length cap, .int .i64 m] W (fun _:Unit=> .bool (grt rs m)) (fun _=>True) (fun _=>[]):=by
 refine Ad (args:=[B5 p rs.length cap, .int .i64 m]) Tryz.func11 rfl rfl rfl ?_
 refine zA (zB ?_)
 (refine A8 rfl rfl rfl rfl ?_;intro)
 rename_i b1
 refine wP rfl (Aa (zE (zA (zB (wP rfl (Aa (zE (zA (zA (zB (wP rfl (Aa (zE ?_)))))))))))))
 refine zH ?_
 refine Av (X:=Nat) (fun k=>[(1, .int .i64 m),(2, .pointer (some ⟨b1,0,none⟩)),(5, .int .i64 (tot (rs.take k):Nat)),(6, .int .i64 (k:Nat))]) (fun _=>[⟨b1,24,[slv p rs.length cap],true,none⟩])
  (fun k=>k≤rs.length) (fun k=>rs.length-k) 0 (Nat.zero_le _) ⟨rfl,rfl,rfl,rfl,trivial⟩ [] rfl ?_
 intro k hk
 refine zA (zA (zB (wP rfl (wP rfl (wB 0 rfl rfl rfl (wP rfl (wP rfl (Aa (zE ?_)))))))))
 refine Ak rfl (fun h=> ?_) (fun h=> ?_)
 ·have hk:k<rs.length:=by simp at h;omega
  clear h
  obtain⟨b,off,rfl,hrow⟩:=hR.row hk
  obtain⟨q,cap2,hq1,hq2⟩:=hrow k hk
  refine zI (zE (zA (zH (zB (wP rfl (wP rfl (wB 0 rfl rfl rfl (wP rfl ?_))))))))
  refine wJ ?_
  refine Aw rfl rfl rfl rfl (fun W hp=>Ag.load 0 tH rfl ((fun W hp=>hq1.hp hp) W hp) rfl) ?_
  refine wP rfl (wP rfl (wP rfl (Aa ?_)))
  have hs:w64 ((tot (rs.take k):Nat)+((rg rs k).length:Nat))=(tot (rs.take (k+1)):Nat):=by
   have h1:=Bm hk
   have h2:=Cn rs (k+1)
   rw[An (by omega) (by omega)];omega
  refine zN (zE (zB ?_))
  refine Ab 5 _ rfl (congrArg (Value.int .i64) hs) ?_
  refine wP rfl (wP rfl (wP rfl (Aa ?_)))
  exact As (k+1) hk (by omega) ⟨rfl,rfl,rfl,congrArg (fun z=>some (Value.int .i64 z)) (AI (x:=(k:Int)+1) (by omega) (by omega)),trivial⟩ [] rfl
 have e:k=rs.length:=by simp at h;omega
 subst e
 clear h
 rw[List.take_length]
 refine zJ (zK (zK (zL (zE (zA (zB (wP rfl (wP rfl (wP rfl (wP rfl ?_))))))))))
 refine AM 25 rfl (fun h25=> ?_) (fun h25=> ?_)
 ·refine wP rfl (wP rfl (wP rfl (wP rfl ?_)))
  have h25':decide ((tot rs:Int)>m)=true:=h25
  refine AM 29 rfl (fun h29=> ?_) (fun h29=> ?_)
  ·have e:grt rs m=true:=by have h':decide ((tot rs:Int)≤24)=true:=h29;unfold grt;rw[h25',h'];rfl
   iterate 2 refine Ah rfl rfl ?_
   refine wP rfl (wP rfl ?_)
   iterate 4 refine Ah rfl rfl ?_
   refine wP rfl (wP rfl (Aa (zE (zO ?_))))
   exact Af tH rfl (.tmp rfl) () (by rw[e]) trivial fun W _=>Ae.nil _ _
  ·refine wP rfl (wP rfl (wP rfl (wP rfl ?_)))
   have h':decide ((tot rs:Int)≤24)=false:=h29
   refine AM 33 rfl (fun h33=> ?_) (fun h33=> ?_)
   ·have e:grt rs m=true:=by have h2:decide ((tot rs:Int)>40)=true:=h33;unfold grt;rw[h2,Bool.or_true];rfl
    iterate 4 refine Ah rfl rfl ?_
    refine wP rfl (wP rfl (Aa (zE (zO ?_))))
    exact Af tH rfl (.tmp rfl) () (by rw[e]) trivial fun W _=>Ae.nil _ _
   ·have e:grt rs m=decide ((rs.length:Int)>40):=by have h2:decide ((tot rs:Int)>40)=false:=h33;unfold grt;rw[h',h2,Bool.and_false];rfl
    refine wP rfl (wB 0 rfl rfl rfl (wP rfl (wP rfl (wP rfl (wP rfl (Aa (zE (zO ?_))))))))
    exact Af tH rfl (.tmp rfl) () (by rw[e]) trivial fun W _=>Ae.nil _ _
 ·have h25':decide ((tot rs:Int)>m)=false:=h25
  iterate 2 refine Ah rfl rfl ?_
  iterate 6 refine wP rfl ?_
  refine AM 33 rfl (fun h33=> ?_) (fun h33=> ?_)
  ·have e:grt rs m=true:=by have h2:decide ((tot rs:Int)>40)=true:=h33;unfold grt;rw[h2,Bool.or_true];rfl
   iterate 4 refine Ah rfl rfl ?_
   refine wP rfl (wP rfl (Aa (zE (zO ?_))))
   exact Af tH rfl (.tmp rfl) () (by rw[e]) trivial fun W _=>Ae.nil _ _
  ·have e:grt rs m=decide ((rs.length:Int)>40):=by have h2:decide ((tot rs:Int)>40)=false:=h33;unfold grt;rw[h25',h2];rfl
   refine wP rfl (wB 0 rfl rfl rfl (wP rfl (wP rfl (wP rfl (wP rfl (Aa (zE (zO ?_))))))))
   exact Af tH rfl (.tmp rfl) () (by rw[e]) trivial fun W _=>Ae.nil _ _
theorem Ea {rs:List (List Sd)} (h:chk rs=0):(∀l∈rs,l≠[])∧tot rs≤24∧tot rs≠0:=by
 unfold chk at h
 split at h
 ·cases h
 ·rename_i h1
  split at h
  ·cases h
  ·rename_i h2
   split at h
   ·cases h
   ·rename_i h3
    refine⟨fun l hl e=>h1 (List.any_eq_true.2 ⟨l,hl,by rw[e];rfl⟩),by omega,h2⟩
theorem OW (W:World) (p:Option Addr) (cap:Nat) (rs:List (List Sd)) (hn:rs.length<4611686018427387904) (hR:Bz W p rs) (hc:chk rs=0):
  Aj Tryz.prog 15 #[B5 p rs.length cap] W (fun V:Vec=> .tuple #[V.val rs.flatten.length, .int .i64 0]) (fun V=>V.OK 7 rs.flatten.length (cellsOf rs.flatten)) (fun V=>[V.bx 42 (cellsOf rs.flatten)]):=by
 obtain⟨hne,hT,_⟩:=Ea hc
 refine Ad (args:=[B5 p rs.length cap]) Tryz.func15 rfl rfl rfl ?_
 refine zA (zB ?_)
 (refine A8 rfl rfl rfl rfl ?_;intro)
 refine wP rfl (wP rfl (Aa (zE (zA (zA (zB (wB 0 rfl rfl rfl ?_)))))))
 refine Ac rfl rfl rfl rfl rfl rfl (by kernel_rfl) (fun W hp=>(GM W p cap rs hn (by omega) (hR.hp hp)).cast (by rw[hc])) ?_
 refine wP rfl (Aa (zE (zS rfl (zI (zE (zA (zB (wP rfl (wB 0 rfl rfl rfl ?_)))))))))
 refine Au (X:=Vec) rfl rfl rfl rfl rfl rfl (by kernel_rfl) (fun W hp=>I7 W p cap rs hn (by omega) (hR.hp hp) hne) ?_
 intro V hV
 refine wP rfl (wP rfl (Aa (zE (zO ?_))))
 exact Ar tH rfl (.tmp rfl) (.tmp rfl) V rfl hV fun W hp=>Ae.of_hp1 hp 1 rfl
end
section
open Go Go.RowKit Go.Am
def AN (f:Nat→Int):Nat→Int
 |0=>0
 |k+1=>AN f k+f k
theorem BQ {f g:Nat→Int}: ∀(n:Nat),(∀i,i<n→f i=g i)→AN f n=AN g n
 |0,_=>rfl
 |n+1,h=>by
  show AN f n+f n=AN g n+g n
  rw[BQ n (fun i hi=>h i (by omega)),h n (by omega)]
theorem Ni (f g:Nat→Int): ∀n,AN (fun i=>f i+g i) n=AN f n+AN g n
 |0=>rfl
 |n+1=>by
  show AN _ n+(f n+g n)=AN f n+f n+(AN g n+g n)
  rw[Ni f g n];omega
theorem ED (c:Int) (f:Nat→Int): ∀n,AN (fun i=>c*f i) n=c*AN f n
 |0=>by simp[AN]
 |n+1=>by
  show AN _ n+c*f n=c*(AN f n+f n)
  rw[ED c f n,Int.mul_add]
theorem KM (g:Nat→Int): ∀n,AN (fun i=>g (i+1)) n+g 0=AN g (n+1)
 |0=>by simp[AN]
 |n+1=>by
  have ih:=KM g n
  show AN (fun i=>g (i+1)) n+g (n+1)+g 0=AN g (n+1)+g (n+1)
  omega
theorem Ta (g:Nat→Int) (n:Nat):AN (fun i=>g (nxt n i)) n=AN g n:=by
 cases n with
 |zero=>rfl
 |succ m=>
  rw[←KM g m]
  show AN (fun i=>g (nxt (m+1) i)) m+g (nxt (m+1) m)=_
  have h0:nxt (m+1) m=0:=Nat.mod_self _
  rw[h0,BQ m (fun i hi=>by rw[show nxt (m+1) i=i+1 from Nat.mod_eq_of_lt (by omega)])]
def inR (s:Sd):Prop:=0≤s.x∧s.x≤65536∧0≤s.y∧s.y≤65536
theorem VL {s:Sd} (h:rgd s=true):inR s:=by
 unfold rgd at h
 simp only[Bool.and_eq_true,btw,decide_eq_true_eq] at h
 exact⟨h.2.1.1.1.1,h.2.1.1.1.2,h.2.1.1.2.1,h.2.1.1.2.2⟩
theorem CG {l:List Sd} (h: ∀s∈l,inR s) {i:Nat} (hi:i<l.length):inR (sd l i):=h _ (List.mem_of_getElem? (DY hi))
theorem Ee {n i:Nat} (h:i<n):nxt n i<n:=Nat.mod_lt _ (by omega)
theorem FC {n i:Nat} (h:i<n):prv n i<n:=Nat.mod_lt _ (by omega)
def Ek (l:List Sd) (i:Nat):Int:=(sd l i).x*(sd l (nxt l.length i)).y-(sd l i).y*(sd l (nxt l.length i)).x
theorem Hz {a b:Int} (ha:0≤a) (ha':a≤65536) (hb:0≤b) (hb':b≤65536):0≤a*b∧a*b≤4294967296:=by
 refine⟨Int.mul_nonneg ha hb, ?_⟩
 calc a*b≤65536*b:=Int.mul_le_mul_of_nonneg_right ha' hb
  _≤65536*65536:=Int.mul_le_mul_of_nonneg_left hb' (by decide)
  _=4294967296:=by decide
theorem MY {l:List Sd} (h: ∀s∈l,inR s): ∀k,k≤l.length→k≤1000000→C9 l k=AN (Ek l) k∧ -(k*4294967296:Int)≤C9 l k∧C9 l k≤k*4294967296
 |0,_,_=>⟨rfl,by simp[C9],by simp[C9]⟩
 |k+1,hk,hm=>by
  obtain⟨h1,h2,h3⟩:=MY h k (by omega) (by omega)
  have hs:=CG h (show k<l.length by omega)
  have hn:=CG h (Ee (show k<l.length by omega))
  obtain⟨a1,a2⟩:=Hz hs.1 hs.2.1 hn.2.2.1 hn.2.2.2
  obtain⟨b1,b2⟩:=Hz hs.2.2.1 hs.2.2.2 hn.1 hn.2.1
  have e:C9 l (k+1)=C9 l k+Ek l k:=by
   show w64 (C9 l k+w64 (w64 ((sd l k).x*(sd l (nxt l.length k)).y)-w64 ((sd l k).y*(sd l (nxt l.length k)).x)))=_
   unfold Ek
   rw[An (x:=(sd l k).x*_) (by omega) (by omega),An (x:=(sd l k).y*_) (by omega) (by omega),An (x:=_-_) (by omega) (by omega)]
   exact An (by omega) (by omega)
  have ec:Ek l k=(sd l k).x*(sd l (nxt l.length k)).y-(sd l k).y*(sd l (nxt l.length k)).x:=rfl
  refine⟨by rw[e,h1];rfl, ?_, ?_⟩<;>rw[e,ec]<;>push_cast<;>omega
theorem DA {rs:List (List Sd)} (h:chk rs=0):(∀l∈rs, ∀s∈l,rgd s=true)∧(∀l∈rs,shp l=true)∧crs rs=false∧plc rs=true∧jnd rs=true:=by
 unfold chk at h
 split at h
 ·cases h
 split at h
 ·cases h
 split at h
 ·cases h
 split at h
 ·cases h
 rename_i h2
 split at h
 ·cases h
 rename_i h3
 split at h
 ·cases h
 rename_i h4
 split at h
 ·cases h
 rename_i h5
 refine⟨fun l hl s hs=> ?_,fun l hl=> ?_,by simpa using h4, ?_, ?_⟩
 ·cases hr:rgd s with
  |true=>rfl
  |false=>exact absurd (List.any_eq_true.2 ⟨s,List.mem_flatten.2 ⟨l,hl,hs⟩,by rw[hr];rfl⟩) h2
 ·cases hr:shp l with
  |true=>rfl
  |false=>exact absurd (List.any_eq_true.2 ⟨l,hl,by rw[hr];rfl⟩) h3
 ·cases hp:plc rs with
  |true=>rfl
  |false=>rw[hp] at h5;exact absurd rfl h5
 ·cases hp:jnd rs with
  |true=>rfl
  |false=>rw[hp] at h5;exact absurd (by simp) h5
end
section
open Go Go.RowKit Go.Am Go.Lib
set_option maxRecDepth 10000
-- BOXES 5
-- CODE2
section
variable {r:Option Nat} {n:Nat} {P:Program} {N:Nat} {D:List Deferred} {ops:List Oper} {Q:Exit→Act→World→Prop} {o:Oper} {rest:List Oper} {env:Env} {A:World→Prop}
theorem Mw {ρ:Operand→Value} {t e:TypeId} {m c:Nat} {x y:Operand} {k:IntKind} {b off:Nat} {z:Int} (ht:P.underlying t=some (.array m e)) (hs: ∀W,(Go.sizeOf e).run P W= .ok c W) (ho:o.op= .indexAddr t x y)
  (hx:ρ x= .pointer (some ⟨b,off,none⟩)) (hy:ρ y= .int k z) (h0:0≤z∧z<m) (W:World):(execOp ρ o).run P W= .ok (.value (.pointer (some ⟨b,off+z.toNat*c,none⟩))) W:=by
 simp[execOp,ho,hx,hy,Instr.indexAt,Instr.sureAddr,asIntOf,run_underlying ht,hs,h0.1,h0.2,Addr.add_none]
theorem OD {d:Nat} {t e:TypeId} {m c:Nat} {x y:Operand} {k:IntKind} {b off:Nat} {z:Int} (ht:P.underlying t=some (.array m e)) (hs: ∀W,(Go.sizeOf e).run P W= .ok c W) (hg:AB ops N env o=some true) (hd:o.dst=some d) (ho:o.op= .indexAddr t x y)
  (hx:evO N env x=some (.pointer (some ⟨b,off,none⟩))) (hy:evO N env y=some (.int k z)) (h0:0≤z∧z<m)
  (h:WL r n P N D ops Q rest ((d, .pointer (some ⟨b,off+z.toNat*c,none⟩))::env) A):WL r n P N D ops Q (o::rest) env A:=
 CI hg hd (fun c e=>by rw[ho] at e;cases e) (fun _ W hρ _=>Mw ht hs ho (hρ _ _ hx) (hρ _ _ hy) h0 W) h
end
def hdg (s t:Sd):Nat:=if s.x<t.x then 0 else if s.y<t.y then 1 else if t.x<s.x then 2 else 3
theorem WA (s t:Sd):hdg s t<4:=by
 unfold hdg
 split
 ·decide
 ·split
  ·decide
  ·split<;>decide
theorem M5 (s t:Sd) (W:World):Aj Tryz.prog 130 #[s.val,t.val] W (fun _:Unit=> .int .i64 (hdg s t:Nat)) (fun _=>True) (fun _=>[]):=by
 refine Ad (args:=[s.val,t.val]) Tryz.func130 rfl rfl rfl ?_
 refine zA (zB ?_)
 (refine A8 rfl rfl rfl rfl ?_;intro)
 (refine A8 rfl rfl rfl rfl ?_;intro)
 refine wP rfl (Aa (zE (zA (zH (zA (zB (wP rfl (wB 1 rfl rfl rfl (wP rfl (wB 0 rfl rfl rfl (wP rfl (wP rfl (Aa ?_)))))))))))))
 refine zE ?_
 refine Ak rfl (fun h=> ?_) (fun h=> ?_)
 ·have c:s.x<t.x:=by have h:=of_decide_eq_true h;omega
  clear h
  have e:hdg s t=0:=by unfold hdg;rw[if_pos c]
  refine zA (zB (wP rfl (Aa (zE (zO (zQ (zP ?_)))))))
  exact Af tH rfl (.tmp rfl) () (by rw[e];rfl) trivial fun W _=>Ae.nil _ _
 have c1: ¬s.x<t.x:=by have h:=of_decide_eq_false h;omega
 clear h
 refine zA (zB (wP rfl (wB 1 rfl rfl rfl (wP rfl (wB 0 rfl rfl rfl (wP rfl (wP rfl (Aa (zE ?_)))))))))
 refine Ak rfl (fun h=> ?_) (fun h=> ?_)
 ·have c:s.y<t.y:=by have h:=of_decide_eq_true h;omega
  clear h
  have e:hdg s t=1:=by unfold hdg;rw[if_neg c1,if_pos c]
  refine zA (zB (wP rfl (Aa (zE (zO (zQ (zP ?_)))))))
  exact Af tH rfl (.tmp rfl) () (by rw[e];rfl) trivial fun W _=>Ae.nil _ _
 have c2: ¬s.y<t.y:=by have h:=of_decide_eq_false h;omega
 clear h
 refine zA (zB (wP rfl (wB 1 rfl rfl rfl (wP rfl (wB 0 rfl rfl rfl (wP rfl (wP rfl (Aa (zE ?_)))))))))
 refine Ak rfl (fun h=> ?_) (fun h=> ?_)
 ·have c:t.x<s.x:=by have h:=of_decide_eq_true h;omega
  clear h
  have e:hdg s t=2:=by unfold hdg;rw[if_neg c1,if_neg c2,if_pos c]
  refine zA (zB (wP rfl (Aa (zE (zO (zQ (zP ?_)))))))
  exact Af tH rfl (.tmp rfl) () (by rw[e];rfl) trivial fun W _=>Ae.nil _ _
 have c3: ¬t.x<s.x:=by have h:=of_decide_eq_false h;omega
 clear h
 have e:hdg s t=3:=by unfold hdg;rw[if_neg c1,if_neg c2,if_neg c3]
 refine zI (zN (zE (zA (zB (wP rfl (Aa (zE (zO ?_))))))))
 exact Af tH rfl (.tmp rfl) () (by rw[e];rfl) trivial fun W _=>Ae.nil _ _
def RT (k:Nat):Bool:=k==1||k==3
def Na (k:Nat):Int:=if k=0∨k=3 then 1 else -1
abbrev WS:List Value:=[.bool false, .int .i64 1, .bool true, .int .i64 (-1), .bool false, .int .i64 (-1), .bool true, .int .i64 1]
def Ig (W:World):Prop:=Ag W 0 0 WS
theorem Ig.hp {W0 W:World} {bxs:List Bx} (h:Ig W0) (hp:Hp W0 bxs W):Ig W:=Ag.hp h hp
theorem Ig.at_ {W:World} (h:Ig W) {k:Nat} (hk:k<4):Ag W 0 (0+k*2) [.bool (RT k), .int .i64 (Na k)]:=by
 refine⟨h.lt,fun m u hu=> ?_⟩
 have hm:m=0∨m=1:=by
  have:=(List.getElem?_eq_some_iff.1 hu).1
  have:m<2:=this
  omega
 have hk:k=0∨k=1∨k=2∨k=3:=by omega
 have hg:=h.get (k*2+m) u (by
  rcases hk with rfl|rfl|rfl|rfl<;>rcases hm with rfl|rfl<;>exact hu)
 rw[Nat.zero_add] at hg
 rw[Nat.zero_add]
 exact hg
def frO (s t:Sd):FrP:=⟨RT (hdg s t),if RT (hdg s t) then s.x else s.y,Na (hdg s t),if s.gable then 0 else nrm s.run s.rise,(s.plate:Rat)⟩
theorem EE {s:Sd} (h:rgd s=true):(0≤s.x∧s.x≤65536)∧(0≤s.y∧s.y≤65536)∧(0≤s.plate∧s.plate≤65536)∧(s.gable=false→(1≤s.rise∧s.rise≤48)∧(1≤s.run∧s.run≤48)):=by
 unfold rgd btw at h
 simp only[Bool.and_eq_true,decide_eq_true_eq] at h
 obtain⟨h1,⟨⟨h2,h3⟩,h4⟩,h5⟩:=h
 refine⟨h2,h3,h4,fun e=> ?_⟩
 rw[e] at h1
 simpa using h1
theorem Th (s t:Sd) (h:rgd s=true) (W:World) (hd:Ig W) (ht:AV W):Aj Tryz.prog 53 #[s.val,t.val] W (fun _:Unit=>frV (frO s t)) (fun _=>True) (fun _=>[]):=by
 obtain⟨hx,hy,hp,hr⟩:=EE h
 obtain⟨k,hk⟩: ∃k,k=hdg s t:=⟨_,rfl⟩
 have hk4:k<4:=hk▸WA s t
 obtain⟨ax,hax⟩: ∃ax,ax=RT k:=⟨_,rfl⟩
 obtain⟨dd,hdd⟩: ∃dd,dd=Na k:=⟨_,rfl⟩
 have hrow: ∀ {W1:World} {bxs:List Bx},Hp W bxs W1→Ag W1 0 (0+((k:Nat):Int).toNat*2) [.bool ax, .int .i64 dd]:=fun hp1=>by
  rw[Int.toNat_natCast,hax,hdd]
  exact(hd.hp hp1).at_ hk4
 have hf:frO s t=⟨ax,if ax then s.x else s.y,dd,if s.gable then 0 else nrm s.run s.rise,(s.plate:Rat)⟩:=by unfold frO;rw[←hk, ←hax, ←hdd]
 obtain⟨ps,hps⟩: ∃ps,ps=(if ax then s.x else s.y):=⟨_,rfl⟩
 obtain⟨sp,hsp⟩: ∃sp:Rat,sp=(if s.gable then 0 else nrm s.run s.rise):=⟨_,rfl⟩
 rw[←hps, ←hsp] at hf
 rw[hf]
 refine Ad (args:=[s.val,t.val]) Tryz.func53 rfl rfl rfl ?_
 refine zA (zB ?_)
 (refine A8 rfl rfl rfl rfl ?_;intro)
 (refine A8 rfl rfl rfl rfl ?_;intro)
 (refine Ao Tryz.hZ rfl rfl rfl rfl ?_;intro)
 refine Aa ?_
 rename_i b2 b3 b4
 refine zE (zA (zB (wB 0 rfl rfl rfl (wB 1 rfl rfl rfl ?_))))
 refine Ac rfl rfl rfl rfl rfl rfl (by kernel_rfl) (fun W _=>(M5 s t W).cast (by rw[←hk])) ?_
 refine OD (c:=2) Tryz.underlying177 Tryz.sizeOf176 rfl rfl rfl rfl rfl ⟨by omega,by omega⟩ ?_
 refine Aw rfl rfl rfl rfl (fun W hp=>Ag.load 0 tH rfl ((fun W1 hp=>hrow hp) W hp) rfl) ?_
 (refine Ao Tryz.hZ rfl rfl rfl rfl ?_;intro)
 refine wS 3 rfl rfl rfl (Aa ?_)
 rename_i b5
 refine zE (zA (zB (wP rfl (wB 3 rfl rfl rfl (wP rfl (wB 0 rfl rfl rfl (wP rfl (wB 3 rfl rfl rfl ?_))))))))
 refine AA Tryz.hZ tH rfl rfl rfl rfl rfl rfl rfl rfl ?_
 (refine Ao Tryz.hZ rfl rfl rfl rfl ?_;intro)
 refine wS 4 rfl rfl rfl (Aa ?_)
 rename_i b6
 refine zE (zA (zA (zB (wP rfl (wB 3 rfl rfl rfl (Aa (AC ?_)))))))
 try refine A7 ?_
 refine AK (X:=Unit) (fun _=>[(2,Ax b2),(4,Ax b4),(5,Ax b5),(6,Ax b6)]) (fun _=>[⟨b2,42,s.cells,true,none⟩,⟨b4,39,[.bool false, .int .i64 0, .int .i64 0,str [],str []],true,none⟩,⟨b6,39,[.bool ax, .int .i64 ps, .int .i64 dd,str (Ai 0),str []],true,none⟩]) (fun _=>True) ?_ ?_
 ·refine Ak rfl (fun h1=> ?_) (fun h1=> ?_)
  ·have e1:ax=true:=h1
   refine zB (wP rfl (wB 0 rfl rfl rfl (wP rfl (wS 4 rfl rfl rfl (Aa ?_)))))
   exact K4 () trivial ⟨rfl,rfl,rfl,rfl,trivial⟩ [0,2,4] (by decide) (by rw[hps,if_pos e1,DU];rfl)
  ·have e1:ax=false:=h1
   refine zI ?_
   exact K4 () trivial ⟨rfl,rfl,rfl,rfl,trivial⟩ [0,2,4] (by decide) (by rw[hps,if_neg (by rw[e1];decide),DU];rfl)
 intro _ _
 refine zA (zA (zB (wP rfl (wB 0 rfl rfl rfl (wP rfl (Aa (AC ?_)))))))
 try refine A7 ?_
 refine AK (X:=Unit) (fun _=>[(2,Ax b2),(4,Ax b4),(6,Ax b6)]) (fun _=>[⟨b2,42,s.cells,true,none⟩,⟨b4,39,[.bool false, .int .i64 0, .int .i64 0,str [],str []],true,none⟩,⟨b6,39,[.bool ax, .int .i64 ps, .int .i64 dd,str (Ai sp),str []],true,none⟩]) (fun _=>True) ?_ ?_
 ·refine Ak rfl (fun h1=> ?_) (fun h1=> ?_)
  ·have e1:s.gable=false:=by simpa using h1
   obtain⟨r1,r2⟩:=hr e1
   refine zB (wP rfl (wB 0 rfl rfl rfl (wP rfl (wB 0 rfl rfl rfl ?_))))
   refine Ac rfl rfl rfl rfl rfl rfl (by kernel_rfl) (fun W1 hp=>(H2 s.run s.rise (by omega) (by omega) W1 (ht.hp hp)).cast (by rw[ofR,if_neg (by omega)])) ?_
   refine wP rfl (wP rfl (wP rfl (wP rfl (wS 2 rfl rfl rfl (Aa ?_)))))
   exact K4 () trivial ⟨rfl,rfl,rfl,trivial⟩ [0,1,2] (by decide) (by rw[hsp,if_neg (by rw[e1];decide)];rfl)
  ·have e1:s.gable=true:=by simpa using h1
   refine zI ?_
   exact K4 () trivial ⟨rfl,rfl,rfl,trivial⟩ [0,1,2] (by decide) (by rw[hsp,if_pos e1];rfl)
 intro _ _
 refine zA (zB (wP rfl (wB 0 rfl rfl rfl ?_)))
 refine Ac rfl rfl rfl rfl rfl rfl (by kernel_rfl) (fun W1 hp=>(H2 s.plate 1 (by omega) (by decide) W1 (ht.hp hp)).cast (by rw[Oy])) ?_
 refine wP rfl (wP rfl (wP rfl (wP rfl (wS 2 rfl rfl rfl (Aa (zE (zA (zB (wB 2 rfl rfl rfl (wS 1 rfl rfl rfl (Aa (zE (zO ?_)))))))))))))
 exact Af tH rfl (.cell 1 rfl rfl rfl rfl rfl) () rfl trivial fun W _=>Ae.nil _ _
-- BOXES 4
-- CODE2
def R9 (l:List Sd) (i:Nat):FrP:=frO (sd l i) (sd l (nxt l.length i))
def Gg (l:List Sd) (i:Nat):List FrP:=(List.range i).map (R9 l)
def C8 (rs:List (List Sd)):Nat→List FrP
 |0=>[]
 |k+1=>C8 rs k++Gg (rg rs k) (rg rs k).length
def Az (rs:List (List Sd)):List FrP:=C8 rs rs.length
def frC (l:List FrP):List Value:=l.flatMap fun f=>(frV f).cells.toList
theorem Sh (a b:List FrP):frC (a++b)=frC a++frC b:=List.flatMap_append
theorem UY (l:List FrP):(frC l).length=l.length*5:=by
 induction l with
 |nil=>rfl
 |cons f l ih=>show((frV f).cells.toList++frC l).length=_;rw[List.length_append,ih,List.length_cons];show 5+_=_;omega
theorem Qr (l:List Sd) (i:Nat):(Gg l i).length=i:=by unfold Gg;rw[List.length_map,List.length_range]
theorem SS (l:List Sd) (i:Nat):Gg l (i+1)=Gg l i++[R9 l i]:=by unfold Gg;rw[List.range_succ,List.map_append];rfl
theorem II {rs:List (List Sd)}: ∀k,k≤rs.length→(C8 rs k).length=tot (rs.take k)
 |0,_=>rfl
 |k+1,h=>by
  show(C8 rs k++Gg _ _).length=_
  rw[List.length_append,II k (by omega),Qr,Bm h]
theorem Dm (rs:List (List Sd)):(Az rs).length=tot rs:=by
 unfold Az
 rw[II _ (Nat.le_refl _),List.take_length]
theorem RA {rs:List (List Sd)} {r i:Nat} (hi:i<(rg rs r).length): ∀k,r<k→k≤rs.length→(C8 rs k)[tot (rs.take r)+i]? =some (R9 (rg rs r) i)
 |0,h,_=>absurd h (Nat.not_lt_zero _)
 |k+1,h,hk=>by
  have hl:=II (rs:=rs) k (by omega)
  show(C8 rs k++Gg _ _)[_]? =_
  by_cases e:r=k
  ·subst e
   rw[List.getElem?_append_right (by omega),hl,Nat.add_sub_cancel_left]
   unfold Gg
   rw[List.getElem?_map,List.getElem?_range hi];rfl
  ·have ih:=RA hi k (by omega) (by omega)
   rw[List.getElem?_append_left (List.getElem?_eq_some_iff.1 ih).1]
   exact ih
theorem Sg {rs:List (List Sd)} {r i:Nat} (hr:r<rs.length) (hi:i<(rg rs r).length):(Az rs)[tot (rs.take r)+i]? =some (R9 (rg rs r) i):=RA hi rs.length hr (Nat.le_refl _)
theorem HT (W:World) (p:Option Addr) (cap:Nat) (rs:List (List Sd)) (hn:rs.length<4611686018427387904) (hR:Bz W p rs) (hc:chk rs=0) (hd:Ig W) (ht:AV W):
  Aj Tryz.prog 14 #[B5 p rs.length cap] W (fun V:Vec=> .tuple #[V.val (Az rs).length, .int .i64 0]) (fun V=>V.OK 5 (Az rs).length (frC (Az rs))) (fun V=>[V.bx 39 (frC (Az rs))]):=by
 obtain⟨hne,hT,_⟩:=Ea hc
 obtain⟨hrg,_⟩:=DA hc
 refine Ad (args:=[B5 p rs.length cap]) Tryz.func14 rfl rfl rfl ?_
 refine zA (zB ?_)
 (refine A8 rfl rfl rfl rfl ?_;intro)
 refine wP rfl (wP rfl (Aa ?_))
 rename_i b1
 refine zE (zA (zA (zB (wB 0 rfl rfl rfl ?_))))
 refine Ac rfl rfl rfl rfl rfl rfl (by kernel_rfl) (fun W1 hp=>(GM W1 p cap rs hn (by omega) (hR.hp hp)).cast (by rw[hc])) ?_
 refine wP rfl (Aa (zE (zS rfl (zI (zE (zA (zB (wP rfl (Aa (zE (zA (zA (zB ?_)))))))))))))
 refine wP rfl (wB 0 rfl rfl rfl (wP rfl (wP rfl (Aa (zE (zH ?_))))))
 refine CM ?_
 refine Av (X:=Nat×Vec) (fun s=>[(1,Ax b1),(4,s.2.val (C8 rs s.1).length),(13,slv p rs.length cap),(14, .int .i64 (rs.length:Nat)),(15, .int .i64 (s.1:Nat))]) (fun s=>[⟨b1,24,[slv p rs.length cap],true,none⟩,s.2.bx 39 (frC (C8 rs s.1))])
  (fun s=>s.1≤rs.length∧s.2.OK 5 (C8 rs s.1).length (frC (C8 rs s.1))) (fun s=>rs.length-s.1) (0,Vec.empty) ⟨Nat.zero_le _,Vec.OK.empty 5⟩ ⟨rfl,rfl,rfl,rfl,rfl,trivial⟩ [] rfl ?_
 rintro⟨k,V⟩ ⟨hk,hV⟩
 have hk:k≤rs.length:=hk
 have hV:V.OK 5 (C8 rs k).length (frC (C8 rs k)):=hV
 have hl:=II k hk
 refine zA (zB (wP rfl ?_))
 by_cases hlt:k<rs.length
 ·refine Ab 16 (.bool true) rfl (congrArg Value.bool (decide_eq_true (by omega))) ?_
  refine Aa (zE (zA (zR rfl (zI (zE (zA (zH (zA (zB ?_)))))))))
  obtain⟨l,hle⟩: ∃l,l=rg rs k:=⟨_,rfl⟩
  have hs:=Bm hlt
  have hs1:=Cn rs (k+1)
  obtain⟨gR,oR,hpe,hrows⟩:=hR.row hlt
  obtain⟨q,c,hrow,hring⟩:=hrows k hlt
  rw[←hle] at hrow hring hs
  have hrl: ∀s∈l,rgd s=true:=fun s hs=>hrg l (by rw[hle];exact List.mem_of_getElem? (Bf hlt)) s hs
  have hln:l.length≤24:=by omega
  subst hpe
  refine wJ ?_
  refine Aw rfl rfl rfl rfl (fun W hp=>Ag.load 0 tH rfl ((fun W1 hp=>hrow.hp hp) W hp) rfl) ?_
  refine wP rfl (Aa (zE (zA (zB (wP rfl (wP rfl (wP rfl (Aa (zE (zH ?_))))))))))
  refine Av (X:=Nat×Vec) (fun s=>[(1,Ax b1),(4,s.2.val ((C8 rs k).length+s.1)),(13,slv (some ⟨gR,oR,none⟩) rs.length cap),(14, .int .i64 (rs.length:Nat)),(15, .int .i64 (k:Nat)),(6,slv q l.length c),(19,slv q l.length c),(20, .int .i64 (l.length:Nat)),(21, .int .i64 (s.1:Nat))]) (fun s=>[⟨b1,24,[slv (some ⟨gR,oR,none⟩) rs.length cap],true,none⟩,s.2.bx 39 (frC (C8 rs k++Gg l s.1))])
   (fun s=>s.1≤l.length∧s.2.OK 5 ((C8 rs k).length+s.1) (frC (C8 rs k++Gg l s.1))) (fun s=>l.length-s.1) (0,V) ⟨Nat.zero_le _,by show V.OK 5 _ (frC (C8 rs k++[]));rw[List.append_nil];exact hV⟩ ⟨rfl,rfl,rfl,rfl,rfl,rfl,rfl,rfl,rfl,trivial⟩ [] (by show _=[_,V.bx 39 (frC (C8 rs k++[]))]++[];rw[List.append_nil,List.append_nil]) ?_
  rintro⟨i,U⟩ ⟨hi,hU⟩
  have hi:i≤l.length:=hi
  have hU:U.OK 5 ((C8 rs k).length+i) (frC (C8 rs k++Gg l i)):=hU
  refine zA (zB (wP rfl ?_))
  by_cases hil:i<l.length
  ·refine Ab 22 (.bool true) rfl (congrArg Value.bool (decide_eq_true (by omega))) ?_
   refine Aa (zE (zA (zR rfl (zI (zE (zA (zH (zA (zB ?_)))))))))
   obtain⟨gS,oS,hqe,hsd⟩:=hring.row hil
   have hs0:=hsd i hil
   have hs1:=hsd (nxt l.length i) (Ee hil)
   have hnl:=Ee hil
   have hsuc:=SS l i
   subst hqe
   refine wP rfl ?_
   refine wJ ?_
   refine Aw rfl rfl rfl rfl (fun W hp=>Ag.load 0 tH rfl ((fun W1 hp=>hs0.hp hp) W hp) rfl) ?_
   (refine Ao Tryz.hZ rfl rfl rfl rfl ?_;intro)
   refine wP rfl (wS 2 rfl rfl rfl (Aa ?_))
   rename_i b8
   refine zE ?_
   refine BU (X:= { V':Vec//V'.OK 5 ((C8 rs k).length+(i+1)) (frC (C8 rs k++Gg l (i+1))) }) [true,true,true,true,true,true,true,true,true,true,true,false,false,false] (fun V'=>[(1,Ax b1),(4,V'.1.val ((C8 rs k).length+(i+1))),(13,slv (some ⟨gR,oR,none⟩) rs.length cap),(14, .int .i64 (rs.length:Nat)),(15, .int .i64 (k:Nat)),(6,slv (some ⟨gS,oS,none⟩) l.length c),(19,slv (some ⟨gS,oS,none⟩) l.length c),(20, .int .i64 (l.length:Nat)),(21, .int .i64 (i:Nat))])
    (fun V'=>[⟨b1,24,[slv (some ⟨gR,oR,none⟩) rs.length cap],true,none⟩,V'.1.bx 39 (frC (C8 rs k++Gg l (i+1)))])
    3 [⟨b1,24,[slv (some ⟨gR,oR,none⟩) rs.length cap],true,none⟩,U.bx 39 (frC (C8 rs k++Gg l i)),⟨b8,42,(sd l i).cells,true,none⟩] Tryz.mixed (by kernel_rfl) ?_ ?_
   ·refine qP rfl (qB 2 rfl rfl rfl (qP rfl (qP rfl (qP rfl ?_))))
    refine A6 30 (.int .i64 ((i+1:Nat):Int)) rfl (congrArg (Value.int .i64) (A5 (by omega))) ?_
    refine qP rfl (qP rfl ?_)
    refine EN rfl rfl rfl rfl rfl (by omega) ?_
    refine A6 33 (.int .i64 (nxt l.length i:Nat)) rfl (congrArg (Value.int .i64) (by rw[Int.tmod_eq_emod_of_nonneg (by omega)];exact(Int.natCast_emod _ _).symm)) ?_
    refine qJ ?_
    refine Ap rfl rfl rfl rfl (fun W hp=>Ag.load 0 tH rfl ((fun W1 hp=>hs1.hp hp) W hp) rfl) ?_
    refine A9 rfl rfl rfl rfl rfl rfl (by kernel_rfl) (fun W1 hp=>Th (sd l i) (sd l (nxt l.length i)) (hrl _ (List.mem_of_getElem? (DY hil))) W1 (hd.hp hp) (ht.hp hp)) ?_
    refine Dd ?_
    refine wX ?_
    refine RS.cons ?_ (RS.nil)
    refine A0 Tryz.hZ tH rfl rfl rfl rfl rfl rfl rfl rfl rfl rfl rfl fun bN=> ?_
    refine Aa (Al ?_)
    refine wX ?_
    refine RS.cons ?_ (RS.nil)
    refine AP (V:=U) (len:=(C8 rs k).length+i) (xs:=frC (C8 rs k++Gg l i)) 1 3 Tryz.vec29 ((C8 rs k).length+(i+1)) (frC (C8 rs k++Gg l (i+1))) rfl rfl rfl rfl rfl rfl rfl rfl rfl rfl rfl hU rfl rfl rfl (by rw[hsuc, ←List.append_assoc,Sh (C8 rs k++Gg l i)];rfl) (by simp only[maxLen];omega) (by omega) rfl ?_;intro gV cV jV hV1
    refine Aa (Al ?_)
    refine wY ?_
    refine RS.cons ?_ (RS.nil)
    refine wP rfl (Aa (Al ?_))
    refine AJ rfl (by kernel_rfl) ?_
    exact AD ⟨⟨some gV,cV,jV⟩,hV1⟩ ⟨rfl,rfl,rfl,rfl,rfl,rfl,rfl,rfl,rfl,trivial⟩ [0,1] (by decide) rfl
   intro V'
   refine zN (zE (zB (wP rfl ?_)))
   refine Ab 39 (.int .i64 ((i+1:Nat):Int)) rfl (congrArg (Value.int .i64) (A5 (by omega))) ?_
   refine wP rfl (Aa ?_)
   exact As (i+1,V'.1) ⟨hil,V'.2⟩ (by show l.length-(i+1)<l.length-i;omega) ⟨rfl,rfl,rfl,rfl,rfl,rfl,rfl,rfl,rfl,trivial⟩ [] rfl
  have e:i=l.length:=by omega
  subst e
  refine Ab 22 (.bool false) rfl (congrArg Value.bool (decide_eq_false (by omega))) ?_
  refine Aa (zE (zA (zS rfl (zJ (zK (zK (zL (zN (zE (zB ?_))))))))))
  have hall:C8 rs (k+1)=C8 rs k++Gg l l.length:=by rw[hle];rfl
  have hall2:(C8 rs (k+1)).length=(C8 rs k).length+l.length:=by rw[hall,List.length_append,Qr]
  refine wP rfl ?_
  refine Ab 40 (.int .i64 ((k+1:Nat):Int)) rfl (congrArg (Value.int .i64) (A5 (by omega))) ?_
  refine wP rfl (Aa ?_)
  exact As (k+1,U) ⟨hlt,by show U.OK 5 (C8 rs (k+1)).length (frC (C8 rs (k+1)));rw[hall2,hall];exact hU⟩ (by show rs.length-(k+1)<rs.length-k;omega) ⟨rfl,by show some (U.val _)=some (U.val (C8 rs (k+1)).length);rw[hall2],rfl,rfl,rfl,trivial⟩ [] (by show _=[_,U.bx 39 (frC (C8 rs (k+1)))]++[];rw[hall];rfl)
 have e:k=rs.length:=by omega
 subst e
 refine Ab 16 (.bool false) rfl (congrArg Value.bool (decide_eq_false (by omega))) ?_
 refine Aa (zE (zA (zS rfl (zJ (zK (zK (zL (zE (zA (zB (wP rfl (wP rfl (wP rfl ?_)))))))))))))
 refine Aa (zE (zO ?_))
 exact Ar tH rfl (.tmp rfl) (.tmp rfl) V rfl hV fun W1 hp=>Ae.of_hp (hp.pick (l:=[V.bx 39 (frC (C8 rs rs.length))]) [1] (by decide) rfl)
end
section
open Go Go.RowKit Go.Am
theorem MF {n:Nat} {f g:Nat→Bool} (h: ∀i,i<n→f i=g i):(List.range n).all f=(List.range n).all g:=by
 rw[Bool.eq_iff_iff,List.all_eq_true,List.all_eq_true]
 constructor<;>intro h1 i hi
 ·rw[←h i (List.mem_range.1 hi)];exact h1 i hi
 ·rw[h i (List.mem_range.1 hi)];exact h1 i hi
def SK (rs:List (List Sd)):Prop:= ∀l∈rs, ∀s∈l,inR s
theorem Vp {rs:List (List Sd)} (h:rs.flatten.any (fun s=> !rgd s)=false): ∀l∈rs, ∀s∈l,rgd s=true:=fun l hl s hs=>by
 cases hr:rgd s with
 |true=>rfl
 |false=>
  have:rs.flatten.any (fun s=> !rgd s)=true:=List.any_eq_true.2 ⟨s,List.mem_flatten.2 ⟨l,hl,hs⟩,by rw[hr];rfl⟩
  rw[h] at this;cases this
theorem VS {n k:Nat} (h:k<n):nxt n (prv n k)=k:=by
 unfold nxt prv
 cases k with
 |zero=>
  rw[Nat.zero_add,Nat.mod_eq_of_lt (show n-1<n by omega),show n-1+1=n by omega,Nat.mod_self]
 |succ k=>rw[show k+1+n-1=k+n by omega,Nat.add_mod_right,Nat.mod_eq_of_lt (show k<n by omega),Nat.mod_eq_of_lt h]
theorem d64 {a b:Int} (h1:0≤a∧a≤65536) (h2:0≤b∧b≤65536):w64 (a-b)=a-b:=An (by omega) (by omega)
theorem EH {l:List Sd} (hr: ∀s∈l,inR s) (h:shp l=true) {i:Nat} (hi:i<l.length):
  ¬(((sd l (nxt l.length i)).x-(sd l i).x=0)↔((sd l (nxt l.length i)).y-(sd l i).y=0))∧ ¬(((sd l i).x-(sd l (prv l.length i)).x=0)↔((sd l (nxt l.length i)).x-(sd l i).x=0)):=by
 unfold shp at h
 obtain⟨_,h⟩:=Bool.and_eq_true_iff.1 h
 have h1:=List.all_eq_true.1 h i (List.mem_range.2 hi)
 obtain⟨s1,s2,s3,s4⟩:=CG hr hi
 obtain⟨n1,n2,n3,n4⟩:=CG hr (Ee hi)
 obtain⟨p1,p2,p3,p4⟩:=CG hr (FC hi)
 unfold Gx Rv at h1
 rw[d64 ⟨n1,n2⟩ ⟨s1,s2⟩,d64 ⟨n3,n4⟩ ⟨s3,s4⟩,d64 ⟨s1,s2⟩ ⟨p1,p2⟩] at h1
 obtain⟨h2,h3⟩:=Bool.and_eq_true_iff.1 h1
 refine⟨fun e=> ?_,fun e=> ?_⟩
 ·have:(((sd l (nxt l.length i)).x-(sd l i).x==0)==((sd l (nxt l.length i)).y-(sd l i).y==0))=true:=by rw[beq_iff_eq,Bool.eq_iff_iff,beq_iff_eq,beq_iff_eq];exact e
  rw[this] at h2;cases h2
 ·have:(((sd l i).x-(sd l (prv l.length i)).x==0)==((sd l (nxt l.length i)).x-(sd l i).x==0))=true:=by rw[beq_iff_eq,Bool.eq_iff_iff,beq_iff_eq,beq_iff_eq];exact e
  rw[this] at h3;cases h3
theorem RU {l:List Sd} (h:shp l=true):4≤l.length:=by
 unfold shp at h
 exact of_decide_eq_true (Bool.and_eq_true_iff.1 h).1
theorem Wx {l:List Sd} (hr: ∀s∈l,inR s) (h4:4≤l.length)
  (h: ∀i,i<l.length→ ¬(((sd l (nxt l.length i)).x-(sd l i).x=0)↔((sd l (nxt l.length i)).y-(sd l i).y=0))∧ ¬(((sd l i).x-(sd l (prv l.length i)).x=0)↔((sd l (nxt l.length i)).x-(sd l i).x=0))):shp l=true:=by
 unfold shp
 rw[decide_eq_true h4,Bool.true_and,List.all_eq_true]
 intro i hi
 have hi:=List.mem_range.1 hi
 obtain⟨h1,h2⟩:=h i hi
 obtain⟨s1,s2,s3,s4⟩:=CG hr hi
 obtain⟨n1,n2,n3,n4⟩:=CG hr (Ee hi)
 obtain⟨p1,p2,p3,p4⟩:=CG hr (FC hi)
 unfold Gx Rv
 rw[d64 ⟨n1,n2⟩ ⟨s1,s2⟩,d64 ⟨n3,n4⟩ ⟨s3,s4⟩,d64 ⟨s1,s2⟩ ⟨p1,p2⟩]
 have e1:(((sd l (nxt l.length i)).x-(sd l i).x==0)==((sd l (nxt l.length i)).y-(sd l i).y==0))=false:=by
  rw[Bool.eq_false_iff];intro e;rw[beq_iff_eq,Bool.eq_iff_iff,beq_iff_eq,beq_iff_eq] at e;exact h1 e
 have e2:(((sd l i).x-(sd l (prv l.length i)).x==0)==((sd l (nxt l.length i)).x-(sd l i).x==0))=false:=by
  rw[Bool.eq_false_iff];intro e;rw[beq_iff_eq,Bool.eq_iff_iff,beq_iff_eq,beq_iff_eq] at e;exact h2 e
 rw[e1,e2];rfl
theorem Xs {a b:Int} (h1: -65536≤a∧a≤65536) (h2: -65536≤b∧b≤65536): -4294967296≤a*b∧a*b≤4294967296:=by
 have h:(a*b).natAbs≤65536*65536:=by
  rw[Int.natAbs_mul]
  exact Nat.mul_le_mul (by omega) (by omega)
 omega
theorem Uv {s t u:Sd} (hs:inR s) (ht:inR t) (hu:inR u):GS s t u=decide ((t.x-s.x)*(u.y-t.y)-(t.y-s.y)*(u.x-t.x)>0):=by
 obtain⟨s1,s2,s3,s4⟩:=hs
 obtain⟨t1,t2,t3,t4⟩:=ht
 obtain⟨u1,u2,u3,u4⟩:=hu
 unfold GS
 rw[d64 ⟨t1,t2⟩ ⟨s1,s2⟩,d64 ⟨u3,u4⟩ ⟨t3,t4⟩,d64 ⟨t3,t4⟩ ⟨s3,s4⟩,d64 ⟨u1,u2⟩ ⟨t1,t2⟩]
 have m1:=Xs (a:=t.x-s.x) (b:=u.y-t.y) (by omega) (by omega)
 have m2:=Xs (a:=t.y-s.y) (b:=u.x-t.x) (by omega) (by omega)
 rw[An (x:=(t.x-s.x)*_) (by omega) (by omega),An (x:=(t.y-s.y)*_) (by omega) (by omega),An (by omega) (by omega)]
theorem MT (rs:List (List Sd)) (m:Nat): ∀d, ∃t,AH rs (m+d)=AH rs m++t
 |0=>⟨[],by simp⟩
 |d+1=>by
  obtain⟨t,h⟩:=MT rs m d
  refine⟨t++Bg (m+d) (rg rs (m+d)).length, ?_⟩
  show AH rs (m+d)++Bg (m+d) (rg rs (m+d)).length=_
  rw[h,List.append_assoc]
theorem HH {rs:List (List Sd)} {r i:Nat} (hr:r<rs.length) (hi:i<(rg rs r).length):pl rs (tot (rs.take r)+i)=(r,i):=by
 obtain⟨t,h⟩:=MT rs (r+1) (rs.length-(r+1))
 rw[show r+1+(rs.length-(r+1))=rs.length by omega] at h
 have h2:AH rs (r+1)=AH rs r++Bg r (rg rs r).length:=rfl
 have hlen:=H6 rs r (by omega)
 unfold pl
 rw[List.getD_eq_getElem?_getD,h,h2,List.append_assoc,List.getElem?_append_right (by omega),hlen,Nat.add_sub_cancel_left,List.getElem?_append_left (by simp[Bg];exact hi)]
 simp[Bg,hi]
theorem Rm {rs:List (List Sd)} {r i:Nat} (hr:r<rs.length) (hi:i<(rg rs r).length):tot (rs.take r)+i<tot rs:=by
 have h1:=Bm hr
 have h2:=Cn rs (r+1)
 omega
theorem Jy (t u t' u':Sd):DT t u t' u'=DT t' u' t u:=by
 unfold DT
 rw[Bool.eq_iff_iff]
 simp only[Bool.and_eq_true,decide_eq_true_eq]
 omega
theorem St {rs:List (List Sd)} (h:crs rs=false) {r i s k:Nat} (hr:r<rs.length) (hi:i<(rg rs r).length) (hs:s<rs.length) (hk:k<(rg rs s).length) (hne:r≠s):
  DT (bsd rs (r,i)) (esd rs (r,i)) (bsd rs (s,k)) (esd rs (s,k))=false:=by
 have one: ∀ {a b:Nat×Nat} {j j':Nat},pl rs j=a→pl rs j'=b→j<tot rs→j'<j→a.1≠b.1→DT (bsd rs a) (esd rs a) (bsd rs b) (esd rs b)=false:=by
  intro a b j j' ha hb hj hj' hab
  have h1:((List.range j).any fun k=>CH rs (pl rs j) (pl rs k))=false:=by
   cases he:((List.range j).any fun k=>CH rs (pl rs j) (pl rs k)) with
   |false=>rfl
   |true=>
    have:crs rs=true:=List.any_eq_true.2 ⟨j,List.mem_range.2 hj,he⟩
    rw[h] at this;cases this
  have h2:CH rs (pl rs j) (pl rs j')=false:=by
   cases he:CH rs (pl rs j) (pl rs j') with
   |false=>rfl
   |true=>
    have:((List.range j).any fun k=>CH rs (pl rs j) (pl rs k))=true:=List.any_eq_true.2 ⟨j',List.mem_range.2 hj',he⟩
    rw[h1] at this;cases this
  rw[ha,hb] at h2
  unfold CH nbB at h2
  rw[beq_eq_false_iff_ne.2 hab] at h2
  simpa using h2
 have hj:=Rm hr hi
 have hj':=Rm hs hk
 rcases Nat.lt_trichotomy (tot (rs.take s)+k) (tot (rs.take r)+i) with hlt|heq|hgt
 ·exact one (HH hr hi) (HH hs hk) hj hlt hne
 ·have h1:=HH hr hi
  rw[←heq,HH hs hk] at h1
  exact absurd (congrArg Prod.fst h1).symm hne
 ·rw[Jy]
  exact one (HH hs hk) (HH hr hi) hj' hgt (fun e=>hne e.symm)
end
section
open Go Go.RowKit Go.Am Go.Lib
set_option maxRecDepth 10000
-- BOXES 4
theorem Q2 (f:FrP) (h:f.OK) (t:Rat) (hz:szQ t 36) (W:World) (hv:BJ W) (ht:AV W):
  Aj Tryz.prog 38 #[frV f,str (Ai t)] W (fun _:Unit=> .tuple #[str (Ai (f.at t)), .int .i64 0]) (fun _=>True) (fun _=>[]):=by
 refine Ad (args:=[frV f,str (Ai t)]) Tryz.func38 rfl rfl rfl ?_
 refine zA (zB ?_)
 (refine A8 rfl rfl rfl rfl ?_;intro)
 refine wP rfl (wP rfl (Aa ?_))
 rename_i b2
 refine zE (zA (zA (zB (wB 0 rfl rfl rfl (wP rfl ?_)))))
 refine A0 Tryz.hZ tH rfl rfl rfl rfl rfl rfl rfl rfl rfl rfl rfl fun bS=> ?_
 refine Ac rfl rfl rfl rfl rfl rfl (by kernel_rfl) (fun W hp=>Iu f h t hz bS W (hv.hp hp) (ht.hp hp) (Ag.of_bx hp 1 rfl rfl)) ?_
 refine wP rfl (Aa (zE (zA (zB (wP rfl (wP rfl (Aa (zE (zS rfl (zI (zE (zA (zB ?_)))))))))))))
 refine wB 0 rfl rfl rfl (wP rfl ?_)
 refine Ac rfl rfl rfl rfl rfl rfl (by kernel_rfl) (fun W hp=>Kp f h t hz W (hv.hp hp) (ht.hp hp)) ?_
 refine wP rfl (wP rfl (Aa (zE (zO ?_))))
 exact Ar tH rfl (.tmp rfl) (.tmp rfl) () rfl trivial fun W _=>Ae.nil _ _
def FrP.speed (f:FrP) (t:Rat):Rat:=if t<f.st then 0 else f.sp
theorem NS (f:FrP) (h:f.OK) (t:Rat) (hz:szQ t 36) (W:World) (hv:BJ W) (ht:AV W):
  Aj Tryz.prog 77 #[frV f,str (Ai t)] W (fun _:Unit=> .tuple #[str (Ai (f.speed t)), .int .i64 0]) (fun _=>True) (fun _=>[]):=by
 have z1:=sz2 hz h.st (by decide)
 refine Ad (args:=[frV f,str (Ai t)]) Tryz.func77 rfl rfl rfl ?_
 refine zA (zB ?_)
 (refine A8 rfl rfl rfl rfl ?_;intro)
 refine wP rfl (wP rfl (Aa ?_))
 rename_i b2
 refine zE (zA (zA (zB (wB 0 rfl rfl rfl (wP rfl ?_)))))
 refine A0 Tryz.hZ tH rfl rfl rfl rfl rfl rfl rfl rfl rfl rfl rfl fun bS=> ?_
 refine Ac rfl rfl rfl rfl rfl rfl (by kernel_rfl) (fun W hp=>Iu f h t hz bS W (hv.hp hp) (ht.hp hp) (Ag.of_bx hp 1 rfl rfl)) ?_
 refine wP rfl (Aa (zE (zA (zB (wP rfl (wP rfl (Aa (zE (zS rfl (zI (zE (zA (zA ?_)))))))))))))
 refine zB (wP rfl (wP rfl (wB 0 rfl rfl rfl ?_)))
 refine Ac rfl rfl rfl rfl rfl rfl (by kernel_rfl) (fun W hp=>Cu t f.st z1 W (hv.hp hp) (ht.hp hp)) ?_
 refine wP rfl ?_
 refine Ab 18 (.bool (decide (t<f.st))) rfl (congrArg Value.bool (Mf t f.st)) ?_
 refine Aa (zE ?_)
 refine Ak rfl (fun hc=> ?_) (fun hc=> ?_)
 ·have hc:=of_decide_eq_true hc
  refine zA (zB (wP rfl (wP rfl (Aa (zE (zO (zP ?_)))))))
  exact Ar tH rfl (.tmp rfl) (.tmp rfl) () (by rw[FrP.speed,if_pos hc,DU]) trivial fun W _=>Ae.nil _ _
 ·have hc:=of_decide_eq_false hc
  refine zI (zE (zA (zB (wP rfl (wB 0 rfl rfl rfl (wP rfl (wP rfl (Aa (zE (zO ?_))))))))))
  exact Ar tH rfl (.tmp rfl) (.tmp rfl) () (by rw[FrP.speed,if_neg hc]) trivial fun W _=>Ae.nil _ _
-- BOXES 4
def FrP.velB (f:FrP) (t:Rat):Rat:=if f.st<t then f.vel else 0
def FrP.velA (f:FrP) (t:Rat):Rat:=if t<f.st then 0 else f.vel
theorem Fv (f:FrP) (h:f.OK) (t:Rat) (k:Nat) (hz:szQ t k) (hk:k+36+1≤300) (W:World) (hv:BJ W) (ht:AV W):
  Aj Tryz.prog 126 #[frV f,str (Ai t)] W (fun _:Unit=> .tuple #[str (Ai (f.velB t)),str (Ai (f.velA t))]) (fun _=>True) (fun _=>[]):=by
 have z1:=sz2 hz h.st hk
 refine Ad (args:=[frV f,str (Ai t)]) Tryz.func126 rfl rfl rfl ?_
 refine zA (zB ?_)
 (refine A8 rfl rfl rfl rfl ?_;intro)
 refine wP rfl (wP rfl (Aa ?_))
 rename_i b2
 refine zE (zA (zA (zB (wP rfl (wP rfl (wB 0 rfl rfl rfl ?_))))))
 by_cases c1:t<f.st
 ·have n1: ¬f.st<t:=fun e=>Rat.not_le.2 c1 (Rat.le_of_lt e)
  refine Ac rfl rfl rfl rfl rfl rfl (by kernel_rfl) (fun W hp=>(Cu t f.st z1 W (hv.hp hp) (ht.hp hp)).cast (by rw[E6,if_pos c1])) ?_
  refine Aa (zE (zH (zA (zB (wP rfl (wP rfl (Aa (zE (zR rfl (zA (zB (wP rfl (wP rfl ?_)))))))))))))
  refine Aa (zE (zO (zQ (zP ?_))))
  exact Ar tH rfl (.tmp rfl) (.tmp rfl) () (by rw[FrP.velB,FrP.velA,if_neg n1,if_pos c1,DU]) trivial fun W _=>Ae.nil _ _
 ·by_cases c2:t=f.st
  ·have n1: ¬f.st<t:=fun e=>by rw[c2] at e;exact Rat.lt_irrefl e
   refine Ac rfl rfl rfl rfl rfl rfl (by kernel_rfl) (fun W hp=>(Cu t f.st z1 W (hv.hp hp) (ht.hp hp)).cast (by rw[E6,if_neg c1,if_pos c2])) ?_
   refine Aa (zE (zH (zA (zB (wP rfl (wP rfl (Aa (zE (zS rfl (zA (zB (wP rfl (wP rfl ?_)))))))))))))
   refine Aa (zE (zR rfl (zA (zB (wB 0 rfl rfl rfl ?_)))))
   refine Ac rfl rfl rfl rfl rfl rfl (by kernel_rfl) (fun W hp=>Ch f h W (hv.hp hp) (ht.hp hp)) ?_
   refine wP rfl (wP rfl (Aa (zE (zO (zQ (zP ?_))))))
   exact Ar tH rfl (.tmp rfl) (.tmp rfl) () (by rw[FrP.velB,FrP.velA,if_neg n1,if_neg c1,DU]) trivial fun W _=>Ae.nil _ _
  ·have c3:f.st<t:=Decidable.byContradiction fun h=>c2 (Rat.le_antisymm (Rat.not_lt.1 h) (Rat.not_lt.1 c1))
   refine Ac rfl rfl rfl rfl rfl rfl (by kernel_rfl) (fun W hp=>(Cu t f.st z1 W (hv.hp hp) (ht.hp hp)).cast (by rw[E6,if_neg c1,if_neg c2])) ?_
   refine Aa (zE (zH (zA (zB (wP rfl (wP rfl (Aa (zE (zS rfl (zA (zB (wP rfl (wP rfl ?_)))))))))))))
   refine Aa (zE (zS rfl (zI (zN (zE (zA ?_))))))
   refine zT Tryz.mixed (by kernel_rfl) ?_
   refine qB 0 rfl rfl rfl ?_
   refine A9 rfl rfl rfl rfl rfl rfl (by kernel_rfl) (fun W hp=>Ch f h W (hv.hp hp) (ht.hp hp)) ?_
   refine qB 0 rfl rfl rfl ?_
   refine A9 rfl rfl rfl rfl rfl rfl (by kernel_rfl) (fun W hp=>Ch f h W (hv.hp hp) (ht.hp hp)) ?_
   refine qP rfl (qP rfl (AE (Aa (zE (zO ?_)))))
   exact Ar tH rfl (.tmp rfl) (.tmp rfl) () (by rw[FrP.velB,FrP.velA,if_pos c3,if_neg c1]) trivial fun W _=>Ae.nil _ _
-- BOXES 2
theorem TQ (a b:List UInt8):((⟨a.toArray⟩:ByteArray).toList==(⟨b.toArray⟩:ByteArray).toList)=decide (a=b):=AR a b
theorem Jc (W:World) (p q:Option Addr) (cap cap2:Nat) (xs ys:List (List UInt8)) (hA:Fz W p xs) (hB:Fz W q ys) (hn:xs.length<4611686018427387904) (hm:ys.length<4611686018427387904):
  Aj Tryz.prog 43 #[slv p xs.length cap,slv q ys.length cap2] W (fun _:Unit=> .bool (decide (xs=ys))) (fun _=>True) (fun _=>[]):=by
 refine Ad (args:=[slv p xs.length cap,slv q ys.length cap2]) Tryz.func43 rfl rfl rfl ?_
 refine zA (zB (wP rfl (Aa (zE (zA (zA (zB ?_)))))))
 iterate 5 refine wP rfl ?_
 by_cases hl:xs.length=ys.length
 ·refine Ab 10 (.bool false) rfl (congrArg Value.bool (by rw[hl];simp)) ?_
  refine Aa (zE (zS rfl (zI (zE (zA (zA (zB (wP rfl (wP rfl (wP rfl (Aa (AC ?_))))))))))))
  refine AK (X:=Unit) (fun _=>[(4, .bool false)]) (fun _=>[]) (fun _=>xs=ys) ?_ ?_
  ·refine BI ?_
   refine Av (X:=Nat) (fun i=>[(0,slv p xs.length cap),(1,slv q ys.length cap2),(4, .bool false),(12, .int .i64 (xs.length:Nat)),(13, .int .i64 (i:Nat))]) (fun _=>[]) (fun i=>i≤xs.length∧xs.take i=ys.take i) (fun i=>xs.length-i) 0 ⟨Nat.zero_le _,rfl⟩ ⟨rfl,rfl,rfl,rfl,rfl,trivial⟩ [] rfl ?_
   rintro i ⟨hi,he⟩
   refine zA (zB (wP rfl ?_))
   by_cases hlt:i<xs.length
   ·refine Ab 14 (.bool true) rfl (congrArg Value.bool (decide_eq_true (by omega))) ?_
    refine Aa (zE (zA (zR rfl (zI (zE (zA (zH (zA (zB ?_)))))))))
    obtain⟨pb,po,rfl,hr1⟩:=hA.row hlt
    obtain⟨qb,qo,rfl,hr2⟩:=hB.row (show i<ys.length by omega)
    refine wP rfl (wP rfl (Aa (zE (zA ?_))))
    refine zT Tryz.mixed (by kernel_rfl) ?_
    refine qP rfl (qP rfl ?_)
    refine qJ ?_
    refine Ap rfl rfl rfl rfl (fun W hp=>Ag.load 0 tH rfl ((fun W hp=>(hr1 i hlt).hp hp) W hp) rfl) ?_
    refine qP rfl (qP rfl ?_)
    refine qJ ?_
    refine Ap rfl rfl rfl rfl (fun W hp=>Ag.load 0 tH rfl ((fun W hp=>(hr2 i (by omega)).hp hp) W hp) rfl) ?_
    refine qP rfl ?_
    by_cases hx:xs[i]=ys[i]
    ·refine A6 24 (.bool false) rfl (congrArg Value.bool (by show(!_)=false;rw[TQ,decide_eq_true hx];rfl)) ?_
     refine AE (Aa (zE (zS rfl (zI (zN (zE (zB (wP rfl ?_))))))))
     refine Ab 25 (.int .i64 ((i+1:Nat):Int)) rfl (congrArg (Value.int .i64) (A5 (by omega))) ?_
     refine wP rfl (Aa ?_)
     exact As (i+1) ⟨hlt,by rw[List.take_add_one,List.take_add_one,he,List.getElem?_eq_getElem hlt,List.getElem?_eq_getElem (by omega),hx]⟩ (by show xs.length-(i+1)<xs.length-i;omega) ⟨rfl,rfl,rfl,rfl,rfl,trivial⟩ [] rfl
    ·refine A6 24 (.bool true) rfl (congrArg Value.bool (by show(!_)=true;rw[TQ,decide_eq_false hx];rfl)) ?_
     refine AE (Aa (zE (zR rfl (zA (zB (wP rfl (Aa (zE (zO (zQ (zP (zP (zQ ?_)))))))))))))
     refine zP ?_
     exact Af tH rfl (.tmp rfl) () (by rw[decide_eq_false fun e=>hx (by subst e;rfl)]) trivial fun W _=>Ae.nil _ _
   ·refine Ab 14 (.bool false) rfl (congrArg Value.bool (decide_eq_false (by omega))) ?_
    refine Aa (zE (zA (zS rfl (zJ (zK (zK (zL ?_)))))))
    exact At () (by rw[List.take_of_length_le (by omega),List.take_of_length_le (by omega)] at he;exact he) ⟨rfl,trivial⟩ [] rfl
  ·intro _ he
   have he:xs=ys:=he
   refine zA (zB (wP rfl (Aa (zE (zO ?_)))))
   exact Af tH rfl (.tmp rfl) () (by rw[decide_eq_true he]) trivial fun W _=>Ae.nil _ _
 ·refine Ab 10 (.bool true) rfl (congrArg Value.bool (by rw[bne_iff_ne];omega)) ?_
  refine Aa (zE (zR rfl (zA (zB (wP rfl (Aa (zE (zO (zP ?_)))))))))
  exact Af tH rfl (.tmp rfl) () (by rw[decide_eq_false fun e=>hl (by rw[e])]) trivial fun W _=>Ae.nil _ _
-- BOXES 4
abbrev frB (b:Nat) (f:FrP):Bx:=⟨b,39,(frV f).cells.toList,true,none⟩
theorem L0 (f g:FrP) (W:World):Aj Tryz.prog 125 #[frV f,frV g] W (fun x:Nat×Nat=> .func (.func 196) #[] #[Ax x.1,Ax x.2]) (fun _=>True) (fun x=>[frB x.1 f,frB x.2 g]):=by
 refine Ad (args:=[frV f,frV g]) Tryz.func125 rfl rfl rfl ?_
 repeat (first|refine zA ?_|refine zB ?_|refine zC ?_|refine zD ?_|refine zE ?_|refine zF ?_|refine zG ?_|refine zH ?_|refine zI ?_|refine zJ ?_|refine zK ?_|refine zL ?_|refine zM rfl ?_|refine zN ?_|refine zO ?_|refine zP ?_|refine zQ ?_|refine zR rfl ?_|refine zS rfl ?_|refine zT Tryz.mixed (by kernel_rfl) ?_)
 (refine A8 rfl rfl rfl rfl ?_;intro)
 (refine A8 rfl rfl rfl rfl ?_;intro)
 refine wP rfl (Aa ?_)
 rename_i b2 b3
 repeat (first|refine zA ?_|refine zB ?_|refine zC ?_|refine zD ?_|refine zE ?_|refine zF ?_|refine zG ?_|refine zH ?_|refine zI ?_|refine zJ ?_|refine zK ?_|refine zL ?_|refine zM rfl ?_|refine zN ?_|refine zO ?_|refine zP ?_|refine zQ ?_|refine zR rfl ?_|refine zS rfl ?_|refine zT Tryz.mixed (by kernel_rfl) ?_)
 refine wP rfl (wP rfl (Aa ?_))
 repeat (first|refine zA ?_|refine zB ?_|refine zC ?_|refine zD ?_|refine zE ?_|refine zF ?_|refine zG ?_|refine zH ?_|refine zI ?_|refine zJ ?_|refine zK ?_|refine zL ?_|refine zM rfl ?_|refine zN ?_|refine zO ?_|refine zP ?_|refine zQ ?_|refine zR rfl ?_|refine zS rfl ?_|refine zT Tryz.mixed (by kernel_rfl) ?_)
 exact Af tH rfl (.tmp rfl) (b2,b3) rfl trivial fun W hp=>Ae.of_hp hp
def Dk (f g:FrP):Rat:=(g.pos:Rat)-(f.pos:Rat)
def AY (f g:FrP):List Rat:=
 [f.st,g.st]++(if f.vel=0 then[] else[f.st+Dk f g/f.vel])++(if g.vel=0 then[] else[g.st-Dk f g/g.vel])++
 (if f.vel=g.vel then[] else[(Dk f g+(f.vel*f.st-g.vel*g.st))/(f.vel-g.vel)])
theorem Sp (f g:FrP):(AY f g).length≤5:=by
 unfold AY
 by_cases h1:f.vel=0<;>by_cases h2:g.vel=0<;>by_cases h3:f.vel=g.vel<;>simp only[h1,h2,h3,if_true,if_false]<;>(try split)<;>simp
end
section
def GE (x:Rat):List Rat→List Rat
 |[]=>[x]
 |y::l=>if x<y then x::y::l else y::GE x l
def B9 (l:List Rat):List Rat:=l.foldl (fun s x=>GE x s) []
theorem Qp (x:Rat): ∀l,(GE x l).length=l.length+1
 |[]=>rfl
 |y::l=>by
  unfold GE
  split
  ·rfl
  ·simp[Qp x l]
theorem LQ {x z:Rat}: ∀ {l},z∈GE x l↔z=x∨z∈l
 |[]=>by simp[GE]
 |y::l=>by
  unfold GE
  split
  ·simp
  ·rw[List.mem_cons,LQ,List.mem_cons]
   constructor
   ·rintro(h|h|h)
    ·exact .inr (.inl h)
    ·exact .inl h
    ·exact .inr (.inr h)
   ·rintro(h|h|h)
    ·exact .inr (.inl h)
    ·exact .inl h
    ·exact .inr (.inr h)
theorem Kj {x:Rat}: ∀ {l},l.Pairwise (· ≤ ·)→(GE x l).Pairwise (· ≤ ·)
 |[],_=>by simp[GE]
 |y::l,h=>by
  have h2:=List.pairwise_cons.1 h
  unfold GE
  split
  ·rename_i hxy
   refine List.pairwise_cons.2 ⟨fun z hz=> ?_,h⟩
   rcases List.mem_cons.1 hz with rfl|hz
   ·exact Rat.le_of_lt hxy
   ·exact Rat.le_trans (Rat.le_of_lt hxy) (h2.1 z hz)
  ·rename_i hxy
   refine List.pairwise_cons.2 ⟨fun z hz=> ?_,Kj h2.2⟩
   rcases LQ.1 hz with rfl|hz
   ·exact Rat.not_lt.1 hxy
   ·exact h2.1 z hz
theorem O2 (l:List Rat):(B9 l).Pairwise (· ≤ ·):=by
 have: ∀(l s:List Rat),s.Pairwise (· ≤ ·)→(l.foldl (fun s x=>GE x s) s).Pairwise (· ≤ ·):=by
  intro l
  induction l with
  |nil=>exact fun s h=>h
  |cons x l ih=>exact fun s h=>ih _ (Kj h)
 exact this l [] List.Pairwise.nil
theorem No {z:Rat} {l:List Rat}:z∈B9 l↔z∈l:=by
 have: ∀(l s:List Rat),z∈l.foldl (fun s x=>GE x s) s↔z∈l∨z∈s:=by
  intro l
  induction l with
  |nil=>exact fun s=>by simp
  |cons x l ih=>
   intro s
   rw[List.foldl_cons,ih,LQ,List.mem_cons]
   constructor
   ·rintro(h|h|h)
    ·exact .inl (.inr h)
    ·exact .inl (.inl h)
    ·exact .inr h
   ·rintro((h|h)|h)
    ·exact .inr (.inl h)
    ·exact .inl h
    ·exact .inr (.inr h)
 rw[B9,this];simp
end
section
def Be:List Rat→List Rat
 |[]=>[]
 |[x]=>[x]
 |x::y::l=>if y=x then Be (x::l) else x::Be (y::l)
termination_by l=>l.length
theorem Su {z:Rat} (l:List Rat):z∈Be l↔z∈l:=by
 fun_induction Be l with
 |case1=>exact Iff.rfl
 |case2 x=>exact Iff.rfl
 |case3 x l ih=>rw[ih];simp
 |case4 x y l h ih=>rw[List.mem_cons,ih,List.mem_cons (b:=x)]
end
section
def HF (f g:FrP) (t:Rat):Bool:=decide (f.at t=g.at t)&&(decide (f.velB t≠g.velB t)||decide (f.velA t≠g.velA t))
def eqL (f g:FrP):List Rat:=Be (B9 ((AY f g).filter (HF f g)))
theorem VO {f g:FrP} {t:Rat}:t∈eqL f g↔t∈AY f g∧HF f g t=true:=by
 rw[eqL,Su,No,List.mem_filter]
theorem SC {f g:FrP} {t:Rat}:t∈AY f g↔t=f.st∨t=g.st∨(f.vel≠0∧t=f.st+Dk f g/f.vel)∨(g.vel≠0∧t=g.st-Dk f g/g.vel)∨
  (f.vel≠g.vel∧t=(Dk f g+(f.vel*f.st-g.vel*g.st))/(f.vel-g.vel)):=by
 unfold AY
 by_cases h1:f.vel=0<;>by_cases h2:g.vel=0<;>by_cases h3:f.vel=g.vel<;>simp only[h1,h2,h3,if_true,if_false,List.mem_append,List.mem_cons,List.not_mem_nil,or_false,false_or,ne_eq,not_true,not_false_eq_true,true_and,false_and,or_assoc]<;>(try split)<;>simp_all
end
section
open Go Go.RowKit Go.Am Go.Lib
set_option maxRecDepth 10000
theorem Xk {z d:Int} (hz:0≤z) (hd:0<d):0≤(nrm z d).num:=by
 obtain⟨e,rfl⟩: ∃e:Nat,d=((e+1:Nat):Int):=⟨(d-1).toNat,by omega⟩
 unfold nrm
 rw[if_neg (by omega),mkRat,dif_neg (by omega),Rat.normalize_eq]
 exact Int.ediv_nonneg hz (by omega)
theorem W5 {s t:Sd} (h:rgd s=true):(frO s t).OK:=by
 obtain⟨hx,hy,hp,hr⟩:=EE h
 refine⟨?_, ?_, ?_, ?_, ?_, ?_⟩
 ·show 0≤(if _ then s.x else s.y);split<;>omega
 ·show(if _ then s.x else s.y)≤65536;split<;>omega
 ·show Na _=1∨Na _= -1
  unfold Na;split
  ·exact .inl rfl
  ·exact .inr rfl
 ·show szQ (if s.gable then(0:Rat) else nrm s.run s.rise) 36
  cases hg:s.gable with
  |true=>rw[if_pos rfl];exact⟨by decide,by decide⟩
  |false=>
   obtain⟨h1,h2⟩:=hr hg
   rw[if_neg (by decide)]
   exact szQ.mono (k:=2) (H9 _ (by omega) (by show _<100;omega) (by show _<100;omega)) (by decide)
 ·exact szQ.mono (k:=5) (Ft (by show _<100000;omega) (by decide)) (by decide)
 ·show 0≤(if s.gable then(0:Rat) else nrm s.run s.rise).num
  cases hg:s.gable with
  |true=>rw[if_pos rfl];decide
  |false=>
   obtain⟨h1,h2⟩:=hr hg
   rw[if_neg (by decide)]
   exact Xk (by omega) (by omega)
end
end Go.Proofs.YtlagebbefnnnnaaGreatDoor
