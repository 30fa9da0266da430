/-
  Lemmas that the theorem frontPlans_upto_card needs (part 5 of 7).
-/
import Derived.Test.YtmblgcglonikiaaGreatDoorFqd
set_option maxHeartbeats 64000000
namespace Go.Proofs.YtmblgcglonikiaaGreatDoor
section
open Go Go.RowKit Go.Am Go.Lib
set_option maxRecDepth 10000
-- BOXES 1
-- CODE2
theorem LK (p q:Rat) (h:Sz2 p q) (W:World) (ht:AH W):
  Ae Tryz.prog 201 #[str (Ac p),str (Ac q)] W (fun _:Unit=> .tuple #[str (Ac (p+q)), .int .i64 0]) (fun _=>True) (fun _=>[]):=by
 have hpn:=p.den_pos
 have hqn:=q.den_pos
 have ra:=Kj p q
 refine Ab (args:=[str (Ac p),str (Ac q)]) Tryz.func201 I I I ?_
 refine zA (zB (wP I (wP I (Aa (zE (zA (zB (wP I (wC I I (fun W _=>Cp h.okp W) ?_)))))))))
 iterate 7 refine wP I ?_
 refine Aa (zE (zA (zB (wP I (wC I I (fun W _=>Cp h.okq W) ?_)))))
 iterate 7 refine wP I ?_
 refine Aa (As (An (An ?_)))
 refine Av (X:=Unit) (fun _=>[(0,str (Ac p)),(1,str (Ac q)),(6, .int .i64 (iN p)),(7, .int .i64 (iD p)),(9, .int .i64 (iN q)),(10, .int .i64 (iD q)),(37, .bool (sh2 p q))]) (fun _=>[]) (fun _=>True) ?_ ?_
 ·refine zB (wP I (wP I ?_))
  refine A6 35 I (fun h35=> ?_) (fun h35=> ?_)
  ·exact wP I (wP I (Aa (Ag () O ⟨I,I,I,I,I,I,congrArg (fun b=>some (Value.bool b)) (by unfold sh2;simp_all),O⟩ [] I)))
  ·refine Ad I I ?_
   exact wP I (Aa (Ag () O ⟨I,I,I,I,I,I,congrArg (fun b=>some (Value.bool b)) (by unfold sh2;simp_all),O⟩ [] I))
 intro _ _
 refine Af I (fun hs=> ?_) (fun hs=> ?_)
 ·obtain⟨e1,e2,e3,e4,l1,l2,l3,l4⟩:=H2 hs
  have m1:=Om l1 (G8 l4)
  have m2:=Om l3 (G8 l2)
  have m3:=Om (G8 l2) (G8 l4)
  have hdd:((p.den:Nat):Int)*((q.den:Nat):Int)=((p.den*q.den:Nat):Int):=(Int.natCast_mul _ _).symm
  rw[hdd,Int.natAbs_natCast] at m3
  have hpq:=Nat.mul_pos hpn hqn
  rw[hdd,QW _ hpq] at ra
  refine zA (zB (wP I (wP I (wP I (wV 40 (p.num*(q.den:Nat)) I (by rw[e1,e4];exact DK l1 (G8 l4)) (wP I (wP I (wP I (wV 43 (q.num*(p.den:Nat)) I (by rw[e3,e2];exact DK l3 (G8 l2)) (wP I (wV 44 (p.num*(q.den:Nat)+q.num*(p.den:Nat)) I (Ai (by omega) (by omega)) (wP I (wP I (wP I ?_))))))))))))))
  exact wV 47 ((p.den*q.den:Nat):Int) I (by rw[e2,e4, ←hdd];exact DK (G8 l2) (G8 l4)) (wC I I (fun W _=>(CS (p.num*(q.den:Nat)+q.num*(p.den:Nat)) (p.den*q.den) (by omega) hpq (by omega) W).cast (v':=str (Ac (p+q))) (by rw[ra])) (wP I (wP I (Aa (zE (zO (zP (wR2 I I I))))))))
 ·have hd0:((p.den:Nat):Int)*((q.den:Nat):Int)≠0:=Int.mul_ne_zero (by omega) (by omega)
  refine zI (zE (zA (zB (wP I (wC I I (fun W _=>Ce h.okp W) ?_)))))
  iterate 5 refine wP I ?_
  refine Aa (zE (zA (zB (wP I (wC I I (fun W _=>Ce h.okq W) ?_)))))
  iterate 5 refine wP I ?_
  refine Aa (zE (zA (zB (wP I (wP I (wP I (wP I (wC I I (fun W1 hp=>E4 p.num (q.den:Nat) q.num (p.den:Nat) h.okp.1 h.okq.2 h.okq.1 h.okp.2 h.c1 h.c2 W1 (ht.hp hp)) ?_))))))))
  iterate 7 refine wP I ?_
  refine Aa (zE (zA (zA (zB (wP I (wP I (Aa (zE (zS I (zI (zE (zA (zB ?_)))))))))))))
  refine wP I (wP I ?_)
  refine wC I I (fun W1 hp=>by
   have h1:=E4 (p.den:Nat) (q.den:Nat) 1 1 h.okp.2 h.okq.2 (If (by decide)) (If (by decide)) h.d (If (by decide)) W1 (ht.hp hp)
   rw[show(1:Int)*1=1 from rfl,TT] at h1
   exact h1) ?_
  iterate 7 refine wP I ?_
  refine Aa (zE (zA (zA (zB ?_))))
  iterate 5 refine wP I ?_
  refine wU 82 false I (by show(!_)=false;rw[AD,dT I];rfl) (wP I (Aa (zE (zS I (zI (zE (zA (zB (wP I (wP I (wC I I (fun W1 hp=>PF (p.num*(q.den:Nat)) (q.num*(p.den:Nat)) h.c1.dd h.c2.dd h.add.dd W1 (ht.hp hp)) ?_)))))))))))
  iterate 5 refine wP I ?_
  refine Aa (zE (zA (zA (zB (wP I (wP I (Aa (zE (zS I (zI (zE (zA (zB ?_)))))))))))))
  exact wP I (wP I (wC I I (fun W1 hp=>(JN _ _ hd0 h.add h.d W1 (ht.hp hp)).cast (v':= .tuple #[str (Ac (p+q)), .int .i64 0]) (by rw[ra])) (wP I (wP I (wP I (wP I (Aa (zE (zO (wR2 I I I))))))))))
theorem Qi (p q:Rat) (h:Sz2 p q) (W:World) (ht:AH W):
  Ae Tryz.prog 131 #[str (Ac p),str (Ac q)] W (fun _:Unit=> .tuple #[str (Ac (p+q)), .int .i64 0]) (fun _=>True) (fun _=>[]):=by
 refine Ab (args:=[str (Ac p),str (Ac q)]) Tryz.func131 I I I ?_
 refine zA (zB (wP I (wP I (Aa (zE (zA (zA (zB (wP I (wP I (wC I I (fun W1 hp=>Df h.okp h.okq W1 (ht.hp hp)) (wP I (Aa ?_)))))))))))))
 refine zE (zA (zB (wP I (wP I (Aa (zE (zS I (zI (zE (zA (zB (wP I (wP I ?_)))))))))))))
 exact wC I I (fun W1 hp=>LK p q h W1 (ht.hp hp)) (wP I (wP I (wP I (wP I (Aa (zE (zO (wR2 I I I))))))))
theorem Sz2.neg {p q:Rat} (h:Sz2 p q):Sz2 p (-q):=by
 have e:(-q).num= -q.num:=rfl
 have d:(-q).den=q.den:=rfl
 refine⟨h.okp,⟨by rw[e];exact Ko h.okq.1,h.okq.2⟩,h.c1,by rw[e,Int.neg_mul];exact Ko h.c2,h.d,by rw[e,Int.mul_neg];exact Ko h.n, ?_, ?_⟩
 ·rw[e,d,Int.neg_mul, ←Int.sub_eq_add_neg];exact h.sub
 ·rw[e,d,Int.neg_mul,Int.sub_neg];exact h.add
theorem Q0 (p q:Rat) (h:Sz2 p q) (W:World) (ht:AH W):
  Ae Tryz.prog 134 #[str (Ac p),str (Ac q)] W (fun _:Unit=> .tuple #[str (Ac (p-q)), .int .i64 0]) (fun _=>True) (fun _=>[]):=by
 refine Ab (args:=[str (Ac p),str (Ac q)]) Tryz.func134 I I I ?_
 refine zA (zB (wP I (wP I (Aa (zE (zA (zA (zB (wP I (wP I (wC I I (fun W1 hp=>Df h.okp h.okq W1 (ht.hp hp)) (wP I (Aa ?_)))))))))))))
 refine zE (zA (zB (wP I (wP I (Aa (zE (zS I (zI (zE (zA (zB (wP I (wP I ?_)))))))))))))
 exact wC I I (fun W _=>Qy q (EB h.okq) W) (wC I I (fun W1 hp=>(LK p (-q) h.neg W1 (ht.hp hp)).cast (v':= .tuple #[str (Ac (p-q)), .int .i64 0]) (by rw[Rat.sub_eq_add_neg])) (wP I (wP I (wP I (wP I (Aa (zE (zO (wR2 I I I)))))))))
theorem Q9 (p q:Rat) (h:Sz2 p q) (W:World) (ht:AH W):
  Ae Tryz.prog 135 #[str (Ac p),str (Ac q)] W (fun _:Unit=> .tuple #[str (Ac (p*q)), .int .i64 0]) (fun _=>True) (fun _=>[]):=by
 have hpn:=p.den_pos
 have hqn:=q.den_pos
 have ra:=Ki p q
 refine Ab (args:=[str (Ac p),str (Ac q)]) Tryz.func135 I I I ?_
 refine zA (zB (wP I (wP I (Aa (zE (zA (zA (zB (wP I (wP I (wC I I (fun W1 hp=>Df h.okp h.okq W1 (ht.hp hp)) (wP I (Aa ?_)))))))))))))
 refine zE (zA (zB (wP I (wP I (Aa (zE (zS I (zI (zE (zA (zB (wP I (wC I I (fun W _=>Cp h.okp W) ?_)))))))))))))
 iterate 7 refine wP I ?_
 refine Aa (zE (zA (zB (wP I (wC I I (fun W _=>Cp h.okq W) ?_)))))
 iterate 7 refine wP I ?_
 refine Aa (As (An (An ?_)))
 refine Av (X:=Unit) (fun _=>[(0,str (Ac p)),(1,str (Ac q)),(7, .int .i64 (iN p)),(8, .int .i64 (iD p)),(10, .int .i64 (iN q)),(11, .int .i64 (iD q)),(38, .bool (sh2 p q))]) (fun _=>[]) (fun _=>True) ?_ ?_
 ·refine zB (wP I (wP I ?_))
  refine A6 36 I (fun h36=> ?_) (fun h36=> ?_)
  ·exact wP I (wP I (Aa (Ag () O ⟨I,I,I,I,I,I,congrArg (fun b=>some (Value.bool b)) (by unfold sh2;simp_all),O⟩ [] I)))
  ·refine Ad I I ?_
   exact wP I (Aa (Ag () O ⟨I,I,I,I,I,I,congrArg (fun b=>some (Value.bool b)) (by unfold sh2;simp_all),O⟩ [] I))
 intro _ _
 refine Af I (fun hs=> ?_) (fun hs=> ?_)
 ·obtain⟨e1,e2,e3,e4,l1,l2,l3,l4⟩:=H2 hs
  have m1:=Om l1 l3
  have m3:=Om (G8 l2) (G8 l4)
  have hdd:((p.den:Nat):Int)*((q.den:Nat):Int)=((p.den*q.den:Nat):Int):=(Int.natCast_mul _ _).symm
  rw[hdd,Int.natAbs_natCast] at m3
  have hpq:=Nat.mul_pos hpn hqn
  rw[hdd,QW _ hpq] at ra
  refine zA (zB (wP I (wP I (wP I (wV 41 (p.num*q.num) I (by rw[e1,e3];exact DK l1 l3) (wP I (wP I (wP I (wV 44 ((p.den*q.den:Nat):Int) I (by rw[e2,e4, ←hdd];exact DK (G8 l2) (G8 l4)) (wC I I (fun W _=>(CS (p.num*q.num) (p.den*q.den) (by omega) hpq (by omega) W).cast (v':=str (Ac (p*q))) (by rw[ra])) (wP I (wP I (Aa ?_)))))))))))))
  exact zE (zO (zP (wR2 I I I)))
 ·have hd0:((p.den:Nat):Int)*((q.den:Nat):Int)≠0:=Int.mul_ne_zero (by omega) (by omega)
  refine zI (zE (zA (zB (wP I (wC I I (fun W _=>Ce h.okp W) ?_)))))
  iterate 5 refine wP I ?_
  refine Aa (zE (zA (zB (wP I (wC I I (fun W _=>Ce h.okq W) ?_)))))
  iterate 5 refine wP I ?_
  refine Aa (zE (zA (zB (wP I (wP I (wP I (wP I (wC I I (fun W1 hp=>(KX p.num (p.den:Nat) q.num (q.den:Nat) h.okp.1 h.okp.2 h.okq.1 h.okq.2 h.n h.d hd0 W1 (ht.hp hp)).cast (v':= .tuple #[str (Ac (p*q)), .int .i64 0]) (by rw[ra])) (wP I (wP I (wP I (wP I (Aa ?_)))))))))))))
  exact zE (zO (wR2 I I I))
theorem Qr (p q:Rat) (h:Sz2 p q) (h0:q.num≠0) (W:World) (ht:AH W):
  Ae Tryz.prog 132 #[str (Ac p),str (Ac q)] W (fun _:Unit=> .tuple #[str (Ac (p/q)), .int .i64 0]) (fun _=>True) (fun _=>[]):=by
 have hpn:=p.den_pos
 have hqn:=q.den_pos
 have ra:=Ku p q h0
 refine Ab (args:=[str (Ac p),str (Ac q)]) Tryz.func132 I I I ?_
 refine zA (zB (wP I (wP I (Aa (zE (zA (zA (zB (wP I (wP I (wC I I (fun W1 hp=>Df h.okp h.okq W1 (ht.hp hp)) (wP I (Aa ?_)))))))))))))
 refine zE (zA (zB (wP I (wP I (Aa (zE (zS I (zI (zE (zA (zA (zB (wP I (wP I ?_))))))))))))))
 refine wU 24 false I ((AD _ _).trans (dF fun e=>h0 (DJ.1 e))) (Aa (zE (zS I (zI (zE (zA (zB (wP I (wC I I (fun W _=>Cp h.okp W) ?_)))))))))
 iterate 7 refine wP I ?_
 refine Aa (zE (zA (zB (wP I (wC I I (fun W _=>Cp h.okq W) ?_)))))
 iterate 7 refine wP I ?_
 refine Aa (As (An (An ?_)))
 refine Av (X:=Unit) (fun _=>[(0,str (Ac p)),(1,str (Ac q)),(7, .int .i64 (iN p)),(8, .int .i64 (iD p)),(10, .int .i64 (iN q)),(11, .int .i64 (iD q)),(40, .bool (sh2 p q))]) (fun _=>[]) (fun _=>True) ?_ ?_
 ·refine zB (wP I (wP I ?_))
  refine A6 38 I (fun h38=> ?_) (fun h38=> ?_)
  ·exact wP I (wP I (Aa (Ag () O ⟨I,I,I,I,I,I,congrArg (fun b=>some (Value.bool b)) (by unfold sh2;simp_all),O⟩ [] I)))
  ·refine Ad I I ?_
   exact wP I (Aa (Ag () O ⟨I,I,I,I,I,I,congrArg (fun b=>some (Value.bool b)) (by unfold sh2;simp_all),O⟩ [] I))
 intro _ _
 refine Af I (fun hs=> ?_) (fun hs=> ?_)
 ·obtain⟨e1,e2,e3,e4,l1,l2,l3,l4⟩:=H2 hs
  obtain⟨m,hm⟩: ∃m,m=q.num.natAbs:=⟨_,rfl⟩
  obtain⟨c,hc⟩: ∃c:Int,c=if q.num<0 then -((q.den:Nat):Int) else((q.den:Nat):Int):=⟨_,rfl⟩
  have hca:c.natAbs<1000000000:=by rw[hc];split<;>omega
  have hm9:m<1000000000:=by omega
  have m1:=Om l1 hca
  have m3:=Om (G8 l2) (G8 hm9)
  have hdd:((p.den:Nat):Int)*((m:Nat):Int)=((p.den*m:Nat):Int):=(Int.natCast_mul _ _).symm
  rw[hdd,Int.natAbs_natCast] at m3
  have hpq:0<p.den*m:=Nat.mul_pos hpn (by omega)
  have hr:mkRat (p.num*c) (p.den*m)=p/q:=by
   rw[←ra]
   unfold nrm
   have hn1:(((p.den:Nat):Int)*q.num).natAbs=p.den*m:=by rw[Int.natAbs_mul,Int.natAbs_natCast,hm]
   rw[hn1]
   by_cases hq:q.num<0
   ·rw[if_pos (Int.mul_neg_of_pos_of_neg (by omega) hq),hc,if_pos hq,Int.mul_neg]
   ·rw[if_neg (by have:=Int.mul_nonneg (show(0:Int)≤(p.den:Nat) by omega) (show 0≤q.num by omega);omega),hc,if_neg hq]
  refine zA (zA (zB (wP I (wP I (wU 42 (decide (q.num<0)) I (by rw[e3]) (Aa (As ?_)))))))
  try refine An ?_
  refine Av (X:=Unit) (fun _=>[(7, .int .i64 (iN p)),(8, .int .i64 (iD p)),(10, .int .i64 (m:Nat)),(11, .int .i64 c)]) (fun _=>[]) (fun _=>True) ?_ ?_
  ·refine Af I (fun hq=> ?_) (fun hq=> ?_)
   ·have hq:q.num<0:=of_decide_eq_true hq
    exact zB (wP I (wP I (wV 44 (m:Nat) I (by rw[e3];show w64 (0-q.num)=_;rw[Ai (by omega) (by omega)];omega) (wP I (wP I (wV 46 c I (by rw[e4];show w64 (0-((q.den:Nat):Int))=_;rw[Ai (by omega) (by omega),hc,if_pos hq];omega) (wP I (wP I (Aa (Ag () O ⟨I,I,I,I,O⟩ [] I))))))))))
   ·have hq: ¬q.num<0:=of_decide_eq_false hq
    exact zI (Ag () O ⟨I,I,congrArg (fun z=>some (Value.int .i64 z)) (by rw[e3];omega),congrArg (fun z=>some (Value.int .i64 z)) (by rw[e4,hc,if_neg hq]),O⟩ [] I)
  intro _ _
  refine zA (zB (wP I (wP I (wP I (wV 49 (p.num*c) I (by rw[e1];exact DK l1 hca) (wP I (wP I (wP I (wV 52 ((p.den*m:Nat):Int) I (by rw[e2, ←hdd];exact DK (G8 l2) (G8 hm9)) (wC I I (fun W _=>(CS (p.num*c) (p.den*m) (by omega) hpq (by omega) W).cast (v':=str (Ac (p/q))) (by rw[hr])) (wP I (wP I (Aa ?_)))))))))))))
  exact zE (zO (zP (wR2 I I I)))
 ·have hd0:((p.den:Nat):Int)*q.num≠0:=Int.mul_ne_zero (by omega) h0
  have hc2:okN (((p.den:Nat):Int)*q.num):=by rw[Int.mul_comm];exact h.c2
  refine zI (zE (zA (zB (wP I (wC I I (fun W _=>Ce h.okp W) ?_)))))
  iterate 5 refine wP I ?_
  refine Aa (zE (zA (zB (wP I (wC I I (fun W _=>Ce h.okq W) ?_)))))
  iterate 5 refine wP I ?_
  refine Aa (zE (zA (zB (wP I (wP I (wP I (wP I (wC I I (fun W1 hp=>(KX p.num (p.den:Nat) (q.den:Nat) q.num h.okp.1 h.okp.2 h.okq.2 h.okq.1 h.c1 hc2 hd0 W1 (ht.hp hp)).cast (v':= .tuple #[str (Ac (p/q)), .int .i64 0]) (by rw[ra])) (wP I (wP I (wP I (wP I (Aa ?_)))))))))))))
  exact zE (zO (wR2 I I I))
theorem Ns {q:Rat} (h:okQ q) (W:World) (ht:AH W):
  Ae Tryz.prog 113 #[str (Ac q)] W (fun _:Unit=> .tuple #[str (itoa q.num),str (decDigits q.den), .int .i64 0]) (fun _=>True) (fun _=>[]):=by
 refine Ab (args:=[str (Ac q)]) Tryz.func113 I I I ?_
 refine zA (zB (wP I (wP I (wP I (Aa (zE (zA (zA (zB (wP I (wC I I (fun W1 hp=>FV h W1 (ht.hp hp)) (wP I (Aa ?_)))))))))))))
 refine zE (zA (zB (wP I (wP I (Aa (zE (zS I (zI (zE (zA (zB (wP I (wC I I (fun W _=>JJ q (EB h) W) ?_)))))))))))))
 iterate 5 refine wP I ?_
 refine Aa (zE (zA (zB ?_)))
 iterate 5 refine wP I ?_
 exact Aa (zE (zO (wR3 I I I)))
-- BOXES 4
-- CODE2
theorem DX (z:Int) (hz:z.natAbs<4611686018427387904) (W:World) (_ht:AH W):Ae Tryz.prog 84 #[.int .i64 z] W (fun _:Unit=>str (Ac (z:Rat))) (fun _=>True) (fun _=>[]):=by
 refine Ab (args:=[.int .i64 z]) Tryz.func84 I I I ?_
 refine zA (zB (wP I (Aa (zE (zA (zB (wP I (wC I I (fun W1 _=>Sg z hz W1) ?_))))))))
 iterate 5 refine wP I ?_
 exact Aa (zE (zA (zB (wP I (wP I (Aa (zE (zO (wR1 I I I)))))))))
theorem Qq (p q:Rat) (h:Sz2 p q) (W:World) (ht:AH W):Ae Tryz.prog 81 #[str (Ac p),str (Ac q)] W (fun _:Unit=>str (Ac (p+q))) (fun _=>True) (fun _=>[]):=by
 refine Ab (args:=[str (Ac p),str (Ac q)]) Tryz.func81 I I I ?_
 refine zA (zB (wP I (Aa (zE (zA (zB (wP I (wP I (wC I I (fun W1 hp=>Qi p q h W1 (ht.hp hp)) ?_)))))))))
 iterate 5 refine wP I ?_
 exact Aa (zE (zA (zB (wP I (wP I (Aa (zE (zO (wR1 I I I)))))))))
theorem EG (p q:Rat) (h:Sz2 p q) (W:World) (ht:AH W):Ae Tryz.prog 85 #[str (Ac p),str (Ac q)] W (fun _:Unit=>str (Ac (p-q))) (fun _=>True) (fun _=>[]):=by
 refine Ab (args:=[str (Ac p),str (Ac q)]) Tryz.func85 I I I ?_
 refine zA (zB (wP I (Aa (zE (zA (zB (wP I (wP I (wC I I (fun W1 hp=>Q0 p q h W1 (ht.hp hp)) ?_)))))))))
 iterate 5 refine wP I ?_
 exact Aa (zE (zA (zB (wP I (wP I (Aa (zE (zO (wR1 I I I)))))))))
theorem KD (p q:Rat) (h:Sz2 p q) (W:World) (ht:AH W):Ae Tryz.prog 86 #[str (Ac p),str (Ac q)] W (fun _:Unit=>str (Ac (p*q))) (fun _=>True) (fun _=>[]):=by
 refine Ab (args:=[str (Ac p),str (Ac q)]) Tryz.func86 I I I ?_
 refine zA (zB (wP I (Aa (zE (zA (zB (wP I (wP I (wC I I (fun W1 hp=>Q9 p q h W1 (ht.hp hp)) ?_)))))))))
 iterate 5 refine wP I ?_
 exact Aa (zE (zA (zB (wP I (wP I (Aa (zE (zO (wR1 I I I)))))))))
theorem Lq (p q:Rat) (h:Sz2 p q) (h0:q.num≠0) (W:World) (ht:AH W):Ae Tryz.prog 82 #[str (Ac p),str (Ac q)] W (fun _:Unit=>str (Ac (p/q))) (fun _=>True) (fun _=>[]):=by
 refine Ab (args:=[str (Ac p),str (Ac q)]) Tryz.func82 I I I ?_
 refine zA (zB (wP I (Aa (zE (zA (zB (wP I (wP I (wC I I (fun W1 hp=>Qr p q h h0 W1 (ht.hp hp)) ?_)))))))))
 iterate 5 refine wP I ?_
 exact Aa (zE (zA (zB (wP I (wP I (Aa (zE (zO (wR1 I I I)))))))))
theorem CC (p q:Rat) (h:Sz2 p q) (W:World) (ht:AH W):Ae Tryz.prog 80 #[str (Ac p),str (Ac q)] W (fun _:Unit=> .int .i64 (DP p q)) (fun _=>True) (fun _=>[]):=by
 refine Ab (args:=[str (Ac p),str (Ac q)]) Tryz.func80 I I I ?_
 refine zA (zB (wP I (Aa (zE (zA (zB (wP I (wP I (wC I I (fun W1 hp=>PR p q h W1 (ht.hp hp)) ?_)))))))))
 iterate 5 refine wP I ?_
 exact Aa (zE (zA (zB (wP I (wP I (Aa (zE (zO (wR1 I I I)))))))))
theorem FrP.OK.posN {f:FrP} (h:f.OK):f.pos.natAbs<4611686018427387904:=by have:=h.p0;have:=h.p1;omega
theorem FrP.OK.hdN {f:FrP} (h:f.OK):f.hd.natAbs<4611686018427387904:=by rcases h.hd with e|e<;>omega
theorem Dl (f:FrP) (h:f.OK) (t:Rat) (a b k:Nat) (hs:szQ f.sp a) (hb:szQ f.st b) (hz:szQ t k) (hk:a+b+k+9≤300) (W:World) (ht:AH W):
  Ae Tryz.prog 72 #[frV f,str (Ac t)] W (fun _:Unit=>str (Ac (f.at t))) (fun _=>True) (fun _=>[]):=by
 have z1:=sz2 hz hb (by omega)
 have z2:=hz.sub hb
 have z3:=sz2 hs z2 (by omega)
 have z4:=hs.mul z2
 have z5:=sz2 h.posz z4 (by omega)
 refine Ab (args:=[frV f,str (Ac t)]) Tryz.func72 I I I ?_
 refine zA (zB ?_)
 (refine Ay rfl rfl rfl rfl ?_;intro)
 refine wP I (Aa ?_)
 rename_i b2
 refine zE (zA (zA (zB (wP I (wP I (wB 0 I I I (wC I I (fun W1 hp=>CC t f.st z1 W1 (ht.hp hp)) (wP I (wU 10 (decide (t≤f.st)) I (Oa t f.st) (Aa (zE ?_)))))))))))
 refine Af I (fun hc=> ?_) (fun hc=> ?_)
 ·have hc:=of_decide_eq_true hc
  exact zA (zB (wP I (wB 0 I I I (wC I I (fun W1 hp=>DX f.pos h.posN W1 (ht.hp hp)) (wP I (Aa (zE (zO (zP (wR1 I I (by rw[FrP.at,if_pos hc])))))))))))
 ·have hc:=of_decide_eq_false hc
  refine zI (zE (zA (zU (qP I (qB 0 I I I (qP I (qP I (qB 0 I I I (qC I I (fun W1 hp=>EG t f.st z1 W1 (ht.hp hp)) (qC I I (fun W1 hp=>KD f.sp (t-f.st) z3 W1 (ht.hp hp)) (qP I (A0 (Aa ?_)))))))))))))
  refine zE (zA (zA (zB (wP I (wB 0 I I I (wP I (Aa (zE ?_))))))))
  refine Af I (fun hh=> ?_) (fun hh=> ?_)
  ·have hh:f.hd<0:=of_decide_eq_true hh
   have e1:f.hd= -1:=by rcases h.hd with e|e<;>omega
   refine zA (zB (wP I (wB 0 I I I (wC I I (fun W1 hp=>DX f.pos h.posN W1 (ht.hp hp)) (wP I (wC I I (fun W1 hp=>EG (f.pos:Rat) (f.sp*(t-f.st)) z5 W1 (ht.hp hp)) (wP I (Aa (zE (zO (zP ?_)))))))))))
   exact AB tH I (.tmp I) () (by
    rw[FrP.at,if_neg hc,FrP.vel,e1,show((-1:Int):Rat)= -1 from rfl]
    exact congrArg (fun q:Rat=>str (Ac q)) (by grind)) O fun W _=>At.nil _ _
  ·have hh: ¬f.hd<0:=of_decide_eq_false hh
   have e1:f.hd=1:=by rcases h.hd with e|e<;>omega
   refine zI (zE (zA (zB (wP I (wB 0 I I I (wC I I (fun W1 hp=>DX f.pos h.posN W1 (ht.hp hp)) (wP I (wC I I (fun W1 hp=>Qq (f.pos:Rat) (f.sp*(t-f.st)) z5 W1 (ht.hp hp)) (wP I (Aa (zE (zO ?_))))))))))))
   exact AB tH I (.tmp I) () (by
    rw[FrP.at,if_neg hc,FrP.vel,e1,show((1:Int):Rat)=1 from rfl]
    exact congrArg (fun q:Rat=>str (Ac q)) (by grind)) O fun W _=>At.nil _ _
-- BOXES 4
theorem L3 (f:FrP) (h:f.OK) (t:Rat) (hz:szQ t 36) (W:World) (hv:B9 W) (ht:AH W):
  Ae Tryz.prog 28 #[frV f,str (Ac t)] W (fun _:Unit=> .tuple #[str (Ac (f.at t)), .int .i64 0]) (fun _=>True) (fun _=>[]):=by
 refine Ab (args:=[frV f,str (Ac t)]) Tryz.func28 I I I ?_
 refine zA (zB ?_)
 (refine Ay rfl rfl rfl rfl ?_;intro)
 refine wP I (wP I (Aa ?_))
 rename_i b2
 refine zE (zA (zA (zB (wB 0 I I I (wP I ?_)))))
 refine A3 Tryz.hZ tH I I I I I I I I I I I fun bS=> ?_
 refine wC I I (fun W hp=>N1 f h t hz bS W (hv.hp hp) (ht.hp hp) (Az.of_bx hp 1 I I)) (wP I (Aa (zE (zA (zB (wP I (wP I (Aa (zE (zS I (zI (zE (zA ?_)))))))))))))
 exact zB (wB 0 I I I (wP I (wC I I (fun W hp=>Kh f h t hz W (hv.hp hp) (ht.hp hp)) (wP I (wP I (Aa (zE (zO (wR2 I I I)))))))))
def FrP.slope (f:FrP):Rat:=(f.hd:Rat)/f.sp
def FrP.base (f:FrP):Rat:=f.st-f.slope*(f.pos:Rat)
def FrP.plane (f:FrP):Value:=if f.sp.num=0 then .tuple #[.agg #[str [],str [],str []], .int .i64 8] else
 .tuple #[if f.ax then .agg #[str (Ac f.slope),str [48],str (Ac f.base)] else .agg #[str [48],str (Ac f.slope),str (Ac f.base)], .int .i64 0]
theorem Ng (f:FrP) (h:f.OK) (W:World) (hv:B9 W) (ht:AH W):
  Ae Tryz.prog 36 #[frV f] W (fun _:Unit=>f.plane) (fun _=>True) (fun _=>[]):=by
 have z1:=sz2 h.hdz h.sp (by decide)
 refine Ab (args:=[frV f]) Tryz.func36 I I I ?_
 refine zA (zB ?_)
 (refine Ay rfl rfl rfl rfl ?_;intro)
 (refine Ah Tryz.hZ rfl rfl rfl rfl ?_;intro)
 refine wP I (Aa ?_)
 rename_i b1 b2
 refine zE (zA (zA (zB (wB 0 I I I (wC I I (fun W hp=>CP f h W (hv.hp hp) (ht.hp hp)) (wP I (Aa (zE (zS I (zI (zE (zA (zA ?_)))))))))))))
 refine zB (wP I (wB 0 I I I (wP I ?_)))
 by_cases h0:f.sp.num=0
 ·refine wU 12 true I ((AD _ [48]).trans (dT (DJ.2 h0))) (Aa (zE (zR I (zA (zB ?_)))))
  refine Au Tryz.hZ tH I I I I I I I I ?_
  exact wS 1 I I I (wP I (Aa (zE (zO (zP (AJ tH I (.cell 1 I I I I I) (.tmp I) () (by rw[FrP.plane,if_pos h0];rfl) O fun W _=>At.nil _ _))))))
 ·have z2:=h.hdz.div h.sp h0
  have z3:=sz2 z2 h.posz (by decide)
  have z4:=z2.mul h.posz
  have z5:=sz2 h.st z4 (by decide)
  have hval:f.plane= .tuple #[if f.ax then .agg #[str (Ac f.slope),str [48],str (Ac f.base)] else .agg #[str [48],str (Ac f.slope),str (Ac f.base)], .int .i64 0]:=if_neg h0
  refine wU 12 false I ((AD _ [48]).trans (dF fun e=>h0 (DJ.1 e))) (Aa (zE (zS I (zI (zE (zA (zU (qP I (qB 0 I I I (qC I I (fun W hp=>Cs f.hd h.hd64 W (ht.hp hp)) (qP I (qB 0 I I I (qC I I (fun W hp=>Gp (f.hd:Rat) f.sp z1 h0 W (hv.hp hp) (ht.hp hp)) ?_)))))))))))))
  refine qP I (A0 (Aa (zE (An ?_))))
  refine Cb (X:=Nat) [true,true,true,true,true,true,true,true,true,true,false,false] (fun b=>[(1,Ao b1),(2,Ao b2),(3, .int .i64 0),(5,Ao b)]) (fun b=>[⟨b1,48,[.bool f.ax, .int .i64 f.pos, .int .i64 f.hd,str (Ac f.sp),str (Ac f.st)],true,none⟩,⟨b2,57,[str [],str [],str []],true,none⟩,⟨b,57,[str [48],str (Ac f.slope),str (Ac f.base)],true,none⟩])
   2 [⟨b1,48,[.bool f.ax, .int .i64 f.pos, .int .i64 f.hd,str (Ac f.sp),str (Ac f.st)],true,none⟩,⟨b2,57,[str [],str [],str []],true,none⟩] Tryz.mixed (by kernel_rfl) ?_ ?_
  ·refine qP I (qP I (qB 0 I I I (qP I (qP I (qB 0 I I I (qC I I (fun W hp=>Cs f.pos h.pos64 W (ht.hp hp)) (qC I I (fun W hp=>Fh f.slope (f.pos:Rat) z3 W (hv.hp hp) (ht.hp hp)) (qC I I (fun W hp=>DV f.st (f.slope*(f.pos:Rat)) z5 W (hv.hp hp) (ht.hp hp)) ?_))))))))
   refine MQ Tryz.hZ tH I I I I I I I I ?_
   refine DL (wX (wZ ?_))
   refine Ah Tryz.hZ rfl rfl rfl rfl ?_;intro b
   refine Aa (Al (wX (wZ (wS 2 I I I (Aa (Al ?_))))))
   refine Bo I (by((repeat (first|refine Bk.same ?_|refine Bk.off I ?_));exact O)) ?_
   exact AE b ⟨I,I,I,I,O⟩ [0,1,2] (by decide) I
  intro b5
  refine zE (zA (zA (zB (wP I (wB 0 I I I (Aa (zE ?_)))))))
  refine Af I (fun hax=> ?_) (fun hax=> ?_)
  ·rw[if_pos hax] at hval
   refine zB (wP I (wB 2 I I I (wP I (wB 2 I I I (wP I (wS 2 I I I (wP I (wS 2 I I I (Aa (zE (zA (zB (wB 2 I I I ?_)))))))))))))
   exact wS 1 I I I (wP I (Aa (zE (zO (AJ tH I (.cell 1 I I I I I) (.tmp I) () hval.symm O fun W _=>At.nil _ _)))))
  ·rw[if_neg (by rw[hax];decide)] at hval
   exact zI (zE (zA (zB (wB 2 I I I (wS 1 I I I (wP I (Aa (zE (zO (AJ tH I (.cell 1 I I I I I) (.tmp I) () hval.symm O fun W _=>At.nil _ _))))))))))
-- BOXES 4
-- CODE2
theorem Ir {a:List UInt8} (h:(rdR a).2=0): ∃q,okQ q∧a=Ac q:=by
 unfold rdR at h
 cases hf:frm a with
 |none=>rw[hf] at h;exact absurd h (by decide)
 |some x=>
  obtain⟨z,d⟩:=x
  rw[hf] at h
  simp only at h
  by_cases h1:z.natAbs<Bc∧d<Bc
  ·rw[if_pos h1] at h
   by_cases h2:Nat.gcd z.natAbs d=1
   ·obtain⟨h3,h4⟩:=K8 hf
    exact⟨⟨z,d,by omega,h2⟩,⟨h1.1,by unfold okN;rw[Int.natAbs_natCast];exact h1.2⟩,h4⟩
   ·rw[if_neg h2] at h;exact absurd h (by decide)
  ·rw[if_neg h1] at h;exact absurd h (by decide)
def Eb (a:List UInt8):Bool:=match frm a with
 |none=>false
 |some (z,d)=>decide (36<(decDigits z.natAbs).length)||decide (36<(decDigits d).length)
theorem N3 (q:Rat):Eb (Ac q)=(decide (36<(decDigits q.num.natAbs).length)||decide (36<(decDigits q.den).length)):=by
 unfold Eb Ac
 rw[EZ q.num q.den_pos]
theorem KO {q:Rat}:Eb (Ac q)=false↔szQ q 36:=by
 rw[N3,Bool.or_eq_false_iff,decide_eq_false_iff_not,decide_eq_false_iff_not]
 constructor
 ·rintro⟨h1,h2⟩
  exact⟨Nat.lt_of_lt_of_le (DR _) (Nat.pow_le_pow_right (by decide) (by omega)),Nat.lt_of_lt_of_le (DR _) (Nat.pow_le_pow_right (by decide) (by omega))⟩
 ·rintro⟨h1,h2⟩
  have l1:=C6 36 _ (by decide) h1
  have l2:=C6 36 _ (by decide) h2
  exact⟨by omega,by omega⟩
def HY (a:List UInt8):Int:=if (rdR a).2≠0 then(rdR a).2 else if Eb a=true then 4 else 0
theorem GF (a:List UInt8) (hl:a.length≤4000000000) (W:World) (hv:B9 W) (ht:AH W):
  Ae Tryz.prog 88 #[str a] W (fun _:Unit=> .int .i64 (HY a)) (fun _=>True) (fun _=>[]):=by
 refine Ab (args:=[str a]) Tryz.func88 I I I ?_
 refine zA (zB (wP I (Aa (zE (zA (zA (zB (wP I (wC I I (fun W hp=>CK a hl W (hv.hp hp) (ht.hp hp)) (wP I (Aa (zE (zA ?_)))))))))))))
 refine zB (wP I (wP I ?_))
 by_cases he:(rdR a).2=0
 rotate_left
 ·exact wU 10 true I (bne_iff_ne.2 he) (Aa (zE (zR I (zA (zB (wP I (wP I (Aa (zE (zO (zP (wR1 I I (by unfold HY;rw[if_pos he])))))))))))))
 obtain⟨q,hk,rfl⟩:=Ir he
 have hE:HY (Ac q)=if Eb (Ac q)=true then 4 else 0:=by unfold HY;rw[if_neg (fun h=>h he)]
 rw[hE,N3]
 refine wU 10 false I (bne_eq_false_iff_eq.2 he) (Aa (zE (zS I (zI (zE (zA (zA (zB (wP I (wC I I (fun W hp=>Iy q hk W (hv.hp hp) (ht.hp hp)) ?_))))))))))
 iterate 7 refine wP I ?_
 refine Aa (zE (zA (zB (wP I (wC I I (fun W _=>Ek q.num W) (wP I (wC I I (fun W _=>Ek (q.den:Nat) W) ?_)))))))
 rw[Int.natAbs_natCast]
 refine wP I (wP I ?_)
 refine Aj 23 (.bool (decide (36<(decDigits q.num.natAbs).length)||decide (36<(decDigits q.den).length))) I (congrArg Value.bool (by
  show decide ((if (((decDigits q.den).length:Nat):Int)>((decDigits q.num.natAbs).length:Nat) then _ else _)>36)=_
  rw[Bool.eq_iff_iff,Bool.or_eq_true,decide_eq_true_eq,decide_eq_true_eq,decide_eq_true_eq]
  split<;>omega)) ?_
 refine Aa (zE ?_)
 refine Af I (fun hL=> ?_) (fun hL=> ?_)
 ·exact zA (zB (wP I (Aa (zE (zO (zP (wR1 I I (by rw[if_pos hL]))))))))
 ·exact zI (zE (zA (zB (wP I (Aa (zE (zO (wR1 I I (by rw[hL,if_neg (by decide)])))))))))
structure FrW where
 ax:Bool
 pos:Int
 hd:Int
 sp:List UInt8
 st:List UInt8
abbrev fwV (f:FrW):Value:= .agg #[.bool f.ax, .int .i64 f.pos, .int .i64 f.hd,str f.sp,str f.st]
abbrev fwX (b:Nat) (f:FrW):Bx:=⟨b,48,[.bool f.ax, .int .i64 f.pos, .int .i64 f.hd,str f.sp,str f.st],true,none⟩
def Dd (f:FrW):Bool:=(decide (f.pos<0)||decide (f.pos>65536))||(decide (f.hd≠1)&&decide (f.hd≠ -1))
def fcE (f:FrW):Int:=if Dd f=true then 2 else if (rdR f.sp).2≠0 then(rdR f.sp).2 else if (rdR f.st).2≠0 then(rdR f.st).2 else if (Eb f.sp||Eb f.st)=true then 4 else if hasPrefix f.sp [45]=true then 2 else 0
def FrP.w (f:FrP):FrW:=⟨f.ax,f.pos,f.hd,Ac f.sp,Ac f.st⟩
theorem Pe {f:FrW} (h:fcE f=0): ∃g:FrP,g.OK∧f=g.w:=by
 unfold fcE at h
 by_cases h0:Dd f=true
 ·rw[if_pos h0] at h;exact absurd h (by decide)
 rw[if_neg h0] at h
 by_cases h1:(rdR f.sp).2=0
 rotate_left
 ·rw[if_pos h1] at h;exact absurd h h1
 rw[if_neg (fun h=>h h1)] at h
 by_cases h2:(rdR f.st).2=0
 rotate_left
 ·rw[if_pos h2] at h;exact absurd h h2
 rw[if_neg (fun h=>h h2)] at h
 by_cases h3:(Eb f.sp||Eb f.st)=true
 ·rw[if_pos h3] at h;exact absurd h (by decide)
 rw[if_neg h3] at h
 by_cases h4:hasPrefix f.sp [45]=true
 ·rw[if_pos h4] at h;exact absurd h (by decide)
 obtain⟨u,_,e1⟩:=Ir h1
 obtain⟨v,_,e2⟩:=Ir h2
 rw[e1,e2] at h3
 rw[e1,Fe] at h4
 have h3:(Eb (Ac u)||Eb (Ac v))=false:=by simpa using h3
 obtain⟨h5,h6⟩:=Bool.or_eq_false_iff.1 h3
 have h0:Dd f=false:=by simpa using h0
 unfold Dd at h0
 simp only[Bool.or_eq_false_iff,Bool.and_eq_false_iff,decide_eq_false_iff_not] at h0
 refine⟨⟨f.ax,f.pos,f.hd,u,v⟩,⟨by show 0≤f.pos;omega,by show f.pos≤65536;omega,by show f.hd=1∨f.hd= -1;omega,KO.1 h5,KO.1 h6,by have:=h4;simp at this;exact Rat.num_nonneg.2 this⟩, ?_⟩
 obtain⟨a,b,c,d,e⟩:=f
 have e1:d=Ac u:=e1
 have e2:e=Ac v:=e2
 subst e1 e2
 rfl
-- BOXES 4
def FrP.velB (f:FrP) (t:Rat):Rat:=if f.st<t then f.vel else 0
def FrP.velA (f:FrP) (t:Rat):Rat:=if t<f.st then 0 else f.vel
theorem Fu (f:FrP) (h:f.OK) (t:Rat) (k:Nat) (hz:szQ t k) (hk:k+36+1≤300) (W:World) (hv:B9 W) (ht:AH W):
  Ae Tryz.prog 95 #[frV f,str (Ac t)] W (fun _:Unit=> .tuple #[str (Ac (f.velB t)),str (Ac (f.velA t))]) (fun _=>True) (fun _=>[]):=by
 have z1:=sz2 hz h.st hk
 refine Ab (args:=[frV f,str (Ac t)]) Tryz.func95 I I I ?_
 refine zA (zB ?_)
 (refine Ay rfl rfl rfl rfl ?_;intro)
 refine wP I (wP I (Aa ?_))
 rename_i b2
 refine zE (zA (zA (zB (wP I (wP I (wB 0 I I I ?_))))))
 by_cases c1:t<f.st
 ·have n1: ¬f.st<t:=fun e=>Rat.not_le.2 c1 (Rat.le_of_lt e)
  refine wC I I (fun W hp=>(CA t f.st z1 W (hv.hp hp) (ht.hp hp)).cast (by rw[DP,if_pos c1])) (Aa (zE (zH (zA (zB (wP I (wP I (Aa (zE (zR I (zA (zB (wP I (wP I ?_))))))))))))))
  exact Aa (zE (zO (zQ (zP (wR2 I I (by rw[FrP.velB,FrP.velA,if_neg n1,if_pos c1,FS]))))))
 ·by_cases c2:t=f.st
  ·have n1: ¬f.st<t:=fun e=>by rw[c2] at e;exact Rat.lt_irrefl e
   refine wC I I (fun W hp=>(CA t f.st z1 W (hv.hp hp) (ht.hp hp)).cast (by rw[DP,if_neg c1,if_pos c2])) (Aa (zE (zH (zA (zB (wP I (wP I (Aa (zE (zS I (zA (zB (wP I (wP I ?_))))))))))))))
   exact Aa (zE (zR I (zA (zB (wB 0 I I I (wC I I (fun W hp=>BZ f h W (hv.hp hp) (ht.hp hp)) (wP I (wP I (Aa (zE (zO (zQ (zP (wR2 I I (by rw[FrP.velB,FrP.velA,if_neg n1,if_neg c1,FS])))))))))))))))
  ·have c3:f.st<t:=Decidable.byContradiction fun h=>c2 (Rat.le_antisymm (Rat.not_lt.1 h) (Rat.not_lt.1 c1))
   refine wC I I (fun W hp=>(CA t f.st z1 W (hv.hp hp) (ht.hp hp)).cast (by rw[DP,if_neg c1,if_neg c2])) (Aa (zE (zH (zA (zB (wP I (wP I (Aa (zE (zS I (zA (zB (wP I (wP I ?_))))))))))))))
   refine Aa (zE (zS I (zI (zN (zE (zA (zU (qB 0 I I I (qC I I (fun W hp=>BZ f h W (hv.hp hp) (ht.hp hp)) (qB 0 I I I (qC I I (fun W hp=>BZ f h W (hv.hp hp) (ht.hp hp)) (qP I (qP I ?_)))))))))))))
   exact A0 (Aa (zE (zO (wR2 I I (by rw[FrP.velB,FrP.velA,if_pos c3,if_neg c1])))))
-- BOXES 4
-- CODE2
theorem Fq (q:Rat) (h:okQ q) (W:World) (ht:AH W):
  Ae Tryz.prog 91 #[str (Ac q)] W (fun _:Unit=> .bool (Eb (Ac q))) (fun _=>True) (fun _=>[]):=by
 obtain⟨c,hc,hc45⟩:=Ev q.num
 have hl0:0<(itoa q.num).length:=by
  have:=List.getElem?_eq_some_iff.1 hc
  obtain⟨h1,_⟩:=this
  exact h1
 have hsz:=EB h
 have hi:(itoa q.num).length≤1000:=by
  have:=h.1.dd
  rw[BJ,List.length_append]
  have:=Kn q.num
  omega
 have hdn:(decDigits q.den).length≤1000:=by have:=h.2.dd;rw[Int.natAbs_natCast] at this;omega
 rw[N3]
 refine Ab (args:=[str (Ac q)]) Tryz.func91 I I I ?_
 refine zA (zB (wP I (Aa (zE (zA (zB (wP I (wC I I (fun W1 hp=>Ns h W1 (ht.hp hp)) ?_))))))))
 iterate 7 refine wP I ?_
 refine Aa (zE (zA (zA (zB (wP I (wP I ?_))))))
 refine Aj 13 (.int .i64 ((itoa q.num).length:Nat)) I (congrArg (fun n:Nat=>Value.int .i64 (n:Int)) (Aw _)) ?_
 refine wP I (wU 14 true I (dT (by omega)) (wP I (wP I ?_)))
 refine AQ 0 tH I I I I I I I I hc ?_
 refine wP I (wU 18 (decide (q.num<0)) I ((DA c 45).trans hc45) (wP I (Aa (As ?_))))
 try refine An ?_
 refine Av (X:=Unit) (fun _=>[(3,str (decDigits q.num.natAbs)),(4,str (decDigits q.den))]) (fun _=>[]) (fun _=>True) ?_ ?_
 ·refine Af I (fun hn=> ?_) (fun hn=> ?_)
  ·have hn:q.num<0:=of_decide_eq_true hn
   have e:(itoa q.num).drop 1=decDigits q.num.natAbs:=by rw[BJ,G9,if_pos hn];rfl
   refine zB (wP I ?_)
   refine Ei 1 tH I I I I I I I I (by omega) ?_
   rw[e]
   exact wP I (Aa (Ag () O ⟨I,I,O⟩ [] I))
  ·have hn: ¬q.num<0:=of_decide_eq_false hn
   have e:itoa q.num=decDigits q.num.natAbs:=by rw[BJ,G9,if_neg hn];rfl
   exact zI (Ag () O ⟨congrArg (fun l=>some (str l)) e,I,O⟩ [] I)
 intro _ _
 refine zA (zB (wP I (wP I ?_)))
 refine Aj 23 (.int .i64 ((decDigits q.num.natAbs).length:Nat)) I (congrArg (fun n:Nat=>Value.int .i64 (n:Int)) (Aw _)) ?_
 refine wP I ?_
 by_cases h1:36<(decDigits q.num.natAbs).length
 ·refine wU 24 true I (dT (by omega)) (wP I ?_)
  iterate 3 refine Ad I I ?_
  exact wP I (wP I (Aa (zE (zO (wR1 I I (by rw[dT h1];rfl))))))
 ·refine wU 24 false I (dF (by omega)) (wP I (wP I (wP I ?_)))
  refine Aj 27 (.int .i64 ((decDigits q.den).length:Nat)) I (congrArg (fun n:Nat=>Value.int .i64 (n:Int)) (Aw _)) ?_
  exact wP I (wU 28 (decide (36<(decDigits q.den).length)) I (decide_eq_decide.2 (by omega)) (wP I (wP I (Aa (zE (zO (wR1 I I (by rw[dF h1,Bool.false_or]))))))))
theorem Ec (f:FrP) (h:f.OK) (W:World) (ht:AH W):
  Ae Tryz.prog 39 #[frV f] W (fun _:Unit=> .int .i64 0) (fun _=>True) (fun _=>[]):=by
 have h':=h
 obtain⟨p0,p1,hhd,hsp,hst,hsp0⟩:=h'
 have l1:=(KO (q:=f.sp)).2 hsp
 have l2:=(KO (q:=f.st)).2 hst
 refine Ab (args:=[frV f]) Tryz.func39 I I I ?_
 refine zA (zB ?_)
 (refine Ay rfl rfl rfl rfl ?_;intro)
 refine wP I (Aa ?_)
 rename_i b1
 have hsp1: ¬f.sp<0:=by have:=Rat.num_nonneg.1 hsp0;grind
 have z0:szQ (0:Rat) 1:=⟨by decide,by decide⟩
 refine As (An (An ?_))
 refine Av (X:=Unit) (fun _=>[(1,Ao b1),(22, .bool false)]) (fun _=>[⟨b1,48,[.bool f.ax, .int .i64 f.pos, .int .i64 f.hd,str (Ac f.sp),str (Ac f.st)],true,none⟩]) (fun _=>True) ?_ ?_
 ·refine zB (wP I (wB 0 I I I (wP I (wU 7 false I (dF (by omega)) (wP I (wP I (wB 0 I I I (wP I (wU 11 false I (dF (by omega)) (wP I (wP I (wP I (wB 0 I I I ?_)))))))))))))
  refine wP I ?_
  rcases hhd with e|e
  ·refine wU 16 false I (by rw[e];rfl) (wP I ?_)
   iterate 3 refine Ad I I ?_
   exact wP I (wP I (Aa (Ag () O ⟨I,I,O⟩ [] I)))
  ·exact wU 16 true I (by rw[e];rfl) (wP I (wP I (wB 0 I I I (wP I (wU 20 false I (by rw[e];rfl) (wP I (wP I (Aa (Ag () O ⟨I,I,O⟩ [] I)))))))))
 intro _ _
 refine zS I (zI (zE (zA (zA (zB (wP I (wB 0 I I I (wC I I (fun W1 hp=>FV (hsp.ok (by decide)) W1 (ht.hp hp)) (wP I (Aa (zE (zA (zB ?_)))))))))))))
 refine wP I (wP I (Aa (zE (zS I (zI (zE (zA (zA (zB (wP I (wB 0 I I I (wC I I (fun W1 hp=>FV (hst.ok (by decide)) W1 (ht.hp hp)) (wP I ?_)))))))))))))
 refine Aa (zE (zA (zB (wP I (wP I (Aa (zE (zS I (zI (zE (zA (zA (zB ?_)))))))))))))
 refine wP I (wB 0 I I I (wC I I (fun W1 hp=>(Fq f.sp (hsp.ok (by decide)) W1 (ht.hp hp)).cast (v':= .bool false) (by rw[l1])) (wP I (wP I (wB 0 I I I (wC I I (fun W1 hp=>(Fq f.st (hst.ok (by decide)) W1 (ht.hp hp)).cast (v':= .bool false) (by rw[l2])) (wP I (Aa (zE (zS I (zI (zE (zA (zA ?_))))))))))))))
 refine zB (wP I (wB 0 I I I ?_))
 refine wC I I (fun W1 hp=>(by
  have h1:=CC f.sp 0 (sz2 hsp z0 (by decide)) W1 (ht.hp hp)
  rw[DJ.2 (show(0:Rat).num=0 from rfl)] at h1
  exact h1)) ?_
 exact wP I (wU 46 false I ((Gb f.sp 0).trans (dF hsp1)) (Aa (zE (zS I (zI (zE (zA (zB (wP I (Aa (zE (zO (wR1 I I I)))))))))))))
theorem SK (p q:Rat):(p<q∧DP p q= -1)∨(p=q∧DP p q=0)∨(q<p∧DP p q=1):=by
 have h1:=Gb p q
 have h2:=Ix p q
 have h3:=Tb p q
 rcases Int.lt_trichotomy (DP p q) 0 with c|c|c
 ·rw[dT c] at h1
  exact .inl ⟨of_decide_eq_true h1.symm,by omega⟩
 ·rw[dF (show¬DP p q<0 by omega)] at h1
  rw[dF (show¬DP p q>0 by omega)] at h2
  have h1:=of_decide_eq_false h1.symm
  have h2:=of_decide_eq_false h2.symm
  exact .inr (.inl ⟨by grind,c⟩)
 ·rw[dT (show DP p q>0 from c)] at h2
  exact .inr (.inr ⟨of_decide_eq_true h2.symm,by omega⟩)
theorem CL (f:FrP) (h:f.OK) (t:Rat) (b k:Nat) (hb:szQ f.st b) (hz:szQ t k) (hk:b+k+1≤300) (above:Bool) (W:World) (ht:AH W):
  Ae Tryz.prog 98 #[frV f,str (Ac t), .bool above] W (fun _:Unit=>str (Ac (if above=true then f.velA t else f.velB t))) (fun _=>True) (fun _=>[]):=by
 have z1:=sz2 hz hb (by omega)
 have zv:=sz2 h.hdz h.sp (by decide)
 have e0:Ac (0:Rat)=[48]:=DJ.2 rfl
 refine Ab (args:=[frV f,str (Ac t), .bool above]) Tryz.func98 I I I ?_
 refine zA (zB ?_)
 (refine Ay rfl rfl rfl rfl ?_;intro)
 refine wP I (Aa ?_)
 rename_i b3
 refine zE (zA (zB (wP I (wP I (wB 0 I I I (wC I I (fun W1 hp=>CC t f.st z1 W1 (ht.hp hp)) (wP I (Aa (As (An (An ?_)))))))))))
 refine Av (X:=Unit) (fun _=>[(3,Ao b3),(21, .bool (decide (DP t f.st<0)||(DP t f.st==0)&& !above))]) (fun _=>[⟨b3,48,[.bool f.ax, .int .i64 f.pos, .int .i64 f.hd,str (Ac f.sp),str (Ac f.st)],true,none⟩]) (fun _=>True) ?_ ?_
 ·refine zB (wP I (wP I (wP I ?_)))
  refine A6 14 I (fun h14=> ?_) (fun h14=> ?_)
  ·refine Ad I I ?_
   iterate 5 refine Ad I I ?_
   exact wP I (Aa (Ag () O ⟨I,congrArg (fun b=>some (Value.bool b)) (by simp_all),O⟩ [] I))
  ·refine wP I (wP I (wP I ?_))
   refine A6 17 I (fun h17=> ?_) (fun h17=> ?_)
   ·exact wP I (wP I (wP I (wP I (Aa (Ag () O ⟨I,congrArg (fun b=>some (Value.bool b)) (by simp_all),O⟩ [] I)))))
   ·refine Ad I I ?_
    refine Ad I I ?_
    exact wP I (wP I (Aa (Ag () O ⟨I,congrArg (fun b=>some (Value.bool b)) (by simp_all),O⟩ [] I)))
 intro _ _
 refine Af I (fun hc=> ?_) (fun hc=> ?_)
 ·refine zA (zB (wP I (Aa (zE (zO (zP ?_))))))
  refine wR1 I I ?_
  have e:(if above=true then f.velA t else f.velB t)=0:=by
   rcases SK t f.st with⟨h1,h2⟩|⟨h1,h2⟩|⟨h1,h2⟩
   ·cases above
    ·rw[if_neg (by decide),FrP.velB,if_neg (by grind)]
    ·rw[if_pos rfl,FrP.velA,if_pos h1]
   ·cases above
    ·rw[if_neg (by decide),FrP.velB,if_neg (by grind)]
    ·rw[h2] at hc;exact absurd hc (by decide)
   ·rw[h2] at hc;exact absurd hc (by cases above<;>decide)
  rw[e,e0]
 ·refine zI (zE (zA (zU (qP I (qB 0 I I I (qC I I (fun W1 hp=>DX f.hd h.hdN W1 (ht.hp hp)) (qP I (qB 0 I I I (qC I I (fun W1 hp=>KD (f.hd:Rat) f.sp zv W1 (ht.hp hp)) (qP I (A0 (Aa (zE ?_)))))))))))))
  refine zO ?_
  refine wR1 I I ?_
  have e:(if above=true then f.velA t else f.velB t)=f.vel:=by
   rcases SK t f.st with⟨h1,h2⟩|⟨h1,h2⟩|⟨h1,h2⟩
   ·rw[h2] at hc;exact absurd hc (by cases above<;>decide)
   ·cases above
    ·rw[h2] at hc;exact absurd hc (by decide)
    ·rw[if_pos rfl,FrP.velA,if_neg (by grind)]
   ·cases above
    ·rw[if_neg (by decide),FrP.velB,if_pos h1]
    ·rw[if_pos rfl,FrP.velA,if_neg (by grind)]
  rw[e]
  rfl
-- BOXES 2
theorem TC (a b:List UInt8):((⟨a.toArray⟩:ByteArray).toList==(⟨b.toArray⟩:ByteArray).toList)=decide (a=b):=AD a b
theorem Jc (W:World) (p q:Option Addr) (cap cap2:Nat) (xs ys:List (List UInt8)) (hA:Pt W p xs) (hB:Pt W q ys) (hn:xs.length<4611686018427387904) (hm:ys.length<4611686018427387904):
  Ae Tryz.prog 13 #[slv p xs.length cap,slv q ys.length cap2] W (fun _:Unit=> .bool (decide (xs=ys))) (fun _=>True) (fun _=>[]):=by
 refine Ab (args:=[slv p xs.length cap,slv q ys.length cap2]) Tryz.func13 I I I ?_
 refine zA (zB (wP I (Aa (zE (zA (zA (zB ?_)))))))
 iterate 5 refine wP I ?_
 by_cases hl:xs.length=ys.length
 ·refine wU 10 false I (by rw[hl];simp) (Aa (zE (zS I (zI (zE (zA (zA (zB (wP I (wP I (wP I (Aa (As ?_)))))))))))))
  refine Av (X:=Unit) (fun _=>[(4, .bool false)]) (fun _=>[]) (fun _=>xs=ys) ?_ ?_
  ·refine BQ ?_
   refine Ar (X:=Nat) (fun i=>[(0,slv p xs.length cap),(1,slv q ys.length cap2),(4, .bool false),(12, .int .i64 (xs.length:Nat)),(13, .int .i64 (i:Nat))]) (fun _=>[]) (fun i=>i≤xs.length∧xs.take i=ys.take i) (fun i=>xs.length-i) 0 ⟨Nat.zero_le _,I⟩ ⟨I,I,I,I,I,O⟩ [] I ?_
   rintro i ⟨hi,he⟩
   refine zA (zB (wP I ?_))
   by_cases hlt:i<xs.length
   ·refine wU 14 true I (dT (by omega)) (Aa (zE (zA (zR I (zI (zE (zA (zH (zA (zB ?_))))))))))
    obtain⟨pb,po,rfl,hr1⟩:=hA.row hlt
    obtain⟨qb,qo,rfl,hr2⟩:=hB.row (show i<ys.length by omega)
    refine wP I (wP I (Aa (zE (zA (zU (qP I (qP I ?_)))))))
    refine qJ ?_
    refine qL 0 I I (fun W hp=>(hr1 i hlt).hp hp) I (qP I (qP I ?_))
    refine qJ ?_
    refine qL 0 I I (fun W hp=>(hr2 i (by omega)).hp hp) I (qP I ?_)
    by_cases hx:xs[i]=ys[i]
    ·exact qU 24 false I (by show(!_)=false;rw[TC,dT hx];rfl) (A0 (Aa (zE (zS I (zI (zN (zE (zB (wP I (wV 25 ((i+1:Nat):Int) I (A4 (by omega)) (wP I (Aa (Ak (i+1) ⟨hlt,by rw[List.take_add_one,List.take_add_one,he,List.getElem?_eq_getElem hlt,List.getElem?_eq_getElem (by omega),hx]⟩ (by show xs.length-(i+1)<xs.length-i;omega) ⟨I,I,I,I,I,O⟩ [] I)))))))))))))
    ·refine qU 24 true I (by show(!_)=true;rw[TC,dF hx];rfl) (A0 (Aa (zE (zR I (zA (zB (wP I (Aa (zE (zO (zQ (zP (zP ?_)))))))))))))
     exact zQ (zP (wR1 rfl rfl (by rw[dF fun e=>hx (by subst e;rfl)])))
   ·exact wU 14 false I (dF (by omega)) (Aa (zE (zA (zS I (zJ (zK (zK (zL (Ag () (by rw[List.take_of_length_le (by omega),List.take_of_length_le (by omega)] at he;exact he) ⟨I,O⟩ [] I)))))))))
  ·intro _ he
   have he:xs=ys:=he
   exact zA (zB (wP I (Aa (zE (zO (wR1 I I (by rw[dT he])))))))
 ·exact wU 10 true I (by rw[bne_iff_ne];omega) (Aa (zE (zR I (zA (zB (wP I (Aa (zE (zO (zP (wR1 I I (by rw[dF fun e=>hl (by rw[e])]))))))))))))
-- BOXES 4
abbrev frB (b:Nat) (f:FrP):Bx:=⟨b,48,(frV f).cells.toList,true,none⟩
theorem KK (f g:FrP) (W:World):Ae Tryz.prog 94 #[frV f,frV g] W (fun x:Nat×Nat=> .func (.func 154) #[] #[Ao x.1,Ao x.2]) (fun _=>True) (fun x=>[frB x.1 f,frB x.2 g]):=by
 refine Ab (args:=[frV f,frV g]) Tryz.func94 I I I ?_
 refine zA (zB ?_)
 (refine Ay rfl rfl rfl rfl ?_;intro)
 (refine Ay rfl rfl rfl rfl ?_;intro)
 refine wP I (Aa ?_)
 rename_i b2 b3
 exact zE (zA (zB (wP I (wP I (Aa (zE (zO (AB tH I (.tmp I) (b2,b3) I O fun W hp=>At.of_hp hp))))))))
def Ck (f g:FrP):Rat:=(g.pos:Rat)-(f.pos:Rat)
def AP (f g:FrP):List Rat:=
 [f.st,g.st]++(if f.vel=0 then[] else[f.st+Ck f g/f.vel])++(if g.vel=0 then[] else[g.st-Ck f g/g.vel])++
 (if f.vel=g.vel then[] else[(Ck f g+(f.vel*f.st-g.vel*g.st))/(f.vel-g.vel)])
theorem RA (f g:FrP):(AP f g).length≤5:=by
 unfold AP
 by_cases h1:f.vel=0<;>by_cases h2:g.vel=0<;>by_cases h3:f.vel=g.vel<;>simp only[h1,h2,h3,if_true,if_false]<;>(try split)<;>simp
end
section
theorem FrP.at_le {f:FrP} {t:Rat} (h:t≤f.st):f.at t=(f.pos:Rat):=by rw[FrP.at,if_pos h]
theorem FrP.at_ge {f:FrP} {t:Rat} (h:f.st≤t):f.at t=(f.pos:Rat)+f.vel*(t-f.st):=by
 by_cases e:t≤f.st
 ·have e2:t=f.st:=Rat.le_antisymm e h
  rw[FrP.at,if_pos e,e2];grind
 ·rw[FrP.at,if_neg e]
end
section
def GD (x:Rat):List Rat→List Rat
 |[]=>[x]
 |y::l=>if x<y then x::y::l else y::GD x l
def Br (l:List Rat):List Rat:=l.foldl (fun s x=>GD x s) []
theorem O9 (x:Rat): ∀l,(GD x l).length=l.length+1
 |[]=>rfl
 |y::l=>by
  unfold GD
  split
  ·rfl
  ·simp[O9 x l]
theorem KJ {x z:Rat}: ∀ {l},z∈GD x l↔z=x∨z∈l
 |[]=>by simp[GD]
 |y::l=>by
  unfold GD
  split
  ·simp
  ·rw[List.mem_cons,KJ,List.mem_cons]
   constructor
   ·rintro(h|h|h)
    ·exact .inr (.inl h)
    ·exact .inl h
    ·exact .inr (.inr h)
   ·rintro(h|h|h)
    ·exact .inr (.inl h)
    ·exact .inl h
    ·exact .inr (.inr h)
theorem Kb {x:Rat}: ∀ {l},l.Pairwise (· ≤ ·)→(GD x l).Pairwise (· ≤ ·)
 |[],_=>by simp[GD]
 |y::l,h=>by
  have h2:=List.pairwise_cons.1 h
  unfold GD
  split
  ·rename_i hxy
   refine List.pairwise_cons.2 ⟨fun z hz=> ?_,h⟩
   rcases List.mem_cons.1 hz with rfl|hz
   ·exact Rat.le_of_lt hxy
   ·exact Rat.le_trans (Rat.le_of_lt hxy) (h2.1 z hz)
  ·rename_i hxy
   refine List.pairwise_cons.2 ⟨fun z hz=> ?_,Kb h2.2⟩
   rcases KJ.1 hz with rfl|hz
   ·exact Rat.not_lt.1 hxy
   ·exact h2.1 z hz
theorem IK (l:List Rat):(Br l).Pairwise (· ≤ ·):=by
 have: ∀(l s:List Rat),s.Pairwise (· ≤ ·)→(l.foldl (fun s x=>GD x s) s).Pairwise (· ≤ ·):=by
  intro l
  induction l with
  |nil=>exact fun s h=>h
  |cons x l ih=>exact fun s h=>ih _ (Kb h)
 exact this l [] List.Pairwise.nil
theorem MT {z:Rat} {l:List Rat}:z∈Br l↔z∈l:=by
 have: ∀(l s:List Rat),z∈l.foldl (fun s x=>GD x s) s↔z∈l∨z∈s:=by
  intro l
  induction l with
  |nil=>exact fun s=>by simp
  |cons x l ih=>
   intro s
   rw[List.foldl_cons,ih,KJ,List.mem_cons]
   constructor
   ·rintro(h|h|h)
    ·exact .inl (.inr h)
    ·exact .inl (.inl h)
    ·exact .inr h
   ·rintro((h|h)|h)
    ·exact .inr (.inl h)
    ·exact .inl h
    ·exact .inr (.inr h)
 rw[Br,this];simp
end
section
def AS:List Rat→List Rat
 |[]=>[]
 |[x]=>[x]
 |x::y::l=>if y=x then AS (x::l) else x::AS (y::l)
termination_by l=>l.length
theorem Nb {z:Rat} (l:List Rat):z∈AS l↔z∈l:=by
 fun_induction AS l with
 |case1=>exact Iff.rfl
 |case2 x=>exact Iff.rfl
 |case3 x l ih=>rw[ih];simp
 |case4 x y l h ih=>rw[List.mem_cons,ih,List.mem_cons (b:=x)]
theorem Nv (l:List Rat) (h:l.Pairwise (· ≤ ·)):(AS l).Pairwise (· < ·):=by
 fun_induction AS l with
 |case1=>exact List.Pairwise.nil
 |case2 x=>simp
 |case3 x l ih=>
  exact ih (List.pairwise_cons.1 h).2
 |case4 x y l hne ih=>
  have h2:=List.pairwise_cons.1 h
  have h3:=List.pairwise_cons.1 h2.2
  refine List.pairwise_cons.2 ⟨fun z hz=> ?_,ih h2.2⟩
  have hxy:x<y:=Rat.lt_of_le_of_ne (h2.1 y (List.mem_cons_self ..)) fun e=>hne e.symm
  rcases List.mem_cons.1 ((Nb _).1 hz) with rfl|hz
  ·exact hxy
  ·exact Rat.not_le.1 fun e=>Rat.not_le.2 hxy (Rat.le_trans (h3.1 z hz) e)
theorem H3: ∀ {l m:List Rat},l.Pairwise (· < ·)→m.Pairwise (· < ·)→(∀z,z∈l↔z∈m)→l=m
 |[],[],_,_,_=>rfl
 |[],y::m,_,_,h=>absurd ((h y).2 (List.mem_cons_self ..)) List.not_mem_nil
 |x::l,[],_,_,h=>absurd ((h x).1 (List.mem_cons_self ..)) List.not_mem_nil
 |x::l,y::m,h1,h2,h=>by
  have a1:=List.pairwise_cons.1 h1
  have a2:=List.pairwise_cons.1 h2
  have hxy:x=y:=by
   rcases List.mem_cons.1 ((h x).1 (List.mem_cons_self ..)) with e|e
   ·exact e
   ·rcases List.mem_cons.1 ((h y).2 (List.mem_cons_self ..)) with e2|e2
    ·exact e2.symm
    ·exact absurd (Rat.le_of_lt (a1.1 y e2)) (Rat.not_le.2 (a2.1 x e))
  subst hxy
  rw[H3 a1.2 a2.2 fun z=> ?_]
  constructor
  ·intro hz
   rcases List.mem_cons.1 ((h z).1 (List.mem_cons_of_mem _ hz)) with e|e
   ·subst e;exact absurd (a1.1 z hz) Rat.lt_irrefl
   ·exact e
  ·intro hz
   rcases List.mem_cons.1 ((h z).2 (List.mem_cons_of_mem _ hz)) with e|e
   ·subst e;exact absurd (a2.1 z hz) Rat.lt_irrefl
   ·exact e
end
section
def C0 (f g:FrP) (t:Rat):Bool:=decide (f.at t=g.at t)&&(decide (f.velB t≠g.velB t)||decide (f.velA t≠g.velA t))
def eqL (f g:FrP):List Rat:=AS (Br ((AP f g).filter (C0 f g)))
theorem Ov {f g:FrP} {t:Rat}:C0 f g t=true↔f.at t=g.at t∧(f.velB t≠g.velB t∨f.velA t≠g.velA t):=by
 simp[C0]
theorem Oc {f g:FrP} {t:Rat}:t∈eqL f g↔t∈AP f g∧C0 f g t=true:=by
 rw[eqL,Nb,MT,List.mem_filter]
theorem PW (f g:FrP):(eqL f g).Pairwise (· < ·):=Nv _ (IK _)
theorem JA {f g:FrP} {t:Rat}:t∈AP f g↔t=f.st∨t=g.st∨(f.vel≠0∧t=f.st+Ck f g/f.vel)∨(g.vel≠0∧t=g.st-Ck f g/g.vel)∨
  (f.vel≠g.vel∧t=(Ck f g+(f.vel*f.st-g.vel*g.st))/(f.vel-g.vel)):=by
 unfold AP
 by_cases h1:f.vel=0<;>by_cases h2:g.vel=0<;>by_cases h3:f.vel=g.vel<;>simp only[h1,h2,h3,if_true,if_false,List.mem_append,List.mem_cons,List.not_mem_nil,or_false,false_or,ne_eq,not_true,not_false_eq_true,true_and,false_and,or_assoc]<;>(try split)<;>simp_all
end
section
theorem Sx {f:FrP} {a b:Rat} (hab:a≤b) (h:f.st≤a∨b≤f.st):f.at b=f.at a+f.velA a*(b-a):=by
 unfold FrP.at FrP.velA
 rcases h with h|h
 ·rw[if_neg (show¬a<f.st by grind)]
  by_cases h1:b≤f.st
  ·have e1:b=f.st:=by grind
   have e2:a=f.st:=by grind
   rw[if_pos h1,if_pos (by grind)]
   grind
  ·rw[if_neg h1]
   by_cases h2:a≤f.st
   ·have e2:a=f.st:=by grind
    rw[if_pos h2]
    grind
   ·rw[if_neg h2]
    grind
 ·rw[if_pos h,if_pos (show a≤f.st by grind)]
  by_cases h2:a<f.st
  ·rw[if_pos h2];grind
  ·rw[if_neg h2]
   have e:b=a:=by grind
   grind
def Ji (f g:FrP) (t:Rat):Rat:=t-(f.at t-g.at t)/(f.velA t-g.velA t)
theorem SV {f g:FrP} {a z:Rat} (haz:a<z) (hf:f.st≤a∨z≤f.st) (hg:g.st≤a∨z≤g.st) (he:f.at z=g.at z) (hv:f.velA a≠g.velA a):z=Ji f g a:=by
 have h1:=Sx (f:=f) (show a≤z by grind) hf
 have h2:=Sx (f:=g) (show a≤z by grind) hg
 have hv':f.velA a-g.velA a≠0:=fun e=>hv (by grind)
 have h3:(f.velA a-g.velA a)*(a-z)=f.at a-g.at a:=by grind
 have h4:(f.at a-g.at a)/(f.velA a-g.velA a)=a-z:=by
  rw[←h3,Rat.mul_comm,Rat.div_def,Rat.mul_assoc,Rat.mul_inv_cancel _ hv',Rat.mul_one]
 unfold Ji
 rw[h4]
 grind
theorem MC {f:FrP} {a z:Rat} (haz:a<z) (h:f.st≤a∨z<f.st):f.velA z=f.velA a:=by
 unfold FrP.velA
 rcases h with h|h
 ·rw[if_neg (show¬z<f.st by grind),if_neg (show¬a<f.st by grind)]
 ·rw[if_pos h,if_pos (show a<f.st by grind)]
theorem H5 {f:FrP} {z:Rat} (h:z≠f.st):f.velB z=f.velA z:=by
 unfold FrP.velB FrP.velA
 by_cases c:z<f.st
 ·rw[if_pos c,if_neg (by grind)]
 ·rw[if_neg c,if_pos (by grind)]
theorem S2 {f g:FrP} {z:Rat} (hf:z<f.st) (hg:z<g.st):C0 f g z=false:=by
 have e1:f.velA z=0:=by unfold FrP.velA;rw[if_pos hf]
 have e2:g.velA z=0:=by unfold FrP.velA;rw[if_pos hg]
 unfold C0
 rw[H5 (by grind),H5 (by grind),e1,e2]
 simp
theorem Ll {f g:FrP} {a z:Rat} (haz:a<z) (hf:f.st≤a∨z<f.st) (hg:g.st≤a∨z<g.st) (h:C0 f g z=true):f.velA a≠g.velA a∧z=Ji f g a:=by
 have hzf:z≠f.st:=by rcases hf with c|c<;>grind
 have hzg:z≠g.st:=by rcases hg with c|c<;>grind
 unfold C0 at h
 rw[H5 hzf,H5 hzg,Bool.or_self,Bool.and_eq_true,decide_eq_true_eq,decide_eq_true_eq,MC haz hf,MC haz hg] at h
 exact⟨h.2,SV haz (hf.imp id (fun c=>by grind)) (hg.imp id (fun c=>by grind)) h.1 h.2⟩
end
section
theorem T9 {f g:FrP} {t:Rat} (h:C0 f g t=true):(f.vel≠0∧t=f.st+Ck f g/f.vel∧f.st≤t∧t≤g.st)∨(g.vel≠0∧t=g.st-Ck f g/g.vel∧g.st≤t∧t≤f.st)∨
  (f.vel≠g.vel∧t=(Ck f g+(f.vel*f.st-g.vel*g.st))/(f.vel-g.vel)):=by
 rw[Ov] at h
 obtain⟨he,h⟩:=h
 have key: ∀(c1:f.st≤t∨t≤f.st) (c2:g.st≤t∨t≤g.st),True:=fun _ _=>trivial
 have both:f.st≤t→g.st≤t→f.vel≠g.vel→t=(Ck f g+(f.vel*f.st-g.vel*g.st))/(f.vel-g.vel):=fun h1 h2 h3=>by
  rw[FrP.at_ge h1,FrP.at_ge h2] at he
  have:f.vel-g.vel≠0:=by grind
  unfold Ck
  grind
 have fst:f.st≤t→t≤g.st→f.vel≠0→t=f.st+Ck f g/f.vel:=fun h1 h2 h3=>by
  rw[FrP.at_ge h1,FrP.at_le h2] at he
  unfold Ck
  grind
 have snd:t≤f.st→g.st≤t→g.vel≠0→t=g.st-Ck f g/g.vel:=fun h1 h2 h3=>by
  rw[FrP.at_le h1,FrP.at_ge h2] at he
  unfold Ck
  grind
 rcases h with h|h
 ·unfold FrP.velB at h
  by_cases c1:f.st<t
  ·rw[if_pos c1] at h
   by_cases c2:g.st<t
   ·rw[if_pos c2] at h
    exact .inr (.inr ⟨h,both (Rat.le_of_lt c1) (Rat.le_of_lt c2) h⟩)
   ·rw[if_neg c2] at h
    exact .inl ⟨h,fst (Rat.le_of_lt c1) (Rat.not_lt.1 c2) h,Rat.le_of_lt c1,Rat.not_lt.1 c2⟩
  ·rw[if_neg c1] at h
   by_cases c2:g.st<t
   ·rw[if_pos c2] at h
    exact .inr (.inl ⟨fun e=>h e.symm,snd (Rat.not_lt.1 c1) (Rat.le_of_lt c2) (fun e=>h e.symm),Rat.le_of_lt c2,Rat.not_lt.1 c1⟩)
   ·rw[if_neg c2] at h
    exact absurd I h
 ·unfold FrP.velA at h
  by_cases c1:t<f.st
  ·rw[if_pos c1] at h
   by_cases c2:t<g.st
   ·rw[if_pos c2] at h
    exact absurd I h
   ·rw[if_neg c2] at h
    exact .inr (.inl ⟨fun e=>h e.symm,snd (Rat.le_of_lt c1) (Rat.not_lt.1 c2) (fun e=>h e.symm),Rat.not_lt.1 c2,Rat.le_of_lt c1⟩)
  ·rw[if_neg c1] at h
   by_cases c2:t<g.st
   ·rw[if_pos c2] at h
    exact .inl ⟨h,fst (Rat.not_lt.1 c1) (Rat.le_of_lt c2) h,Rat.not_lt.1 c1,Rat.le_of_lt c2⟩
   ·rw[if_neg c2] at h
    exact .inr (.inr ⟨h,both (Rat.not_lt.1 c1) (Rat.not_lt.1 c2) h⟩)
theorem Sl {f g:FrP} {t:Rat} (h:C0 f g t=true):t∈eqL f g:=by
 rw[Oc,JA]
 refine⟨?_,h⟩
 rcases T9 h with⟨h0,h1,_⟩|⟨h0,h1,_⟩|⟨h0,h1⟩
 ·exact .inr (.inr (.inl ⟨h0,h1⟩))
 ·exact .inr (.inr (.inr (.inl ⟨h0,h1⟩)))
 ·exact .inr (.inr (.inr (.inr ⟨h0,h1⟩)))
end
section
def GN (a:Rat):List Rat→List Rat
 |[]=>[a]
 |b::l=>if a<b then a::b::l else if a=b then b::l else b::GN a l
theorem GU {a z:Rat}: ∀ {l:List Rat},z∈GN a l↔z=a∨z∈l
 |[]=>by simp[GN]
 |b::l=>by
  unfold GN
  split
  ·simp
  ·split
   ·rename_i h
    subst h
    simp
   ·rw[List.mem_cons,GU,List.mem_cons]
    constructor
    ·rintro(h|h|h)
     ·exact .inr (.inl h)
     ·exact .inl h
     ·exact .inr (.inr h)
    ·rintro(h|h|h)
     ·exact .inr (.inl h)
     ·exact .inl h
     ·exact .inr (.inr h)
theorem Fx {a:Rat}: ∀ {l:List Rat},l.Pairwise (· < ·)→(GN a l).Pairwise (· < ·)
 |[],_=>by simp[GN]
 |b::l,h=>by
  have h2:=List.pairwise_cons.1 h
  unfold GN
  split
  ·rename_i hab
   refine List.pairwise_cons.2 ⟨fun z hz=> ?_,h⟩
   rcases List.mem_cons.1 hz with rfl|hz
   ·exact hab
   ·have:=h2.1 z hz
    exact Rat.not_le.1 fun hc=>Rat.not_lt.2 (Rat.le_trans hc (Rat.le_of_lt hab)) this
  ·split
   ·exact h
   ·rename_i h1 hne
    have hba:b<a:=Rat.lt_of_le_of_ne (Rat.not_lt.1 h1) fun e=>hne e.symm
    refine List.pairwise_cons.2 ⟨fun z hz=> ?_,Fx h2.2⟩
    rcases GU.1 hz with rfl|hz
    ·exact hba
    ·exact h2.1 z hz
def Im (l xs:List Rat):List Rat:=xs.foldl (fun o z=>GN z o) l
theorem LU {z:Rat}: ∀(xs l:List Rat),z∈Im l xs↔z∈l∨z∈xs
 |[],l=>by simp[Im]
 |x::xs,l=>by
  show z∈Im (GN x l) xs↔_
  rw[LU xs,GU,List.mem_cons]
  constructor
  ·rintro((h|h)|h)
   ·exact .inr (.inl h)
   ·exact .inl h
   ·exact .inr (.inr h)
  ·rintro(h|h|h)
   ·exact .inl (.inr h)
   ·exact .inl (.inl h)
   ·exact .inr h
theorem JQ: ∀(xs l:List Rat),l.Pairwise (· < ·)→(Im l xs).Pairwise (· < ·)
 |[],_,h=>h
 |_::xs,_,h=>JQ xs _ (Fx h)
theorem SN (l xs ys:List Rat):Im l (xs++ys)=Im (Im l xs) ys:=List.foldl_append
theorem RZ (l xs:List Rat) (y:Rat):Im l (xs++[y])=GN y (Im l xs):=SN l xs [y]
theorem OD (a:Rat): ∀l:List Rat,(GN a l).length≤l.length+1
 |[]=>Nat.le_refl _
 |b::l=>by
  have ih:=OD a l
  unfold GN
  split
  ·simp
  ·split
   ·simp
   ·simpa using ih
theorem OG: ∀(xs l:List Rat),(Im l xs).length≤l.length+xs.length
 |[],_=>Nat.le_refl _
 |x::xs,l=>by
  have h1:=OG xs (GN x l)
  have h2:=OD x l
  show(Im (GN x l) xs).length≤_
  rw[List.length_cons];omega
end
section
def loS (f g:FrP):Rat:=if g.st<f.st then g.st else f.st
def hiS (f g:FrP):Rat:=if g.st<f.st then f.st else g.st
def anc (f g:FrP) (i:Nat):Rat:=if i=0 then loS f g else hiS f g
def F8 (f g:FrP) (i:Nat):Rat:=Ji f g (anc f g i)
def crB (f g:FrP) (i:Nat):Bool:=decide (f.velA (anc f g i)≠g.velA (anc f g i))&&(decide (anc f g i<F8 f g i)&&(decide (i=1)||decide (F8 f g i<hiS f g)))
def Bi (f g:FrP) (i:Nat):List Rat:=[f.st,g.st]++((List.range i).filter (crB f g)).map (F8 f g)
theorem J9 (f g:FrP) (i:Nat):Bi f g (i+1)=Bi f g i++if crB f g i=true then[F8 f g i] else[]:=by
 unfold Bi
 rw[List.range_succ,List.filter_append,List.map_append, ←List.append_assoc]
 congr 1
 show List.map _ (List.filter _ [i])=_
 rw[List.filter_cons]
 cases crB f g i<;>rfl
theorem GR (f g:FrP) (i:Nat):(Bi f g i).length≤2+i:=by
 unfold Bi
 have:=List.length_filter_le (crB f g) (List.range i)
 rw[List.length_range] at this
 rw[List.length_append,List.length_map]
 simp only[List.length_cons,List.length_nil]
 omega
theorem Rp {f g:FrP} {z:Rat}:z∈Bi f g 2↔z=f.st∨z=g.st∨(crB f g 0=true∧z=F8 f g 0)∨(crB f g 1=true∧z=F8 f g 1):=by
 rw[J9,J9,show Bi f g 0=[f.st,g.st] from rfl]
 cases crB f g 0<;>cases crB f g 1<;>simp
theorem SL {f g:FrP} {z:Rat} (h:C0 f g z=true):z∈Bi f g 2:=by
 rw[Rp]
 by_cases e1:z=f.st
 ·exact .inl e1
 by_cases e2:z=g.st
 ·exact .inr (.inl e2)
 have hlo:loS f g≤f.st∧loS f g≤g.st∧(loS f g=f.st∨loS f g=g.st):=by
  unfold loS
  by_cases c:g.st<f.st
  ·rw[if_pos c];exact⟨by grind,by grind, .inr rfl⟩
  ·rw[if_neg c];exact⟨by grind,by grind, .inl rfl⟩
 have hhi:f.st≤hiS f g∧g.st≤hiS f g∧(hiS f g=f.st∨hiS f g=g.st):=by
  unfold hiS
  by_cases c:g.st<f.st
  ·rw[if_pos c];exact⟨by grind,by grind, .inl rfl⟩
  ·rw[if_neg c];exact⟨by grind,by grind, .inr rfl⟩
 have hboth:(loS f g=f.st∧hiS f g=g.st)∨(loS f g=g.st∧hiS f g=f.st):=by
  unfold loS hiS
  by_cases c:g.st<f.st
  ·rw[if_pos c,if_pos c];exact .inr ⟨rfl,rfl⟩
  ·rw[if_neg c,if_neg c];exact .inl ⟨rfl,rfl⟩
 have n1:z≠loS f g:=by rcases hlo.2.2 with e|e<;>rw[e]<;>assumption
 have n2:z≠hiS f g:=by rcases hhi.2.2 with e|e<;>rw[e]<;>assumption
 by_cases c1:z<loS f g
 ·rw[S2 (show z<f.st by grind) (show z<g.st by grind)] at h
  cases h
 have c1:loS f g<z:=by grind
 by_cases c2:z<hiS f g
 ·have hs:(f.st≤loS f g∨z<f.st)∧(g.st≤loS f g∨z<g.st):=by
   rcases hboth with⟨a,b⟩|⟨a,b⟩
   ·exact⟨.inl (by grind), .inr (by grind)⟩
   ·exact⟨.inr (by grind), .inl (by grind)⟩
  obtain⟨h1,h2⟩:=Ll c1 hs.1 hs.2 h
  refine .inr (.inr (.inl ⟨?_,h2⟩))
  have e:anc f g 0=loS f g:=rfl
  unfold crB
  rw[show F8 f g 0=z from h2.symm,e,dT h1,dT c1,dT c2]
  rfl
 ·have c2:hiS f g<z:=by grind
  obtain⟨h1,h2⟩:=Ll c2 (.inl hhi.1) (.inl hhi.2.1) h
  refine .inr (.inr (.inr ⟨?_,h2⟩))
  have e:anc f g 1=hiS f g:=rfl
  unfold crB
  rw[show F8 f g 1=z from h2.symm,e,dT h1,dT c2]
  rfl
def Bh (f g:FrP) (i:Nat):List Rat:=Im [] (((Bi f g 2).take i).filter (C0 f g))
theorem Ho (f g:FrP) (i:Nat):(Bh f g i).Pairwise (· < ·):=JQ _ _ List.Pairwise.nil
theorem TL (f g:FrP) (i:Nat):(Bh f g i).length≤4:=by
 have h1:=OG (((Bi f g 2).take i).filter (C0 f g)) []
 have h2:=List.length_filter_le (C0 f g) ((Bi f g 2).take i)
 have h3:=GR f g 2
 rw[List.length_take] at h2
 have h1:(Bh f g i).length≤0+(((Bi f g 2).take i).filter (C0 f g)).length:=h1
 omega
theorem Tf {f g:FrP} {i:Nat} {x:Rat} (h:x∈Bh f g i):x∈(Bi f g 2).take i:=by
 rcases(LU _ _).1 h with h|h
 ·cases h
 ·exact(List.mem_filter.1 h).1
theorem RE (f g:FrP) {i:Nat} (hi:i<(Bi f g 2).length):Bh f g (i+1)=if C0 f g (Bi f g 2)[i]=true then GN (Bi f g 2)[i] (Bh f g i) else Bh f g i:=by
 unfold Bh
 rw[List.take_add_one,List.getElem?_eq_getElem hi,List.filter_append]
 show Im [] (_++List.filter _ [_])=_
 rw[List.filter_cons,List.filter_nil]
 cases C0 f g (Bi f g 2)[i]
 ·show Im [] (_++[])=_
  rw[List.append_nil];rfl
 ·exact RZ _ _ _
theorem SA (f g:FrP):Bh f g (Bi f g 2).length=eqL f g:=
 H3 (Ho f g _) (PW f g) fun z=>by
  unfold Bh
  rw[List.take_length,LU,List.mem_filter]
  constructor
  ·rintro(h|h)
   ·cases h
   ·exact Sl h.2
  ·exact fun h=> .inr ⟨SL (Oc.1 h).2,(Oc.1 h).2⟩
theorem VI {l:List Rat} {z:Rat} (hs:l.Pairwise (· < ·)) {k:Nat} (hk:k≤l.length) (h1: ∀j (hj:j<l.length),j<k→l[j]<z) (h2: ∀hj:k<l.length,z<l[k]):l.take k++[z]++l.drop k=GN z l:=by
 refine H3 ?_ (Fx hs) fun x=> ?_
 ·have hup: ∀y∈l.drop k,z<y:=fun y hy=>by
   obtain⟨j,hj,rfl⟩:=List.getElem_of_mem hy
   rw[List.length_drop] at hj
   rw[List.getElem_drop]
   have h3:=h2 (by omega)
   rcases Nat.eq_zero_or_pos j with e|e
   ·subst e;exact h3
   ·have:=List.pairwise_iff_getElem.1 hs k (k+j) (by omega) (by omega) (by omega)
    grind
  have hlo: ∀x∈l.take k,x<z:=fun x hx=>by
   obtain⟨j,hj,rfl⟩:=List.getElem_of_mem hx
   rw[List.length_take] at hj
   rw[List.getElem_take]
   exact h1 j (by omega) (by omega)
  refine List.pairwise_append.2 ⟨List.pairwise_append.2 ⟨hs.sublist (List.take_sublist ..),List.pairwise_singleton ..,fun x hx y hy=> ?_⟩,hs.sublist (List.drop_sublist ..),fun x hx y hy=> ?_⟩
  ·rw[List.mem_singleton.1 hy];exact hlo x hx
  ·have:=hup y hy
   rcases List.mem_append.1 hx with h|h
   ·have:=hlo x h;grind
   ·rw[List.mem_singleton.1 h];exact this
 ·rw[GU,List.mem_append,List.mem_append,List.mem_singleton]
  conv=>rhs;rw[←List.take_append_drop k l,List.mem_append]
  constructor
  ·rintro((h|h)|h)
   ·exact .inr (.inl h)
   ·exact .inl h
   ·exact .inr (.inr h)
  ·rintro(h|h|h)
   ·exact .inl (.inr h)
   ·exact .inl (.inl h)
   ·exact .inr h
end
section
-- OLD
open Go Go.RowKit Go.Am
set_option maxRecDepth 10000
structure Sd where
 x:Int
 y:Int
 rise:Int
 run:Int
 gable:Bool
 plate:Int
 over:Int
 deriving DecidableEq,Inhabited
abbrev Sd.cells (s:Sd):List Value:=[.int .i64 s.x, .int .i64 s.y, .int .i64 s.rise, .int .i64 s.run, .bool s.gable, .int .i64 s.plate, .int .i64 s.over]
abbrev Sd.val (s:Sd):Value:= .agg #[.int .i64 s.x, .int .i64 s.y, .int .i64 s.rise, .int .i64 s.run, .bool s.gable, .int .i64 s.plate, .int .i64 s.over]
abbrev spot (x y:Int):Value:= .agg #[.int .i64 x, .int .i64 y]
abbrev G6 (s t u:Sd):Value:= .agg #[.int .i64 s.x, .int .i64 s.y, .int .i64 s.rise, .int .i64 s.run, .bool s.gable, .int .i64 s.plate, .int .i64 s.over, .int .i64 t.x, .int .i64 t.y, .int .i64 t.rise, .int .i64 t.run, .bool t.gable, .int .i64 t.plate, .int .i64 t.over, .int .i64 u.x, .int .i64 u.y, .int .i64 u.rise, .int .i64 u.run, .bool u.gable, .int .i64 u.plate, .int .i64 u.over]
theorem Bp (s:Sd):AN Tryz.prog 218 [s.val] (spot s.x s.y):=by
 intro W
 refine Ab Tryz.func218 I I I ?_
 refine zA (zB ?_)
 refine wF I I fun _=> ?_
 refine Be (z:=spot 0 0) I I I (fun W=>by kernel_rfl) fun b3=> ?_
 refine zC (zE (zA (zB (wP I (wB 0 I I I (wP I (wB 0 I I I ?_)))))))
 refine FQ (spot 0 0) tH I I I I I (fun W=>by kernel_rfl) I I ?_
 exact wS 1 I I I (zC (zE (zO (AB tH I (.cell 1 I I I I I) () I O fun W _=>At.nil _ _))))
theorem KV (x y u v:Int):AN Tryz.prog 219 [spot x y,spot u v] (spot (w64 (u-x)) (w64 (v-y))):=by
 intro W
 refine Ab Tryz.func219 I I I ?_
 refine zA (zB ?_)
 refine wF I I fun _=> ?_
 refine wF I I fun _=> ?_
 refine Be (z:=spot 0 0) I I I (fun W=>by kernel_rfl) fun b3=> ?_
 refine zC (zE (zA (zB (wP I (wB 1 I I I (wP I (wB 0 I I I (wP I (wP I (wB 1 I I I (wP I (wB 0 I I I (wP I ?_)))))))))))))
 refine FQ (spot 0 0) tH I I I I I (fun W=>by kernel_rfl) I I ?_
 exact wS 2 I I I (zC (zE (zO (AB tH I (.cell 2 I I I I I) () I O fun W _=>At.nil _ _))))
theorem Ka (x y u v:Int):AN Tryz.prog 278 [spot x y,spot u v] (.int .i64 (w64 (w64 (x*v)-w64 (y*u)))):=by
 intro W
 refine Ab Tryz.func278 I I I ?_
 refine zA (zB ?_)
 refine wF I I fun _=> ?_
 refine wF I I fun _=> ?_
 refine wP I (zC (zE (zA (zB (wP I (wB 0 I I I (wP I (wB 1 I I I (wP I (wP I (wB 0 I I I (wP I (wB 1 I I I ?_)))))))))))))
 exact wP I (wP I (wP I (zC (zE (zO (wR1 I I I))))))
theorem Jk (s t u:Sd):AN Tryz.prog 220 [G6 s t u] (spot (w64 (u.x-t.x)) (w64 (u.y-t.y))):=by
 intro W
 refine Ab Tryz.func220 I I I ?_
 refine zA (zB ?_)
 refine wF I I fun _=> ?_
 refine Be (z:=spot 0 0) I I I (fun W=>by kernel_rfl) fun b3=> ?_
 refine zC (zE (zA (zU (qP I (qB 0 I I I (qC I I (fun W _=>Bp t W) (qP I (qB 0 I I I (qC I I (fun W _=>Bp u W) (qC I I (fun W _=>KV t.x t.y u.x u.y W) (zD (wS 1 I I I (zC ?_)))))))))))))
 exact zE (zO (AB tH I (.cell 1 I I I I I) () I O fun W _=>At.nil _ _))
theorem PK (s t u:Sd):AN Tryz.prog 225 [G6 s t u] (.bool (decide (w64 (w64 (w64 (t.x-s.x)*w64 (u.y-t.y))-w64 (w64 (t.y-s.y)*w64 (u.x-t.x)))>0))):=by
 intro W
 refine Ab Tryz.func225 I I I ?_
 refine zA (zB ?_)
 refine wF I I fun _=> ?_
 refine wP I (zC (zE (zA (zU (qP I (qB 0 I I I (qC I I (fun W _=>Bp s W) (qP I (qB 0 I I I (qC I I (fun W _=>Bp t W) (qC I I (fun W _=>KV s.x s.y t.x t.y W) (qB 0 I I I (qC I I (fun W _=>Jk s t u W) ?_)))))))))))))
 exact qC I I (fun W _=>Ka _ _ _ _ W) (qP I (qP I (zD (zC (zE (zO (wR1 I I I)))))))
structure HR (W:World) (b off:Nat) (l:List Sd):Prop where
 get: ∀(i:Nat) (s:Sd),l[i]? =some s→Az W b (off+i*7) s.cells
def BI (W:World) (p:Option Addr) (l:List Sd):Prop:=l=[]∨ ∃b off,p=some ⟨b,off,none⟩∧HR W b off l
theorem BI.below {W W':World} {p:Option Addr} {l:List Sd} {n:Nat} (h:BI W p l) (hn:W.heap.size≤n) (hb:Below n W W'):BI W' p l:=by
 rcases h with h|⟨b,off,h1,h2⟩
 ·exact .inl h
 ·exact .inr ⟨b,off,h1,⟨fun i s hs=>(h2.get i s hs).below hn hb⟩⟩
theorem BI.hp {W0 W:World} {bxs:List Bx} {p:Option Addr} {l:List Sd} (h:BI W0 p l) (hp:Hp W0 bxs W):BI W p l:=h.below (Nat.le_refl _) hp.below
def sd (l:List Sd) (i:Nat):Sd:=l.getD i default
theorem Lr {l:List Sd} {i:Nat} (h:i<l.length):l[i]? =some (sd l i):=by simp[sd,h]
theorem BI.row {W:World} {p:Option Addr} {l:List Sd} (h:BI W p l) {i:Nat} (hi:i<l.length): ∃b off,p=some ⟨b,off,none⟩∧ ∀k,k<l.length→Az W b (off+k*7) (sd l k).cells:=by
 rcases h with rfl|⟨b,off,h1,h2⟩
 ·simp at hi
 ·exact⟨b,off,h1,fun k hk=>h2.get k _ (Lr hk)⟩
end
section
-- OLD
open Go Go.RowKit Go.Am
set_option maxRecDepth 10000
theorem Et (p:Option Addr) (n cap:Nat) (W:World):Ae Tryz.prog 217 #[slv p n cap] W (fun b:Nat=> .func (.func 277) #[] #[.pointer (some ⟨b,0,none⟩)]) (fun _=>True) (fun b=>[⟨b,76,[slv p n cap],true,none⟩]):=by
 refine Ab (args:=[slv p n cap]) Tryz.func217 I I I ?_
 refine zA (zB ?_)
 refine Ay rfl rfl rfl rfl ?_;intro b
 exact wP I (zC (zE (zA (zB (wP I (wP I (zC (zE (zO (AB tH I (.tmp I) b I O fun W hp=>At.of_hp hp))))))))))
def prv (n i:Nat):Nat:=(i+n-1)%n
def nxt (n i:Nat):Nat:=(i+1)%n
abbrev Ue (l:List Sd) (k:Nat):List Value:=[.int .i64 k,G6 (sd l (prv l.length k)) (sd l k) (sd l (nxt l.length k))]
structure Dv (b:Nat) (p:Option Addr) (cap:Nat) (l:List Sd) (W:World):Prop where
 var:Az W b 0 [slv p l.length cap]
 ring:BI W p l
theorem Fg (b:Nat) (p:Option Addr) (cap:Nat) (l:List Sd) (hn:l.length<4611686018427387904):
  RR Tryz.prog 277 [.pointer (some ⟨b,0,none⟩)] l.length (Ue l) (Dv b p cap l):=by
 refine⟨fun y J Jx hNeed hdr hY W hJ=> ?_⟩
 refine EK (args:=[.func (.yield y) #[] #[], .pointer (some ⟨b,0,none⟩)]) (J0:=J 0) Tryz.func277 I I I hJ ?_
 refine zA (zB (wL 0 I I (fun W hp=>(hNeed 0 W hp).var) I (wP I (wP I (zC (zE (zA (zB (wL 0 I I (fun W hp=>(hNeed 0 W hp).var) I (wP I (wP I (zC (zE ?_)))))))))))))
 refine zH ?_
 refine EP (X:=Nat) (fun k=>[(0, .func (.yield y) #[] #[]),(1, .pointer (some ⟨b,0,none⟩)),(3, .int .i64 (l.length:Nat)),(8, .int .i64 (l.length:Nat)),(9, .int .i64 (k:Nat))]) J (fun k=>k≤l.length) (fun k=>l.length-k) 0 (Nat.zero_le _) ⟨I,I,I,I,I,O⟩ (fun W h=>h) ?_
 intro k hk
 refine zA (zB (wP I (zC (zE (zA ?_)))))
 refine Af I ?_ ?_
 rotate_left
 ·intro h
  refine zJ (zK (zK (zL ?_)))
  have:k=l.length:=by simp at h;omega
  subst this
  exact Hw I fun W h=>h
 intro h
 have hk:k<l.length:=by simp at h;omega
 clear h
 refine zI (zE (zA (zH (zA (zB (wP I (wP I (zC (zE (zA ?_))))))))))
 have hz:(l.length:Int)≠0:=by omega
 have e1:(w64 (w64 ((k:Int)+(l.length:Int))-1)).tmod (l.length:Int)=((prv l.length k:Nat):Int):=by
  rw[Ai (x:=(k:Int)+l.length) (by omega) (by omega),Ai (by omega) (by omega)]
  have:(k:Int)+l.length-1=((k+l.length-1:Nat):Int):=by omega
  rw[this];rfl
 have e2:(w64 ((k:Int)+1)).tmod (l.length:Int)=((nxt l.length k:Nat):Int):=by
  rw[Ai (x:=(k:Int)+1) (by omega) (by omega)]
  rfl
 have l1:prv l.length k<l.length:=Nat.mod_lt _ (by omega)
 have l2:nxt l.length k<l.length:=Nat.mod_lt _ (by omega)
 refine G3 23 (hdr k) Tryz.mixed (by kernel_rfl) I ?_
 refine qP I (qP I (qL 0 I I (fun W hp=>(hNeed k W hp).var) I ?_))
 iterate 5 refine qP I ?_
 refine DU I I I I I hz ?_
 refine HU 20 _ I (congrArg (Value.int .i64) e1) ?_
 obtain⟨b2,off,rfl,hrow⟩: ∃b2 off,p=some ⟨b2,off,none⟩∧ ∀i,i<l.length→ ∀W,J k W→Az W b2 (off+i*7) (sd l i).cells:=by
  obtain⟨b2,off,e,_⟩:=(hNeed 0 W hJ).ring.row hk
  refine⟨b2,off,e,fun i hi W hW=> ?_⟩
  obtain⟨b3,off3,e',h⟩:=(hNeed k W hW).ring.row hk
  rw[e] at e'
  cases e'
  exact h i hi
 refine qJ ?_
 refine IL I I I I (fun W hp=>Az.load 0 tH I ((hrow _ l1) W hp) I) ?_
 refine qL 0 I I (fun W hp=>(hNeed k W hp).var) I (qP I ?_)
 refine qJ ?_
 refine IL I I I I (fun W hp=>Az.load 0 tH I ((hrow _ hk) W hp) I) ?_
 refine qL 0 I I (fun W hp=>(hNeed k W hp).var) I (qP I (qP I (qP I ?_)))
 refine DU I I I I I hz ?_
 refine HU 31 _ I (congrArg (Value.int .i64) e2) ?_
 refine qJ ?_
 refine IL I I I I (fun W hp=>Az.load 0 tH I ((hrow _ l2) W hp) I) ?_
 refine Ol (G6 default default default) tH I I I I I (fun W=>by kernel_rfl) I I ?_
 refine zD ?_
 refine DO (A1:=J (k+1)) (A2:=Jx) I I I I I I (fun W hp=>hY k W hk hp) ?_ ?_
 ·exact wP I (zC (zE (zS I (zI (zN (zE (zB (wP I (wP I (zC (Em (k+1) hk (by omega) ⟨I,I,I,I,congrArg (fun z=>some (Value.int .i64 z)) (AA (x:=(k:Int)+1) (by omega) (by omega)),O⟩ (fun W h=>h))))))))))))
 ·exact wP I (zC (zE (zR I (zO (zQ (zP (zP (zQ (Cc I (fun W h=>h))))))))))
end
section
-- OLD
open Go Go.RowKit Go.Am
set_option maxRecDepth 10000
-- BOXES 6
abbrev RV (a b c d:Int):Value:= .agg #[.int .i64 a, .int .i64 b, .int .i64 c, .int .i64 d]
theorem OO (s t u:Sd):AN Tryz.prog 221 [G6 s t u] (RV (if u.x<t.x then u.x else t.x) (if u.y<t.y then u.y else t.y) (if u.x>t.x then u.x else t.x) (if u.y>t.y then u.y else t.y)):=by
 intro W
 refine Ab Tryz.func221 I I I ?_
 refine zA (zB ?_)
 refine wF I I fun _=> ?_
 refine Be (z:=RV 0 0 0 0) I I I (fun W=>by kernel_rfl) fun b2=> ?_
 refine Aa (As (An ?_))
 refine Mc (X:=Nat×Nat) (fun x=>[(2, .pointer (some ⟨b2,0,none⟩)),(3, .pointer (some ⟨x.1,0,none⟩)),(4, .pointer (some ⟨x.2,0,none⟩))])
  (fun x=>[⟨b2,222,(RV 0 0 0 0).cells.toList,true,none⟩,⟨x.1,215,(spot t.x t.y).cells.toList,true,none⟩,⟨x.2,215,(spot u.x u.y).cells.toList,true,none⟩]) 4 Tryz.mixed (by kernel_rfl) ?_ ?_
 ·refine qP I (qB 0 I I I (qC I I (fun W _=>Bp t W) (qP I (qB 0 I I I (qC I I (fun W _=>Bp u W) (zG (wX ?_)))))))
  refine RS.cons ?_ (RS.cons ?_ RS.nil)
  ·refine Be (z:=spot 0 0) I I I (fun W=>by kernel_rfl) fun b3=> ?_
   refine zC (zF (wX ?_))
   refine RS.cons ?_ RS.nil
   refine Be (z:=spot 0 0) I I I (fun W=>by kernel_rfl) fun b4=> ?_
   refine zC (zF (wX ?_))
   refine RS.cons ?_ RS.nil
   refine wS 2 I I I (zC (zF (wX ?_)))
   refine RS.cons ?_ RS.nil
   refine wS 3 I I I (zC (zF ?_))
   refine Bo I (by((repeat (first|refine Bk.same ?_|refine Bk.off I ?_));exact O)) ?_
   exact AE (b3,b4) ⟨I,I,I,O⟩ [1,2,3] (by decide) I
  ·refine Be (z:=spot 0 0) I I I (fun W=>by kernel_rfl) fun b4=> ?_
   refine zC (zF (wX ?_))
   refine RS.cons ?_ RS.nil
   refine Be (z:=spot 0 0) I I I (fun W=>by kernel_rfl) fun b3=> ?_
   refine zC (zF (wX ?_))
   refine RS.cons ?_ RS.nil
   refine wS 3 I I I (zC (zF (wX ?_)))
   refine RS.cons ?_ RS.nil
   refine wS 2 I I I (zC (zF ?_))
   refine Bo I (by((repeat (first|refine Bk.same ?_|refine Bk.off I ?_));exact O)) ?_
   exact AE (b3,b4) ⟨I,I,I,O⟩ [1,3,2] (by decide) I
 ·rintro⟨b3,b4⟩
  refine zE (zA (zB (wP I (wB 1 I I I (wP I (wB 2 I I I (wP I (wP I (wB 1 I I I (wP I (wB 2 I I I (wP I ?_))))))))))))
  refine FQ (spot 0 0) tH I I I I I (fun W=>by kernel_rfl) I I ?_
  refine wP I (wB 1 I I I (wP I (wB 2 I I I (wP I (wP I (wB 1 I I I (wP I (wB 2 I I I (wP I ?_)))))))))
  refine FQ (spot 0 0) tH I I I I I (fun W=>by kernel_rfl) I I ?_
  refine FQ (RV 0 0 0 0) tH I I I I I (fun W=>by kernel_rfl) I I ?_
  exact wS 0 I I I (zC (zE (zO (AB tH I (.cell 0 I I I I I) () I O fun W _=>At.nil _ _))))
theorem Ox (a b c d a' b' c' d':Int):AN Tryz.prog 222 [RV a b c d,RV a' b' c' d'] (.bool (decide (a≤c')&&decide (a'≤c)&&decide (b≤d')&&decide (b'≤d))):=by
 intro W
 refine Ab Tryz.func222 I I I ?_
 refine zA (zB ?_)
 refine wF I I fun _=> ?_
 refine wF I I fun _=> ?_
 refine wP I (zC (zE (zA (zB (wP I (wP I (wB 0 I I I (wP I (wP I (wB 1 I I I (wP I (wP I ?_))))))))))))
 refine A6 12 I (fun h12=> ?_) (fun h12=> ?_)
 ·refine wP I (wP I (wB 1 I I I (wP I (wP I (wB 0 I I I (wP I (wP I (wP I ?_))))))))
  refine A6 21 I (fun h21=> ?_) (fun h21=> ?_)
  ·refine wP I (wP I (wB 0 I I I (wP I (wP I (wB 1 I I I (wP I (wP I (wP I ?_))))))))
   refine A6 30 I (fun h30=> ?_) (fun h30=> ?_)
   ·exact wP I (wP I (wB 1 I I I (wP I (wP I (wB 0 I I I (wP I (wP I (wP I (zC (zE (zO (wR1 I I (by simp_all<;>(intros;omega))))))))))))))
   ·refine Ad I I ?_
    iterate 6 refine Ad I I ?_
    exact wP I (wP I (zC (zE (zO (wR1 I I (by simp_all<;>(intros;omega)))))))
  ·refine Ad I I ?_
   iterate 6 refine Ad I I ?_
   refine wP I (wP I ?_)
   iterate 7 refine Ad I I ?_
   exact wP I (wP I (zC (zE (zO (wR1 I I (by simp_all<;>(intros;omega)))))))
 ·refine Ad I I ?_
  iterate 6 refine Ad I I ?_
  refine wP I (wP I ?_)
  iterate 7 refine Ad I I ?_
  refine wP I (wP I ?_)
  iterate 7 refine Ad I I ?_
  exact wP I (wP I (zC (zE (zO (wR1 I I (by simp_all<;>(intros;omega)))))))
end
section
-- OLD
open Go Go.RowKit Go.Am
set_option maxRecDepth 10000
-- BOXES 6
theorem Dv.mk' {W0 W:World} {bxs:List Bx} {b:Nat} {p:Option Addr} {cap:Nat} {l:List Sd} (h:BI W0 p l) (hp:Hp W0 bxs W) (k:Nat) (hk:nth bxs k=some ⟨b,76,[slv p l.length cap],true,none⟩):Dv b p cap l W:=
 ⟨Az.of_bx hp k hk rfl,h.hp hp⟩
def Cu (l:List Sd):Nat→Int
 |0=>0
 |k+1=>w64 (Cu l k+w64 (w64 ((sd l k).x*(sd l (nxt l.length k)).y)-w64 ((sd l k).y*(sd l (nxt l.length k)).x)))
theorem Qp (W:World) (p:Option Addr) (cap:Nat) (l:List Sd) (hn:l.length<4611686018427387904) (hR:BI W p l):
  Ae Tryz.prog 223 #[slv p l.length cap] W (fun _:Unit=> .int .i64 (Cu l l.length)) (fun _=>True) (fun _=>[]):=by
 refine Ab (args:=[slv p l.length cap]) Tryz.func223 I I I ?_
 refine zA (zB (wP I (zC (zE (zA (zB ?_))))))
 refine Be (z:= .int .i64 0) I I I (fun W=>by kernel_rfl) fun b3=> ?_
 refine wS 0 I I I (zC (zE (zA (zA (zB (wP I ?_))))))
 refine wD (X:=Nat) I I (fun W _=>Et p l.length cap W) ?_
 intro b _
 refine zC (zE (zH ?_))
 refine DG (X:=Nat) (fun k=>[⟨b3,3,[.int .i64 (Cu l k)],true,none⟩,⟨b,76,[slv p l.length cap],true,none⟩]) (fun k x=>x=k) (fun _ _=>False) 0 I (by kernel_rfl) (Fg b p cap l hn) (fun _=>rfl) I [] I (fun k x W _ hp=>Dv.mk' hR hp 1 I) ?_ ?_ (fun _ _ _ _ _ h=>h.elim)
 ·intro k x d L rec hk hx hrec
  subst hx
  refine zB ?_
  refine Be (z:=G6 default default default) I I I (fun W=>by kernel_rfl) fun b5=> ?_
  refine wS 4 I I I (zC ?_)
  refine CI 3 hrec I ?_
  refine zH (zU (qB 0 I I I (qP I (qB 4 I I I (qC I I (fun W _=>Bp (sd l x) W) (qP I (qB 4 I I I (qC I I (fun W _=>Bp (sd l (nxt l.length x)) W) (qC I I (fun W _=>Ka _ _ _ _ W) (qP I (zD (wS 0 I I I (zC ?_)))))))))))))
  exact zN (BD 3 (x+1) hrec I I [_] I)
 ·intro x d L rec hx
  subst hx
  refine zN (zE (zA (zB (wB 0 I I I (wP I (zC (zE (zO ?_))))))))
  refine DB 2 I ?_
  exact wR1 I I I
end
section
-- OLD
open Go Go.RowKit Go.Am
set_option maxRecDepth 10000
-- BOXES 8
-- EQB 4
structure UR (W:World) (b off:Nat) (rs:List (List Sd)):Prop where
 get: ∀(i:Nat) (l:List Sd),rs[i]? =some l→ ∃p cap,Az W b (off+i*1) [slv p l.length cap]∧BI W p l
def Bv (W:World) (p:Option Addr) (rs:List (List Sd)):Prop:=rs=[]∨ ∃b off,p=some ⟨b,off,none⟩∧UR W b off rs
def rg (rs:List (List Sd)) (i:Nat):List Sd:=rs.getD i []
theorem Bf {rs:List (List Sd)} {i:Nat} (h:i<rs.length):rs[i]? =some (rg rs i):=by simp[rg,h]
theorem Bv.row {W:World} {p:Option Addr} {rs:List (List Sd)} (h:Bv W p rs) {i:Nat} (hi:i<rs.length):
  ∃b off,p=some ⟨b,off,none⟩∧ ∀k,k<rs.length→ ∃q cap,Az W b (off+k*1) [slv q (rg rs k).length cap]∧BI W q (rg rs k):=by
 rcases h with rfl|⟨b,off,h1,h2⟩
 ·simp at hi
 ·exact⟨b,off,h1,fun k hk=>h2.get k _ (Bf hk)⟩
theorem Bv.below {W W':World} {p:Option Addr} {rs:List (List Sd)} {n:Nat} (h:Bv W p rs) (hn:W.heap.size≤n) (hb:Below n W W'):Bv W' p rs:=by
 rcases h with h|⟨b,off,h1,h2⟩
 ·exact .inl h
 ·refine .inr ⟨b,off,h1,⟨fun i l hl=> ?_⟩⟩
  obtain⟨q,cap,h3,h4⟩:=h2.get i l hl
  exact⟨q,cap,h3.below hn hb,h4.below hn hb⟩
end
section
open Go Go.RowKit Go.Am
set_option maxRecDepth 10000
-- BOXES 3
theorem Ql (W:World) (m:Nat) (hm:m<1099511627776):Ae Tryz.prog 165 #[.slice none 0 0, .int .i64 (m:Nat)] W (fun V:Vec=>V.val 0) (fun V=>V.OK 7 0 []∧(0<m→V.p≠none)) (fun V=>[V.bx 80 []]):=by
 refine Ab (args:=[.slice none 0 0, .int .i64 (m:Nat)]) Tryz.func165 I I I ?_
 refine zA (zB (wP I (Aa (zE (zA (zA (zB (wP I (wP I (Aa (zE (zS I (zI ?_)))))))))))))
 refine zE (zA (zA (zB ?_)))
 iterate 8 refine wP I ?_
 refine Aa (zE (zA (zB (wP I (wP I (Aa (zE ?_)))))))
 have e14:w64 ((m:Int)-w64 (0-0))=m:=by
  have:w64 (0-0)=0:=rfl
  rw[this];exact(Ai (by omega) (by omega)).trans (by omega)
 refine AO 16 _ I (show Value.bool (decide (w64 ((m:Int)-w64 (0-0))>0))= .bool (decide (0<m)) by rw[e14];congr 1;simp) ?_
 refine Af I (fun h=> ?_) (fun h=> ?_)
 ·have h:0<m:=by simpa using h
  refine zB (wP I (wP I (wP I ?_)))
  refine Ea 0 tH I I I I I I I I (Nat.le_refl _) ?_
  refine wP I ?_
  refine Lz Tryz.vec76 (ku:= .i64) (by kernel_rfl) m I I I I I I I I e14 h (by simp only[maxLen];omega) (by omega) ?_
  intro V hV hp hj
  refine wP I (wP I ?_)
  obtain⟨p,cap,junk⟩:=V
  cases p with
  |none=>exact absurd rfl hp
  |some g=>
  refine Ea (a:=some ⟨g,0,none⟩) (len:=m) (cap:=cap) 0 tH I I I I I I I I (Nat.zero_le _) ?_
  refine wP I (Aa (zE (zA (zB (wP I (wP I (Aa (zE (zO ?_)))))))))
  obtain⟨h1,h2,h3⟩:=hV.cap (by simp)
  refine AB tH rfl (.tmp rfl) (⟨some g,cap,Cw [.int .i64 0, .int .i64 0, .int .i64 0, .int .i64 0, .bool false, .int .i64 0, .int .i64 0] m++junk⟩:Vec) rfl ⟨⟨rfl,(fun h=>by cases h),fun _=>⟨Nat.zero_le _,h2, ?_⟩⟩,fun _=>by simp⟩ fun W hp=>At.of_hp1 hp 0 rfl
  show 0+(Cw _ m++junk).length=cap*7
  rw[List.length_append,Nat.zero_add]
  exact h3
 ·have h:m=0:=by simp at h;omega
  subst h
  exact zI (zE (zA (zB (wP rfl (wP rfl (Aa (zE (zO (AB tH rfl (.tmp rfl) Vec.empty rfl ⟨Vec.OK.empty 7,fun h=>absurd h (Nat.lt_irrefl _)⟩ fun W hp=>Own.one (fun p hp=>by cases hp) List.nodup_nil)))))))))
def cellsOf (l:List Sd):List Value:=l.flatMap Sd.cells
theorem Lm (l m:List Sd):cellsOf (l++m)=cellsOf l++cellsOf m:=List.flatMap_append
theorem EW: ∀l:List Sd,(cellsOf l).length=l.length*7
 |[]=>rfl
 |s::l=>by
  show(s.cells++cellsOf l).length=_
  rw[List.length_append,EW l,List.length_cons]
  show 7+l.length*7=(l.length+1)*7
  omega
theorem GM: ∀(l:List Sd) (i:Nat) (s:Sd),l[i]? =some s→ ∀j,j<7→(cellsOf l)[i*7+j]? =s.cells[j]?
 |[],i,s,h,_,_=>by simp at h
 |t::l,0,s,h,j,hj=>by
  obtain rfl:t=s:=by simpa using h
  show(t.cells++cellsOf l)[0*7+j]? =_
  rw[Nat.zero_mul,Nat.zero_add,List.getElem?_append_left (show j<t.cells.length from hj)]
 |t::l,i+1,s,h,j,hj=>by
  show(t.cells++cellsOf l)[(i+1)*7+j]? =_
  rw[List.getElem?_append_right (show t.cells.length≤(i+1)*7+j by show 7≤_;omega)]
  show(cellsOf l)[(i+1)*7+j-7]? =_
  rw[show(i+1)*7+j-7=i*7+j by omega]
  exact GM l i s (by simpa using h) j hj
theorem O1: ∀l:List Sd, ∀u∈cellsOf l,u.oneCell'=true:=fun l u hu=>by
 obtain⟨s,_,h⟩:=List.mem_flatMap.1 hu
 simp at h
 rcases h with rfl|rfl|rfl|rfl|rfl|rfl|rfl<;>rfl
theorem HR.of_cells {W:World} {b off:Nat} {l:List Sd} (hlt:b<W.heap.size) (h: ∀j u,(cellsOf l)[j]? =some u→W.cell? ⟨b,off+j,none⟩=some u):HR W b off l:=by
 refine⟨fun i s hs=>⟨hlt,fun j u hj=> ?_⟩⟩
 have hj':j<7:=(List.getElem?_eq_some_iff.1 hj).1
 have h1:=GM l i s hs j hj'
 rw[hj] at h1
 rw[Nat.add_assoc]
 exact h _ _ h1
theorem HR.cells {W:World} {b off:Nat} {l:List Sd} (h:HR W b off l): ∀j u,(cellsOf l)[j]? =some u→W.cell? ⟨b,off+j,none⟩=some u:=by
 intro j u hj
 have hlt:j<l.length*7:=by rw[←EW];exact(List.getElem?_eq_some_iff.1 hj).1
 have hi:j/7<l.length:=by omega
 have h1:=GM l (j/7) _ (List.getElem?_eq_getElem hi) (j%7) (Nat.mod_lt _ (by omega))
 have e:j/7*7+j%7=j:=by omega
 rw[e,hj] at h1
 have h2:=(h.get (j/7) _ (List.getElem?_eq_getElem hi)).get (j%7) u h1.symm
 rw[Nat.add_assoc,e] at h2
 exact h2
theorem Vec.ring {V:Vec} {l:List Sd} (hV:V.OK 7 l.length (cellsOf l)): ∃p cap,V.val l.length=slv p l.length cap∧ ∀ {W0 W:World} {bxs:List Bx},Hp W0 bxs W→ ∀k,nth bxs k=some (V.bx 80 (cellsOf l))→BI W p l:=by
 obtain⟨p,cap,junk⟩:=V
 cases p with
 |none=>
  have h0:=hV.nil rfl
  refine⟨none,0,by rw[h0];rfl,fun _ _ _=> .inl (List.length_eq_zero_iff.1 h0)⟩
 |some g=>
  refine⟨some ⟨g,0,none⟩,cap,I,fun hp k hk=> .inr ⟨g,0,I,HR.of_cells (Az.of_bx hp k hk I).lt fun j u hj=> ?_⟩⟩
  refine(Az.of_bx hp k hk I).get j u ?_
  show(cellsOf l++junk)[j]? =some u
  rw[List.getElem?_append_left (List.getElem?_eq_some_iff.1 hj).1]
  exact hj
def tot (rs:List (List Sd)):Nat:=(rs.map List.length).sum
theorem GH (rs:List (List Sd)):rs.flatten.length=tot rs:=by simp[tot,List.length_flatten]
theorem MR {rs:List (List Sd)} {k:Nat} (hk:k<rs.length):(rs.take (k+1)).flatten=(rs.take k).flatten++rg rs k:=by
 rw[List.take_add_one,Bf hk];simp
theorem Ci (rs:List (List Sd)) (k:Nat):tot (rs.take k)≤tot rs:=by
 conv=>rhs;rw[←List.take_append_drop k rs]
 unfold tot
 rw[List.map_append,List.sum_append];omega
theorem Bg {rs:List (List Sd)} {k:Nat} (hk:k<rs.length):tot (rs.take (k+1))=tot (rs.take k)+(rg rs k).length:=by
 rw[←GH, ←GH,MR hk,List.length_append]
theorem Nn (W:World) (p:Option Addr) (cap:Nat) (rs:List (List Sd)) (hn:rs.length<4611686018427387904) (hT:tot rs<1099511627776) (hR:Bv W p rs) (hne: ∀l∈rs,l≠[]):
  Ae Tryz.prog 112 #[slv p rs.length cap] W (fun V:Vec=>V.val rs.flatten.length) (fun V=>V.OK 7 rs.flatten.length (cellsOf rs.flatten)) (fun V=>[V.bx 80 (cellsOf rs.flatten)]):=by
 refine Ab (args:=[slv p rs.length cap]) Tryz.func112 I I I ?_
 refine zA (zB (wP I (Aa (zE (zA (zB (wP I (Aa (zE (zA (zA (zB (wP I (wP I (wP I ?_)))))))))))))))
 refine Aa (zE (zH ?_))
 refine Ar (X:=Nat) (fun k=>[(0,slv p rs.length cap),(3, .int .i64 (tot (rs.take k):Nat)),(9,slv p rs.length cap),(10, .int .i64 (rs.length:Nat)),(11, .int .i64 (k:Nat))]) (fun _=>[])
  (fun k=>k≤rs.length) (fun k=>rs.length-k) 0 (Nat.zero_le _) ⟨rfl,rfl,rfl,rfl,rfl,trivial⟩ [] rfl ?_
 intro k hk
 refine zA (zB (wP I (Aa (zE (zA ?_)))))
 refine Af I (fun h=> ?_) (fun h=> ?_)
 ·have hk:k<rs.length:=by simp at h;omega
  clear h
  obtain⟨b,off,rfl,hrow⟩:=hR.row hk
  obtain⟨q,cap2,hq1,hq2⟩:=hrow k hk
  refine zI (zE (zA (zH (zA (zB ?_)))))
  refine wJ ?_
  refine wL 0 I I (fun W hp=>hq1.hp hp) I (wP I (Aa (zE (zA (zB ?_)))))
  iterate 5 refine wP I ?_
  refine Aa ?_
  have hs:w64 ((tot (rs.take k):Nat)+((rg rs k).length:Nat))=(tot (rs.take (k+1)):Nat):=by
   have h1:=Bg hk
   have h2:=Ci rs (k+1)
   rw[Ai (by omega) (by omega)];omega
  refine zE (zA (zB ?_))
  refine Aj 3 _ I (congrArg (Value.int .i64) hs) ?_
  exact wP I (wP I (Aa (zE (zS I (zI (zN (zE (zB (wP I (wP I (Aa (Ak (k+1) hk (by omega) ⟨I,I,I,I,congrArg (fun z=>some (Value.int .i64 z)) (AA (x:=(k:Int)+1) (by omega) (by omega)),O⟩ [] I))))))))))))
 ·have e:k=rs.length:=by simp at h;omega
  subst e
  clear h
  rw[List.take_length]
  refine zJ (zK (zK (zL (zE (zA (zB (wP I ?_)))))))
  refine wD (X:=Vec) I I (fun W _=>Ql W (tot rs) hT) ?_
  rintro V0 ⟨hV0,hV0p⟩
  refine wP I (Aa (zE (zA (zA (zB (wP I (wP I (wP I (Aa (zE (zH ?_)))))))))))
  refine Ar (X:=Nat×Vec) (fun x=>[(6,x.2.val (tot (rs.take x.1))),(25,slv p rs.length cap),(26, .int .i64 (rs.length:Nat)),(27, .int .i64 (x.1:Nat))]) (fun x=>[x.2.bx 80 (cellsOf (rs.take x.1).flatten)])
   (fun x=>x.1≤rs.length∧x.2.OK 7 (tot (rs.take x.1)) (cellsOf (rs.take x.1).flatten)) (fun x=>rs.length-x.1) (0,V0) ⟨Nat.zero_le _,hV0⟩ ⟨rfl,rfl,rfl,rfl,trivial⟩ [] rfl ?_
  rintro⟨k,V⟩ ⟨hk,hV⟩
  refine zA (zB (wP I (Aa (zE (zA ?_)))))
  refine Af I (fun h=> ?_) (fun h=> ?_)
  ·have hk:k<rs.length:=by simp at h;omega
   clear h
   obtain⟨b,off,rfl,hrow⟩:=hR.row hk
   obtain⟨q,cap2,hq1,hq2⟩:=hrow k hk
   refine zI (zE (zA (zH (zA (zB ?_)))))
   refine wJ ?_
   refine wL 0 I I (fun W hp=>hq1.hp hp) I (wP I (Aa (zE (zB (wP I (wP I ?_))))))
   obtain⟨b2,off2,rfl,hRk⟩: ∃b off,q=some ⟨b,off,none⟩∧HR W b off (rg rs k):=by
    rcases hq2 with h|h
    ·exact absurd h (hne _ (List.mem_of_getElem? (Bf hk)))
    ·exact h
   have h1:=Bg hk
   have h2:=Ci rs (k+1)
   refine FR (len:=tot (rs.take k)) 0 Tryz.vec76 I I I I I I I I I hV (EW (rg rs k)) (fun W hp j u hj=> ?_) (O1 _) (by simp only[maxLen];omega) (by omega) ?_
   ·have hR':BI W (some ⟨b2,off2,none⟩) (rg rs k):=BI.hp (.inr ⟨b2,off2,rfl,hRk⟩) hp
    rcases hR' with h|⟨b3,off3,e,hR'⟩
    ·exact absurd h (hne _ (List.mem_of_getElem? (Bf hk)))
    ·cases e
     rw[Addr.add_none]
     exact hR'.cells j u hj
   intro V' hV' _
   have e3:cellsOf (rs.take k).flatten++cellsOf (rg rs k)=cellsOf (rs.take (k+1)).flatten:=by rw[MR hk,Lm]
   rw[e3, ←h1] at hV'
   rw[e3, ←h1]
   exact wP I (Aa (zN (zE (zB (wP I (wP I (Aa (Ak (k+1,V') ⟨hk,hV'⟩ (by show rs.length-(k+1)<rs.length-k;omega) ⟨I,I,I,congrArg (fun z=>some (Value.int .i64 z)) (AA (x:=(k:Int)+1) (by omega) (by omega)),O⟩ [] I))))))))
  ·have e:k=rs.length:=by simp at h;omega
   subst e
   rw[List.take_length] at hV
   rw[List.take_length]
   refine zJ (zK (zK (zL (zE (zA (zB (wP I (wP I (Aa (zE (zO ?_)))))))))))
   refine AB tH I (.tmp I) V (by rw[GH]) (by rw[GH];exact hV) fun W hp=>At.of_hp1 hp 0 I
-- BOXES 12
def lox (t u:Sd):Int:=if u.x<t.x then u.x else t.x
def loy (t u:Sd):Int:=if u.y<t.y then u.y else t.y
def hix (t u:Sd):Int:=if u.x>t.x then u.x else t.x
def hiy (t u:Sd):Int:=if u.y>t.y then u.y else t.y
def bsd (rs:List (List Sd)) (q:Nat×Nat):Sd:=sd (rg rs q.1) q.2
def esd (rs:List (List Sd)) (q:Nat×Nat):Sd:=sd (rg rs q.1) (nxt (rg rs q.1).length q.2)
def BU (rs:List (List Sd)) (q:Nat×Nat):List Value:=[.int .i64 (lox (bsd rs q) (esd rs q)), .int .i64 (loy (bsd rs q) (esd rs q)), .int .i64 (hix (bsd rs q) (esd rs q)), .int .i64 (hiy (bsd rs q) (esd rs q))]
def BH (q:Nat×Nat):List Value:=[.int .i64 (q.1:Nat), .int .i64 (q.2:Nat)]
def Bb (k j:Nat):List (Nat×Nat):=(List.range j).map fun i=>(k,i)
def A5 (rs:List (List Sd)):Nat→List (Nat×Nat)
 |0=>[]
 |k+1=>A5 rs k++Bb k (rg rs k).length
theorem Si (k j:Nat):Bb k (j+1)=Bb k j++[(k,j)]:=by simp[Bb,List.range_succ]
theorem LO (k j:Nat):(Bb k j).length=j:=by simp[Bb]
theorem Hx (rs:List (List Sd)): ∀k,k≤rs.length→(A5 rs k).length=tot (rs.take k)
 |0,_=>rfl
 |k+1,h=>by
  rw[Bg (by omega)]
  show(A5 rs k++Bb k _).length=_
  rw[List.length_append,Hx rs k (by omega),LO]
theorem Nd (rs:List (List Sd)): ∀k, ∀q∈A5 rs k,q.1<k∧q.2<(rg rs q.1).length
 |0,q,h=>by cases h
 |k+1,q,h=>by
  rcases List.mem_append.1 h with h|h
  ·have:=Nd rs k q h
   exact⟨by omega,this.2⟩
  ·obtain⟨i,hi,rfl⟩:=List.mem_map.1 h
   exact⟨Nat.lt_succ_self k,List.mem_range.1 hi⟩
def nbB (n:Nat) (q q':Nat×Nat):Bool:=(q.1==q'.1)&&(((q.2:Int)-q'.2==1)||((q.2:Int)-q'.2==(n:Int)-1))
def DS (t u t' u':Sd):Bool:=decide (lox t u≤hix t' u')&&decide (lox t' u'≤hix t u)&&decide (loy t u≤hiy t' u')&&decide (loy t' u'≤hiy t u)
def C7 (rs:List (List Sd)) (q q':Nat×Nat):Bool:= !nbB (rg rs q.1).length q q'&&DS (bsd rs q) (esd rs q) (bsd rs q') (esd rs q')
def pl (rs:List (List Sd)) (i:Nat):Nat×Nat:=(A5 rs rs.length).getD i (0,0)
def crs (rs:List (List Sd)):Bool:=(List.range (tot rs)).any fun i=>(List.range i).any fun k=>C7 rs (pl rs i) (pl rs k)
theorem Py {α:Type} (f:α→List Value) (n:Nat) (hf: ∀x,(f x).length=n): ∀(l:List α) (i:Nat) (x:α),l[i]? =some x→ ∀(j:Nat) (u:Value),(f x)[j]? =some u→(l.flatMap f)[i*n+j]? =some u
 |[],i,x,h,_,_,_=>by simp at h
 |y::l,0,x,h,j,u,hu=>by
  obtain rfl:y=x:=by simpa using h
  rw[List.flatMap_cons,Nat.zero_mul,Nat.zero_add,List.getElem?_append_left (List.getElem?_eq_some_iff.1 hu).1]
  exact hu
 |y::l,i+1,x,h,j,u,hu=>by
  rw[List.flatMap_cons,List.getElem?_append_right (by rw[hf];rw[Nat.add_mul];omega),hf]
  rw[show(i+1)*n+j-n=i*n+j by rw[Nat.add_mul];omega]
  exact Py f n hf l i x (by simpa using h) j u hu
theorem Vec.rowAt {α:Type} {f:α→List Value} {n:Nat} (hf: ∀x,(f x).length=n) {l:List α} {g cap:Nat} {junk:List Value} {e:TypeId} {W0 W:World} {bxs:List Bx} (hp:Hp W0 bxs W) (k:Nat) (hk:nth bxs k=some ((⟨some g,cap,junk⟩:Vec).bx e (l.flatMap f))) {i:Nat} {x:α} (hi:l[i]? =some x):
  Az W g (0+i*n) (f x):=by
 have h:=Az.of_bx hp k hk rfl
 refine⟨h.lt,fun j u hu=> ?_⟩
 have h1:=Py f n hf l i x hi j u hu
 have:=h.get (i*n+j) u (by
  show(l.flatMap f++junk)[i*n+j]? =some u
  rw[List.getElem?_append_left (List.getElem?_eq_some_iff.1 h1).1]
  exact h1)
 rw[Nat.zero_add] at this⊢
 exact this
theorem Vec.val_eq {V:Vec} {size n:Nat} {xs:List Value} (h:V.OK size n xs):V.val n= .slice (V.p.map fun g=>⟨g,0,none⟩) n (match V.p with|none=>0|some _=>V.cap):=by
 obtain⟨p,cap,junk⟩:=V
 cases p with
 |none=>have:=h.nil rfl;subst this;rfl
 |some g=>rfl
theorem Hn {n:Nat} {f:Nat→Bool} {k:Nat} (hk:k<n) (h:f k=true):(List.range n).any f=true:=List.any_eq_true.2 ⟨k,List.mem_range.2 hk,h⟩
theorem Dm {n:Nat} {f:Nat→Bool} (h: ∀k,k<n→f k=false):(List.range n).any f=false:=Bool.eq_false_iff.2 fun h2=>by
 obtain⟨k,hk,h3⟩:=List.any_eq_true.1 h2
 rw[h k (List.mem_range.1 hk)] at h3;cases h3
theorem LT (W:World) (p:Option Addr) (cap:Nat) (rs:List (List Sd)) (hn:rs.length<4611686018427387904) (hT:tot rs<1099511627776) (hl: ∀l∈rs,l.length<4611686018427387904) (hR:Bv W p rs):
  Ae Tryz.prog 150 #[slv p rs.length cap] W (fun _:Unit=> .bool (crs rs)) (fun _=>True) (fun _=>[]):=by
 refine Ab (args:=[slv p rs.length cap]) Tryz.func150 I I I ?_
 refine zA (zB (wP I (Aa (zE (zA (zB ?_))))))
 (refine Ah Tryz.hZ rfl rfl rfl rfl ?_;intro)
 refine Aa ?_
 rename_i b3
 refine zE (zA (zB ?_))
 (refine Ah Tryz.hZ rfl rfl rfl rfl ?_;intro)
 refine Aa ?_
 rename_i b4
 refine zE (zA (zA (zB (wP I (wP I (wP I (Aa (zE (zH ?_)))))))))
 iterate 2 refine HS ?_
 refine ME ?_
 refine KU (X:=Nat×Vec×Vec×List Nat) (fun x=>x.2.2.2.map DQ) (fun x=>[(0,slv p rs.length cap),(3, .pointer (some ⟨b3,0,none⟩)),(4, .pointer (some ⟨b4,0,none⟩)),(14,slv p rs.length cap),(15, .int .i64 (rs.length:Nat)),(16, .int .i64 (x.1:Nat))])
  (fun x=>[⟨b3,219,[x.2.1.val (A5 rs x.1).length],true,none⟩,⟨b4,220,[x.2.2.1.val (A5 rs x.1).length],true,none⟩,x.2.1.bx 222 ((A5 rs x.1).flatMap (BU rs)),x.2.2.1.bx 225 ((A5 rs x.1).flatMap BH),bag x.2.2.2])
  (fun x=>x.1≤rs.length∧x.2.1.OK 4 (A5 rs x.1).length ((A5 rs x.1).flatMap (BU rs))∧x.2.2.1.OK 2 (A5 rs x.1).length ((A5 rs x.1).flatMap BH)) (fun x=>rs.length-x.1) (0,Vec.empty,Vec.empty,[])
  ⟨Nat.zero_le _,Vec.OK.empty 4,Vec.OK.empty 2⟩ rfl ⟨rfl,rfl,rfl,rfl,rfl,rfl,trivial⟩ [] rfl ?_
 rintro⟨k,V1,V2,ds⟩ ⟨hk0,hV10,hV20⟩
 have hk:k≤rs.length:=hk0
 have hV1:V1.OK 4 (A5 rs k).length ((A5 rs k).flatMap (BU rs)):=hV10
 have hV2:V2.OK 2 (A5 rs k).length ((A5 rs k).flatMap BH):=hV20
 clear hk0 hV10 hV20
 refine zA (zB (wP I (Aa (zE (zA ?_)))))
 refine Af I (fun h=> ?_) (fun h=> ?_)
 ·have hk:k<rs.length:=by simp at h;omega
  clear h
  obtain⟨b',off,rfl,hrow⟩:=hR.row hk
  obtain⟨q,cap2,hq1,hq2⟩:=hrow k hk
  have hlk:(rg rs k).length<4611686018427387904:=hl _ (List.mem_of_getElem? (Bf hk))
  refine zI (zE (zA (zH (zA (zB (wP I ?_))))))
  refine wJ ?_
  refine wL 0 I I (fun W hp=>hq1.hp hp) I ?_
  (refine Ah Tryz.hZ rfl rfl rfl rfl ?_;intro)
  rename_i b5
  refine wS 5 I I I (wP I (Aa (zE (zA (zB (wP I ?_))))))
  refine wD (X:=Nat) I I (fun W _=>Et q (rg rs k).length cap2 W) ?_
  intro b _
  refine Aa (zE (zH ?_))
  refine DG (X:=Vec×Vec×Nat) (fun x=>[⟨b3,219,[x.1.val (A5 rs k++Bb k x.2.2).length],true,none⟩,⟨b4,220,[x.2.1.val (A5 rs k++Bb k x.2.2).length],true,none⟩,x.1.bx 222 ((A5 rs k++Bb k x.2.2).flatMap (BU rs)),x.2.1.bx 225 ((A5 rs k++Bb k x.2.2).flatMap BH),bag ds,⟨b5,3,[.int .i64 (k:Nat)],true,none⟩,⟨b,76,[slv q (rg rs k).length cap2],true,none⟩])
   (fun j x=>x.2.2=j∧x.1.OK 4 (A5 rs k++Bb k x.2.2).length ((A5 rs k++Bb k x.2.2).flatMap (BU rs))∧x.2.1.OK 2 (A5 rs k++Bb k x.2.2).length ((A5 rs k++Bb k x.2.2).flatMap BH)) (fun _ _=>False) (V1,V2,0) rfl (by kernel_rfl) (Fg b q cap2 (rg rs k) hlk) (fun _=>rfl)
   ⟨rfl,by show V1.OK 4 (A5 rs k++Bb k 0).length _;rw[show A5 rs k++Bb k 0=A5 rs k by simp[Bb]];exact hV1,by show V2.OK 2 (A5 rs k++Bb k 0).length _;rw[show A5 rs k++Bb k 0=A5 rs k by simp[Bb]];exact hV2⟩ []
   (by show _=_++[];rw[show A5 rs k++Bb k (V1,V2,0).2.2=A5 rs k by simp[Bb]];rfl) (fun j x W _ hp=>Dv.mk' hq2 hp 6 rfl) ?_ ?_ (fun _ _ _ _ _ h=>h.elim)
  ·rintro j' ⟨U1,U2,j⟩ d L rec hj ⟨e1,hU1,hU2⟩ hrec
   obtain rfl:j=j':=e1
   have hU1:U1.OK 4 (A5 rs k++Bb k j).length ((A5 rs k++Bb k j).flatMap (BU rs)):=hU1
   have hU2:U2.OK 2 (A5 rs k++Bb k j).length ((A5 rs k++Bb k j).flatMap BH):=hU2
   have hlen:(A5 rs k++Bb k (j+1)).length≤tot rs:=by
    rw[List.length_append,LO,Hx rs k (by omega)]
    have h1:=Bg hk
    have h2:=Ci rs (k+1)
    omega
   have hlen1:(A5 rs k++Bb k (j+1)).length=(A5 rs k++Bb k j).length+1:=by
    simp only[List.length_append,LO];omega
   have es:A5 rs k++Bb k (j+1)=(A5 rs k++Bb k j)++[(k,j)]:=by rw[Si,List.append_assoc]
   have eb1:(A5 rs k++Bb k (j+1)).flatMap (BU rs)=(A5 rs k++Bb k j).flatMap (BU rs)++BU rs (k,j):=by rw[es,List.flatMap_append];simp
   have eb2:(A5 rs k++Bb k (j+1)).flatMap BH=(A5 rs k++Bb k j).flatMap BH++BH (k,j):=by rw[es,List.flatMap_append];simp
   refine zA (zB (wP I (Aa (zE (zB ?_)))))
   (refine Ah Tryz.hZ rfl rfl rfl rfl ?_;intro)
   refine wS 9 I I I (Aa ?_)
   rename_i b8
   refine CI 8 hrec I ?_
   refine BQ ?_
   refine Ja (X:= {x:Vec×Vec//x.1.OK 4 (A5 rs k++Bb k (j+1)).length ((A5 rs k++Bb k (j+1)).flatMap (BU rs))∧x.2.OK 2 (A5 rs k++Bb k (j+1)).length ((A5 rs k++Bb k (j+1)).flatMap BH)}) (fun _=>[(3, .pointer (some ⟨b3,0,none⟩)),(4, .pointer (some ⟨b4,0,none⟩))])
    (fun x=>[⟨b3,219,[x.1.1.val (A5 rs k++Bb k (j+1)).length],true,none⟩,⟨b4,220,[x.1.2.val (A5 rs k++Bb k (j+1)).length],true,none⟩,x.1.1.bx 222 ((A5 rs k++Bb k (j+1)).flatMap (BU rs)),x.1.2.bx 225 ((A5 rs k++Bb k (j+1)).flatMap BH),bag ds,⟨b5,3,[.int .i64 (k:Nat)],true,none⟩,⟨b,76,[slv q (rg rs k).length cap2],true,none⟩,CJ d,BN L rec .busy none]) 6 [⟨b3,219,[U1.val (A5 rs k++Bb k j).length],true,none⟩,⟨b4,220,[U2.val (A5 rs k++Bb k j).length],true,none⟩,Hl,Hl,bag ds,⟨b5,3,[.int .i64 (k:Nat)],true,none⟩,⟨b,76,[slv q (rg rs k).length cap2],true,none⟩,CJ d,BN L rec .busy none,⟨b8,213,(G6 (sd (rg rs k) (prv (rg rs k).length j)) (sd (rg rs k) j) (sd (rg rs k) (nxt (rg rs k).length j))).cells.toList,true,none⟩] Tryz.mixed (by kernel_rfl) ?_ ?_
   ·refine qB 0 I I I (qB 9 I I I (qC I I (fun W _=>(OO ..)) (qB 1 I I I (qB 5 I I I (qP I ?_)))))
    refine MQ Tryz.hZ tH I I I I I I I I ?_
    refine DL (wX ?_)
    refine RS.cons ?_ (RS.cons ?_ (RS.nil))
    ·(refine A3 Tryz.hZ tH rfl rfl rfl rfl rfl rfl rfl rfl rfl rfl rfl ?_;intro)
     refine Aa (Al (wX ?_))
     refine RS.cons ?_ (RS.cons ?_ (RS.nil))
     ·(first|refine AK 2 10 Tryz.vec219 (A5 rs k++Bb k (j+1)).length ((A5 rs k++Bb k (j+1)).flatMap (BU rs)) rfl rfl rfl rfl rfl rfl rfl rfl rfl rfl rfl hU1 rfl rfl hlen1.symm (by rw[eb1];rfl) (by simp only[maxLen];omega) (by omega) rfl ?_|refine AK 2 11 Tryz.vec219 (A5 rs k++Bb k (j+1)).length ((A5 rs k++Bb k (j+1)).flatMap (BU rs)) rfl rfl rfl rfl rfl rfl rfl rfl rfl rfl rfl hU1 rfl rfl hlen1.symm (by rw[eb1];rfl) (by simp only[maxLen];omega) (by omega) rfl ?_);intro g1 c1 j1 hU1'
      refine Aa (Al (wX (wZ ?_)))
      (refine A3 Tryz.hZ tH rfl rfl rfl rfl rfl rfl rfl rfl rfl rfl rfl ?_;intro)
      refine Aa (Al (wX (wZ ?_)))
      (first|refine AK 3 10 Tryz.vec220 (A5 rs k++Bb k (j+1)).length ((A5 rs k++Bb k (j+1)).flatMap BH) rfl rfl rfl rfl rfl rfl rfl rfl rfl rfl rfl hU2 rfl rfl hlen1.symm (by rw[eb2];rfl) (by simp only[maxLen];omega) (by omega) rfl ?_|refine AK 3 11 Tryz.vec220 (A5 rs k++Bb k (j+1)).length ((A5 rs k++Bb k (j+1)).flatMap BH) rfl rfl rfl rfl rfl rfl rfl rfl rfl rfl rfl hU2 rfl rfl hlen1.symm (by rw[eb2];rfl) (by simp only[maxLen];omega) (by omega) rfl ?_);intro g2 c2 j2 hU2'
      refine Aa (Al (wX (wZ (wS 0 I I I (Aa (Al (wY (wZ (wS 1 I I I (Aa (Al ?_)))))))))))
      refine AR I (by kernel_rfl) ?_
      exact AE ⟨(⟨some g1,c1,j1⟩,⟨some g2,c2,j2⟩),hU1',hU2'⟩ ⟨I,I,O⟩ [0,1,2,3,4,5,6,7,8] (by decide) I
     ·(refine A3 Tryz.hZ tH rfl rfl rfl rfl rfl rfl rfl rfl rfl rfl rfl ?_;intro)
      refine Aa (Al (wX (wZ ?_)))
      (first|refine AK 2 10 Tryz.vec219 (A5 rs k++Bb k (j+1)).length ((A5 rs k++Bb k (j+1)).flatMap (BU rs)) rfl rfl rfl rfl rfl rfl rfl rfl rfl rfl rfl hU1 rfl rfl hlen1.symm (by rw[eb1];rfl) (by simp only[maxLen];omega) (by omega) rfl ?_|refine AK 2 11 Tryz.vec219 (A5 rs k++Bb k (j+1)).length ((A5 rs k++Bb k (j+1)).flatMap (BU rs)) rfl rfl rfl rfl rfl rfl rfl rfl rfl rfl rfl hU1 rfl rfl hlen1.symm (by rw[eb1];rfl) (by simp only[maxLen];omega) (by omega) rfl ?_);intro g1 c1 j1 hU1'
      refine Aa (Al (wX (wZ ?_)))
      (first|refine AK 3 10 Tryz.vec220 (A5 rs k++Bb k (j+1)).length ((A5 rs k++Bb k (j+1)).flatMap BH) rfl rfl rfl rfl rfl rfl rfl rfl rfl rfl rfl hU2 rfl rfl hlen1.symm (by rw[eb2];rfl) (by simp only[maxLen];omega) (by omega) rfl ?_|refine AK 3 11 Tryz.vec220 (A5 rs k++Bb k (j+1)).length ((A5 rs k++Bb k (j+1)).flatMap BH) rfl rfl rfl rfl rfl rfl rfl rfl rfl rfl rfl hU2 rfl rfl hlen1.symm (by rw[eb2];rfl) (by simp only[maxLen];omega) (by omega) rfl ?_);intro g2 c2 j2 hU2'
      refine Aa (Al (wX (wZ (wS 0 I I I (Aa (Al (wY (wZ (wS 1 I I I (Aa (Al ?_)))))))))))
      refine AR I (by kernel_rfl) ?_
      exact AE ⟨(⟨some g1,c1,j1⟩,⟨some g2,c2,j2⟩),hU1',hU2'⟩ ⟨I,I,O⟩ [0,1,2,3,4,5,6,7,8] (by decide) I
    ·(refine A3 Tryz.hZ tH rfl rfl rfl rfl rfl rfl rfl rfl rfl rfl rfl ?_;intro)
     refine Aa (Al (wX (wZ ?_)))
     (refine A3 Tryz.hZ tH rfl rfl rfl rfl rfl rfl rfl rfl rfl rfl rfl ?_;intro)
     refine Aa (Al (wX (wZ ?_)))
     (first|refine AK 2 10 Tryz.vec219 (A5 rs k++Bb k (j+1)).length ((A5 rs k++Bb k (j+1)).flatMap (BU rs)) rfl rfl rfl rfl rfl rfl rfl rfl rfl rfl rfl hU1 rfl rfl hlen1.symm (by rw[eb1];rfl) (by simp only[maxLen];omega) (by omega) rfl ?_|refine AK 2 11 Tryz.vec219 (A5 rs k++Bb k (j+1)).length ((A5 rs k++Bb k (j+1)).flatMap (BU rs)) rfl rfl rfl rfl rfl rfl rfl rfl rfl rfl rfl hU1 rfl rfl hlen1.symm (by rw[eb1];rfl) (by simp only[maxLen];omega) (by omega) rfl ?_);intro g1 c1 j1 hU1'
     refine Aa (Al (wX (wZ ?_)))
     (first|refine AK 3 10 Tryz.vec220 (A5 rs k++Bb k (j+1)).length ((A5 rs k++Bb k (j+1)).flatMap BH) rfl rfl rfl rfl rfl rfl rfl rfl rfl rfl rfl hU2 rfl rfl hlen1.symm (by rw[eb2];rfl) (by simp only[maxLen];omega) (by omega) rfl ?_|refine AK 3 11 Tryz.vec220 (A5 rs k++Bb k (j+1)).length ((A5 rs k++Bb k (j+1)).flatMap BH) rfl rfl rfl rfl rfl rfl rfl rfl rfl rfl rfl hU2 rfl rfl hlen1.symm (by rw[eb2];rfl) (by simp only[maxLen];omega) (by omega) rfl ?_);intro g2 c2 j2 hU2'
     refine Aa (Al (wX (wZ (wS 0 I I I (Aa (Al (wY (wZ (wS 1 I I I (Aa (Al ?_)))))))))))
     refine AR I (by kernel_rfl) ?_
     exact AE ⟨(⟨some g1,c1,j1⟩,⟨some g2,c2,j2⟩),hU1',hU2'⟩ ⟨I,I,O⟩ [0,1,2,3,4,5,6,7,8] (by decide) I
   ·rintro⟨⟨U1',U2'⟩,hU1',hU2'⟩
    exact zN (BD 8 (U1',U2',j+1) hrec I ⟨I,hU1',hU2'⟩ [] I)
  ·rintro⟨U1,U2,j⟩ d L rec ⟨e1,hU1,hU2⟩
   obtain rfl:j=(rg rs k).length:=e1
   refine zN (zN (zE (zB (wP I (wP I (Aa ?_))))))
   refine Qf 4 7 I I ?_
   exact IG (X:=Nat×Vec×Vec×List Nat) (k+1,U1,U2,d::ds) ⟨hk,hU1,hU2⟩ (by show rs.length-(k+1)<rs.length-k;omega) I ⟨I,I,I,I,I,congrArg (fun z=>some (Value.int .i64 z)) (AA (x:=(k:Int)+1) (by omega) (by omega)),O⟩ [0,1,2,3,4] (by decide) I
 ·have e:k=rs.length:=by simp at h;omega
  subst e
  clear h hk
  have hpl:(A5 rs rs.length).length=tot rs:=by rw[Hx rs _ (Nat.le_refl _),List.take_length]
  have hget: ∀i,i<tot rs→(A5 rs rs.length)[i]? =some (pl rs i):=fun i hi=>by
   rw[←hpl] at hi
   simp[pl,hi]
  have hmem: ∀i,i<tot rs→(pl rs i).1<rs.length∧(pl rs i).2<(rg rs (pl rs i).1).length:=fun i hi=>Nd rs _ _ (List.mem_of_getElem? (hget i hi))
  rw[hpl] at hV1 hV2
  have hR2:=hR
  have hm62:tot rs<1099511627776:=hT
  refine zJ (zK (zK (zL (zE (zA (zA (zB (wB 0 I I I ?_))))))))
  refine Aj 37 (.slice (V1.p.map fun g=>⟨g,0,none⟩) (tot rs) (match V1.p with|none=>0|some _=>V1.cap)) I (show V1.val (A5 rs rs.length).length=_ by rw[hpl];exact Vec.val_eq hV1) ?_
  refine wP I (wP I (Aa (zE (zH ?_))))
  refine Ar (X:=Nat) (fun i=>[(0,slv p rs.length cap),(3, .pointer (some ⟨b3,0,none⟩)),(4, .pointer (some ⟨b4,0,none⟩)),(38, .int .i64 (tot rs:Nat)),(39, .int .i64 (i:Nat))])
   (fun _=>[⟨b3,219,[V1.val (tot rs)],true,none⟩,⟨b4,220,[V2.val (tot rs)],true,none⟩,V1.bx 222 ((A5 rs rs.length).flatMap (BU rs)),V2.bx 225 ((A5 rs rs.length).flatMap BH),bag ds])
   (fun i=>i≤tot rs∧ ∀i',i'<i→((List.range i').any fun k=>C7 rs (pl rs i') (pl rs k))=false) (fun i=>tot rs-i) 0 ⟨Nat.zero_le _,fun j hj=>absurd hj (Nat.not_lt_zero _)⟩ ⟨rfl,rfl,rfl,rfl,rfl,trivial⟩ []
   (by show _=_++[];rw[hpl];rfl) ?_
  rintro i ⟨hi,hno⟩
  refine zA (zB (wP I (Aa (zE (zA ?_)))))
  refine Af I (fun h=> ?_) (fun h=> ?_)
  rotate_left
  ·have e:i=tot rs:=by simp at h;omega
   subst e
   refine zJ (zK (zK (zL (zE (zA (zB (wP I (Aa (zE (zO ?_))))))))))
   refine GO 4 ds I ?_
   have hf:crs rs=false:=Dm hno
   exact wR1 I I (by rw[hf])
  have hi:i<tot rs:=by simp at h;omega
  clear h
  obtain⟨p1,cap1,junk1⟩:=V1
  obtain⟨p2,cap3,junk2⟩:=V2
  cases p1 with
  |none=>exact absurd (hV1.nil rfl) (Nat.ne_of_gt (Nat.lt_of_le_of_lt (Nat.zero_le i) hi))
  |some g1=>
  cases p2 with
  |none=>exact absurd (hV2.nil rfl) (Nat.ne_of_gt (Nat.lt_of_le_of_lt (Nat.zero_le i) hi))
  |some g2=>
  refine zI (zE (zA (zH (zA (zB (wP I (wP I (Aa (zE (zA (zB (wP I (wP I ?_)))))))))))))
  refine Aa (zE (zH ?_))
  refine Ar (X:=Nat) (fun k=>[(0,slv p rs.length cap),(3, .pointer (some ⟨b3,0,none⟩)),(4, .pointer (some ⟨b4,0,none⟩)),(38, .int .i64 (tot rs:Nat)),(39, .int .i64 (i:Nat)),(9, .int .i64 (i:Nat)),(42, .int .i64 (i:Nat)),(43, .int .i64 (k:Nat))])
   (fun _=>[⟨b3,219,[slv (some ⟨g1,0,none⟩) (tot rs) cap1],true,none⟩,⟨b4,220,[slv (some ⟨g2,0,none⟩) (tot rs) cap3],true,none⟩,(⟨some g1,cap1,junk1⟩:Vec).bx 222 ((A5 rs rs.length).flatMap (BU rs)),(⟨some g2,cap3,junk2⟩:Vec).bx 225 ((A5 rs rs.length).flatMap BH),bag ds])
   (fun k=>k≤i∧ ∀k',k'<k→C7 rs (pl rs i) (pl rs k')=false) (fun k=>i-k) 0 ⟨Nat.zero_le _,fun j hj=>absurd hj (Nat.not_lt_zero _)⟩ ⟨rfl,rfl,rfl,rfl,rfl,rfl,rfl,rfl,trivial⟩ [] rfl ?_
  rintro k ⟨hk,hnok⟩
  refine zA (zB (wP I (Aa (zE (zA ?_)))))
  refine Af I (fun h=> ?_) (fun h=> ?_)
  rotate_left
  ·have e:k=i:=by simp at h;omega
   subst e
   refine zJ (zK (zK (zL (zN (zE (zB (wP I (wP I (Aa ?_)))))))))
   refine Ak (k+1) ⟨hi,fun i' hi'=> ?_⟩ (by omega) ⟨I,I,I,I,congrArg (fun z=>some (Value.int .i64 z)) (AA (x:=(k:Int)+1) (by omega) (by omega)),O⟩ [] I
   by_cases e:i'=k
   ·subst e;exact Dm hnok
   ·exact hno i' (by omega)
  have hk:k<i:=by simp at h;omega
  clear h
  have hkt:k<tot rs:=by omega
  obtain⟨hi1,hi2⟩:=hmem i hi
  obtain⟨hk1,hk2⟩:=hmem k hkt
  obtain⟨b',off,rfl,hrow⟩:=hR.row hi1
  obtain⟨q,cap2,hq1,hq2⟩:=hrow _ hi1
  have hlk:(rg rs (pl rs i).1).length<4611686018427387904:=hl _ (List.mem_of_getElem? (Bf hi1))
  have hlk2:(rg rs (pl rs k).1).length<4611686018427387904:=hl _ (List.mem_of_getElem? (Bf hk1))
  refine zI (zE (zA (zH (zA (zB (wP I (wP I (Aa (zE (zA (zB (wP I (wB 1 I I I ?_)))))))))))))
  refine wP I ?_
  refine wJ ?_
  refine wP I (wL 0 I I (fun W hp=>Vec.rowAt (f:=BH) (n:=2) (fun _=>rfl) hp 3 I (hget i hi)) I ?_)
  refine wJ ?_
  refine wL 0 I I (fun W hp=>hq1.hp hp) I (wP I (wP I (Aa (zE (zA (zU (qB 1 I I I (qP I ?_))))))))
  refine qJ ?_
  refine qP I (qL 1 I I (fun W hp=>Vec.rowAt (f:=BH) (n:=2) (fun _=>rfl) hp 3 I (hget i hi)) I (qB 1 I I I (qP I ?_)))
  refine qJ ?_
  refine qP I (qL 1 I I (fun W hp=>Vec.rowAt (f:=BH) (n:=2) (fun _=>rfl) hp 3 I (hget k hkt)) I (qP I (qP I (A0 (Aa ?_)))))
  have egap:w64 (((pl rs i).2:Nat)-((pl rs k).2:Nat))=((pl rs i).2:Int)-(pl rs k).2:=Ai (by omega) (by omega)
  have en1:w64 (((rg rs (pl rs i).1).length:Nat)-1)=((rg rs (pl rs i).1).length:Int)-1:=Ai (by omega) (by omega)
  refine As ?_
  refine AO 12 _ I (congrArg (Value.int .i64) egap) ?_
  refine G2 (X:=Unit) (fun _=>[(0,slv (some ⟨b',off,none⟩) rs.length cap),(3, .pointer (some ⟨b3,0,none⟩)),(4, .pointer (some ⟨b4,0,none⟩)),(38, .int .i64 (tot rs:Nat)),(39, .int .i64 (i:Nat)),(9, .int .i64 (i:Nat)),(10, .int .i64 (k:Nat)),(42, .int .i64 (i:Nat)),(43, .int .i64 (k:Nat)),(13, .bool (nbB (rg rs (pl rs i).1).length (pl rs i) (pl rs k)))])
   (fun _=>[⟨b3,219,[slv (some ⟨g1,0,none⟩) (tot rs) cap1],true,none⟩,⟨b4,220,[slv (some ⟨g2,0,none⟩) (tot rs) cap3],true,none⟩,(⟨some g1,cap1,junk1⟩:Vec).bx 222 ((A5 rs rs.length).flatMap (BU rs)),(⟨some g2,cap3,junk2⟩:Vec).bx 225 ((A5 rs rs.length).flatMap BH),bag ds]) (fun _=>True) ?_ ?_
  ·refine zU (qB 1 I I I (qP I ?_))
   refine qJ ?_
   refine qP I (qL 0 I I (fun W hp=>Vec.rowAt (f:=BH) (n:=2) (fun _=>rfl) hp 3 I (hget i hi)) I (qB 1 I I I (qP I ?_)))
   refine qJ ?_
   refine qP I (qL 0 I I (fun W hp=>Vec.rowAt (f:=BH) (n:=2) (fun _=>rfl) hp 3 I (hget k hkt)) I (qP I (qP I ?_)))
   have e1:((((pl rs i).1:Nat):Int)==(((pl rs k).1:Nat):Int))=((pl rs i).1==(pl rs k).1):=by
    by_cases h:(pl rs i).1=(pl rs k).1
    ·rw[h,beq_self_eq_true,beq_self_eq_true]
    ·have h1:(((pl rs i).1:Nat):Int)≠(pl rs k).1:=by omega
     rw[beq_eq_false_iff_ne.2 h1,beq_eq_false_iff_ne.2 h]
   refine Gz 77 I (fun h77=> ?_) (fun h77=> ?_)
   ·have h77':((pl rs i).1==(pl rs k).1)=true:=e1.symm.trans h77
    refine qP I (qP I (qP I ?_))
    refine Gz 80 I (fun h80=> ?_) (fun h80=> ?_)
    ·have e:nbB (rg rs (pl rs i).1).length (pl rs i) (pl rs k)=true:=by
      have h80':(((pl rs i).2:Int)-(pl rs k).2==1)=true:=h80
      unfold nbB;rw[h77',h80'];rfl
     iterate 4 refine B8 I I ?_
     exact qP I (qP I (qP I (A0 (Aa (Ag () O ⟨I,I,I,I,I,I,I,I,I,by rw[e];rfl,O⟩ [] I)))))
    ·have e:nbB (rg rs (pl rs i).1).length (pl rs i) (pl rs k)=(((pl rs i).2:Int)-(pl rs k).2==w64 (((rg rs (pl rs i).1).length:Nat)-1)):=by
      have h80':(((pl rs i).2:Int)-(pl rs k).2==1)=false:=h80
      unfold nbB;rw[h77',h80',en1];rfl
     iterate 7 refine qP I ?_
     exact A0 (Aa (Ag () O ⟨I,I,I,I,I,I,I,I,I,by rw[e];rfl,O⟩ [] I))
   ·have h77':((pl rs i).1==(pl rs k).1)=false:=e1.symm.trans h77
    have e:nbB (rg rs (pl rs i).1).length (pl rs i) (pl rs k)=false:=by unfold nbB;rw[h77'];rfl
    iterate 8 refine B8 I I ?_
    exact qP I (qP I (A0 (Aa (Ag () O ⟨I,I,I,I,I,I,I,I,I,by rw[e];rfl,O⟩ [] I))))
  intro _ _
  have next:C7 rs (pl rs i) (pl rs k)=false→ ∀k',k'<k+1→C7 rs (pl rs i) (pl rs k')=false:=fun h k' hk'=>by
   by_cases e:k'=k
   ·subst e;exact h
   ·exact hnok k' (by omega)
  refine zA (zU (qP I (qP I (qP I ?_))))
  refine Gz 89 I (fun h89=> ?_) (fun h89=> ?_)
  ·have hnb:nbB (rg rs (pl rs i).1).length (pl rs i) (pl rs k)=false:=by simpa using h89
   refine qB 0 I I I (qP I ?_)
   refine qJ ?_
   refine qL 0 I I (fun W hp=>Vec.rowAt (f:=BU rs) (n:=4) (fun _=>rfl) hp 2 I (hget i hi)) I (qB 0 I I I (qP I ?_))
   refine qJ ?_
   refine qL 0 I I (fun W hp=>Vec.rowAt (f:=BU rs) (n:=4) (fun _=>rfl) hp 2 I (hget k hkt)) I (qC I I (fun W _=>(Ox ..)) (qP I (A0 (Aa (zE ?_)))))
   refine Af I (fun h=> ?_) (fun h=> ?_)
   ·refine zA (zB (wP I (Aa (zE (zO (zQ (zP (zP (zQ (zQ (zP (zP (zQ ?_)))))))))))))
    refine zP ?_
    refine GO 4 ds I ?_
    have hf:crs rs=true:=Hn hi (Hn hk (by unfold C7;rw[hnb];exact h))
    exact wR1 I I (by rw[hf])
   ·exact zI (zN (zE (zB (wP I (wP I (Aa (Ak (k+1) ⟨hk,next (by unfold C7;rw[hnb];exact h)⟩ (by omega) ⟨I,I,I,I,I,I,I,congrArg (fun z=>some (Value.int .i64 z)) (AA (x:=(k:Int)+1) (by omega) (by omega)),O⟩ [] I)))))))
  ·have hnb:nbB (rg rs (pl rs i).1).length (pl rs i) (pl rs k)=true:=by simpa using h89
   iterate 9 refine B8 I I ?_
   exact qP I (A0 (Aa (zE (zS I (zI (zN (zE (zB (wP I (wP I (Aa (Ak (k+1) ⟨hk,next (by unfold C7;rw[hnb];rfl)⟩ (by omega) ⟨I,I,I,I,I,I,I,congrArg (fun z=>some (Value.int .i64 z)) (AA (x:=(k:Int)+1) (by omega) (by omega)),O⟩ [] I))))))))))))
end
section
-- OLD
open Go Go.RowKit Go.Am
set_option maxRecDepth 10000
-- BOXES 8
-- EQB 4
def Qu (s t u:Sd):Bool:=
 !((w64 (u.x-t.x)==0)==(w64 (u.y-t.y)==0))&& !((w64 (t.x-s.x)==0)==(w64 (u.x-t.x)==0))
def G1 (l:List Sd) (k:Nat):Bool:=Qu (sd l (prv l.length k)) (sd l k) (sd l (nxt l.length k))
def shp (l:List Sd):Bool:=decide (4≤l.length)&&(List.range l.length).all (G1 l)
theorem Sh {l:List Sd} {k:Nat} (hk:k<l.length) (h:G1 l k=false):shp l=false:=by
 unfold shp
 have:(List.range l.length).all (G1 l)=false:=by
  apply Bool.eq_false_iff.2
  intro h2
  have:=List.all_eq_true.1 h2 k (List.mem_range.2 hk)
  rw[h] at this;cases this
 rw[this,Bool.and_false]
theorem Nl (W:World) (p:Option Addr) (cap:Nat) (l:List Sd) (hn:l.length<4611686018427387904) (hR:BI W p l):
  Ae Tryz.prog 149 #[slv p l.length cap] W (fun _:Unit=> .bool (shp l)) (fun _=>True) (fun _=>[]):=by
 refine Ab (args:=[slv p l.length cap]) Tryz.func149 I I I ?_
 refine zA (zB ?_)
 refine Be (z:= .bool false) I I I (fun W=>by kernel_rfl) fun b2=> ?_
 refine Aa (As ?_)
 refine G2 (X:=Unit) (fun _=>[(0,slv p l.length cap),(2, .pointer (some ⟨b2,0,none⟩))]) (fun _=>[⟨b2,4,[.bool false],true,none⟩]) (fun _=>4≤l.length) ?_ ?_
 ·(refine An ?_;refine D7 ?_)
  refine wP I (wP I (wP I (Aa (As ?_))))
  refine Af I (fun h=> ?_) (fun h=> ?_)
  ·refine zA (zB (wS 0 I I I (zC (zE (zO (zP ?_))))))
   have hs:shp l=false:=by simp at h;simp[shp];omega
   exact AB tH I (.cell 0 I I I I I) () (by rw[hs]) O fun W _=>At.nil _ _
  ·exact zI (Ag () (by simp at h;omega) ⟨I,I,O⟩ [] I)
 intro _ h4
 refine zA (zA (zB (wP I ?_)))
 refine wD (X:=Nat) I I (fun W _=>Et p l.length cap W) ?_
 intro b _
 refine zC (zE (zH ?_))
 refine DG (X:=Bool×Nat) (fun x=>[⟨b2,4,[.bool x.1],true,none⟩,⟨b,76,[slv p l.length cap],true,none⟩]) (fun k x=>x.1=false∧x.2=k∧ ∀i,i<k→G1 l i=true) (fun c x=>c= .ret∧x.1=false∧ ∃k,k<l.length∧G1 l k=false) (false,0) I (by kernel_rfl) (Fg b p cap l hn) (fun _=>rfl) ⟨I,I,fun i hi=>by omega⟩ [] I (fun k x W _ hp=>Dv.mk' hR hp 1 I) ?_ ?_ ?_
 ·rintro k ⟨_,_⟩ d L rec hk ⟨rfl,rfl,hok⟩ hrec
  rename_i k
  refine zB ?_
  refine Be (z:=G6 default default default) I I I (fun W=>by kernel_rfl) fun b4=> ?_
  refine wS 4 I I I (zC ?_)
  refine CI 3 hrec I ?_
  refine BQ (An ?_)
  refine Mc (X:=Nat×Nat) (fun x=>[(2, .pointer (some ⟨b2,0,none⟩)),(5, .pointer (some ⟨x.1,0,none⟩)),(6, .pointer (some ⟨x.2,0,none⟩))])
   (fun x=>[⟨b2,4,[.bool false],true,none⟩,⟨b,76,[slv p l.length cap],true,none⟩,CJ d,BN L rec .busy none,⟨b4,213,(G6 (sd l (prv l.length k)) (sd l k) (sd l (nxt l.length k))).cells.toList,true,none⟩,
    ⟨x.1,215,(spot (w64 ((sd l k).x-(sd l (prv l.length k)).x)) (w64 ((sd l k).y-(sd l (prv l.length k)).y))).cells.toList,true,none⟩,
    ⟨x.2,215,(spot (w64 ((sd l (nxt l.length k)).x-(sd l k).x)) (w64 ((sd l (nxt l.length k)).y-(sd l k).y))).cells.toList,true,none⟩]) 4 Tryz.mixed (by kernel_rfl) ?_ ?_
  ·refine qP I (qB 4 I I I (qC I I (fun W _=>Bp (sd l (prv l.length k)) W) (qP I (qB 4 I I I (qC I I (fun W _=>Bp (sd l k) W) (qC I I (fun W _=>KV _ _ _ _ W) (qB 4 I I I (qC I I (fun W _=>Jk (sd l (prv l.length k)) (sd l k) (sd l (nxt l.length k)) W) (zG (wX ?_))))))))))
   refine RS.cons ?_ (RS.cons ?_ RS.nil)
   ·refine Be (z:=spot 0 0) I I I (fun W=>by kernel_rfl) fun bA=> ?_
    refine zC (zF (wX ?_))
    refine RS.cons ?_ RS.nil
    refine Be (z:=spot 0 0) I I I (fun W=>by kernel_rfl) fun bB=> ?_
    refine zC (zF (wX ?_))
    refine RS.cons ?_ RS.nil
    refine wS 5 I I I (zC (zF (wX ?_)))
    refine RS.cons ?_ RS.nil
    refine wS 6 I I I (zC (zF ?_))
    refine Bo I (by((repeat (first|refine Bk.same ?_|refine Bk.off I ?_));exact O)) ?_
    exact AE (bA,bB) ⟨I,I,I,O⟩ [0,1,2,3,4,5,6] (by decide) I
   ·refine Be (z:=spot 0 0) I I I (fun W=>by kernel_rfl) fun bB=> ?_
    refine zC (zF (wX ?_))
    refine RS.cons ?_ RS.nil
    refine Be (z:=spot 0 0) I I I (fun W=>by kernel_rfl) fun bA=> ?_
    refine zC (zF (wX ?_))
    refine RS.cons ?_ RS.nil
    refine wS 6 I I I (zC (zF (wX ?_)))
    refine RS.cons ?_ RS.nil
    refine wS 5 I I I (zC (zF ?_))
    refine Bo I (by((repeat (first|refine Bk.same ?_|refine Bk.off I ?_));exact O)) ?_
    exact AE (bA,bB) ⟨I,I,I,O⟩ [0,1,2,3,4,6,5] (by decide) I
  rintro⟨bA,bB⟩
  refine zE (zA (zB (wP I (wB 6 I I I (wP I (wP I (wB 6 I I I (wP I ?_))))))))
  refine CG Tryz.underlying4 I I I I I I ?_
  refine wP I ?_
  refine A6 30 I (fun h30=> ?_) (fun h30=> ?_)
  ·refine Ad I I ?_
   iterate 6 refine Ad I I ?_
   refine wP I (zC (zE (zR I (zA (zB (wS 0 I I I (zC (zE (zO (zQ ?_))))))))))
   refine CX 3 (false,k) hrec I ⟨I,I,k,hk, ?_⟩ [_,_,_] I
   simp[G1,Qu] at h30⊢
   simp[h30]
  ·refine wP I (wB 5 I I I (wP I (wP I (wB 6 I I I (wP I ?_)))))
   refine CG Tryz.underlying4 I I I I I I ?_
   refine wP I (Aa (As ?_))
   refine Af I (fun h=> ?_) (fun h=> ?_)
   ·refine zA (zB (wS 0 I I I (zC (zE (zO (zQ ?_))))))
    refine CX 3 (false,k) hrec I ⟨I,I,k,hk, ?_⟩ [_,_,_] I
    simp[G1,Qu] at h⊢
    intro _
    exact h
   ·refine zI (zN ?_)
    refine BD 3 (false,k+1) hrec I ⟨I,I,fun i hi=> ?_⟩ [_,_,_] I
    by_cases e:i=k
    ·subst e
     show Qu _ _ _=true
     unfold Qu
     rw[Bool.and_eq_true,Bool.not_eq_true',Bool.not_eq_true']
     exact⟨h30,h⟩
    ·exact hok i (by show i<k;have:i<k+1:=hi;omega)
 ·rintro⟨_,_⟩ d L rec ⟨rfl,rfl,hok⟩
  refine zN (zE (zA (zB (wS 0 I I I (zC (zE (zO ?_)))))))
  refine DB 2 I ?_
  have hs:shp l=true:=by simp only[shp,Bool.and_eq_true,decide_eq_true_eq,List.all_eq_true];exact⟨h4,fun i hi=>hok i (List.mem_range.1 hi)⟩
  exact AB tH I (.cell 0 I I I I I) () (by rw[hs]) O fun W _=>At.nil _ _
 ·rintro⟨_,_⟩ d L rec c ⟨rfl,rfl,k,hk,hf⟩
  refine zO (zQ (zP ?_))
  refine DB 2 I ?_
  have hs:=Sh hk hf
  exact AB tH I (.cell 0 I I I I I) () (by rw[hs]) O fun W _=>At.nil _ _
end
section
-- OLD
open Go Go.RowKit Go.Am
set_option maxRecDepth 10000
-- BOXES 6
def btw (n a b:Int):Bool:=decide (a≤n)&&decide (n≤b)
theorem F4 (n a b:Int):AN Tryz.prog 215 [.int .i64 n, .int .i64 a, .int .i64 b] (.bool (btw n a b)):=by
 intro W
 refine Ab Tryz.func215 I I I ?_
 refine zA (zB (wP I (zC (zE (zA (zB (wP I (wP I (wP I (wP I ?_))))))))))
 refine A6 10 I (fun h10=> ?_) (fun h10=> ?_)
 ·exact wP I (wP I (wP I (wP I (wP I (zC (zE (zO (wR1 I I (by simp_all [btw])))))))))
 ·refine Ad I I ?_
  iterate 2 refine Ad I I ?_
  exact wP I (wP I (zC (zE (zO (wR1 I I (by simp_all [btw]<;>intros<;>omega))))))
def rgd (s:Sd):Bool:=(if s.gable then s.rise==0&&s.run==0 else btw s.rise 1 48&&btw s.run 1 48)&&(btw s.x 0 65536&&btw s.y 0 65536&&btw s.plate 0 65536&&btw s.over 0 65536)
def num (s:Sd):Nat→Int
 |0=>s.x
 |1=>s.y
 |2=>s.plate
 |_=>s.over
theorem NJ (s:Sd):AN Tryz.prog 146 [s.val] (.bool (rgd s)):=by
 intro W
 refine Ab Tryz.func146 I I I ?_
 (refine An ?_;refine D7 ?_)
 refine wF I I fun _=> ?_
 refine wP I (Aa (As ?_))
 rename_i b1
 refine G2 (X:=Unit) (fun _=>[(1, .pointer (some ⟨b1,0,none⟩))]) (fun _=>[⟨b1,80,s.cells,true,none⟩]) (fun _=>(if s.gable then s.rise==0&&s.run==0 else btw s.rise 1 48&&btw s.run 1 48)=true) ?_ ?_
 ·(refine An ?_;refine D7 ?_)
  refine wP I (wB 0 I I I (Aa (As ?_)))
  refine Af I (fun hg=> ?_) (fun hg=> ?_)
  ·(refine An ?_;refine D7 ?_)
   refine wP I (wB 0 I I I (wP I (wP I ?_)))
   refine A6 10 I (fun h10=> ?_) (fun h10=> ?_)
   ·refine Ad I I ?_
    iterate 2 refine Ad I I ?_
    exact wP I (zC (zE (zR I (zA (zB (wP I (zC (zE (zO (zP (wR1 I I (by simp_all [rgd]))))))))))))
   ·refine wP I (wB 0 I I I (wP I (wP I (Aa (As ?_)))))
    refine Af I (fun h14=> ?_) (fun h14=> ?_)
    ·exact zA (zB (wP I (zC (zE (zO (zP (wR1 I I (by simp_all [rgd]))))))))
    ·exact zI (Ag () (by simp_all) ⟨I,O⟩ [] I)
  ·(refine An ?_;refine D7 ?_)
   refine wP I (wB 0 I I I (wC I I (fun W _=>F4 _ _ _ W) (wP I (wP I ?_))))
   refine A6 19 I (fun h19=> ?_) (fun h19=> ?_)
   ·refine Ad I I ?_
    iterate 3 refine Ad I I ?_
    exact wP I (zC (zE (zR I (zA (zB (wP I (zC (zE (zO (zP (wR1 I I (by simp_all [rgd]))))))))))))
   ·refine wP I (wB 0 I I I (wC I I (fun W _=>F4 _ _ _ W) (wP I (wP I (Aa (As ?_))))))
    refine Af I (fun h14=> ?_) (fun h14=> ?_)
    ·exact zA (zB (wP I (zC (zE (zO (zP (wR1 I I (by simp_all [rgd]))))))))
    ·exact zI (Ag () (by simp_all) ⟨I,O⟩ [] I)
 ·intro _ hg
  refine zA (zA (zB (wP I (wB 0 I I I (wP I (wB 0 I I I (wP I (wB 0 I I I (wP I (wB 0 I I I ?_))))))))))
  refine JF (.int .i64 0) tH I I I I I (fun W=>by kernel_rfl) I I (by rfl) (by rfl) I fun b33=> ?_
  refine wP I (wP I (zC (zE (zH ?_))))
  refine Ar (X:=Nat) (fun k=>[(33, .slice (some ⟨b33,0,none⟩) 4 4),(34, .int .i64 4),(35, .int .i64 (k:Nat))]) (fun _=>[⟨b1,80,s.cells,true,none⟩,⟨b33,3,[.int .i64 s.x, .int .i64 s.y, .int .i64 s.plate, .int .i64 s.over],true,none⟩])
   (fun k=>k≤4∧ ∀i,i<k→btw (num s i) 0 65536=true) (fun k=>4-k) 0 ⟨by omega,fun i hi=>by omega⟩ ⟨rfl,rfl,rfl,trivial⟩ [] rfl ?_
  rintro k ⟨hk,hin⟩
  (refine An ?_;refine D7 ?_)
  refine wP I (Aa (As ?_))
  refine G2 (X:=Unit) (fun _=>[(33, .slice (some ⟨b33,0,none⟩) 4 4),(34, .int .i64 4),(35, .int .i64 (k:Nat))]) (fun _=>[⟨b1,80,s.cells,true,none⟩,⟨b33,3,[.int .i64 s.x, .int .i64 s.y, .int .i64 s.plate, .int .i64 s.over],true,none⟩]) (fun _=>k<4) ?_ ?_
  ·skip
   refine Af I (fun h=> ?_) (fun h=> ?_)
   ·exact zI (Ag () (by simp at h;omega) ⟨I,I,I,O⟩ [] I)
   ·refine zJ (zK (zK (zL (zE (zA (zB (wP I (zC (zE (zO ?_))))))))))
    have:k=4:=by simp at h;omega
    subst this
    exact wR1 I I (by have h0:=hin 0 (by omega);have h1:=hin 1 (by omega);have h2:=hin 2 (by omega);have h3:=hin 3 (by omega);simp only[num] at h0 h1 h2 h3;simp[rgd,h0,h1,h2,h3,hg])
  ·intro _ hk
   refine zA (zH (zA (zB ?_)))
   refine wJ ?_
   refine Nz (v:= .int .i64 (num s k)) I I I I (fun W hp=>Kk (k:=1) tH I I I (by
    match k,hk with
    |0,_=>rfl
    |1,_=>rfl
    |2,_=>rfl
    |3,_=>rfl) W hp) ?_
   refine wP I (zC (zE (zA (zB (wP I (wC I I (fun W _=>F4 _ _ _ W) (wP I (Aa (As ?_)))))))))
   refine Af I (fun h=> ?_) (fun h=> ?_)
   ·refine zA (zB (wP I (zC (zE (zO (zQ (zP (zP (zQ (zP ?_))))))))))
    have h:btw (num s k) 0 65536=false:=by simpa using h
    have hr:rgd s=false:=by
     match k,hk with
     |0,_=>simp only[num] at h;simp[rgd,h]
     |1,_=>simp only[num] at h;simp[rgd,h]
     |2,_=>simp only[num] at h;simp[rgd,h]
     |3,_=>simp only[num] at h;simp[rgd,h]
    exact wR1 I I (by rw[hr])
   ·refine zI (zN (zE (zB (wP I (wP I (zC ?_))))))
    refine Ak (k+1) ⟨hk,fun i hi=> ?_⟩ (by omega) ⟨I,I,congrArg (fun z=>some (Value.int .i64 z)) (AA (x:=(k:Int)+1) (by omega) (by omega)),O⟩ [] I
    by_cases e:i=k
    ·subst e;simpa using h
    ·exact hin i (by omega)
end
section
open Go Go.RowKit Go.Am
set_option maxRecDepth 10000
-- BOXES 2
-- USES NJ
def I8 {α:Type} (f:α→Bool):List α→Nat→Int
 |[],_=> -1
 |x::l,k=>if f x=true then(k:Int) else I8 f l (k+1)
theorem Lx {α:Type} (f:α→Bool): ∀(l:List α) (k:Nat),decide (I8 f l k≥0)=l.any f
 |[],k=>by simp[I8]
 |x::l,k=>by
  unfold I8
  by_cases h:f x=true
  ·rw[if_pos h,List.any_cons,h,Bool.true_or,decide_eq_true_iff];omega
  ·rw[if_neg h,Lx f l (k+1),List.any_cons]
   simp[h]
theorem Mw (g:Nat) (hE:Bt Tryz.prog g=true) (f:Sd→Bool) (hf: ∀s,AN Tryz.prog g [s.val] (.bool (f s))) (W:World) (p:Option Addr) (cap:Nat) (l:List Sd) (hn:l.length<4611686018427387904) (hR:BI W p l):
  Ae Tryz.prog 214 #[slv p l.length cap, .func (.func g) #[] #[]] W (fun _:Unit=> .int .i64 (I8 f l 0)) (fun _=>True) (fun _=>[]):=by
 refine Ab (args:=[slv p l.length cap, .func (.func g) #[] #[]]) Tryz.func214 I I I ?_
 refine zA (zB (wP I (Aa (zE (zA (zA (zB (wP I (wP I (wP I (Aa (zE (zH ?_)))))))))))))
 refine Ar (X:=Nat) (fun k=>[(0,slv p l.length cap),(1, .func (.func g) #[] #[]),(7, .int .i64 (l.length:Nat)),(8, .int .i64 (k:Nat))]) (fun _=>[])
  (fun k=>k≤l.length∧I8 f l 0=I8 f (l.drop k) k) (fun k=>l.length-k) 0 ⟨Nat.zero_le _,rfl⟩ ⟨rfl,rfl,rfl,rfl,trivial⟩ [] rfl ?_
 rintro k ⟨hk,hi⟩
 refine zA (zB (wP I (Aa (zE (zA ?_)))))
 refine Af I (fun h=> ?_) (fun h=> ?_)
 rotate_left
 ·refine zJ (zK (zK (zL (zE (zA (zB (wP I (Aa (zE (zO ?_))))))))))
  have e:k=l.length:=by simp at h;omega
  rw[e,List.drop_length] at hi
  exact wR1 I I (by rw[hi];rfl)
 ·have hk:k<l.length:=by simp at h;omega
  clear h
  obtain⟨b,off,rfl,hrow⟩:=hR.row hk
  refine zI (zE (zA (zH (zA (zB (wP I (wP I (Aa (zE (zA (zB (wP I (wP I (wP I ?_))))))))))))))
  refine wJ ?_
  refine wL 0 I I (fun W hp=>(hrow k hk).hp hp) I ?_
  refine BT (g:=g) (v:= .bool (f (sd l k))) I I I I I I hE (fun W _=>hf (sd l k) W) ?_
  have hd:l.drop k=sd l k::l.drop (k+1):=by
   rw[List.drop_eq_getElem_cons hk];simp[sd,hk]
  have hstep:I8 f (l.drop k) k=if f (sd l k)=true then(k:Int) else I8 f (l.drop (k+1)) (k+1):=by rw[hd];rfl
  rw[hstep] at hi
  refine zC (zE ?_)
  refine Af I (fun h=> ?_) (fun h=> ?_)
  ·refine zA (zB (wP I (wP I (Aa (zE (zO (zQ (zP (zP (zQ (zP ?_)))))))))))
   rw[if_pos h] at hi
   exact wR1 I I (by rw[hi])
  ·refine zI (zN (zE (zB (wP I (wP I (Aa ?_))))))
   rw[if_neg (by rw[h];decide)] at hi
   exact Ak (k+1) ⟨hk,hi⟩ (by omega) ⟨I,I,I,congrArg (fun z=>some (Value.int .i64 z)) (AA (x:=(k:Int)+1) (by omega) (by omega)),O⟩ [] I
theorem Ju (g:Nat) (hE:Bt Tryz.prog g=true) (f:Sd→Bool) (hf: ∀s,AN Tryz.prog g [s.val] (.bool (f s))) (W:World) (p:Option Addr) (cap:Nat) (l:List Sd) (hn:l.length<4611686018427387904) (hR:BI W p l):
  Ae Tryz.prog 144 #[slv p l.length cap, .func (.func g) #[] #[]] W (fun _:Unit=> .bool (l.any f)) (fun _=>True) (fun _=>[]):=by
 refine Ab (args:=[slv p l.length cap, .func (.func g) #[] #[]]) Tryz.func144 I I I ?_
 refine zA (zB (wP I (zC (zE (zA (zB (wP I (wP I (wC I I (fun W hp=>Mw g hE f hf W p cap l hn (hR.hp hp)) (wP I (wP I (zC (zE ?_)))))))))))))
 exact zO (wR1 I I (by rw[Lx]))
theorem Mq (g:Nat) (hE:Bt Tryz.prog g=true) (f:List Sd→Bool) (hf: ∀W p cap l,l.length<4611686018427387904→BI W p l→Ae Tryz.prog g #[slv p l.length cap] W (fun _:Unit=> .bool (f l)) (fun _=>True) (fun _=>[])) (W:World) (p:Option Addr) (cap:Nat) (rs:List (List Sd)) (hn:rs.length<4611686018427387904) (hl: ∀l∈rs,l.length<4611686018427387904) (hR:Bv W p rs):
  Ae Tryz.prog 216 #[slv p rs.length cap, .func (.func g) #[] #[]] W (fun _:Unit=> .int .i64 (I8 f rs 0)) (fun _=>True) (fun _=>[]):=by
 refine Ab (args:=[slv p rs.length cap, .func (.func g) #[] #[]]) Tryz.func216 I I I ?_
 refine zA (zB (wP I (Aa (zE (zA (zA (zB (wP I (wP I (wP I (Aa (zE (zH ?_)))))))))))))
 refine Ar (X:=Nat) (fun k=>[(0,slv p rs.length cap),(1, .func (.func g) #[] #[]),(7, .int .i64 (rs.length:Nat)),(8, .int .i64 (k:Nat))]) (fun _=>[])
  (fun k=>k≤rs.length∧I8 f rs 0=I8 f (rs.drop k) k) (fun k=>rs.length-k) 0 ⟨Nat.zero_le _,rfl⟩ ⟨rfl,rfl,rfl,rfl,trivial⟩ [] rfl ?_
 rintro k ⟨hk,hi⟩
 refine zA (zB (wP I (Aa (zE (zA ?_)))))
 refine Af I (fun h=> ?_) (fun h=> ?_)
 rotate_left
 ·refine zJ (zK (zK (zL (zE (zA (zB (wP I (Aa (zE (zO ?_))))))))))
  have e:k=rs.length:=by simp at h;omega
  rw[e,List.drop_length] at hi
  exact wR1 I I (by rw[hi];rfl)
 ·have hk:k<rs.length:=by simp at h;omega
  clear h
  obtain⟨b,off,rfl,hrow⟩:=hR.row hk
  obtain⟨q,cap2,hq1,hq2⟩:=hrow k hk
  refine zI (zE (zA (zH (zA (zB (wP I (wP I (Aa (zE (zA (zB (wP I (wP I (wP I ?_))))))))))))))
  refine wJ ?_
  refine wL 0 I I (fun W hp=>hq1.hp hp) I ?_
  refine BT (g:=g) (v:= .bool (f (rg rs k))) I I I I I I hE (fun W hp=>hf W q cap2 (rg rs k) (hl _ (List.mem_of_getElem? (Bf hk))) (hq2.hp hp)) ?_
  have hd:rs.drop k=rg rs k::rs.drop (k+1):=by
   rw[List.drop_eq_getElem_cons hk];simp[rg,hk]
  have hstep:I8 f (rs.drop k) k=if f (rg rs k)=true then(k:Int) else I8 f (rs.drop (k+1)) (k+1):=by rw[hd];rfl
  rw[hstep] at hi
  refine zC (zE ?_)
  refine Af I (fun h=> ?_) (fun h=> ?_)
  ·refine zA (zB (wP I (wP I (Aa (zE (zO (zQ (zP (zP (zQ (zP ?_)))))))))))
   rw[if_pos h] at hi
   exact wR1 I I (by rw[hi])
  ·refine zI (zN (zE (zB (wP I (wP I (Aa ?_))))))
   rw[if_neg (by rw[h];decide)] at hi
   exact Ak (k+1) ⟨hk,hi⟩ (by omega) ⟨I,I,I,congrArg (fun z=>some (Value.int .i64 z)) (AA (x:=(k:Int)+1) (by omega) (by omega)),O⟩ [] I
theorem Jf (g:Nat) (hE:Bt Tryz.prog g=true) (f:List Sd→Bool) (hf: ∀W p cap l,l.length<4611686018427387904→BI W p l→Ae Tryz.prog g #[slv p l.length cap] W (fun _:Unit=> .bool (f l)) (fun _=>True) (fun _=>[])) (W:World) (p:Option Addr) (cap:Nat) (rs:List (List Sd)) (hn:rs.length<4611686018427387904) (hl: ∀l∈rs,l.length<4611686018427387904) (hR:Bv W p rs):
  Ae Tryz.prog 147 #[slv p rs.length cap, .func (.func g) #[] #[]] W (fun _:Unit=> .bool (rs.any f)) (fun _=>True) (fun _=>[]):=by
 refine Ab (args:=[slv p rs.length cap, .func (.func g) #[] #[]]) Tryz.func147 I I I ?_
 refine zA (zB (wP I (zC (zE (zA (zB (wP I (wP I (wC I I (fun W hp=>Mq g hE f hf W p cap rs hn hl (hR.below (Nat.le_refl _) hp.below)) (wP I (wP I (zC (zE ?_)))))))))))))
 exact zO (wR1 I I (by rw[Lx]))
theorem NF (s:Sd):AN Tryz.prog 145 [s.val] (.bool (!rgd s)):=by
 intro W
 refine Ab Tryz.func145 I I I ?_
 refine zA (zB ?_)
 refine wF I I fun _=> ?_
 exact wP I (zC (zE (zA (zB (wB 0 I I I (wC I I (fun W _=>(NJ ..)) (wP I (wP I (zC (zE (zO (wR1 I I I))))))))))))
theorem Od (W:World) (p:Option Addr) (cap:Nat) (l:List Sd) (hn:l.length<4611686018427387904) (hR:BI W p l):
  Ae Tryz.prog 148 #[slv p l.length cap] W (fun _:Unit=> .bool (!shp l)) (fun _=>True) (fun _=>[]):=by
 refine Ab (args:=[slv p l.length cap]) Tryz.func148 I I I ?_
 exact zA (zB (wP I (zC (zE (zA (zB (wP I (wC I I (fun W hp=>Nl W p cap l hn (hR.hp hp)) (wP I (wP I (zC (zE (zO (wR1 I I I))))))))))))))
end
section
-- OLD
open Go Go.RowKit Go.Am
set_option maxRecDepth 10000
-- BOXES 8
-- EQB 4
def HD (t u:Sd) (px py:Int):Bool:=(w64 (u.x-t.x)==0)&&decide (t.x>px)&& !(decide (t.y>py)==decide (u.y>py))
def Dy (l:List Sd) (px py:Int):Nat→Bool
 |0=>false
 |k+1=>if HD (sd l k) (sd l (nxt l.length k)) px py=true then !Dy l px py k else Dy l px py k
theorem NK (W:World) (p:Option Addr) (cap:Nat) (l:List Sd) (px py:Int) (hn:l.length<4611686018427387904) (hR:BI W p l):
  Ae Tryz.prog 224 #[slv p l.length cap,spot px py] W (fun _:Unit=> .bool (Dy l px py l.length)) (fun _=>True) (fun _=>[]):=by
 refine Ab (args:=[slv p l.length cap,spot px py]) Tryz.func224 I I I ?_
 refine zA (zB ?_)
 refine wF I I fun _=> ?_
 refine wP I (zC (zE (zA (zB ?_))))
 rename_i b3
 refine Be (z:= .bool false) I I I (fun W=>by kernel_rfl) fun b5=> ?_
 refine wS 1 I I I (zC (zE (zA (zA (zB (wP I ?_))))))
 refine wD (X:=Nat) I I (fun W _=>Et p l.length cap W) ?_
 intro b _
 refine zC (zE (zH ?_))
 refine DG (X:=Bool×Nat) (fun x=>[⟨b3,215,(spot px py).cells.toList,true,none⟩,⟨b5,4,[.bool x.1],true,none⟩,⟨b,76,[slv p l.length cap],true,none⟩]) (fun k x=>x.2=k∧x.1=Dy l px py k) (fun _ _=>False) (false,0) I (by kernel_rfl) (Fg b p cap l hn) (fun _=>rfl) ⟨I,I⟩ [] I (fun k x W _ hp=>Dv.mk' hR hp 2 I) ?_ ?_ (fun _ _ _ _ _ h=>h.elim)
 ·rintro j ⟨i,k⟩ d L rec hk ⟨hj,hi⟩ hrec
  obtain rfl:k=j:=hj
  obtain rfl:i=Dy l px py k:=hi
  refine zB ?_
  refine Be (z:=G6 default default default) I I I (fun W=>by kernel_rfl) fun b7=> ?_
  refine wS 5 I I I (zC ?_)
  refine CI 4 hrec I ?_
  refine zH (zA (zB (wP I (wB 5 I I I (wC I I (fun W _=>Bp (sd l k) W) ?_)))))
  refine Be (z:=spot 0 0) I I I (fun W=>by kernel_rfl) fun b8=> ?_
  refine wS 6 I I I (zC (zE (zA (zB (wB 5 I I I (wC I I (fun W _=>Jk (sd l (prv l.length k)) (sd l k) (sd l (nxt l.length k)) W) (wP I (wP I (wP I ?_)))))))))
  have no:HD (sd l k) (sd l (nxt l.length k)) px py=false→Dy l px py (k+1)=Dy l px py k:=fun h=>by simp[Dy,h]
  have yes:HD (sd l k) (sd l (nxt l.length k)) px py=true→Dy l px py (k+1)= !Dy l px py k:=fun h=>by simp[Dy,h]
  refine A6 20 I (fun h20=> ?_) (fun h20=> ?_)
  ·refine wP I (wB 6 I I I (wP I (wB 0 I I I (wP I (wP I (wP I ?_))))))
   refine A6 27 I (fun h27=> ?_) (fun h27=> ?_)
   ·refine wP I (wB 6 I I I (wP I (wB 0 I I I (wP I (wP I (wP I (wB 5 I I I (wP I (wB 0 I I I (wP I ?_))))))))))
    refine CG Tryz.underlying4 I I I I I I ?_
    refine wP I (Aa (As ?_))
    refine Af I (fun h=> ?_) (fun h=> ?_)
    ·exact zB (wB 1 I I I (wP I (wS 1 I I I (zC (zN (BD 4 (!Dy l px py k,k+1) hrec I ⟨I,(yes (by simp_all [HD])).symm⟩ [_,_] I))))))
    ·exact zI (zN (BD 4 (Dy l px py k,k+1) hrec I ⟨I,(no (by simp_all [HD])).symm⟩ [_,_] I))
   ·refine Ad I I ?_
    iterate 11 refine Ad I I ?_
    exact wP I (zC (zE (zS I (zI (zN (BD 4 (Dy l px py k,k+1) hrec I ⟨I,(no (by simp_all [HD]<;>(intros;omega))).symm⟩ [_,_] I))))))
  ·refine Ad I I ?_
   iterate 4 refine Ad I I ?_
   refine wP I (wP I ?_)
   iterate 12 refine Ad I I ?_
   exact wP I (zC (zE (zS I (zI (zN (BD 4 (Dy l px py k,k+1) hrec I ⟨I,(no (by simp_all [HD])).symm⟩ [_,_] I))))))
 ·rintro⟨i,j⟩ d L rec ⟨hj,hi⟩
  obtain rfl:j=l.length:=hj
  obtain rfl:i=Dy l px py l.length:=hi
  refine zN (zE (zA (zB (wB 1 I I I (wP I (zC (zE (zO ?_))))))))
  refine DB 3 I ?_
  exact wR1 I I I
end
section
open Go Go.RowKit Go.Am
set_option maxRecDepth 10000
-- BOXES 2
def EY (rs:List (List Sd)) (i k:Nat):Bool:=(k==i||i==0)||(Dy (rg rs k) (sd (rg rs i) 0).x (sd (rg rs i) 0).y (rg rs k).length==(k==0))
def CT (rs:List (List Sd)) (i:Nat):Bool:=(decide (Cu (rg rs i) (rg rs i).length>0)==(i==0))&&(List.range rs.length).all (EY rs i)
def plc (rs:List (List Sd)):Bool:=(List.range rs.length).all (CT rs)
theorem B5 {n:Nat} {f:Nat→Bool} {k:Nat} (hk:k<n) (h:f k=false):(List.range n).all f=false:=Bool.eq_false_iff.2 fun h2=>by
 have:=List.all_eq_true.1 h2 k (List.mem_range.2 hk)
 rw[h] at this;cases this
theorem Cj (a b:Nat):((a:Int)==(b:Int))=(a==b):=by
 by_cases h:a=b
 ·subst h;rw[beq_self_eq_true,beq_self_eq_true]
 ·have h1:(a:Int)≠b:=by omega
  rw[beq_eq_false_iff_ne.2 h1,beq_eq_false_iff_ne.2 h]
theorem NW (W:World) (p:Option Addr) (cap:Nat) (rs:List (List Sd)) (hn:rs.length<4611686018427387904) (hl: ∀l∈rs,l.length<4611686018427387904) (hne: ∀l∈rs,l≠[]) (hR:Bv W p rs):
  Ae Tryz.prog 151 #[slv p rs.length cap] W (fun _:Unit=> .bool (plc rs)) (fun _=>True) (fun _=>[]):=by
 refine Ab (args:=[slv p rs.length cap]) Tryz.func151 I I I ?_
 refine zA (zB (wP I (Aa (zE (zA (zA (zB (wP I (wP I (wP I (Aa (zE (zH ?_)))))))))))))
 refine Ar (X:=Nat) (fun i=>[(0,slv p rs.length cap),(7,slv p rs.length cap),(8, .int .i64 (rs.length:Nat)),(9, .int .i64 (i:Nat))]) (fun _=>[])
  (fun i=>i≤rs.length∧ ∀j,j<i→CT rs j=true) (fun i=>rs.length-i) 0 ⟨Nat.zero_le _,fun j hj=>absurd hj (Nat.not_lt_zero _)⟩ ⟨rfl,rfl,rfl,rfl,trivial⟩ [] rfl ?_
 rintro i ⟨hi,hok⟩
 refine zA (zB (wP I (Aa (zE (zA ?_)))))
 refine Af I (fun h=> ?_) (fun h=> ?_)
 rotate_left
 ·have e:i=rs.length:=by simp at h;omega
  subst e
  refine zJ (zK (zK (zL (zE (zA (zB (wP I (Aa (zE (zO ?_))))))))))
  have:plc rs=true:=List.all_eq_true.2 fun j hj=>hok j (List.mem_range.1 hj)
  exact wR1 I I (by rw[this])
 have hi:i<rs.length:=by simp at h;omega
 clear h
 obtain⟨b,off,rfl,hrow⟩:=hR.row hi
 obtain⟨q,cap2,hq1,hq2⟩:=hrow i hi
 have hli:=hl _ (List.mem_of_getElem? (Bf hi))
 have hnei:0<(rg rs i).length:=List.length_pos_iff.2 (hne _ (List.mem_of_getElem? (Bf hi)))
 refine zI (zE (zA (zH (zA (zB (wP I ?_))))))
 refine wJ ?_
 refine wL 0 I I (fun W hp=>hq1.hp hp) I (wP I (wP I (Aa (zE (zA (zA (zB (wP I (wC I I (fun W hp=>Qp W q cap2 (rg rs i) hli (hq2.hp hp)) (wP I (wP I (wP I ?_))))))))))))
 refine CG Tryz.underlying4 I I I I I I ?_
 refine Aa (zE ?_)
 refine Af I (fun h=> ?_) (fun h=> ?_)
 ·refine zA (zB (wP I (Aa (zE (zO (zP (zQ (zP (zP (zQ (zP ?_)))))))))))
  have hf:plc rs=false:=B5 hi (by
   unfold CT
   rw[show(decide (Cu (rg rs i) (rg rs i).length>0)==(i==0))=false by
    have h':=h
    rw[show((i:Int)==0)=(i==0) from Cj i 0] at h'
    simpa using h']
   rfl)
  exact wR1 I I (by rw[hf])
 have hA:(decide (Cu (rg rs i) (rg rs i).length>0)==(i==0))=true:=by
  have h':=h
  rw[show((i:Int)==0)=(i==0) from Cj i 0] at h'
  simpa using h'
 clear h
 refine zI (zE (zA (zB (wP I (wP I (wP I (Aa (zE (zH ?_)))))))))
 refine Ar (X:=Nat) (fun k=>[(0,slv (some ⟨b,off,none⟩) rs.length cap),(7,slv (some ⟨b,off,none⟩) rs.length cap),(8, .int .i64 (rs.length:Nat)),(9, .int .i64 (i:Nat)),(3, .int .i64 (i:Nat)),(4,slv q (rg rs i).length cap2),(20,slv (some ⟨b,off,none⟩) rs.length cap),(21, .int .i64 (rs.length:Nat)),(22, .int .i64 (k:Nat))]) (fun _=>[])
  (fun k=>k≤rs.length∧ ∀j,j<k→EY rs i j=true) (fun k=>rs.length-k) 0 ⟨Nat.zero_le _,fun j hj=>absurd hj (Nat.not_lt_zero _)⟩ ⟨rfl,rfl,rfl,rfl,rfl,rfl,rfl,rfl,rfl,trivial⟩ [] rfl ?_
 rintro k ⟨hk,hokk⟩
 refine zA (zB (wP I (Aa (zE (zA ?_)))))
 refine Af I (fun h=> ?_) (fun h=> ?_)
 rotate_left
 ·have e:k=rs.length:=by simp at h;omega
  subst e
  refine zJ (zK (zK (zL (zN (zE (zB (wP I (wP I (Aa ?_)))))))))
  refine Ak (i+1) ⟨hi,fun j hj=> ?_⟩ (by omega) ⟨I,I,I,congrArg (fun z=>some (Value.int .i64 z)) (AA (x:=(i:Int)+1) (by omega) (by omega)),O⟩ [] I
  by_cases e:j=i
  ·subst e
   unfold CT
   rw[hA,Bool.true_and]
   exact List.all_eq_true.2 fun m hm=>hokk m (List.mem_range.1 hm)
  ·exact hok j (by omega)
 have hk:k<rs.length:=by simp at h;omega
 clear h
 obtain⟨q2,cap3,hq3,hq4⟩:=hrow k hk
 have hlk:=hl _ (List.mem_of_getElem? (Bf hk))
 have next:EY rs i k=true→ ∀j,j<k+1→EY rs i j=true:=fun h j hj=>by
  by_cases e:j=k
  ·subst e;exact h
  ·exact hokk j (by omega)
 refine zI (zE (zA (zH (zA (zB (wP I ?_))))))
 refine wJ ?_
 refine wL 0 I I (fun W hp=>hq3.hp hp) I (wP I (wP I (Aa (zE (An ?_)))))
 refine G2 (X:=Unit) (fun _=>[(0,slv (some ⟨b,off,none⟩) rs.length cap),(7,slv (some ⟨b,off,none⟩) rs.length cap),(8, .int .i64 (rs.length:Nat)),(9, .int .i64 (i:Nat)),(3, .int .i64 (i:Nat)),(4,slv q (rg rs i).length cap2),(5, .int .i64 (k:Nat)),(6,slv q2 (rg rs k).length cap3),(20,slv (some ⟨b,off,none⟩) rs.length cap),(21, .int .i64 (rs.length:Nat)),(22, .int .i64 (k:Nat)),(33, .bool (k==i||i==0))]) (fun _=>[]) (fun _=>True) ?_ ?_
 ·refine zB (wP I (wP I (wP I (wP I ?_))))
  refine A6 30 I (fun h30=> ?_) (fun h30=> ?_)
  ·have e:(k==i||i==0)=true:=by
    have:(k==i)=true:=by rw[←Cj];exact h30
    rw[this];rfl
   iterate 2 refine Ad I I ?_
   exact wP I (Aa (Ag () O ⟨I,I,I,I,I,I,I,I,I,I,I,by rw[e];rfl,O⟩ [] I))
  ·have e:(k==i||i==0)=((i:Int)==0):=by
    have:(k==i)=false:=by rw[←Cj];exact h30
    rw[this,Bool.false_or];exact(Cj i 0).symm
   exact wP I (wP I (wP I (Aa (Ag () O ⟨I,I,I,I,I,I,I,I,I,I,I,by rw[e];rfl,O⟩ [] I))))
 intro _ _
 refine Af I (fun h=> ?_) (fun h=> ?_)
 ·exact zJ (zK (zL (zE (zB (wP I (wP I (Aa (Ak (k+1) ⟨hk,next (by unfold EY;rw[h];rfl)⟩ (by omega) ⟨I,I,I,I,I,I,I,I,congrArg (fun z=>some (Value.int .i64 z)) (AA (x:=(k:Int)+1) (by omega) (by omega)),O⟩ [] I))))))))
 obtain⟨b3,off3,rfl,hrow3⟩:=hq2.row hnei
 refine zI (zE (zA (zB (wP I (wP I ?_)))))
 refine wJ ?_
 refine wL 0 I I (fun W hp=>(hrow3 0 hnei).hp hp) I (wC I I (fun W _=>(Bp ..)) (wC I I (fun W hp=>NK W q2 cap3 (rg rs k) _ _ hlk (hq4.hp hp)) (wP I (wP I ?_))))
 refine CG Tryz.underlying4 I I I I I I ?_
 refine Aa (zE ?_)
 refine Af I (fun h2=> ?_) (fun h2=> ?_)
 ·refine zA (zB (wP I (Aa (zE (zO (zQ (zP (zP (zQ (zQ (zP (zP (zQ ?_)))))))))))))
  refine zP ?_
  have hf:plc rs=false:=B5 hi (by
   unfold CT
   rw[B5 hk (by
    unfold EY
    rw[h,Bool.false_or]
    have h':=h2
    rw[show((k:Int)==0)=(k==0) from Cj k 0] at h'
    simpa using h'),Bool.and_false])
  exact wR1 I I (by rw[hf])
 ·refine zI (zN (zE (zB (wP I (wP I (Aa ?_))))))
  refine Ak (k+1) ⟨hk,next ?_⟩ (by omega) ⟨I,I,I,I,I,I,I,I,congrArg (fun z=>some (Value.int .i64 z)) (AA (x:=(k:Int)+1) (by omega) (by omega)),O⟩ [] I
  unfold EY
  rw[h,Bool.false_or]
  have h':=h2
  rw[show((k:Int)==0)=(k==0) from Cj k 0] at h'
  simpa using h'
end
section
-- OLD
open Go Go.RowKit Go.Am
set_option maxRecDepth 10000
-- BOXES 8
-- EQB 4
def Hh (s t u:Sd):Bool:=decide (w64 (w64 (w64 (t.x-s.x)*w64 (u.y-t.y))-w64 (w64 (t.y-s.y)*w64 (u.x-t.x)))>0)
def LN (s t u:Sd):Bool:=Hh s t u||(!t.gable&& !s.gable&&(t.plate==s.plate))
def Cv (l:List Sd) (k:Nat):Bool:=LN (sd l (prv l.length k)) (sd l k) (sd l (nxt l.length k))
def Bm (l:List Sd) (b:Bool):Nat→Bool
 |0=>b
 |k+1=>Bm l b k|| !(sd l k).gable
def Ba (rs:List (List Sd)):Nat→Bool
 |0=>false
 |k+1=>Bm (rg rs k) (Ba rs k) (rg rs k).length
def FT (l:List Sd):Bool:=(List.range l.length).all (Cv l)
def jnd (rs:List (List Sd)):Bool:=rs.all FT&&Ba rs rs.length
theorem Nw (W:World) (p:Option Addr) (cap:Nat) (rs:List (List Sd)) (hn:rs.length<4611686018427387904) (hl: ∀l∈rs,l.length<4611686018427387904) (hR:Bv W p rs):
  Ae Tryz.prog 152 #[slv p rs.length cap] W (fun _:Unit=> .bool (jnd rs)) (fun _=>True) (fun _=>[]):=by
 refine Ab (args:=[slv p rs.length cap]) Tryz.func152 I I I ?_
 refine zA (zB ?_)
 refine Be (z:= .bool false) I I I (fun W=>by kernel_rfl) fun b2=> ?_
 refine zC (zE (zA (zB ?_)))
 refine Be (z:= .bool false) I I I (fun W=>by kernel_rfl) fun b3=> ?_
 refine wS 1 I I I (zC (zE (zA (zA (zB (wP I (wP I (wP I (zC (zE (zH ?_)))))))))))
 refine ME ?_
 refine KU (X:=Nat×Bool×List Nat) (fun x=>x.2.2.map DQ) (fun x=>[(2, .pointer (some ⟨b2,0,none⟩)),(3, .pointer (some ⟨b3,0,none⟩)),(8,slv p rs.length cap),(9, .int .i64 (rs.length:Nat)),(10, .int .i64 (x.1:Nat))])
  (fun x=>[⟨b2,4,[.bool false],true,none⟩,⟨b3,4,[.bool x.2.1],true,none⟩,bag x.2.2]) (fun x=>x.1≤rs.length∧x.2.1=Ba rs x.1∧ ∀i,i<x.1→FT (rg rs i)=true) (fun x=>rs.length-x.1) (0,false,[])
  ⟨Nat.zero_le _,rfl,fun i hi=>absurd hi (Nat.not_lt_zero _)⟩ rfl ⟨rfl,rfl,rfl,rfl,rfl,trivial⟩ [] rfl ?_
 rintro⟨k,sm,ds⟩ ⟨hk,hsm,hok⟩
 have hk:k≤rs.length:=hk
 obtain rfl:sm=Ba rs k:=hsm
 refine zA (zB (wP I (zC (zE (zA ?_)))))
 refine Af I (fun h=> ?_) (fun h=> ?_)
 rotate_left
 ·refine zJ (zK (zK (zL (zE (zA (zB (wB 1 I I I (wS 0 I I I (zC (zE (zO ?_)))))))))))
  refine GO 2 ds I ?_
  have e:k=rs.length:=by simp at h;omega
  subst e
  have hj:jnd rs=Ba rs rs.length:=by
   have:rs.all FT=true:=List.all_eq_true.2 fun l hl=>by
    obtain⟨i,hi,rfl⟩:=List.getElem_of_mem hl
    have:=hok i hi
    rwa [show rg rs i=rs[i] by simp[rg,hi]] at this
   simp[jnd,this]
  exact AB tH I (.cell 0 I I I I I) () (by rw[hj]) O fun W _=>At.nil _ _
 have hk:k<rs.length:=by simp at h;omega
 obtain⟨b',off,rfl,hrow⟩:=hR.row hk
 obtain⟨q,cap2,hq1,hq2⟩:=hrow k hk
 have hlk:(rg rs k).length<4611686018427387904:=hl _ (List.mem_of_getElem? (Bf hk))
 refine zI (zE (zA (zH (zA (zB ?_)))))
 refine wJ ?_
 refine wL 0 I I (fun W hp=>hq1.hp hp) I (wP I (zC (zE (zA (zB (wP I ?_))))))
 refine wD (X:=Nat) I I (fun W _=>Et q (rg rs k).length cap2 W) ?_
 intro b _
 refine zC (zE (zH ?_))
 refine DG (X:=Bool×Nat) (fun x=>[⟨b2,4,[.bool false],true,none⟩,⟨b3,4,[.bool x.1],true,none⟩,bag ds,⟨b,76,[slv q (rg rs k).length cap2],true,none⟩])
  (fun j x=>x.2=j∧x.1=Bm (rg rs k) (Ba rs k) j∧ ∀i,i<j→Cv (rg rs k) i=true) (fun c _=>c= .ret∧ ∃j,j<(rg rs k).length∧Cv (rg rs k) j=false) (Ba rs k,0) rfl (by kernel_rfl) (Fg b q cap2 (rg rs k) hlk) (fun _=>rfl)
  ⟨rfl,rfl,fun i hi=>absurd hi (Nat.not_lt_zero _)⟩ [] rfl (fun k x W _ hp=>Dv.mk' hq2 hp 3 rfl) ?_ ?_ ?_
 ·rintro j' ⟨sm,j⟩ d L rec hj ⟨e1,e2,hin⟩ hrec
  obtain rfl:j=j':=e1
  obtain rfl:sm=Bm (rg rs k) (Ba rs k) j:=e2
  refine zB ?_
  refine Be (z:=G6 default default default) I I I (fun W=>by kernel_rfl) fun b7=> ?_
  refine wS 6 I I I (zC ?_)
  refine CI 5 hrec I ?_
  refine BQ ?_
  refine G2 (X:=Unit) (fun _=>[(2, .pointer (some ⟨b2,0,none⟩)),(3, .pointer (some ⟨b3,0,none⟩)),(7, .pointer (some ⟨b7,0,none⟩))])
   (fun _=>[⟨b2,4,[.bool false],true,none⟩,⟨b3,4,[.bool (Bm (rg rs k) (Ba rs k) (j+1))],true,none⟩,bag ds,⟨b,76,[slv q (rg rs k).length cap2],true,none⟩,CJ d,BN L rec .busy none,
    ⟨b7,213,(G6 (sd (rg rs k) (prv (rg rs k).length j)) (sd (rg rs k) j) (sd (rg rs k) (nxt (rg rs k).length j))).cells.toList,true,none⟩]) (fun _=>True) ?_ ?_
  ·refine D7 ?_
   refine wB 1 I I I (wP I ?_)
   refine A6 19 I (fun h19=> ?_) (fun h19=> ?_)
   ·refine Ad I I ?_
    iterate 3 refine Ad I I ?_
    refine wP I (wS 1 I I I (zC ?_))
    refine Ag () O ⟨I,I,I,O⟩ [] ?_
    have h19:Bm (rg rs k) (Ba rs k) j=true:=h19
    have e:Bm (rg rs k) (Ba rs k) (j+1)=true:=by simp[Bm,h19]
    rw[e];rfl
   ·refine wP I (wP I (wB 6 I I I (wP I (wP I (wS 1 I I I (zC ?_))))))
    refine Ag () O ⟨I,I,I,O⟩ [] ?_
    have h19:Bm (rg rs k) (Ba rs k) j=false:=h19
    have e:Bm (rg rs k) (Ba rs k) (j+1)= !(sd (rg rs k) j).gable:=by simp[Bm,h19]
    rw[e];rfl
  intro _ _
  refine zA (zB (wB 6 I I I (wC I I (fun W _=>PK (sd (rg rs k) (prv (rg rs k).length j)) (sd (rg rs k) j) (sd (rg rs k) (nxt (rg rs k).length j)) W) (wP I (wP I ?_)))))
  have good:Cv (rg rs k) j=true→ ∀i,i<j+1→Cv (rg rs k) i=true:=fun hg i hi=>by
   by_cases e:i=j
   ·subst e;exact hg
   ·exact hin i (by show i<j;omega)
  refine A6 28 I (fun h28=> ?_) (fun h28=> ?_)
  ·refine wP I (wP I (wB 6 I I I (wP I ?_)))
   refine A6 32 I (fun h32=> ?_) (fun h32=> ?_)
   ·refine Ad I I ?_
    iterate 2 refine Ad I I ?_
    refine wP I (wP I ?_)
    iterate 7 refine Ad I I ?_
    exact wP I (wP I (zC (zE (zR I (zA (zB (wS 0 I I I (zC (zE (zO (zQ (CX 5 (Bm (rg rs k) (Ba rs k) (j+1),j+1) hrec I ⟨I,j,hj,by simp_all [Cv,LN,Hh]⟩ [_] I))))))))))))
   ·refine wP I (wP I (wB 6 I I I (wP I (wP I ?_))))
    refine A6 37 I (fun h37=> ?_) (fun h37=> ?_)
    ·refine Ad I I ?_
     iterate 6 refine Ad I I ?_
     exact wP I (wP I (zC (zE (zR I (zA (zB (wS 0 I I I (zC (zE (zO (zQ (CX 5 (Bm (rg rs k) (Ba rs k) (j+1),j+1) hrec I ⟨I,j,hj,by simp_all [Cv,LN,Hh]⟩ [_] I))))))))))))
    ·refine wP I (wP I (wB 6 I I I (wP I (wP I (wB 6 I I I (wP I (wP I (wP I (Aa (As ?_))))))))))
     refine Af I (fun h=> ?_) (fun h=> ?_)
     ·exact zA (zB (wS 0 I I I (zC (zE (zO (zQ (CX 5 (Bm (rg rs k) (Ba rs k) (j+1),j+1) hrec I ⟨I,j,hj,by simp_all [Cv,LN,Hh]⟩ [_] I)))))))
     ·exact zI (zN (BD 5 (Bm (rg rs k) (Ba rs k) (j+1),j+1) hrec I ⟨I,I,good (by simp_all [Cv,LN,Hh])⟩ [_] I))
  ·refine Ad I I ?_
   iterate 16 refine Ad I I ?_
   exact wP I (zC (zE (zS I (zI (zN (BD 5 (Bm (rg rs k) (Ba rs k) (j+1),j+1) hrec I ⟨I,I,good (by simp_all [Cv,LN,Hh])⟩ [_] I))))))
 ·rintro⟨sm,j⟩ d L rec ⟨e1,e2,hin⟩
  obtain rfl:j=(rg rs k).length:=e1
  obtain rfl:sm=Bm (rg rs k) (Ba rs k) (rg rs k).length:=e2
  refine zN (zN (zE (zB (wP I (wP I (zC ?_))))))
  refine Qf 2 4 I I ?_
  refine IG (X:=Nat×Bool×List Nat) (k+1,Bm (rg rs k) (Ba rs k) (rg rs k).length,d::ds) ?_ ?_ I ?_ [0,1,2] (by decide) I
  rotate_left
  ·show rs.length-(k+1)<rs.length-k;omega
  ·exact⟨I,I,I,I,congrArg (fun z=>some (Value.int .i64 z)) (AA (x:=(k:Int)+1) (by omega) (by omega)),O⟩
  refine⟨hk,I,fun i hi=> ?_⟩
  by_cases e:i=k
  ·subst e
   exact List.all_eq_true.2 fun x hx=>hin x (List.mem_range.1 hx)
  ·exact hok i (by show i<k;have:i<k+1:=hi;omega)
 ·rintro⟨sm,j'⟩ d L rec c ⟨rfl,j,hj,hf⟩
  refine zO (zQ (zQ (zP (zP (zQ (zP ?_))))))
  refine Qf 2 4 I I ?_
  refine GO 2 (d::ds) I ?_
  have hj:jnd rs=false:=by
   have h1:FT (rg rs k)=false:=Bool.eq_false_iff.2 fun h2=>by
    have:=List.all_eq_true.1 h2 j (List.mem_range.2 hj)
    rw[hf] at this;cases this
   have:rs.all FT=false:=Bool.eq_false_iff.2 fun h2=>by
    have:=List.all_eq_true.1 h2 _ (List.mem_of_getElem? (Bf hk))
    rw[h1] at this;cases this
   simp[jnd,this]
  exact AB tH I (.cell 0 I I I I I) () (by rw[hj]) O fun W _=>At.nil _ _
end
section
open Go Go.RowKit Go.Am
set_option maxRecDepth 10000
-- BOXES 3
abbrev D8 (p:Option Addr) (n cap:Nat):Value:= .agg #[slv p n cap]
def chk (rs:List (List Sd)):Int:=
 if rs.any (fun l=>l.length==0)=true then 5
 else if tot rs=0 then 5
 else if tot rs>24 then 4
 else if rs.flatten.any (fun s=> !rgd s)=true then 2
 else if rs.any (fun l=> !shp l)=true then 14
 else if crs rs=true then 15
 else if (!plc rs|| !jnd rs)=true then 14
 else 0
theorem Ge {rs:List (List Sd)} {l:List Sd} (h:l∈rs):l.length≤tot rs:=by
 unfold tot
 induction rs with
 |nil=>cases h
 |cons x rs ih=>
  rw[List.map_cons,List.sum_cons]
  rcases List.mem_cons.1 h with rfl|h
  ·omega
  ·have:=ih h;omega
theorem JH (W:World) (p:Option Addr) (cap:Nat) (rs:List (List Sd)) (hn:rs.length<4611686018427387904) (hT:tot rs<1099511627776) (hR:Bv W p rs):
  Ae Tryz.prog 92 #[D8 p rs.length cap] W (fun _:Unit=> .int .i64 (chk rs)) (fun _=>True) (fun _=>[]):=by
 have hl: ∀l∈rs,l.length<4611686018427387904:=fun l h=>by have:=Ge h;omega
 refine Ab (args:=[D8 p rs.length cap]) Tryz.func92 I I I ?_
 refine zA (zB ?_)
 (refine Ay rfl rfl rfl rfl ?_;intro)
 refine wP I (Aa ?_)
 rename_i b1
 refine zE (zA (zB (wP I (Aa (zE (zA (zA (zB (wP I (wB 0 I I I (wP I (wP I (Aa ?_)))))))))))))
 refine zE (zH ?_)
 refine Ar (X:=Nat) (fun k=>[(1, .pointer (some ⟨b1,0,none⟩)),(3, .int .i64 (tot (rs.take k):Nat)),(7,slv p rs.length cap),(8, .int .i64 (rs.length:Nat)),(9, .int .i64 (k:Nat))]) (fun _=>[⟨b1,24,[slv p rs.length cap],true,none⟩])
  (fun k=>k≤rs.length∧ ∀j,j<k→(rg rs j).length≠0) (fun k=>rs.length-k) 0 ⟨Nat.zero_le _,fun j hj=>absurd hj (Nat.not_lt_zero _)⟩ ⟨rfl,rfl,rfl,rfl,rfl,trivial⟩ [] rfl ?_
 rintro k ⟨hk,hok⟩
 refine zA (zB (wP I (Aa (zE (zA ?_)))))
 refine Af I (fun h=> ?_) (fun h=> ?_)
 ·have hk:k<rs.length:=by simp at h;omega
  clear h
  obtain⟨b,off,rfl,hrow⟩:=hR.row hk
  obtain⟨q,cap2,hq1,hq2⟩:=hrow k hk
  refine zI (zE (zA (zH (zA (zB ?_)))))
  refine wJ ?_
  refine wL 0 I I (fun W hp=>hq1.hp hp) I (wP I (Aa (zE (zA (zA (zB (wP I (wP I (wP I (Aa (zE ?_)))))))))))
  refine Af I (fun h=> ?_) (fun h=> ?_)
  ·refine zA (zB (wP I (Aa (zE (zO (zP (zQ (zP (zP (zQ (zP ?_)))))))))))
   have he:rs.any (fun l=>l.length==0)=true:=List.any_eq_true.2 ⟨_,List.mem_of_getElem? (Bf hk),by have h':((((rg rs k).length:Nat):Int)==0)=true:=h;rw[beq_iff_eq] at h'⊢;omega⟩
   exact wR1 I I (by unfold chk;rw[if_pos he])
  have hz:(rg rs k).length≠0:=by
   have h':((((rg rs k).length:Nat):Int)==0)=false:=h
   rw[beq_eq_false_iff_ne] at h';omega
  clear h
  refine zI (zE (zB ?_))
  iterate 5 refine wP I ?_
  refine Aa ?_
  have hs:w64 ((tot (rs.take k):Nat)+((rg rs k).length:Nat))=(tot (rs.take (k+1)):Nat):=by
   have h1:=Bg hk
   have h2:=Ci rs (k+1)
   rw[Ai (by omega) (by omega)];omega
  refine zN (zE (zB ?_))
  refine Aj 3 _ I (congrArg (Value.int .i64) hs) ?_
  refine wP I (wP I (Aa ?_))
  refine Ak (k+1) ⟨hk,fun j hj=> ?_⟩ (by omega) ⟨I,I,I,I,congrArg (fun z=>some (Value.int .i64 z)) (AA (x:=(k:Int)+1) (by omega) (by omega)),O⟩ [] I
  by_cases e:j=k
  ·subst e;exact hz
  ·exact hok j (by omega)
 have e:k=rs.length:=by simp at h;omega
 subst e
 clear h
 rw[List.take_length]
 have hne: ∀l∈rs,l≠[]:=fun l hl e=>by
  obtain⟨i,hi,e2⟩:=List.getElem_of_mem hl
  have:=hok i hi
  rw[show rg rs i=rs[i] by simp[rg,hi],e2,e] at this
  exact this I
 have he:rs.any (fun l=>l.length==0)=false:=Bool.eq_false_iff.2 fun h2=>by
  obtain⟨l,h3,h4⟩:=List.any_eq_true.1 h2
  rw[beq_iff_eq] at h4
  exact hne l h3 (List.length_eq_zero_iff.1 h4)
 have hN: ¬(rs.any (fun l=>l.length==0)=true):=by rw[he];decide
 refine zJ (zK (zK (zL (zE (zA (zH (zA (zB (wP I (wP I (wP I (Aa (zE ?_)))))))))))))
 refine Af I (fun h=> ?_) (fun h=> ?_)
 ·refine zA (zB (wP I (Aa (zE (zO (zQ (zP ?_)))))))
  have h0:tot rs=0:=by have h':(((tot rs:Nat):Int)==0)=true:=h;rw[beq_iff_eq] at h';omega
  exact wR1 I I (by unfold chk;rw[if_neg hN,if_pos h0])
 have h0: ¬tot rs=0:=by have h':(((tot rs:Nat):Int)==0)=false:=h;rw[beq_eq_false_iff_ne] at h';omega
 clear h
 refine zA (zB (wP I (wP I (wP I (Aa (zE ?_))))))
 refine Af I (fun h=> ?_) (fun h=> ?_)
 ·refine zA (zB (wP I (Aa (zE (zO (zQ (zP ?_)))))))
  have h1:tot rs>24:=by have h':decide (((tot rs:Nat):Int)>24)=true:=h;rw[decide_eq_true_iff] at h';omega
  exact wR1 I I (by unfold chk;rw[if_neg hN,if_neg h0,if_pos h1])
 have h1: ¬tot rs>24:=by have h':decide (((tot rs:Nat):Int)>24)=false:=h;rw[decide_eq_false_iff_not] at h';omega
 clear h
 refine zA (zB (wP I (wB 0 I I I ?_)))
 refine wD (X:=Vec) I I (fun W hp=>Nn W p cap rs hn hT (hR.below (Nat.le_refl _) hp.below) hne) ?_
 intro V hV
 obtain⟨q,cq,eV,hVR⟩:=Vec.ring hV
 have hfl:rs.flatten.length<4611686018427387904:=by rw[GH];omega
 refine Aj 30 _ I eV ?_
 refine wC I I (fun W hp=>Ju 145 (by kernel_rfl) (fun s=> !rgd s) NF W q cq rs.flatten hfl (hVR hp 1 I)) (wP I (Aa (zE ?_)))
 refine Af I (fun h=> ?_) (fun h=> ?_)
 ·exact zA (zB (wP I (Aa (zE (zO (zQ (zP (wR1 I I (by unfold chk;rw[if_neg hN,if_neg h0,if_neg h1,if_pos h])))))))))
 have h2: ¬(rs.flatten.any (fun s=> !rgd s)=true):=by rw[h];decide
 clear h
 refine zA (zB (wP I (wB 0 I I I (wC I I (fun W hp=>Jf 148 (by kernel_rfl) (fun l=> !shp l) Od W p cap rs hn hl (hR.below (Nat.le_refl _) hp.below)) (wP I (Aa (zE ?_)))))))
 refine Af I (fun h=> ?_) (fun h=> ?_)
 ·exact zA (zB (wP I (Aa (zE (zO (zQ (zP (wR1 I I (by unfold chk;rw[if_neg hN,if_neg h0,if_neg h1,if_neg h2,if_pos h])))))))))
 have h3: ¬(rs.any (fun l=> !shp l)=true):=by rw[h];decide
 clear h
 refine zA (zB (wP I (wB 0 I I I (wC I I (fun W hp=>LT W p cap rs hn hT hl (hR.below (Nat.le_refl _) hp.below)) (wP I (Aa (zE ?_)))))))
 refine Af I (fun h=> ?_) (fun h=> ?_)
 ·exact zA (zB (wP I (Aa (zE (zO (zQ (zP (wR1 I I (by unfold chk;rw[if_neg hN,if_neg h0,if_neg h1,if_neg h2,if_neg h3,if_pos h])))))))))
 have h4: ¬(crs rs=true):=by rw[h];decide
 clear h
 refine zA (zB (wP I (wB 0 I I I (wC I I (fun W hp=>NW W p cap rs hn hl hne (hR.below (Nat.le_refl _) hp.below)) (wP I (wP I ?_))))))
 refine A6 45 I (fun h45=> ?_) (fun h45=> ?_)
 ·have h5:(!plc rs|| !jnd rs)=true:=by have h':(!plc rs)=true:=h45;rw[h'];rfl
  iterate 4 refine Ad I I ?_
  exact wP I (wP I (Aa (zE (zR I (zA (zB (wP I (Aa (zE (zO (zQ (zP (wR1 I I (by unfold chk;rw[if_neg hN,if_neg h0,if_neg h1,if_neg h2,if_neg h3,if_neg h4,if_pos h5]))))))))))))))
 ·have h':(!plc rs)=false:=h45
  refine wP I (wB 0 I I I (wC I I (fun W hp=>Nw W p cap rs hn hl (hR.below (Nat.le_refl _) hp.below)) (wP I (wP I (wP I (Aa (zE ?_)))))))
  refine Af I (fun h=> ?_) (fun h=> ?_)
  ·refine zA (zB (wP I (Aa (zE (zO (zQ (zP ?_)))))))
   have h5:(!plc rs|| !jnd rs)=true:=by rw[h',h];rfl
   exact wR1 I I (by unfold chk;rw[if_neg hN,if_neg h0,if_neg h1,if_neg h2,if_neg h3,if_neg h4,if_pos h5])
  ·refine zI (zN (zE (zA (zB (wP I (Aa (zE (zO ?_))))))))
   have h5: ¬((!plc rs|| !jnd rs)=true):=by rw[h',h];decide
   exact wR1 I I (by unfold chk;rw[if_neg hN,if_neg h0,if_neg h1,if_neg h2,if_neg h3,if_neg h4,if_neg h5])
-- BOXES 3
theorem Bv.hp {W0 W:World} {bxs:List Bx} {p:Option Addr} {rs:List (List Sd)} (h:Bv W0 p rs) (hp:Hp W0 bxs W):Bv W p rs:=h.below (Nat.le_refl _) hp.below
def grt (rs:List (List Sd)) (m:Int):Bool:=(decide ((tot rs:Int)>m)&&decide ((tot rs:Int)≤24))||decide ((tot rs:Int)>40)||decide ((rs.length:Int)>40)
theorem OC (W:World) (p:Option Addr) (cap:Nat) (rs:List (List Sd)) (m:Int) (hn:rs.length<4611686018427387904) (hT:tot rs<4611686018427387904) (hR:Bv W p rs):
  Ae Tryz.prog 40 #[D8 p rs.length cap, .int .i64 m] W (fun _:Unit=> .bool (grt rs m)) (fun _=>True) (fun _=>[]):=by
 refine Ab (args:=[D8 p rs.length cap, .int .i64 m]) Tryz.func40 I I I ?_
 refine zA (zB ?_)
 (refine Ay rfl rfl rfl rfl ?_;intro)
 rename_i b1
 refine wP I (Aa (zE (zA (zB (wP I (Aa (zE (zA (zA (zB (wP I (Aa (zE ?_)))))))))))))
 refine zH ?_
 refine Ar (X:=Nat) (fun k=>[(1, .int .i64 m),(2, .pointer (some ⟨b1,0,none⟩)),(5, .int .i64 (tot (rs.take k):Nat)),(6, .int .i64 (k:Nat))]) (fun _=>[⟨b1,24,[slv p rs.length cap],true,none⟩])
  (fun k=>k≤rs.length) (fun k=>rs.length-k) 0 (Nat.zero_le _) ⟨rfl,rfl,rfl,rfl,trivial⟩ [] rfl ?_
 intro k hk
 refine zA (zA (zB (wP I (wP I (wB 0 I I I (wP I (wP I (Aa (zE ?_)))))))))
 refine Af I (fun h=> ?_) (fun h=> ?_)
 ·have hk:k<rs.length:=by simp at h;omega
  clear h
  obtain⟨b,off,rfl,hrow⟩:=hR.row hk
  obtain⟨q,cap2,hq1,hq2⟩:=hrow k hk
  refine zI (zE (zA (zH (zB (wP I (wP I (wB 0 I I I (wP I ?_))))))))
  refine wJ ?_
  refine wL 0 I I (fun W hp=>hq1.hp hp) I (wP I (wP I (wP I (Aa ?_))))
  have hs:w64 ((tot (rs.take k):Nat)+((rg rs k).length:Nat))=(tot (rs.take (k+1)):Nat):=by
   have h1:=Bg hk
   have h2:=Ci rs (k+1)
   rw[Ai (by omega) (by omega)];omega
  refine zN (zE (zB ?_))
  refine Aj 5 _ I (congrArg (Value.int .i64) hs) ?_
  exact wP I (wP I (wP I (Aa (Ak (k+1) hk (by omega) ⟨I,I,I,congrArg (fun z=>some (Value.int .i64 z)) (AA (x:=(k:Int)+1) (by omega) (by omega)),O⟩ [] I))))
 have e:k=rs.length:=by simp at h;omega
 subst e
 clear h
 rw[List.take_length]
 refine zJ (zK (zK (zL (zE (zA (zB (wP I (wP I (wP I (wP I ?_))))))))))
 refine A6 25 I (fun h25=> ?_) (fun h25=> ?_)
 ·refine wP I (wP I (wP I (wP I ?_)))
  have h25':decide ((tot rs:Int)>m)=true:=h25
  refine A6 29 I (fun h29=> ?_) (fun h29=> ?_)
  ·have e:grt rs m=true:=by have h':decide ((tot rs:Int)≤24)=true:=h29;unfold grt;rw[h25',h'];rfl
   iterate 2 refine Ad I I ?_
   refine wP I (wP I ?_)
   iterate 4 refine Ad I I ?_
   exact wP I (wP I (Aa (zE (zO (wR1 I I (by rw[e]))))))
  ·refine wP I (wP I (wP I (wP I ?_)))
   have h':decide ((tot rs:Int)≤24)=false:=h29
   refine A6 33 I (fun h33=> ?_) (fun h33=> ?_)
   ·have e:grt rs m=true:=by have h2:decide ((tot rs:Int)>40)=true:=h33;unfold grt;rw[h2,Bool.or_true];rfl
    iterate 4 refine Ad I I ?_
    exact wP I (wP I (Aa (zE (zO (wR1 I I (by rw[e]))))))
   ·have e:grt rs m=decide ((rs.length:Int)>40):=by have h2:decide ((tot rs:Int)>40)=false:=h33;unfold grt;rw[h',h2,Bool.and_false];rfl
    exact wP I (wB 0 I I I (wP I (wP I (wP I (wP I (Aa (zE (zO (wR1 I I (by rw[e]))))))))))
 ·have h25':decide ((tot rs:Int)>m)=false:=h25
  iterate 2 refine Ad I I ?_
  iterate 6 refine wP I ?_
  refine A6 33 I (fun h33=> ?_) (fun h33=> ?_)
  ·have e:grt rs m=true:=by have h2:decide ((tot rs:Int)>40)=true:=h33;unfold grt;rw[h2,Bool.or_true];rfl
   iterate 4 refine Ad I I ?_
   exact wP I (wP I (Aa (zE (zO (wR1 I I (by rw[e]))))))
  ·have e:grt rs m=decide ((rs.length:Int)>40):=by have h2:decide ((tot rs:Int)>40)=false:=h33;unfold grt;rw[h25',h2];rfl
   exact wP I (wB 0 I I I (wP I (wP I (wP I (wP I (Aa (zE (zO (wR1 I I (by rw[e]))))))))))
theorem PU {rs:List (List Sd)} (h:chk rs=0):(∀l∈rs,l≠[])∧tot rs≤24∧tot rs≠0:=by
 unfold chk at h
 split at h
 ·cases h
 ·rename_i h1
  split at h
  ·cases h
  ·rename_i h2
   split at h
   ·cases h
   ·rename_i h3
    refine⟨fun l hl e=>h1 (List.any_eq_true.2 ⟨l,hl,by rw[e];rfl⟩),by omega,h2⟩
end
section
open Go Go.RowKit Go.Am
def AC (f:Nat→Int):Nat→Int
 |0=>0
 |k+1=>AC f k+f k
theorem BE {f g:Nat→Int}: ∀(n:Nat),(∀i,i<n→f i=g i)→AC f n=AC g n
 |0,_=>rfl
 |n+1,h=>by
  show AC f n+f n=AC g n+g n
  rw[BE n (fun i hi=>h i (by omega)),h n (by omega)]
theorem MG (f g:Nat→Int): ∀n,AC (fun i=>f i+g i) n=AC f n+AC g n
 |0=>rfl
 |n+1=>by
  show AC _ n+(f n+g n)=AC f n+f n+(AC g n+g n)
  rw[MG f g n];omega
theorem EE (c:Int) (f:Nat→Int): ∀n,AC (fun i=>c*f i) n=c*AC f n
 |0=>by simp[AC]
 |n+1=>by
  show AC _ n+c*f n=c*(AC f n+f n)
  rw[EE c f n,Int.mul_add]
theorem L9 (g:Nat→Int): ∀n,AC (fun i=>g (i+1)) n+g 0=AC g (n+1)
 |0=>by simp[AC]
 |n+1=>by
  have ih:=L9 g n
  show AC (fun i=>g (i+1)) n+g (n+1)+g 0=AC g (n+1)+g (n+1)
  omega
theorem RL (g:Nat→Int) (n:Nat):AC (fun i=>g (nxt n i)) n=AC g n:=by
 cases n with
 |zero=>rfl
 |succ m=>
  rw[←L9 g m]
  show AC (fun i=>g (nxt (m+1) i)) m+g (nxt (m+1) m)=_
  have h0:nxt (m+1) m=0:=Nat.mod_self _
  rw[h0,BE m (fun i hi=>by rw[show nxt (m+1) i=i+1 from Nat.mod_eq_of_lt (by omega)])]
def inR (s:Sd):Prop:=0≤s.x∧s.x≤65536∧0≤s.y∧s.y≤65536
theorem Rs {s:Sd} (h:rgd s=true):inR s:=by
 unfold rgd at h
 simp only[Bool.and_eq_true,btw,decide_eq_true_eq] at h
 exact⟨h.2.1.1.1.1,h.2.1.1.1.2,h.2.1.1.2.1,h.2.1.1.2.2⟩
theorem C8 {l:List Sd} (h: ∀s∈l,inR s) {i:Nat} (hi:i<l.length):inR (sd l i):=h _ (List.mem_of_getElem? (Lr hi))
theorem Dq {n i:Nat} (h:i<n):nxt n i<n:=Nat.mod_lt _ (by omega)
theorem F9 {n i:Nat} (h:i<n):prv n i<n:=Nat.mod_lt _ (by omega)
def Ee (l:List Sd) (i:Nat):Int:=(sd l i).x*(sd l (nxt l.length i)).y-(sd l i).y*(sd l (nxt l.length i)).x
theorem Hz {a b:Int} (ha:0≤a) (ha':a≤65536) (hb:0≤b) (hb':b≤65536):0≤a*b∧a*b≤4294967296:=by
 refine⟨Int.mul_nonneg ha hb, ?_⟩
 calc a*b≤65536*b:=Int.mul_le_mul_of_nonneg_right ha' hb
  _≤65536*65536:=Int.mul_le_mul_of_nonneg_left hb' (by decide)
  _=4294967296:=by decide
theorem MP {l:List Sd} (h: ∀s∈l,inR s): ∀k,k≤l.length→k≤1000000→Cu l k=AC (Ee l) k∧ -(k*4294967296:Int)≤Cu l k∧Cu l k≤k*4294967296
 |0,_,_=>⟨rfl,by simp[Cu],by simp[Cu]⟩
 |k+1,hk,hm=>by
  obtain⟨h1,h2,h3⟩:=MP h k (by omega) (by omega)
  have hs:=C8 h (show k<l.length by omega)
  have hn:=C8 h (Dq (show k<l.length by omega))
  obtain⟨a1,a2⟩:=Hz hs.1 hs.2.1 hn.2.2.1 hn.2.2.2
  obtain⟨b1,b2⟩:=Hz hs.2.2.1 hs.2.2.2 hn.1 hn.2.1
  have e:Cu l (k+1)=Cu l k+Ee l k:=by
   show w64 (Cu l k+w64 (w64 ((sd l k).x*(sd l (nxt l.length k)).y)-w64 ((sd l k).y*(sd l (nxt l.length k)).x)))=_
   unfold Ee
   rw[Ai (x:=(sd l k).x*_) (by omega) (by omega),Ai (x:=(sd l k).y*_) (by omega) (by omega),Ai (x:=_-_) (by omega) (by omega)]
   exact Ai (by omega) (by omega)
  have ec:Ee l k=(sd l k).x*(sd l (nxt l.length k)).y-(sd l k).y*(sd l (nxt l.length k)).x:=rfl
  refine⟨by rw[e,h1];rfl, ?_, ?_⟩<;>rw[e,ec]<;>push_cast<;>omega
theorem Jp {rs:List (List Sd)} (h:chk rs=0):(∀l∈rs, ∀s∈l,rgd s=true)∧(∀l∈rs,shp l=true)∧crs rs=false∧plc rs=true∧jnd rs=true:=by
 unfold chk at h
 split at h
 ·cases h
 split at h
 ·cases h
 split at h
 ·cases h
 split at h
 ·cases h
 rename_i h2
 split at h
 ·cases h
 rename_i h3
 split at h
 ·cases h
 rename_i h4
 split at h
 ·cases h
 rename_i h5
 refine⟨fun l hl s hs=> ?_,fun l hl=> ?_,by simpa using h4, ?_, ?_⟩
 ·cases hr:rgd s with
  |true=>rfl
  |false=>exact absurd (List.any_eq_true.2 ⟨s,List.mem_flatten.2 ⟨l,hl,hs⟩,by rw[hr];rfl⟩) h2
 ·cases hr:shp l with
  |true=>rfl
  |false=>exact absurd (List.any_eq_true.2 ⟨l,hl,by rw[hr];rfl⟩) h3
 ·cases hp:plc rs with
  |true=>rfl
  |false=>rw[hp] at h5;exact absurd rfl h5
 ·cases hp:jnd rs with
  |true=>rfl
  |false=>rw[hp] at h5;exact absurd (by simp) h5
end
section
open Go Go.RowKit Go.Am
set_option maxRecDepth 10000
-- BOXES 1
def sgI (a:Int):Int:=if a<0 then -1 else if a>0 then 1 else 0
theorem La (a:Int):AN Tryz.prog 237 [.int .i64 a] (.int .i64 (sgI a)):=by
 intro W
 refine Ab Tryz.func237 I I I ?_
 refine zA (zB (wP I (Aa (zE (zA (zA (zB (wP I (wP I (Aa (zE ?_)))))))))))
 refine Af I (fun h=> ?_) (fun h=> ?_)
 ·refine zA (zB (wP I (Aa (zE (zO (zP ?_))))))
  have h':a<0:=by simpa using h
  exact wR1 I I (by unfold sgI;rw[if_pos h'])
 have h1: ¬a<0:=by simpa using h
 refine zI (zE (zA (zA (zB (wP I (wP I (Aa (zE ?_))))))))
 refine Af I (fun h2=> ?_) (fun h2=> ?_)
 ·refine zA (zB (wP I (Aa (zE (zO (zP ?_))))))
  have h':a>0:=by simpa using h2
  exact wR1 I I (by unfold sgI;rw[if_neg h1,if_pos h'])
 have h3: ¬a>0:=by simpa using h2
 exact zI (zE (zA (zB (wP I (Aa (zE (zO (wR1 I I (by unfold sgI;rw[if_neg h1,if_neg h3])))))))))
def Js (n a b:Int):Bool:=decide (n<a)||decide (n>b)
theorem Ij (n a b:Int):Js n a b= !btw n a b:=by
 unfold Js btw
 rw[Bool.eq_iff_iff]
 simp only[Bool.or_eq_true,Bool.not_eq_true',Bool.and_eq_false_iff,decide_eq_true_eq,decide_eq_false_iff_not]
 omega
theorem Cy (n a b:Int):AN Tryz.prog 158 [.int .i64 n, .int .i64 a, .int .i64 b] (.bool (Js n a b)):=by
 intro W
 refine Ab Tryz.func158 I I I ?_
 refine zA (zB (wP I (Aa (zE (zA (zB (wP I (wP I (wP I (wP I ?_))))))))))
 refine A6 10 I (fun h10=> ?_) (fun h10=> ?_)
 ·refine Ad I I ?_
  iterate 2 refine Ad I I ?_
  exact wP I (wP I (Aa (zE (zO (wR1 I I (by simp_all [Js]<;>(intros;omega)))))))
 ·exact wP I (wP I (wP I (wP I (wP I (Aa (zE (zO (wR1 I I (by simp_all [Js]<;>(intros;omega))))))))))
theorem Md (s:Sd):AN Tryz.prog 103 [s.val] (.bool (rgd s)):=by
 intro W
 refine Ab Tryz.func103 I I I ?_
 refine zA (zB ?_)
 (refine Ay rfl rfl rfl rfl ?_;intro)
 refine wP I (Aa ?_)
 rename_i b1
 have no:(Js s.x 0 65536||Js s.y 0 65536||Js s.plate 0 65536||Js s.over 0 65536)=true→rgd s=false:=fun h=>by
  simp only[Ij] at h
  unfold rgd
  rw[show(btw s.x 0 65536&&btw s.y 0 65536&&btw s.plate 0 65536&&btw s.over 0 65536)=false by
   rw[Bool.eq_false_iff];intro h2;simp_all,Bool.and_false]
 have yes:Js s.x 0 65536=false→Js s.y 0 65536=false→Js s.plate 0 65536=false→Js s.over 0 65536=false→rgd s=(if s.gable then s.rise==0&&s.run==0 else btw s.rise 1 48&&btw s.run 1 48):=fun h1 h2 h3 h4=>by
  rw[Ij,Bool.not_eq_false'] at h1 h2 h3 h4
  unfold rgd
  rw[h1,h2,h3,h4];simp
 refine zE (zA (zA (zB (wP I (wB 0 I I I (wC I I (fun W _=>(Cy ..)) (wP I ?_)))))))
 refine A6 6 I (fun h6=> ?_) (fun h6=> ?_)
 ·refine Ad I I ?_
  iterate 2 refine Ad I I ?_
  refine wP I (wP I ?_)
  iterate 3 refine Ad I I ?_
  refine wP I (wP I ?_)
  iterate 3 refine Ad I I ?_
  exact wP I (Aa (zE (zR I (zA (zB (wP I (Aa (zE (zO (zP (wR1 I I (by rw[no (by simp_all)]))))))))))))
 ·refine wP I (wB 0 I I I (wC I I (fun W _=>(Cy ..)) (wP I (wP I ?_))))
  refine A6 11 I (fun h11=> ?_) (fun h11=> ?_)
  ·refine Ad I I ?_
   iterate 2 refine Ad I I ?_
   refine wP I (wP I ?_)
   iterate 3 refine Ad I I ?_
   exact wP I (Aa (zE (zR I (zA (zB (wP I (Aa (zE (zO (zP (wR1 I I (by rw[no (by simp_all)]))))))))))))
  ·refine wP I (wB 0 I I I (wC I I (fun W _=>(Cy ..)) (wP I (wP I ?_))))
   refine A6 16 I (fun h16=> ?_) (fun h16=> ?_)
   ·refine Ad I I ?_
    iterate 2 refine Ad I I ?_
    exact wP I (Aa (zE (zR I (zA (zB (wP I (Aa (zE (zO (zP (wR1 I I (by rw[no (by simp_all)]))))))))))))
   ·refine wP I (wB 0 I I I (wC I I (fun W _=>(Cy ..)) (wP I (Aa (zE ?_)))))
    refine Af I (fun h=> ?_) (fun h=> ?_)
    ·exact zA (zB (wP I (Aa (zE (zO (zP (wR1 I I (by rw[no (by simp_all)]))))))))
    refine zI (zE (zA (zA (zB ?_))))
    have e:=yes (by simp_all) (by simp_all) (by simp_all) (by simp_all)
    refine wP I (wB 0 I I I (Aa (zE ?_)))
    refine Af I (fun hg=> ?_) (fun hg=> ?_)
    ·refine zA (zB (wP I (wB 0 I I I (wP I (wP I ?_)))))
     refine A6 26 I (fun h26=> ?_) (fun h26=> ?_)
     ·exact wP I (wB 0 I I I (wP I (wP I (wP I (Aa (zE (zO (zP (wR1 I I (by rw[e,hg];simp_all))))))))))
     ·refine Ad I I ?_
      iterate 2 refine Ad I I ?_
      exact wP I (wP I (Aa (zE (zO (zP (wR1 I I (by rw[e,hg];simp_all)))))))
    ·refine zI (zE (zA (zB (wP I (wB 0 I I I (wC I I (fun W _=>(Cy ..)) (wP I (wP I ?_))))))))
     refine A6 35 I (fun h35=> ?_) (fun h35=> ?_)
     ·exact wP I (wB 0 I I I (wC I I (fun W _=>(Cy ..)) (wP I (wP I (wP I (Aa (zE (zO (wR1 I I (by rw[e,hg];simp_all [Ij]))))))))))
     ·refine Ad I I ?_
      iterate 3 refine Ad I I ?_
      exact wP I (wP I (Aa (zE (zO (wR1 I I (by rw[e,hg];simp_all [Ij]))))))
theorem FH (W:World) (p:Option Addr) (cap:Nat) (l:List Sd) (i:Nat) (hn:l.length<4611686018427387904) (hR:BI W p l) (hi:i<l.length):
  Ae Tryz.prog 236 #[slv p l.length cap, .int .i64 (i:Nat)] W (fun _:Unit=> .tuple #[.int .i64 (sd l (nxt l.length i)).x, .int .i64 (sd l (nxt l.length i)).y]) (fun _=>True) (fun _=>[]):=by
 obtain⟨b,off,rfl,hrow⟩:=hR.row hi
 have hi2:=Dq hi
 refine Ab (args:=[slv (some ⟨b,off,none⟩) l.length cap, .int .i64 (i:Nat)]) Tryz.func236 I I I ?_
 refine zA (zB (wP I (wP I (Aa (zE (zA (zB (wP I (wP I (wV 8 ((i+1:Nat):Int) I (show w64 ((i:Nat)+1)=((i+1:Nat):Int) by rw[Ai (by omega) (by omega)];omega) (wP I (wP I ?_))))))))))))
 refine Fc I I I I I (by omega) ?_
 refine wV 11 (nxt l.length i:Nat) I (show Int.tmod ((i+1:Nat):Int) (l.length:Nat)=(nxt l.length i:Nat) from(Int.ofNat_tmod _ _).symm) (wP I (Aa (zE (zA (zU (qP I (qP I ?_)))))))
 refine qJ ?_
 refine qP I (qL 0 I I (fun W hp=>(hrow (nxt l.length i) hi2).hp hp) I (qP I (qP I ?_)))
 refine qJ ?_
 exact qP I (qL 1 I I (fun W hp=>(hrow (nxt l.length i) hi2).hp hp) I (qP I (qP I (A0 (Aa (zE (zO (wR2 I I I))))))))
def KF (l:List Sd) (i:Nat):Int:=sgI (w64 ((sd l (nxt l.length i)).x-(sd l i).x))
def LM (l:List Sd) (i:Nat):Int:=sgI (w64 ((sd l (nxt l.length i)).y-(sd l i).y))
theorem Ex (W:World) (p:Option Addr) (cap:Nat) (l:List Sd) (i:Nat) (hn:l.length<4611686018427387904) (hR:BI W p l) (hi:i<l.length):
  Ae Tryz.prog 159 #[slv p l.length cap, .int .i64 (i:Nat)] W (fun _:Unit=> .tuple #[.int .i64 (KF l i), .int .i64 (LM l i)]) (fun _=>True) (fun _=>[]):=by
 obtain⟨b,off,rfl,hrow⟩:=hR.row hi
 refine Ab (args:=[slv (some ⟨b,off,none⟩) l.length cap, .int .i64 (i:Nat)]) Tryz.func159 I I I ?_
 refine zA (zB (wP I (wP I (Aa (zE (zA (zB (wP I (wP I (wC I I (fun W hp=>FH W _ cap l i hn (hR.hp hp) hi) ?_))))))))))
 iterate 5 refine wP I ?_
 refine Aa (zE (zA (zU (qP I (qP I (qP I ?_))))))
 refine qJ ?_
 refine qP I (qL 0 I I (fun W hp=>(hrow i hi).hp hp) I (qP I (qC I I (fun W _=>(La ..)) (qP I (qP I (qP I ?_))))))
 refine qJ ?_
 exact qP I (qL 1 I I (fun W hp=>(hrow i hi).hp hp) I (qP I (qC I I (fun W _=>(La ..)) (qP I (qP I (A0 (Aa (zE (zO (wR2 I I I))))))))))
def Jv (l:List Sd) (i:Nat):Int:=w64 (w64 (KF l (prv l.length i)*LM l i)-w64 (LM l (prv l.length i)*KF l i))
theorem K9 (W:World) (p:Option Addr) (cap:Nat) (l:List Sd) (i:Nat) (hn:l.length<4611686018427387904) (hR:BI W p l) (hi:i<l.length):
  Ae Tryz.prog 160 #[slv p l.length cap, .int .i64 (i:Nat)] W (fun _:Unit=> .int .i64 (Jv l i)) (fun _=>True) (fun _=>[]):=by
 have hi2:=F9 hi
 refine Ab (args:=[slv p l.length cap, .int .i64 (i:Nat)]) Tryz.func160 I I I ?_
 refine zA (zB (wP I (Aa (zE (zA (zB ?_))))))
 iterate 6 refine wP I ?_
 refine wV 15 ((i+l.length-1:Nat):Int) I (show w64 (w64 ((i:Nat)+(l.length:Nat))-1)=((i+l.length-1:Nat):Int) by rw[Ai (x:=(i:Nat)+(l.length:Nat)) (by omega) (by omega),Ai (by omega) (by omega)];omega) (wP I (wP I ?_))
 refine Fc I I I I I (by omega) ?_
 refine wV 18 (prv l.length i:Nat) I (show Int.tmod ((i+l.length-1:Nat):Int) (l.length:Nat)=(prv l.length i:Nat) from(Int.ofNat_tmod _ _).symm) (wC I I (fun W hp=>Ex W _ cap l (prv l.length i) hn (hR.hp hp) hi2) ?_)
 iterate 5 refine wP I ?_
 refine Aa (zE (zA (zB (wP I (wP I (wC I I (fun W hp=>Ex W _ cap l i hn (hR.hp hp) hi) ?_))))))
 iterate 5 refine wP I ?_
 refine Aa (zE (zA (zB ?_)))
 iterate 8 refine wP I ?_
 exact Aa (zE (zO (wR1 I I I)))
def twR (l:List Sd):Nat→Int
 |0=>0
 |k+1=>w64 (w64 (twR l k+w64 ((sd l k).x*(sd l (nxt l.length k)).y))-w64 ((sd l (nxt l.length k)).x*(sd l k).y))
theorem JP (W:World) (p:Option Addr) (cap:Nat) (l:List Sd) (hn:l.length<4611686018427387904) (hR:BI W p l):
  Ae Tryz.prog 162 #[slv p l.length cap] W (fun _:Unit=> .int .i64 (twR l l.length)) (fun _=>True) (fun _=>[]):=by
 refine Ab (args:=[slv p l.length cap]) Tryz.func162 I I I ?_
 refine zA (zB (wP I (Aa (zE (zA (zB (wP I (Aa (zE (zA (zA (zB (wP I ?_)))))))))))))
 refine Aa (zE (zH ?_))
 refine Ar (X:=Nat) (fun k=>[(0,slv p l.length cap),(3, .int .i64 (twR l k)),(4, .int .i64 (k:Nat))]) (fun _=>[]) (fun k=>k≤l.length) (fun k=>l.length-k) 0 (Nat.zero_le _) ⟨I,I,I,O⟩ [] I ?_
 intro k hk
 refine zA (zA (zB (wP I (wP I (wP I (wP I (Aa (zE ?_))))))))
 refine Af I (fun h=> ?_) (fun h=> ?_)
 rotate_left
 ·have e:k=l.length:=by simp at h;omega
  subst e
  exact zJ (zK (zK (zL (zE (zA (zB (wP I (wP I (Aa (zE (zO (wR1 I I I))))))))))))
 have hk:k<l.length:=by simp at h;omega
 clear h
 obtain⟨b,off,rfl,hrow⟩:=hR.row hk
 refine zI (zE (zA (zH (zA (zB (wP I (wP I (wC I I (fun W hp=>FH W _ cap l k hn (hR.hp hp) hk) ?_))))))))
 iterate 5 refine wP I ?_
 refine Aa (zE (zU (qP I (qP I (qP I ?_)))))
 refine qJ ?_
 refine qP I (qL 0 I I (fun W hp=>(hrow k hk).hp hp) I ?_)
 iterate 6 refine qP I ?_
 refine qJ ?_
 exact qP I (qL 1 I I (fun W hp=>(hrow k hk).hp hp) I (qP I (qP I (qP I (A0 (Aa (zN (zE (zB (wP I (wP I (wP I (Aa (Ak (k+1) hk (by omega) ⟨I,I,congrArg (fun z=>some (Value.int .i64 z)) (AA (x:=(k:Int)+1) (by omega) (by omega)),O⟩ [] I))))))))))))))
-- BOXES 1
def axR (l:List Sd) (i:Nat):Bool:=w64 (w64 (KF l i*KF l i)+w64 (LM l i*LM l i))==1
def okR (l:List Sd) (i:Nat):Bool:=axR l i&& !(Jv l i==0)
def Ic (l:List Sd):Bool:=(List.range l.length).all (okR l)&&decide (l.length≥4)
theorem KB {l:List Sd} {k:Nat} (hk:k<l.length) (h:okR l k=false):Ic l=false:=by
 unfold Ic
 rw[B5 hk h];rfl
theorem Mp (W:World) (p:Option Addr) (cap:Nat) (l:List Sd) (hn:l.length<4611686018427387904) (hR:BI W p l):
  Ae Tryz.prog 104 #[slv p l.length cap] W (fun _:Unit=> .bool (Ic l)) (fun _=>True) (fun _=>[]):=by
 refine Ab (args:=[slv p l.length cap]) Tryz.func104 I I I ?_
 refine zA (zB (wP I (Aa (zE (zA (zA (zB (wP I (Aa (zE (zH ?_)))))))))))
 refine Ar (X:=Nat) (fun k=>[(0,slv p l.length cap),(3, .int .i64 (k:Nat))]) (fun _=>[]) (fun k=>k≤l.length∧ ∀i,i<k→okR l i=true) (fun k=>l.length-k) 0 ⟨Nat.zero_le _,fun i hi=>absurd hi (Nat.not_lt_zero _)⟩ ⟨I,I,O⟩ [] I ?_
 rintro k ⟨hk,hok⟩
 refine zA (zA (zB (wP I (wP I (wP I (wP I (Aa (zE ?_))))))))
 refine Af I (fun h=> ?_) (fun h=> ?_)
 rotate_left
 ·have e:k=l.length:=by simp at h;omega
  subst e
  refine zJ (zK (zK (zL (zE (zA (zB (wP I (wP I (wP I (wP I (Aa (zE (zO ?_)))))))))))))
  have hall:(List.range l.length).all (okR l)=true:=List.all_eq_true.2 fun i hi=>hok i (List.mem_range.1 hi)
  have e:Ic l=decide ((l.length:Int)≥4):=by
   unfold Ic
   rw[hall,Bool.true_and]
   by_cases h4:l.length≥4
   ·rw[dT h4,dT (by omega)]
   ·rw[dF h4,dF (by omega)]
  exact wR1 I I (by rw[e])
 have hk:k<l.length:=by simp at h;omega
 clear h
 refine zI (zE (zA (zH (zA (zB (wP I (wP I (wC I I (fun W hp=>Ex W _ cap l k hn (hR.hp hp) hk) ?_))))))))
 iterate 5 refine wP I ?_
 refine Aa (zE (zA (zB ?_)))
 iterate 9 refine wP I ?_
 refine A6 26 I (fun h26=> ?_) (fun h26=> ?_)
 ·refine Ad I I ?_
  iterate 3 refine Ad I I ?_
  refine wP I (Aa (zE (zR I (zA (zB (wP I (Aa (zE (zO (zQ (zP (zP (zQ ?_)))))))))))))
  refine zP ?_
  have h':(w64 (w64 (KF l k*KF l k)+w64 (LM l k*LM l k)) !=1)=true:=h26
  have hf:okR l k=false:=by unfold okR axR;rw[bne_iff_ne] at h';rw[beq_eq_false_iff_ne.2 h'];rfl
  exact wR1 I I (by rw[KB hk hf])
 ·refine wP I (wP I (wC I I (fun W hp=>K9 W _ cap l k hn (hR.hp hp) hk) (wP I (wP I (Aa ?_)))))
  have h':(w64 (w64 (KF l k*KF l k)+w64 (LM l k*LM l k)) !=1)=false:=h26
  have ha:axR l k=true:=by unfold axR;rw[bne_eq_false_iff_eq] at h';rw[beq_iff_eq];exact h'
  refine zE ?_
  refine Af I (fun h=> ?_) (fun h=> ?_)
  ·refine zA (zB (wP I (Aa (zE (zO (zQ (zP (zP (zQ (zP ?_))))))))))
   have hf:okR l k=false:=by unfold okR;rw[show(Jv l k==0)=true from h,Bool.not_true,Bool.and_false]
   exact wR1 I I (by rw[KB hk hf])
  ·have hf:okR l k=true:=by unfold okR;rw[ha,show(Jv l k==0)=false from h];rfl
   refine zI (zN (zE (zB (wP I (wP I (wP I (Aa ?_)))))))
   refine Ak (k+1) ⟨hk,fun i hi=> ?_⟩ (by omega) ⟨I,congrArg (fun z=>some (Value.int .i64 z)) (AA (x:=(k:Int)+1) (by omega) (by omega)),O⟩ [] I
   by_cases e:i=k
   ·subst e;exact hf
   ·exact hok i (by omega)
theorem GJ (W:World) (p q:Option Addr) (cap caq:Nat) (l m:List Sd) (i k:Nat) (hn:l.length<4611686018427387904) (hm:m.length<4611686018427387904) (hR:BI W p l) (hS:BI W q m) (hi:i<l.length) (hk:k<m.length):
  Ae Tryz.prog 161 #[slv p l.length cap, .int .i64 (i:Nat),slv q m.length caq, .int .i64 (k:Nat)] W (fun _:Unit=> .bool (DS (sd l i) (sd l (nxt l.length i)) (sd m k) (sd m (nxt m.length k)))) (fun _=>True) (fun _=>[]):=by
 obtain⟨b,off,rfl,hrow⟩:=hR.row hi
 obtain⟨b',off',rfl,hrow'⟩:=hS.row hk
 refine Ab (args:=[slv (some ⟨b,off,none⟩) l.length cap, .int .i64 (i:Nat),slv (some ⟨b',off',none⟩) m.length caq, .int .i64 (k:Nat)]) Tryz.func161 I I I ?_
 refine zA (zB (wP I (Aa (zE (zA (zB (wP I (wP I (wC I I (fun W hp=>FH W _ cap l i hn (hR.hp hp) hi) ?_)))))))))
 iterate 5 refine wP I ?_
 refine Aa (zE (zA (zB (wP I (wP I (wC I I (fun W hp=>FH W _ caq m k hm (hS.hp hp) hk) ?_))))))
 iterate 5 refine wP I ?_
 refine Aa ?_
 obtain⟨B1,e1⟩: ∃b,decide (lox (sd l i) (sd l (nxt l.length i))≤hix (sd m k) (sd m (nxt m.length k)))=b:=⟨_,rfl⟩
 obtain⟨B2,e2⟩: ∃b,decide (lox (sd m k) (sd m (nxt m.length k))≤hix (sd l i) (sd l (nxt l.length i)))=b:=⟨_,rfl⟩
 obtain⟨B3,e3⟩: ∃b,decide (loy (sd l i) (sd l (nxt l.length i))≤hiy (sd m k) (sd m (nxt m.length k)))=b:=⟨_,rfl⟩
 obtain⟨B4,e4⟩: ∃b,decide (loy (sd m k) (sd m (nxt m.length k))≤hiy (sd l i) (sd l (nxt l.length i)))=b:=⟨_,rfl⟩
 have hM:DS (sd l i) (sd l (nxt l.length i)) (sd m k) (sd m (nxt m.length k))=(B1&&B2&&B3&&B4):=by unfold DS;rw[e1,e2,e3,e4]
 refine zE (zA (zU (qP I (qP I ?_))))
 refine qJ ?_
 refine qP I (qL 0 I I (fun W hp=>(hrow i hi).hp hp) I (qP I (qP I (qP I (qP I ?_)))))
 refine qJ ?_
 refine qP I (qL 0 I I (fun W hp=>(hrow' k hk).hp hp) I (qP I (qP I (qP I (qP I ?_)))))
 refine Gz 40 I (fun h40=> ?_) (fun h40=> ?_)
 ·refine qP I (qP I ?_)
  refine qJ ?_
  refine qP I (qL 0 I I (fun W hp=>(hrow' k hk).hp hp) I (qP I (qP I (qP I (qP I ?_)))))
  refine qJ ?_
  refine qP I (qL 0 I I (fun W hp=>(hrow i hi).hp hp) I ?_)
  iterate 5 refine qP I ?_
  refine Gz 57 I (fun h57=> ?_) (fun h57=> ?_)
  ·refine qP I (qP I ?_)
   refine qJ ?_
   refine qP I (qL 1 I I (fun W hp=>(hrow i hi).hp hp) I (qP I (qP I (qP I (qP I ?_)))))
   refine qJ ?_
   refine qP I (qL 1 I I (fun W hp=>(hrow' k hk).hp hp) I ?_)
   iterate 5 refine qP I ?_
   refine Gz 74 I (fun h74=> ?_) (fun h74=> ?_)
   ·refine qP I (qP I ?_)
    refine qJ ?_
    refine qP I (qL 1 I I (fun W hp=>(hrow' k hk).hp hp) I (qP I (qP I (qP I (qP I ?_)))))
    refine qJ ?_
    refine qP I (qL 1 I I (fun W hp=>(hrow i hi).hp hp) I ?_)
    iterate 5 refine qP I ?_
    exact A0 (Aa (zE (zO (wR1 I I (by rw[hM,show B1=true from e1.symm.trans h40,show B2=true from e2.symm.trans h57,show B3=true from e3.symm.trans h74];exact congrArg Value.bool e4)))))
   ·refine B8 I I ?_
    iterate 14 refine B8 I I ?_
    refine qP I (qP I (A0 (Aa (zE (zO ?_)))))
    have e:(B1&&B2&&B3&&B4)=false:=by first|(rw[show B1=false from e1.symm.trans h40];rfl)|(rw[show B2=false from e2.symm.trans h57];cases B1<;>rfl)|(rw[show B3=false from e3.symm.trans h74];cases B1<;>cases B2<;>rfl)
    exact wR1 I I (by rw[hM,e])
  ·refine B8 I I ?_
   iterate 14 refine B8 I I ?_
   refine qP I (qP I ?_)
   iterate 15 refine B8 I I ?_
   refine qP I (qP I (A0 (Aa (zE (zO ?_)))))
   have e:(B1&&B2&&B3&&B4)=false:=by first|(rw[show B1=false from e1.symm.trans h40];rfl)|(rw[show B2=false from e2.symm.trans h57];cases B1<;>rfl)|(rw[show B3=false from e3.symm.trans h74];cases B1<;>cases B2<;>rfl)
   exact wR1 I I (by rw[hM,e])
 ·refine B8 I I ?_
  iterate 14 refine B8 I I ?_
  refine qP I (qP I ?_)
  iterate 15 refine B8 I I ?_
  refine qP I (qP I ?_)
  iterate 15 refine B8 I I ?_
  refine qP I (qP I (A0 (Aa (zE (zO ?_)))))
  have e:(B1&&B2&&B3&&B4)=false:=by first|(rw[show B1=false from e1.symm.trans h40];rfl)|(rw[show B2=false from e2.symm.trans h57];cases B1<;>rfl)|(rw[show B3=false from e3.symm.trans h74];cases B1<;>cases B2<;>rfl)
  exact wR1 I I (by rw[hM,e])
def Kc (t u:Sd) (px py:Int):Bool:=(t.x==u.x)&&decide (u.x>px)&&decide (loy t u≤py)&&decide (py<hiy t u)
def FL (l:List Sd) (px py:Int):Nat→Bool
 |0=>false
 |k+1=>if Kc (sd l k) (sd l (nxt l.length k)) px py=true then !FL l px py k else FL l px py k
theorem Mk (W:World) (p:Option Addr) (cap:Nat) (l:List Sd) (px py:Int) (hn:l.length<4611686018427387904) (hR:BI W p l):
  Ae Tryz.prog 163 #[slv p l.length cap, .int .i64 px, .int .i64 py] W (fun _:Unit=> .bool (FL l px py l.length)) (fun _=>True) (fun _=>[]):=by
 refine Ab (args:=[slv p l.length cap, .int .i64 px, .int .i64 py]) Tryz.func163 I I I ?_
 refine zA (zB (wP I (Aa (zE (zA (zB (wP I (Aa (zE (zA (zA (zB (wP I ?_)))))))))))))
 refine Aa (zE (zH ?_))
 refine Ar (X:=Nat) (fun k=>[(0,slv p l.length cap),(1, .int .i64 px),(2, .int .i64 py),(7, .bool (FL l px py k)),(8, .int .i64 (k:Nat))]) (fun _=>[]) (fun k=>k≤l.length) (fun k=>l.length-k) 0 (Nat.zero_le _) ⟨I,I,I,I,I,O⟩ [] I ?_
 intro k hk
 refine zA (zA (zB (wP I (wP I (wP I (wP I (Aa (zE ?_))))))))
 refine Af I (fun h=> ?_) (fun h=> ?_)
 rotate_left
 ·have e:k=l.length:=by simp at h;omega
  subst e
  exact zJ (zK (zK (zL (zE (zA (zB (wP I (wP I (Aa (zE (zO (wR1 I I I))))))))))))
 have hk:k<l.length:=by simp at h;omega
 clear h
 obtain⟨b,off,rfl,hrow⟩:=hR.row hk
 refine zI (zE (zA (zH (zA (zB (wP I (wP I (wC I I (fun W hp=>FH W _ cap l k hn (hR.hp hp) hk) ?_))))))))
 iterate 5 refine wP I ?_
 refine Aa ?_
 obtain⟨B1,e1⟩: ∃b,((sd l k).x==(sd l (nxt l.length k)).x)=b:=⟨_,rfl⟩
 obtain⟨B2,e2⟩: ∃b,decide ((sd l (nxt l.length k)).x>px)=b:=⟨_,rfl⟩
 obtain⟨B3,e3⟩: ∃b,decide (loy (sd l k) (sd l (nxt l.length k))≤py)=b:=⟨_,rfl⟩
 obtain⟨B4,e4⟩: ∃b,decide (py<hiy (sd l k) (sd l (nxt l.length k)))=b:=⟨_,rfl⟩
 have hM:Kc (sd l k) (sd l (nxt l.length k)) px py=(B1&&B2&&B3&&B4):=by unfold Kc;rw[e1,e2,e3,e4]
 have no:(B1&&B2&&B3&&B4)=false→FL l px py (k+1)=FL l px py k:=fun h=>by
  show(if Kc (sd l k) (sd l (nxt l.length k)) px py=true then !FL l px py k else FL l px py k)=_
  rw[hM,h,if_neg (by decide)]
 have yes:(B1&&B2&&B3&&B4)=true→FL l px py (k+1)= !FL l px py k:=fun h=>by
  show(if Kc (sd l k) (sd l (nxt l.length k)) px py=true then !FL l px py k else FL l px py k)=_
  rw[hM,h,if_pos rfl]
 refine zE (zA (zB (wP I (wP I ?_))))
 refine wJ ?_
 refine wP I (wL 0 I I (fun W hp=>(hrow k hk).hp hp) I (wP I (wP I (wP I ?_))))
 refine A6 30 I (fun h30=> ?_) (fun h30=> ?_)
 ·refine wP I (wP I (wP I (wP I (wP I ?_))))
  refine A6 35 I (fun h35=> ?_) (fun h35=> ?_)
  ·refine wP I (wP I ?_)
   refine wJ ?_
   refine wP I (wL 1 I I (fun W hp=>(hrow k hk).hp hp) I ?_)
   iterate 6 refine wP I ?_
   refine A6 46 I (fun h46=> ?_) (fun h46=> ?_)
   ·refine wP I (wP I (wP I ?_))
    refine wJ ?_
    refine wP I (wL 1 I I (fun W hp=>(hrow k hk).hp hp) I (wP I (wP I (wP I (wP I (Aa ?_))))))
    have e:(B1&&B2&&B3&&B4)=B4:=by rw[show B1=true from e1.symm.trans h30,show B2=true from e2.symm.trans h35,show B3=true from e3.symm.trans h46];rfl
    refine zE ?_
    refine Af I (fun h=> ?_) (fun h=> ?_)
    ·have e5:(B1&&B2&&B3&&B4)=true:=e.trans (e4.symm.trans h)
     exact zB (wP I (wP I (wP I (Aa (zN (zE (zB (wP I (wP I (wP I (Aa (Ak (k+1) hk (by omega) ⟨I,I,I,congrArg (fun z=>some (Value.bool z)) (yes e5).symm,congrArg (fun z=>some (Value.int .i64 z)) (AA (x:=(k:Int)+1) (by omega) (by omega)),O⟩ [] I))))))))))))
    ·have e5:(B1&&B2&&B3&&B4)=false:=e.trans (e4.symm.trans h)
     exact zI (zN (zE (zB (wP I (wP I (wP I (Aa (Ak (k+1) hk (by omega) ⟨I,I,I,congrArg (fun z=>some (Value.bool z)) (no e5).symm,congrArg (fun z=>some (Value.int .i64 z)) (AA (x:=(k:Int)+1) (by omega) (by omega)),O⟩ [] I))))))))
   ·refine Ad I I ?_
    iterate 8 refine Ad I I ?_
    refine wP I (Aa ?_)
    have e:(B1&&B2&&B3&&B4)=false:=by first|(rw[show B1=false from e1.symm.trans h30];rfl)|(rw[show B2=false from e2.symm.trans h35];cases B1<;>rfl)|(rw[show B3=false from e3.symm.trans h46];cases B1<;>cases B2<;>rfl)
    exact zE (zS I (zI (zN (zE (zB (wP I (wP I (wP I (Aa (Ak (k+1) hk (by omega) ⟨I,I,I,congrArg (fun z=>some (Value.bool z)) (no e).symm,congrArg (fun z=>some (Value.int .i64 z)) (AA (x:=(k:Int)+1) (by omega) (by omega)),O⟩ [] I))))))))))
  ·refine Ad I I ?_
   iterate 8 refine Ad I I ?_
   refine wP I (wP I ?_)
   iterate 9 refine Ad I I ?_
   refine wP I (Aa ?_)
   have e:(B1&&B2&&B3&&B4)=false:=by first|(rw[show B1=false from e1.symm.trans h30];rfl)|(rw[show B2=false from e2.symm.trans h35];cases B1<;>rfl)|(rw[show B3=false from e3.symm.trans h46];cases B1<;>cases B2<;>rfl)
   exact zE (zS I (zI (zN (zE (zB (wP I (wP I (wP I (Aa (Ak (k+1) hk (by omega) ⟨I,I,I,congrArg (fun z=>some (Value.bool z)) (no e).symm,congrArg (fun z=>some (Value.int .i64 z)) (AA (x:=(k:Int)+1) (by omega) (by omega)),O⟩ [] I))))))))))
 ·refine Ad I I ?_
  iterate 2 refine Ad I I ?_
  refine wP I (wP I ?_)
  iterate 9 refine Ad I I ?_
  refine wP I (wP I ?_)
  iterate 9 refine Ad I I ?_
  refine wP I (Aa ?_)
  have e:(B1&&B2&&B3&&B4)=false:=by first|(rw[show B1=false from e1.symm.trans h30];rfl)|(rw[show B2=false from e2.symm.trans h35];cases B1<;>rfl)|(rw[show B3=false from e3.symm.trans h46];cases B1<;>cases B2<;>rfl)
  exact zE (zS I (zI (zN (zE (zB (wP I (wP I (wP I (Aa (Ak (k+1) hk (by omega) ⟨I,I,I,congrArg (fun z=>some (Value.bool z)) (no e).symm,congrArg (fun z=>some (Value.int .i64 z)) (AA (x:=(k:Int)+1) (by omega) (by omega)),O⟩ [] I))))))))))
end
section
open Go Go.RowKit Go.Am
theorem Nc {n:Nat} {f g:Nat→Bool} (h: ∀i,i<n→f i=g i):(List.range n).all f=(List.range n).all g:=by
 rw[Bool.eq_iff_iff,List.all_eq_true,List.all_eq_true]
 constructor<;>intro h1 i hi
 ·rw[←h i (List.mem_range.1 hi)];exact h1 i hi
 ·rw[h i (List.mem_range.1 hi)];exact h1 i hi
def RX (rs:List (List Sd)):Prop:= ∀l∈rs, ∀s∈l,inR s
theorem Us {rs:List (List Sd)} (h:rs.flatten.any (fun s=> !rgd s)=false): ∀l∈rs, ∀s∈l,rgd s=true:=fun l hl s hs=>by
 cases hr:rgd s with
 |true=>rfl
 |false=>
  have:rs.flatten.any (fun s=> !rgd s)=true:=List.any_eq_true.2 ⟨s,List.mem_flatten.2 ⟨l,hl,hs⟩,by rw[hr];rfl⟩
  rw[h] at this;cases this
theorem UE {n k:Nat} (h:k<n):nxt n (prv n k)=k:=by
 unfold nxt prv
 cases k with
 |zero=>
  rw[Nat.zero_add,Nat.mod_eq_of_lt (show n-1<n by omega),show n-1+1=n by omega,Nat.mod_self]
 |succ k=>rw[show k+1+n-1=k+n by omega,Nat.add_mod_right,Nat.mod_eq_of_lt (show k<n by omega),Nat.mod_eq_of_lt h]
theorem d64 {a b:Int} (h1:0≤a∧a≤65536) (h2:0≤b∧b≤65536):w64 (a-b)=a-b:=Ai (by omega) (by omega)
theorem Ew {l:List Sd} (hr: ∀s∈l,inR s) (h:shp l=true) {i:Nat} (hi:i<l.length):
  ¬(((sd l (nxt l.length i)).x-(sd l i).x=0)↔((sd l (nxt l.length i)).y-(sd l i).y=0))∧ ¬(((sd l i).x-(sd l (prv l.length i)).x=0)↔((sd l (nxt l.length i)).x-(sd l i).x=0)):=by
 unfold shp at h
 obtain⟨_,h⟩:=Bool.and_eq_true_iff.1 h
 have h1:=List.all_eq_true.1 h i (List.mem_range.2 hi)
 obtain⟨s1,s2,s3,s4⟩:=C8 hr hi
 obtain⟨n1,n2,n3,n4⟩:=C8 hr (Dq hi)
 obtain⟨p1,p2,p3,p4⟩:=C8 hr (F9 hi)
 unfold G1 Qu at h1
 rw[d64 ⟨n1,n2⟩ ⟨s1,s2⟩,d64 ⟨n3,n4⟩ ⟨s3,s4⟩,d64 ⟨s1,s2⟩ ⟨p1,p2⟩] at h1
 obtain⟨h2,h3⟩:=Bool.and_eq_true_iff.1 h1
 refine⟨fun e=> ?_,fun e=> ?_⟩
 ·have:(((sd l (nxt l.length i)).x-(sd l i).x==0)==((sd l (nxt l.length i)).y-(sd l i).y==0))=true:=by rw[beq_iff_eq,Bool.eq_iff_iff,beq_iff_eq,beq_iff_eq];exact e
  rw[this] at h2;cases h2
 ·have:(((sd l i).x-(sd l (prv l.length i)).x==0)==((sd l (nxt l.length i)).x-(sd l i).x==0))=true:=by rw[beq_iff_eq,Bool.eq_iff_iff,beq_iff_eq,beq_iff_eq];exact e
  rw[this] at h3;cases h3
theorem Ra {l:List Sd} (h:shp l=true):4≤l.length:=by
 unfold shp at h
 exact of_decide_eq_true (Bool.and_eq_true_iff.1 h).1
theorem VC {l:List Sd} (hr: ∀s∈l,inR s) (h4:4≤l.length)
  (h: ∀i,i<l.length→ ¬(((sd l (nxt l.length i)).x-(sd l i).x=0)↔((sd l (nxt l.length i)).y-(sd l i).y=0))∧ ¬(((sd l i).x-(sd l (prv l.length i)).x=0)↔((sd l (nxt l.length i)).x-(sd l i).x=0))):shp l=true:=by
 unfold shp
 rw[dT h4,Bool.true_and,List.all_eq_true]
 intro i hi
 have hi:=List.mem_range.1 hi
 obtain⟨h1,h2⟩:=h i hi
 obtain⟨s1,s2,s3,s4⟩:=C8 hr hi
 obtain⟨n1,n2,n3,n4⟩:=C8 hr (Dq hi)
 obtain⟨p1,p2,p3,p4⟩:=C8 hr (F9 hi)
 unfold G1 Qu
 rw[d64 ⟨n1,n2⟩ ⟨s1,s2⟩,d64 ⟨n3,n4⟩ ⟨s3,s4⟩,d64 ⟨s1,s2⟩ ⟨p1,p2⟩]
 have e1:(((sd l (nxt l.length i)).x-(sd l i).x==0)==((sd l (nxt l.length i)).y-(sd l i).y==0))=false:=by
  rw[Bool.eq_false_iff];intro e;rw[beq_iff_eq,Bool.eq_iff_iff,beq_iff_eq,beq_iff_eq] at e;exact h1 e
 have e2:(((sd l i).x-(sd l (prv l.length i)).x==0)==((sd l (nxt l.length i)).x-(sd l i).x==0))=false:=by
  rw[Bool.eq_false_iff];intro e;rw[beq_iff_eq,Bool.eq_iff_iff,beq_iff_eq,beq_iff_eq] at e;exact h2 e
 rw[e1,e2];rfl
theorem VX {a b:Int} (h1: -65536≤a∧a≤65536) (h2: -65536≤b∧b≤65536): -4294967296≤a*b∧a*b≤4294967296:=by
 have h:(a*b).natAbs≤65536*65536:=by
  rw[Int.natAbs_mul]
  exact Nat.mul_le_mul (by omega) (by omega)
 omega
theorem Tw {s t u:Sd} (hs:inR s) (ht:inR t) (hu:inR u):Hh s t u=decide ((t.x-s.x)*(u.y-t.y)-(t.y-s.y)*(u.x-t.x)>0):=by
 obtain⟨s1,s2,s3,s4⟩:=hs
 obtain⟨t1,t2,t3,t4⟩:=ht
 obtain⟨u1,u2,u3,u4⟩:=hu
 unfold Hh
 rw[d64 ⟨t1,t2⟩ ⟨s1,s2⟩,d64 ⟨u3,u4⟩ ⟨t3,t4⟩,d64 ⟨t3,t4⟩ ⟨s3,s4⟩,d64 ⟨u1,u2⟩ ⟨t1,t2⟩]
 have m1:=VX (a:=t.x-s.x) (b:=u.y-t.y) (by omega) (by omega)
 have m2:=VX (a:=t.y-s.y) (b:=u.x-t.x) (by omega) (by omega)
 rw[Ai (x:=(t.x-s.x)*_) (by omega) (by omega),Ai (x:=(t.y-s.y)*_) (by omega) (by omega),Ai (by omega) (by omega)]
theorem MX (rs:List (List Sd)) (m:Nat): ∀d, ∃t,A5 rs (m+d)=A5 rs m++t
 |0=>⟨[],by simp⟩
 |d+1=>by
  obtain⟨t,h⟩:=MX rs m d
  refine⟨t++Bb (m+d) (rg rs (m+d)).length, ?_⟩
  show A5 rs (m+d)++Bb (m+d) (rg rs (m+d)).length=_
  rw[h,List.append_assoc]
theorem HE {rs:List (List Sd)} {r i:Nat} (hr:r<rs.length) (hi:i<(rg rs r).length):pl rs (tot (rs.take r)+i)=(r,i):=by
 obtain⟨t,h⟩:=MX rs (r+1) (rs.length-(r+1))
 rw[show r+1+(rs.length-(r+1))=rs.length by omega] at h
 have h2:A5 rs (r+1)=A5 rs r++Bb r (rg rs r).length:=rfl
 have hlen:=Hx rs r (by omega)
 unfold pl
 rw[List.getD_eq_getElem?_getD,h,h2,List.append_assoc,List.getElem?_append_right (by omega),hlen,Nat.add_sub_cancel_left,List.getElem?_append_left (by simp[Bb];exact hi)]
 simp[Bb,hi]
theorem Qx {rs:List (List Sd)} {r i:Nat} (hr:r<rs.length) (hi:i<(rg rs r).length):tot (rs.take r)+i<tot rs:=by
 have h1:=Bg hr
 have h2:=Ci rs (r+1)
 omega
theorem Jj (t u t' u':Sd):DS t u t' u'=DS t' u' t u:=by
 unfold DS
 rw[Bool.eq_iff_iff]
 simp only[Bool.and_eq_true,decide_eq_true_eq]
 omega
theorem RU {rs:List (List Sd)} (h:crs rs=false) {r i s k:Nat} (hr:r<rs.length) (hi:i<(rg rs r).length) (hs:s<rs.length) (hk:k<(rg rs s).length) (hne:r≠s):
  DS (bsd rs (r,i)) (esd rs (r,i)) (bsd rs (s,k)) (esd rs (s,k))=false:=by
 have one: ∀ {a b:Nat×Nat} {j j':Nat},pl rs j=a→pl rs j'=b→j<tot rs→j'<j→a.1≠b.1→DS (bsd rs a) (esd rs a) (bsd rs b) (esd rs b)=false:=by
  intro a b j j' ha hb hj hj' hab
  have h1:((List.range j).any fun k=>C7 rs (pl rs j) (pl rs k))=false:=by
   cases he:((List.range j).any fun k=>C7 rs (pl rs j) (pl rs k)) with
   |false=>rfl
   |true=>
    have:crs rs=true:=List.any_eq_true.2 ⟨j,List.mem_range.2 hj,he⟩
    rw[h] at this;cases this
  have h2:C7 rs (pl rs j) (pl rs j')=false:=by
   cases he:C7 rs (pl rs j) (pl rs j') with
   |false=>rfl
   |true=>
    have:((List.range j).any fun k=>C7 rs (pl rs j) (pl rs k))=true:=List.any_eq_true.2 ⟨j',List.mem_range.2 hj',he⟩
    rw[h1] at this;cases this
  rw[ha,hb] at h2
  unfold C7 nbB at h2
  rw[beq_eq_false_iff_ne.2 hab] at h2
  simpa using h2
 have hj:=Qx hr hi
 have hj':=Qx hs hk
 rcases Nat.lt_trichotomy (tot (rs.take s)+k) (tot (rs.take r)+i) with hlt|heq|hgt
 ·exact one (HE hr hi) (HE hs hk) hj hlt hne
 ·have h1:=HE hr hi
  rw[←heq,HE hs hk] at h1
  exact absurd (congrArg Prod.fst h1).symm hne
 ·rw[Jj]
  exact one (HE hs hk) (HE hr hi) hj' hgt (fun e=>hne e.symm)
end
end Go.Proofs.YtmblgcglonikiaaGreatDoor
