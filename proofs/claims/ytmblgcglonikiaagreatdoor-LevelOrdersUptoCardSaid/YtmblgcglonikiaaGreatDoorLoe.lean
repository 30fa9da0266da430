/-
  Lemmas that the theorem levelOrders_upto_card needs (part 5 of 8).
-/
import Derived.Test.YtmblgcglonikiaaGreatDoorLod
set_option maxHeartbeats 64000000
namespace Go.Proofs.YtmblgcglonikiaaGreatDoor
section
open Go Go.RowKit Go.Am Go.Lib
set_option maxRecDepth 10000
-- BOXES 1
-- CODE2
theorem Fy {q:Rat} (h:okQ q):(Ac q).length≤1000:=by
 have:=B7 h
 omega
theorem GN {q:Rat} (h:okQ q) (W:World) (ht:AJ W):Ad Tryz.prog 90 #[str (Ac q)] W (fun _:Unit=> .int .i64 0) (fun _=>True) (fun _=>[]):=
 (Hz (Ac q) (by have:=Fy h;omega) W ht).cast (by rw[K6 h])
theorem D9 {p q:Rat} (hp':okQ p) (hq:okQ q) (W:World) (ht:AJ W):Ad Tryz.prog 167 #[str (Ac p),str (Ac q)] W (fun _:Unit=> .int .i64 0) (fun _=>True) (fun _=>[]):=by
 refine Ab (args:=[str (Ac p),str (Ac q)]) Tryz.func167 I I I ?_
 refine zA (zB (wP I (Aa (zE (zA (zA (zB (wP I (wC I I (fun W1 hp=>GN hp' W1 (ht.hp hp)) (wP I (Aa (zE (zA ?_)))))))))))))
 refine zB (wP I (wP I (Aa (zE (zS I (zI (zE (zA (zB (wP I (wC I I (fun W1 hp=>GN hq W1 (ht.hp hp)) (wP I (Aa ?_)))))))))))))
 exact zE (zO (wR1 I I I))
def iN (q:Rat):Int:=if Fi q=true then q.num else 0
def iD (q:Rat):Int:=if Fi q=true then((q.den:Nat):Int) else 0
theorem CJ {q:Rat} (h:okQ q):AQ Tryz.prog 168 [str (Ac q)] (.tuple #[.int .i64 (iN q), .int .i64 (iD q), .bool (Fi q)]):=fun W=>
 (SB q (by have:=Fy h;omega) W).cast (by
  unfold iN iD
  cases Fi q<;>rfl)
theorem Rm {x y:Int} (hx:x.natAbs<1000000000) (hy:y.natAbs<1000000000):(x*y).natAbs<1000000000000000000:=by
 rw[Int.natAbs_mul]
 have:=Nat.mul_lt_mul'' hx hy
 omega
theorem Ej {x y:Int} (hx:x.natAbs<1000000000) (hy:y.natAbs<1000000000):w64 (x*y)=x*y:=by
 have:=Rm hx hy
 exact Ai (by omega) (by omega)
theorem HE {n:Nat} (h:n<1000000000):((n:Nat):Int).natAbs<1000000000:=by rw[Int.natAbs_natCast];exact h
def sh2 (p q:Rat):Bool:=Fi p&&Fi q
theorem I2 {p q:Rat} (h:sh2 p q=true):iN p=p.num∧iD p=(p.den:Nat)∧iN q=q.num∧iD q=(q.den:Nat)∧p.num.natAbs<1000000000∧p.den<1000000000∧q.num.natAbs<1000000000∧q.den<1000000000:=by
 obtain⟨h1,h2⟩:=Bool.and_eq_true_iff.1 h
 obtain⟨a1,a2⟩:=K2 h1
 obtain⟨b1,b2⟩:=K2 h2
 exact⟨if_pos h1,if_pos h1,if_pos h2,if_pos h2,a1,a2,b1,b2⟩
theorem Uh (z:Int) {d:Nat} (hd:0<d):nrm z (d:Int)=mkRat z d:=by
 unfold nrm
 rw[if_neg (by omega),Int.natAbs_natCast]
theorem C6 {q:Rat} (h:okQ q):AQ Tryz.prog 166 [str (Ac q)] (.tuple #[str (itoa q.num),str (itoa ((q.den:Nat):Int))]):=fun W=>
 (Ld q (Fy h) W).cast (by rw[EC])
theorem Nx (p q:Rat) (h:Sz2 p q) (W:World) (ht:AJ W):
  Ad Tryz.prog 115 #[str (Ac p),str (Ac q)] W (fun _:Unit=> .tuple #[.int .i64 (Co p q), .int .i64 0]) (fun _=>True) (fun _=>[]):=by
 have hpn:=p.den_pos
 have hqn:=q.den_pos
 rw[←Sy]
 obtain⟨x,hx⟩: ∃x,p.num*((q.den:Nat):Int)=x:=⟨_,rfl⟩
 obtain⟨y,hy⟩: ∃y,q.num*((p.den:Nat):Int)=y:=⟨_,rfl⟩
 rw[hx,hy]
 refine Ab (args:=[str (Ac p),str (Ac q)]) Tryz.func115 I I I ?_
 refine zA (zB (wP I (wP I (Aa (zE (zA (zA (zB (wP I (wP I (wC I I (fun W1 hp=>D9 h.okp h.okq W1 (ht.hp hp)) (wP I (Aa ?_)))))))))))))
 refine zE (zA (zB (wP I (wP I (Aa (zE (zS I (zI (zE (zA (zB (wP I (wC I I (fun W _=>CJ h.okp W) ?_)))))))))))))
 iterate 7 refine wP I ?_
 refine Aa (zE (zA (zB (wP I (wC I I (fun W _=>CJ h.okq W) ?_)))))
 iterate 7 refine wP I ?_
 refine Aa (A0 (Au (Au ?_)))
 refine A8 (X:=Unit) (fun _=>[(0,str (Ac p)),(1,str (Ac q)),(7, .int .i64 (iN p)),(8, .int .i64 (iD p)),(10, .int .i64 (iN q)),(11, .int .i64 (iD q)),(41, .bool (sh2 p q))]) (fun _=>[]) (fun _=>True) ?_ ?_
 ·refine zB (wP I (wP I ?_))
  refine AF 39 I (fun h39=> ?_) (fun h39=> ?_)
  ·exact wP I (wP I (Aa (Aj () O ⟨I,I,I,I,I,I,congrArg (fun b=>some (Value.bool b)) (by unfold sh2;simp_all),O⟩ [] I)))
  ·refine Ae I I ?_
   exact wP I (Aa (Aj () O ⟨I,I,I,I,I,I,congrArg (fun b=>some (Value.bool b)) (by unfold sh2;simp_all),O⟩ [] I))
 intro _ _
 refine Af I (fun hs=> ?_) (fun hs=> ?_)
 ·obtain⟨e1,e2,e3,e4,l1,l2,l3,l4⟩:=I2 hs
  have w1:w64 (iN p*iD q)=x:=by rw[e1,e4, ←hx];exact Ej l1 (HE l4)
  have w2:w64 (iN q*iD p)=y:=by rw[e3,e2, ←hy];exact Ej l3 (HE l2)
  refine zA (zH (zA (zB (wP I (wP I (wP I (wV 45 x I w1 (wP I (wP I (wP I (wV 48 y I w2 (wP I ?_))))))))))))
  by_cases h1:x<y
  ·exact wU 49 true I (dT h1) (wP I (Aa (zE (zR I (zA (zB (wP I (wP I (Aa (zE (zO (zQ (zP (zP (wR2 I I (by rw[GM,if_pos h1]))))))))))))))))
  refine wU 49 false I (dF h1) (wP I (Aa (zE (zS I (zA (zB (wP I (wP I (wP I (wV 53 x I w1 (wP I (wP I (wP I ?_)))))))))))))
  refine wV 56 y I w2 (wP I ?_)
  by_cases h2:y<x
  ·exact wU 57 true I (dT h2) (wP I (Aa (zE (zR I (zA (zB (wP I (wP I (Aa (zE (zO (zQ (zP (zP (wR2 I I (by rw[GM,if_neg h1,if_neg (by omega)]))))))))))))))))
  refine wU 57 false I (dF h2) (wP I (Aa (zE (zS I (zI (zN (zE (zA (zB (wP I (wP I (Aa (zE ?_)))))))))))))
  exact zO (zP (wR2 I I (by rw[GM,if_neg h1,if_pos (by omega)])))
 ·refine zI (zE (zA (zB (wP I (wC I I (fun W _=>C6 h.okp W) ?_)))))
  iterate 5 refine wP I ?_
  refine Aa (zE (zA (zB (wP I (wC I I (fun W _=>C6 h.okq W) ?_)))))
  iterate 5 refine wP I ?_
  refine Aa (zE (zA (zB (wP I (wP I (wP I (wP I (wC I I (fun W1 hp=>(Fp p.num (q.den:Nat) q.num (p.den:Nat) h.okp.1 h.okq.2 h.okq.1 h.okp.2 h.c1 h.c2 W1 (ht.hp hp)).cast (v':= .tuple #[str (itoa x),str (itoa y), .int .i64 0]) (by rw[hx,hy])) ?_))))))))
  iterate 7 refine wP I ?_
  refine Aa (zE (zA (zA (zB (wP I (wP I (Aa (zE (zS I (zI (zE (zA (zB ?_)))))))))))))
  exact wP I (wP I (wC I I (fun W1 hp=>SE x y (by rw[←hx];exact h.c1.dd) (by rw[←hy];exact h.c2.dd) W1) (wP I (wP I (wP I (wP I (Aa (zE (zO (wR2 I I I))))))))))
-- BOXES 1
-- CODE2
theorem N2 (p q:Rat) (h:Sz2 p q) (W:World) (ht:AJ W):
  Ad Tryz.prog 201 #[str (Ac p),str (Ac q)] W (fun _:Unit=> .tuple #[str (Ac (p+q)), .int .i64 0]) (fun _=>True) (fun _=>[]):=by
 have hpn:=p.den_pos
 have hqn:=q.den_pos
 have ra:=LM p q
 refine Ab (args:=[str (Ac p),str (Ac q)]) Tryz.func201 I I I ?_
 refine zA (zB (wP I (wP I (Aa (zE (zA (zB (wP I (wC I I (fun W _=>CJ h.okp W) ?_)))))))))
 iterate 7 refine wP I ?_
 refine Aa (zE (zA (zB (wP I (wC I I (fun W _=>CJ h.okq W) ?_)))))
 iterate 7 refine wP I ?_
 refine Aa (A0 (Au (Au ?_)))
 refine A8 (X:=Unit) (fun _=>[(0,str (Ac p)),(1,str (Ac q)),(6, .int .i64 (iN p)),(7, .int .i64 (iD p)),(9, .int .i64 (iN q)),(10, .int .i64 (iD q)),(37, .bool (sh2 p q))]) (fun _=>[]) (fun _=>True) ?_ ?_
 ·refine zB (wP I (wP I ?_))
  refine AF 35 I (fun h35=> ?_) (fun h35=> ?_)
  ·exact wP I (wP I (Aa (Aj () O ⟨I,I,I,I,I,I,congrArg (fun b=>some (Value.bool b)) (by unfold sh2;simp_all),O⟩ [] I)))
  ·refine Ae I I ?_
   exact wP I (Aa (Aj () O ⟨I,I,I,I,I,I,congrArg (fun b=>some (Value.bool b)) (by unfold sh2;simp_all),O⟩ [] I))
 intro _ _
 refine Af I (fun hs=> ?_) (fun hs=> ?_)
 ·obtain⟨e1,e2,e3,e4,l1,l2,l3,l4⟩:=I2 hs
  have m1:=Rm l1 (HE l4)
  have m2:=Rm l3 (HE l2)
  have m3:=Rm (HE l2) (HE l4)
  have hdd:((p.den:Nat):Int)*((q.den:Nat):Int)=((p.den*q.den:Nat):Int):=(Int.natCast_mul _ _).symm
  rw[hdd,Int.natAbs_natCast] at m3
  have hpq:=Nat.mul_pos hpn hqn
  rw[hdd,Uh _ hpq] at ra
  refine zA (zB (wP I (wP I (wP I (wV 40 (p.num*(q.den:Nat)) I (by rw[e1,e4];exact Ej l1 (HE l4)) (wP I (wP I (wP I (wV 43 (q.num*(p.den:Nat)) I (by rw[e3,e2];exact Ej l3 (HE l2)) (wP I (wV 44 (p.num*(q.den:Nat)+q.num*(p.den:Nat)) I (Ai (by omega) (by omega)) (wP I (wP I (wP I ?_))))))))))))))
  exact wV 47 ((p.den*q.den:Nat):Int) I (by rw[e2,e4, ←hdd];exact Ej (HE l2) (HE l4)) (wC I I (fun W _=>(D1 (p.num*(q.den:Nat)+q.num*(p.den:Nat)) (p.den*q.den) (by omega) hpq (by omega) W).cast (v':=str (Ac (p+q))) (by rw[ra])) (wP I (wP I (Aa (zE (zO (zP (wR2 I I I))))))))
 ·have hd0:((p.den:Nat):Int)*((q.den:Nat):Int)≠0:=Int.mul_ne_zero (by omega) (by omega)
  refine zI (zE (zA (zB (wP I (wC I I (fun W _=>C6 h.okp W) ?_)))))
  iterate 5 refine wP I ?_
  refine Aa (zE (zA (zB (wP I (wC I I (fun W _=>C6 h.okq W) ?_)))))
  iterate 5 refine wP I ?_
  refine Aa (zE (zA (zB (wP I (wP I (wP I (wP I (wC I I (fun W1 hp=>Fp p.num (q.den:Nat) q.num (p.den:Nat) h.okp.1 h.okq.2 h.okq.1 h.okp.2 h.c1 h.c2 W1 (ht.hp hp)) ?_))))))))
  iterate 7 refine wP I ?_
  refine Aa (zE (zA (zA (zB (wP I (wP I (Aa (zE (zS I (zI (zE (zA (zB ?_)))))))))))))
  refine wP I (wP I ?_)
  refine wC I I (fun W1 hp=>by
   have h1:=Fp (p.den:Nat) (q.den:Nat) 1 1 h.okp.2 h.okq.2 (Js (by decide)) (Js (by decide)) h.d (Js (by decide)) W1 (ht.hp hp)
   rw[show(1:Int)*1=1 from rfl,WI] at h1
   exact h1) ?_
  iterate 7 refine wP I ?_
  refine Aa (zE (zA (zA (zB ?_))))
  iterate 5 refine wP I ?_
  refine wU 82 false I (by show(!_)=false;rw[AH,dT I];rfl) (wP I (Aa (zE (zS I (zI (zE (zA (zB (wP I (wP I (wC I I (fun W1 hp=>S9 (p.num*(q.den:Nat)) (q.num*(p.den:Nat)) h.c1.dd h.c2.dd h.add.dd W1 (ht.hp hp)) ?_)))))))))))
  iterate 5 refine wP I ?_
  refine Aa (zE (zA (zA (zB (wP I (wP I (Aa (zE (zS I (zI (zE (zA (zB ?_)))))))))))))
  exact wP I (wP I (wC I I (fun W1 hp=>(Lx _ _ hd0 h.add h.d W1 (ht.hp hp)).cast (v':= .tuple #[str (Ac (p+q)), .int .i64 0]) (by rw[ra])) (wP I (wP I (wP I (wP I (Aa (zE (zO (wR2 I I I))))))))))
theorem Sw (p q:Rat) (h:Sz2 p q) (W:World) (ht:AJ W):
  Ad Tryz.prog 131 #[str (Ac p),str (Ac q)] W (fun _:Unit=> .tuple #[str (Ac (p+q)), .int .i64 0]) (fun _=>True) (fun _=>[]):=by
 refine Ab (args:=[str (Ac p),str (Ac q)]) Tryz.func131 I I I ?_
 refine zA (zB (wP I (wP I (Aa (zE (zA (zA (zB (wP I (wP I (wC I I (fun W1 hp=>D9 h.okp h.okq W1 (ht.hp hp)) (wP I (Aa ?_)))))))))))))
 refine zE (zA (zB (wP I (wP I (Aa (zE (zS I (zI (zE (zA (zB (wP I (wP I ?_)))))))))))))
 exact wC I I (fun W1 hp=>N2 p q h W1 (ht.hp hp)) (wP I (wP I (wP I (wP I (Aa (zE (zO (wR2 I I I))))))))
theorem Sz2.neg {p q:Rat} (h:Sz2 p q):Sz2 p (-q):=by
 have e:(-q).num= -q.num:=rfl
 have d:(-q).den=q.den:=rfl
 refine⟨h.okp,⟨by rw[e];exact LK h.okq.1,h.okq.2⟩,h.c1,by rw[e,Int.neg_mul];exact LK h.c2,h.d,by rw[e,Int.mul_neg];exact LK h.n, ?_, ?_⟩
 ·rw[e,d,Int.neg_mul, ←Int.sub_eq_add_neg];exact h.sub
 ·rw[e,d,Int.neg_mul,Int.sub_neg];exact h.add
theorem Mj (p q:Rat) (h:Sz2 p q) (W:World) (ht:AJ W):
  Ad Tryz.prog 134 #[str (Ac p),str (Ac q)] W (fun _:Unit=> .tuple #[str (Ac (p-q)), .int .i64 0]) (fun _=>True) (fun _=>[]):=by
 refine Ab (args:=[str (Ac p),str (Ac q)]) Tryz.func134 I I I ?_
 refine zA (zB (wP I (wP I (Aa (zE (zA (zA (zB (wP I (wP I (wC I I (fun W1 hp=>D9 h.okp h.okq W1 (ht.hp hp)) (wP I (Aa ?_)))))))))))))
 refine zE (zA (zB (wP I (wP I (Aa (zE (zS I (zI (zE (zA (zB (wP I (wP I ?_)))))))))))))
 exact wC I I (fun W _=>Si q (Fy h.okq) W) (wC I I (fun W1 hp=>(N2 p (-q) h.neg W1 (ht.hp hp)).cast (v':= .tuple #[str (Ac (p-q)), .int .i64 0]) (by rw[Rat.sub_eq_add_neg])) (wP I (wP I (wP I (wP I (Aa (zE (zO (wR2 I I I)))))))))
theorem SI (p q:Rat) (h:Sz2 p q) (W:World) (ht:AJ W):
  Ad Tryz.prog 135 #[str (Ac p),str (Ac q)] W (fun _:Unit=> .tuple #[str (Ac (p*q)), .int .i64 0]) (fun _=>True) (fun _=>[]):=by
 have hpn:=p.den_pos
 have hqn:=q.den_pos
 have ra:=LT p q
 refine Ab (args:=[str (Ac p),str (Ac q)]) Tryz.func135 I I I ?_
 refine zA (zB (wP I (wP I (Aa (zE (zA (zA (zB (wP I (wP I (wC I I (fun W1 hp=>D9 h.okp h.okq W1 (ht.hp hp)) (wP I (Aa ?_)))))))))))))
 refine zE (zA (zB (wP I (wP I (Aa (zE (zS I (zI (zE (zA (zB (wP I (wC I I (fun W _=>CJ h.okp W) ?_)))))))))))))
 iterate 7 refine wP I ?_
 refine Aa (zE (zA (zB (wP I (wC I I (fun W _=>CJ h.okq W) ?_)))))
 iterate 7 refine wP I ?_
 refine Aa (A0 (Au (Au ?_)))
 refine A8 (X:=Unit) (fun _=>[(0,str (Ac p)),(1,str (Ac q)),(7, .int .i64 (iN p)),(8, .int .i64 (iD p)),(10, .int .i64 (iN q)),(11, .int .i64 (iD q)),(38, .bool (sh2 p q))]) (fun _=>[]) (fun _=>True) ?_ ?_
 ·refine zB (wP I (wP I ?_))
  refine AF 36 I (fun h36=> ?_) (fun h36=> ?_)
  ·exact wP I (wP I (Aa (Aj () O ⟨I,I,I,I,I,I,congrArg (fun b=>some (Value.bool b)) (by unfold sh2;simp_all),O⟩ [] I)))
  ·refine Ae I I ?_
   exact wP I (Aa (Aj () O ⟨I,I,I,I,I,I,congrArg (fun b=>some (Value.bool b)) (by unfold sh2;simp_all),O⟩ [] I))
 intro _ _
 refine Af I (fun hs=> ?_) (fun hs=> ?_)
 ·obtain⟨e1,e2,e3,e4,l1,l2,l3,l4⟩:=I2 hs
  have m1:=Rm l1 l3
  have m3:=Rm (HE l2) (HE l4)
  have hdd:((p.den:Nat):Int)*((q.den:Nat):Int)=((p.den*q.den:Nat):Int):=(Int.natCast_mul _ _).symm
  rw[hdd,Int.natAbs_natCast] at m3
  have hpq:=Nat.mul_pos hpn hqn
  rw[hdd,Uh _ hpq] at ra
  refine zA (zB (wP I (wP I (wP I (wV 41 (p.num*q.num) I (by rw[e1,e3];exact Ej l1 l3) (wP I (wP I (wP I (wV 44 ((p.den*q.den:Nat):Int) I (by rw[e2,e4, ←hdd];exact Ej (HE l2) (HE l4)) (wC I I (fun W _=>(D1 (p.num*q.num) (p.den*q.den) (by omega) hpq (by omega) W).cast (v':=str (Ac (p*q))) (by rw[ra])) (wP I (wP I (Aa ?_)))))))))))))
  exact zE (zO (zP (wR2 I I I)))
 ·have hd0:((p.den:Nat):Int)*((q.den:Nat):Int)≠0:=Int.mul_ne_zero (by omega) (by omega)
  refine zI (zE (zA (zB (wP I (wC I I (fun W _=>C6 h.okp W) ?_)))))
  iterate 5 refine wP I ?_
  refine Aa (zE (zA (zB (wP I (wC I I (fun W _=>C6 h.okq W) ?_)))))
  iterate 5 refine wP I ?_
  refine Aa (zE (zA (zB (wP I (wP I (wP I (wP I (wC I I (fun W1 hp=>(Md p.num (p.den:Nat) q.num (q.den:Nat) h.okp.1 h.okp.2 h.okq.1 h.okq.2 h.n h.d hd0 W1 (ht.hp hp)).cast (v':= .tuple #[str (Ac (p*q)), .int .i64 0]) (by rw[ra])) (wP I (wP I (wP I (wP I (Aa ?_)))))))))))))
  exact zE (zO (wR2 I I I))
theorem SQ (p q:Rat) (h:Sz2 p q) (h0:q.num≠0) (W:World) (ht:AJ W):
  Ad Tryz.prog 132 #[str (Ac p),str (Ac q)] W (fun _:Unit=> .tuple #[str (Ac (p/q)), .int .i64 0]) (fun _=>True) (fun _=>[]):=by
 have hpn:=p.den_pos
 have hqn:=q.den_pos
 have ra:=LE p q h0
 refine Ab (args:=[str (Ac p),str (Ac q)]) Tryz.func132 I I I ?_
 refine zA (zB (wP I (wP I (Aa (zE (zA (zA (zB (wP I (wP I (wC I I (fun W1 hp=>D9 h.okp h.okq W1 (ht.hp hp)) (wP I (Aa ?_)))))))))))))
 refine zE (zA (zB (wP I (wP I (Aa (zE (zS I (zI (zE (zA (zA (zB (wP I (wP I ?_))))))))))))))
 refine wU 24 false I ((AH _ _).trans (dF fun e=>h0 (E2.1 e))) (Aa (zE (zS I (zI (zE (zA (zB (wP I (wC I I (fun W _=>CJ h.okp W) ?_)))))))))
 iterate 7 refine wP I ?_
 refine Aa (zE (zA (zB (wP I (wC I I (fun W _=>CJ h.okq W) ?_)))))
 iterate 7 refine wP I ?_
 refine Aa (A0 (Au (Au ?_)))
 refine A8 (X:=Unit) (fun _=>[(0,str (Ac p)),(1,str (Ac q)),(7, .int .i64 (iN p)),(8, .int .i64 (iD p)),(10, .int .i64 (iN q)),(11, .int .i64 (iD q)),(40, .bool (sh2 p q))]) (fun _=>[]) (fun _=>True) ?_ ?_
 ·refine zB (wP I (wP I ?_))
  refine AF 38 I (fun h38=> ?_) (fun h38=> ?_)
  ·exact wP I (wP I (Aa (Aj () O ⟨I,I,I,I,I,I,congrArg (fun b=>some (Value.bool b)) (by unfold sh2;simp_all),O⟩ [] I)))
  ·refine Ae I I ?_
   exact wP I (Aa (Aj () O ⟨I,I,I,I,I,I,congrArg (fun b=>some (Value.bool b)) (by unfold sh2;simp_all),O⟩ [] I))
 intro _ _
 refine Af I (fun hs=> ?_) (fun hs=> ?_)
 ·obtain⟨e1,e2,e3,e4,l1,l2,l3,l4⟩:=I2 hs
  obtain⟨m,hm⟩: ∃m,m=q.num.natAbs:=⟨_,rfl⟩
  obtain⟨c,hc⟩: ∃c:Int,c=if q.num<0 then -((q.den:Nat):Int) else((q.den:Nat):Int):=⟨_,rfl⟩
  have hca:c.natAbs<1000000000:=by rw[hc];split<;>omega
  have hm9:m<1000000000:=by omega
  have m1:=Rm l1 hca
  have m3:=Rm (HE l2) (HE hm9)
  have hdd:((p.den:Nat):Int)*((m:Nat):Int)=((p.den*m:Nat):Int):=(Int.natCast_mul _ _).symm
  rw[hdd,Int.natAbs_natCast] at m3
  have hpq:0<p.den*m:=Nat.mul_pos hpn (by omega)
  have hr:mkRat (p.num*c) (p.den*m)=p/q:=by
   rw[←ra]
   unfold nrm
   have hn1:(((p.den:Nat):Int)*q.num).natAbs=p.den*m:=by rw[Int.natAbs_mul,Int.natAbs_natCast,hm]
   rw[hn1]
   by_cases hq:q.num<0
   ·rw[if_pos (Int.mul_neg_of_pos_of_neg (by omega) hq),hc,if_pos hq,Int.mul_neg]
   ·rw[if_neg (by have:=Int.mul_nonneg (show(0:Int)≤(p.den:Nat) by omega) (show 0≤q.num by omega);omega),hc,if_neg hq]
  refine zA (zA (zB (wP I (wP I (wU 42 (decide (q.num<0)) I (by rw[e3]) (Aa (A0 ?_)))))))
  try refine Au ?_
  refine A8 (X:=Unit) (fun _=>[(7, .int .i64 (iN p)),(8, .int .i64 (iD p)),(10, .int .i64 (m:Nat)),(11, .int .i64 c)]) (fun _=>[]) (fun _=>True) ?_ ?_
  ·refine Af I (fun hq=> ?_) (fun hq=> ?_)
   ·have hq:q.num<0:=of_decide_eq_true hq
    exact zB (wP I (wP I (wV 44 (m:Nat) I (by rw[e3];show w64 (0-q.num)=_;rw[Ai (by omega) (by omega)];omega) (wP I (wP I (wV 46 c I (by rw[e4];show w64 (0-((q.den:Nat):Int))=_;rw[Ai (by omega) (by omega),hc,if_pos hq];omega) (wP I (wP I (Aa (Aj () O ⟨I,I,I,I,O⟩ [] I))))))))))
   ·have hq: ¬q.num<0:=of_decide_eq_false hq
    exact zI (Aj () O ⟨I,I,congrArg (fun z=>some (Value.int .i64 z)) (by rw[e3];omega),congrArg (fun z=>some (Value.int .i64 z)) (by rw[e4,hc,if_neg hq]),O⟩ [] I)
  intro _ _
  refine zA (zB (wP I (wP I (wP I (wV 49 (p.num*c) I (by rw[e1];exact Ej l1 hca) (wP I (wP I (wP I (wV 52 ((p.den*m:Nat):Int) I (by rw[e2, ←hdd];exact Ej (HE l2) (HE hm9)) (wC I I (fun W _=>(D1 (p.num*c) (p.den*m) (by omega) hpq (by omega) W).cast (v':=str (Ac (p/q))) (by rw[hr])) (wP I (wP I (Aa ?_)))))))))))))
  exact zE (zO (zP (wR2 I I I)))
 ·have hd0:((p.den:Nat):Int)*q.num≠0:=Int.mul_ne_zero (by omega) h0
  have hc2:okN (((p.den:Nat):Int)*q.num):=by rw[Int.mul_comm];exact h.c2
  refine zI (zE (zA (zB (wP I (wC I I (fun W _=>C6 h.okp W) ?_)))))
  iterate 5 refine wP I ?_
  refine Aa (zE (zA (zB (wP I (wC I I (fun W _=>C6 h.okq W) ?_)))))
  iterate 5 refine wP I ?_
  refine Aa (zE (zA (zB (wP I (wP I (wP I (wP I (wC I I (fun W1 hp=>(Md p.num (p.den:Nat) (q.den:Nat) q.num h.okp.1 h.okp.2 h.okq.2 h.okq.1 h.c1 hc2 hd0 W1 (ht.hp hp)).cast (v':= .tuple #[str (Ac (p/q)), .int .i64 0]) (by rw[ra])) (wP I (wP I (wP I (wP I (Aa ?_)))))))))))))
  exact zE (zO (wR2 I I I))
theorem Ks {q:Rat} (h:okQ q) (W:World) (ht:AJ W):
  Ad Tryz.prog 113 #[str (Ac q)] W (fun _:Unit=> .tuple #[str (itoa q.num),str (decDigits q.den), .int .i64 0]) (fun _=>True) (fun _=>[]):=by
 refine Ab (args:=[str (Ac q)]) Tryz.func113 I I I ?_
 refine zA (zB (wP I (wP I (wP I (Aa (zE (zA (zA (zB (wP I (wC I I (fun W1 hp=>GN h W1 (ht.hp hp)) (wP I (Aa ?_)))))))))))))
 refine zE (zA (zB (wP I (wP I (Aa (zE (zS I (zI (zE (zA (zB (wP I (wC I I (fun W _=>Ld q (Fy h) W) ?_)))))))))))))
 iterate 5 refine wP I ?_
 refine Aa (zE (zA (zB ?_)))
 iterate 5 refine wP I ?_
 exact Aa (zE (zO (wR3 I I I)))
-- BOXES 4
-- CODE2
theorem EF (z:Int) (hz:z.natAbs<4611686018427387904) (W:World) (_ht:AJ W):Ad Tryz.prog 84 #[.int .i64 z] W (fun _:Unit=>str (Ac (z:Rat))) (fun _=>True) (fun _=>[]):=by
 refine Ab (args:=[.int .i64 z]) Tryz.func84 I I I ?_
 refine zA (zB (wP I (Aa (zE (zA (zB (wP I (wC I I (fun W1 _=>UG z hz W1) ?_))))))))
 iterate 5 refine wP I ?_
 exact Aa (zE (zA (zB (wP I (wP I (Aa (zE (zO (wR1 I I I)))))))))
theorem S8 (p q:Rat) (h:Sz2 p q) (W:World) (ht:AJ W):Ad Tryz.prog 81 #[str (Ac p),str (Ac q)] W (fun _:Unit=>str (Ac (p+q))) (fun _=>True) (fun _=>[]):=by
 refine Ab (args:=[str (Ac p),str (Ac q)]) Tryz.func81 I I I ?_
 refine zA (zB (wP I (Aa (zE (zA (zB (wP I (wP I (wC I I (fun W1 hp=>Sw p q h W1 (ht.hp hp)) ?_)))))))))
 iterate 5 refine wP I ?_
 exact Aa (zE (zA (zB (wP I (wP I (Aa (zE (zO (wR1 I I I)))))))))
theorem FP (p q:Rat) (h:Sz2 p q) (W:World) (ht:AJ W):Ad Tryz.prog 85 #[str (Ac p),str (Ac q)] W (fun _:Unit=>str (Ac (p-q))) (fun _=>True) (fun _=>[]):=by
 refine Ab (args:=[str (Ac p),str (Ac q)]) Tryz.func85 I I I ?_
 refine zA (zB (wP I (Aa (zE (zA (zB (wP I (wP I (wC I I (fun W1 hp=>Mj p q h W1 (ht.hp hp)) ?_)))))))))
 iterate 5 refine wP I ?_
 exact Aa (zE (zA (zB (wP I (wP I (Aa (zE (zO (wR1 I I I)))))))))
theorem Nm (p q:Rat) (h:Sz2 p q) (W:World) (ht:AJ W):Ad Tryz.prog 86 #[str (Ac p),str (Ac q)] W (fun _:Unit=>str (Ac (p*q))) (fun _=>True) (fun _=>[]):=by
 refine Ab (args:=[str (Ac p),str (Ac q)]) Tryz.func86 I I I ?_
 refine zA (zB (wP I (Aa (zE (zA (zB (wP I (wP I (wC I I (fun W1 hp=>SI p q h W1 (ht.hp hp)) ?_)))))))))
 iterate 5 refine wP I ?_
 exact Aa (zE (zA (zB (wP I (wP I (Aa (zE (zO (wR1 I I I)))))))))
theorem Nn (p q:Rat) (h:Sz2 p q) (h0:q.num≠0) (W:World) (ht:AJ W):Ad Tryz.prog 82 #[str (Ac p),str (Ac q)] W (fun _:Unit=>str (Ac (p/q))) (fun _=>True) (fun _=>[]):=by
 refine Ab (args:=[str (Ac p),str (Ac q)]) Tryz.func82 I I I ?_
 refine zA (zB (wP I (Aa (zE (zA (zB (wP I (wP I (wC I I (fun W1 hp=>SQ p q h h0 W1 (ht.hp hp)) ?_)))))))))
 iterate 5 refine wP I ?_
 exact Aa (zE (zA (zB (wP I (wP I (Aa (zE (zO (wR1 I I I)))))))))
theorem Dh (p q:Rat) (h:Sz2 p q) (W:World) (ht:AJ W):Ad Tryz.prog 80 #[str (Ac p),str (Ac q)] W (fun _:Unit=> .int .i64 (Co p q)) (fun _=>True) (fun _=>[]):=by
 refine Ab (args:=[str (Ac p),str (Ac q)]) Tryz.func80 I I I ?_
 refine zA (zB (wP I (Aa (zE (zA (zB (wP I (wP I (wC I I (fun W1 hp=>Nx p q h W1 (ht.hp hp)) ?_)))))))))
 iterate 5 refine wP I ?_
 exact Aa (zE (zA (zB (wP I (wP I (Aa (zE (zO (wR1 I I I)))))))))
theorem FrP.OK.posN {f:FrP} (h:f.OK):f.pos.natAbs<4611686018427387904:=by have:=h.p0;have:=h.p1;omega
theorem FrP.OK.hdN {f:FrP} (h:f.OK):f.hd.natAbs<4611686018427387904:=by rcases h.hd with e|e<;>omega
theorem CT (f:FrP) (h:f.OK) (t:Rat) (a b k:Nat) (hs:szQ f.sp a) (hb:szQ f.st b) (hz:szQ t k) (hk:a+b+k+9≤300) (W:World) (ht:AJ W):
  Ad Tryz.prog 72 #[frV f,str (Ac t)] W (fun _:Unit=>str (Ac (f.at t))) (fun _=>True) (fun _=>[]):=by
 have z1:=sz2 hz hb (by omega)
 have z2:=hz.sub hb
 have z3:=sz2 hs z2 (by omega)
 have z4:=hs.mul z2
 have z5:=sz2 h.posz z4 (by omega)
 refine Ab (args:=[frV f,str (Ac t)]) Tryz.func72 I I I ?_
 refine zA (zB ?_)
 (refine A3 rfl rfl rfl rfl ?_;intro)
 refine wP I (Aa ?_)
 rename_i b2
 refine zE (zA (zA (zB (wP I (wP I (wB 0 I I I (wC I I (fun W1 hp=>Dh t f.st z1 W1 (ht.hp hp)) (wP I (wU 10 (decide (t≤f.st)) I (PM t f.st) (Aa (zE ?_)))))))))))
 refine Af I (fun hc=> ?_) (fun hc=> ?_)
 ·have hc:=of_decide_eq_true hc
  exact zA (zB (wP I (wB 0 I I I (wC I I (fun W1 hp=>EF f.pos h.posN W1 (ht.hp hp)) (wP I (Aa (zE (zO (zP (wR1 I I (by rw[FrP.at,if_pos hc])))))))))))
 ·have hc:=of_decide_eq_false hc
  refine zI (zE (zA (zU (qP I (qB 0 I I I (qP I (qP I (qB 0 I I I (qC I I (fun W1 hp=>FP t f.st z1 W1 (ht.hp hp)) (qC I I (fun W1 hp=>Nm f.sp (t-f.st) z3 W1 (ht.hp hp)) (qP I (A4 (Aa ?_)))))))))))))
  refine zE (zA (zA (zB (wP I (wB 0 I I I (wP I (Aa (zE ?_))))))))
  refine Af I (fun hh=> ?_) (fun hh=> ?_)
  ·have hh:f.hd<0:=of_decide_eq_true hh
   have e1:f.hd= -1:=by rcases h.hd with e|e<;>omega
   refine zA (zB (wP I (wB 0 I I I (wC I I (fun W1 hp=>EF f.pos h.posN W1 (ht.hp hp)) (wP I (wC I I (fun W1 hp=>FP (f.pos:Rat) (f.sp*(t-f.st)) z5 W1 (ht.hp hp)) (wP I (Aa (zE (zO (zP ?_)))))))))))
   exact A9 tH I (.tmp I) () (by
    rw[FrP.at,if_neg hc,FrP.vel,e1,show((-1:Int):Rat)= -1 from rfl]
    exact congrArg (fun q:Rat=>str (Ac q)) (by grind)) O fun W _=>Av.nil _ _
  ·have hh: ¬f.hd<0:=of_decide_eq_false hh
   have e1:f.hd=1:=by rcases h.hd with e|e<;>omega
   refine zI (zE (zA (zB (wP I (wB 0 I I I (wC I I (fun W1 hp=>EF f.pos h.posN W1 (ht.hp hp)) (wP I (wC I I (fun W1 hp=>S8 (f.pos:Rat) (f.sp*(t-f.st)) z5 W1 (ht.hp hp)) (wP I (Aa (zE (zO ?_))))))))))))
   exact A9 tH I (.tmp I) () (by
    rw[FrP.at,if_neg hc,FrP.vel,e1,show((1:Int):Rat)=1 from rfl]
    exact congrArg (fun q:Rat=>str (Ac q)) (by grind)) O fun W _=>Av.nil _ _
-- BOXES 4
theorem S7 (f:FrP) (h:f.OK) (t:Rat) (hz:szQ t 36) (W:World) (hv:BP W) (ht:AJ W):
  Ad Tryz.prog 28 #[frV f,str (Ac t)] W (fun _:Unit=> .tuple #[str (Ac (f.at t)), .int .i64 0]) (fun _=>True) (fun _=>[]):=by
 refine Ab (args:=[frV f,str (Ac t)]) Tryz.func28 I I I ?_
 refine zA (zB ?_)
 (refine A3 rfl rfl rfl rfl ?_;intro)
 refine wP I (wP I (Aa ?_))
 rename_i b2
 refine zE (zA (zA (zB (wB 0 I I I (wP I ?_)))))
 refine As Tryz.hZ tH I I I I I I I I I I I fun bS=> ?_
 refine wC I I (fun W hp=>JL f h t hz bS W (hv.hp hp) (ht.hp hp) (An.of_bx hp 1 I I)) (wP I (Aa (zE (zA (zB (wP I (wP I (Aa (zE (zS I (zI (zE (zA ?_)))))))))))))
 exact zB (wB 0 I I I (wP I (wC I I (fun W hp=>L4 f h t hz W (hv.hp hp) (ht.hp hp)) (wP I (wP I (Aa (zE (zO (wR2 I I I)))))))))
def FrP.speed (f:FrP) (t:Rat):Rat:=if t<f.st then 0 else f.sp
theorem Ql (f:FrP) (h:f.OK) (t:Rat) (hz:szQ t 36) (W:World) (hv:BP W) (ht:AJ W):
  Ad Tryz.prog 32 #[frV f,str (Ac t)] W (fun _:Unit=> .tuple #[str (Ac (f.speed t)), .int .i64 0]) (fun _=>True) (fun _=>[]):=by
 have z1:=sz2 hz h.st (by decide)
 refine Ab (args:=[frV f,str (Ac t)]) Tryz.func32 I I I ?_
 refine zA (zB ?_)
 (refine A3 rfl rfl rfl rfl ?_;intro)
 refine wP I (wP I (Aa ?_))
 rename_i b2
 refine zE (zA (zA (zB (wB 0 I I I (wP I ?_)))))
 refine As Tryz.hZ tH I I I I I I I I I I I fun bS=> ?_
 refine wC I I (fun W hp=>JL f h t hz bS W (hv.hp hp) (ht.hp hp) (An.of_bx hp 1 I I)) (wP I (Aa (zE (zA (zB (wP I (wP I (Aa (zE (zS I (zI (zE (zA (zA ?_))))))))))))))
 refine zB (wP I (wP I (wB 0 I I I (wC I I (fun W hp=>CD t f.st z1 W (hv.hp hp) (ht.hp hp)) (wP I (wU 18 (decide (t<f.st)) I (DA t f.st) (Aa (zE ?_))))))))
 refine Af I (fun hc=> ?_) (fun hc=> ?_)
 ·have hc:=of_decide_eq_true hc
  exact zA (zB (wP I (wP I (Aa (zE (zO (zP (wR2 I I (by rw[FrP.speed,if_pos hc,E5])))))))))
 ·have hc:=of_decide_eq_false hc
  exact zI (zE (zA (zB (wP I (wB 0 I I I (wP I (wP I (Aa (zE (zO (wR2 I I (by rw[FrP.speed,if_neg hc]))))))))))))
-- BOXES 4
-- CODE2
theorem L8 {a:List UInt8} (h:(rdR a).2=0): ∃q,okQ q∧a=Ac q:=by
 unfold rdR at h
 cases hf:frm a with
 |none=>rw[hf] at h;exact absurd h (by decide)
 |some x=>
  obtain⟨z,d⟩:=x
  rw[hf] at h
  simp only at h
  by_cases h1:z.natAbs<Bo∧d<Bo
  ·rw[if_pos h1] at h
   by_cases h2:Nat.gcd z.natAbs d=1
   ·obtain⟨h3,h4⟩:=Mw hf
    exact⟨⟨z,d,by omega,h2⟩,⟨h1.1,by unfold okN;rw[Int.natAbs_natCast];exact h1.2⟩,h4⟩
   ·rw[if_neg h2] at h;exact absurd h (by decide)
  ·rw[if_neg h1] at h;exact absurd h (by decide)
def VJ (a:List UInt8):Bool:=match frm a with
 |none=>false
 |some (z,d)=>decide (36<(decDigits z.natAbs).length)||decide (36<(decDigits d).length)
theorem TW (q:Rat):VJ (Ac q)=(decide (36<(decDigits q.num.natAbs).length)||decide (36<(decDigits q.den).length)):=by
 unfold VJ Ac
 rw[ER q.num q.den_pos]
theorem Sp {q:Rat}:VJ (Ac q)=false↔szQ q 36:=by
 rw[TW,Bool.or_eq_false_iff,decide_eq_false_iff_not,decide_eq_false_iff_not]
 constructor
 ·rintro⟨h1,h2⟩
  exact⟨Nat.lt_of_lt_of_le (E0 _) (Nat.pow_le_pow_right (by decide) (by omega)),Nat.lt_of_lt_of_le (E0 _) (Nat.pow_le_pow_right (by decide) (by omega))⟩
 ·rintro⟨h1,h2⟩
  have l1:=CK 36 _ (by decide) h1
  have l2:=CK 36 _ (by decide) h2
  exact⟨by omega,by omega⟩
def T0 (a:List UInt8):Int:=if (rdR a).2≠0 then(rdR a).2 else if VJ a=true then 4 else 0
theorem Qy {q:Rat} (h:szQ q 36):T0 (Ac q)=0:=by
 unfold T0
 rw[K6 (h.ok (by decide)),if_neg (fun h=>h rfl),Sp.2 h,if_neg (by decide)]
-- BOXES 4
def FrP.velB (f:FrP) (t:Rat):Rat:=if f.st<t then f.vel else 0
def FrP.velA (f:FrP) (t:Rat):Rat:=if t<f.st then 0 else f.vel
theorem Ge (f:FrP) (h:f.OK) (t:Rat) (k:Nat) (hz:szQ t k) (hk:k+36+1≤300) (W:World) (hv:BP W) (ht:AJ W):
  Ad Tryz.prog 95 #[frV f,str (Ac t)] W (fun _:Unit=> .tuple #[str (Ac (f.velB t)),str (Ac (f.velA t))]) (fun _=>True) (fun _=>[]):=by
 have z1:=sz2 hz h.st hk
 refine Ab (args:=[frV f,str (Ac t)]) Tryz.func95 I I I ?_
 refine zA (zB ?_)
 (refine A3 rfl rfl rfl rfl ?_;intro)
 refine wP I (wP I (Aa ?_))
 rename_i b2
 refine zE (zA (zA (zB (wP I (wP I (wB 0 I I I ?_))))))
 by_cases c1:t<f.st
 ·have n1: ¬f.st<t:=fun e=>Rat.not_le.2 c1 (Rat.le_of_lt e)
  refine wC I I (fun W hp=>(CD t f.st z1 W (hv.hp hp) (ht.hp hp)).cast (by rw[Co,if_pos c1])) (Aa (zE (zH (zA (zB (wP I (wP I (Aa (zE (zR I (zA (zB (wP I (wP I ?_))))))))))))))
  exact Aa (zE (zO (zQ (zP (wR2 I I (by rw[FrP.velB,FrP.velA,if_neg n1,if_pos c1,E5]))))))
 ·by_cases c2:t=f.st
  ·have n1: ¬f.st<t:=fun e=>by rw[c2] at e;exact Rat.lt_irrefl e
   refine wC I I (fun W hp=>(CD t f.st z1 W (hv.hp hp) (ht.hp hp)).cast (by rw[Co,if_neg c1,if_pos c2])) (Aa (zE (zH (zA (zB (wP I (wP I (Aa (zE (zS I (zA (zB (wP I (wP I ?_))))))))))))))
   exact Aa (zE (zR I (zA (zB (wB 0 I I I (wC I I (fun W hp=>Cq f h W (hv.hp hp) (ht.hp hp)) (wP I (wP I (Aa (zE (zO (zQ (zP (wR2 I I (by rw[FrP.velB,FrP.velA,if_neg n1,if_neg c1,E5])))))))))))))))
  ·have c3:f.st<t:=Decidable.byContradiction fun h=>c2 (Rat.le_antisymm (Rat.not_lt.1 h) (Rat.not_lt.1 c1))
   refine wC I I (fun W hp=>(CD t f.st z1 W (hv.hp hp) (ht.hp hp)).cast (by rw[Co,if_neg c1,if_neg c2])) (Aa (zE (zH (zA (zB (wP I (wP I (Aa (zE (zS I (zA (zB (wP I (wP I ?_))))))))))))))
   refine Aa (zE (zS I (zI (zN (zE (zA (zU (qB 0 I I I (qC I I (fun W hp=>Cq f h W (hv.hp hp) (ht.hp hp)) (qB 0 I I I (qC I I (fun W hp=>Cq f h W (hv.hp hp) (ht.hp hp)) (qP I (qP I ?_)))))))))))))
   exact A4 (Aa (zE (zO (wR2 I I (by rw[FrP.velB,FrP.velA,if_pos c3,if_neg c1])))))
-- BOXES 4
-- CODE2
theorem HV (q:Rat) (h:okQ q) (W:World) (ht:AJ W):
  Ad Tryz.prog 91 #[str (Ac q)] W (fun _:Unit=> .bool (VJ (Ac q))) (fun _=>True) (fun _=>[]):=by
 obtain⟨c,hc,hc45⟩:=En q.num
 have hl0:0<(itoa q.num).length:=by
  have:=List.getElem?_eq_some_iff.1 hc
  obtain⟨h1,_⟩:=this
  exact h1
 have hsz:=Fy h
 have hi:(itoa q.num).length≤1000:=by
  have:=h.1.dd
  rw[BL,List.length_append]
  have:=I8 q.num
  omega
 have hdn:(decDigits q.den).length≤1000:=by have:=h.2.dd;rw[Int.natAbs_natCast] at this;omega
 rw[TW]
 refine Ab (args:=[str (Ac q)]) Tryz.func91 I I I ?_
 refine zA (zB (wP I (Aa (zE (zA (zB (wP I (wC I I (fun W1 hp=>Ks h W1 (ht.hp hp)) ?_))))))))
 iterate 7 refine wP I ?_
 refine Aa (zE (zA (zA (zB (wP I (wP I ?_))))))
 refine Ak 13 (.int .i64 ((itoa q.num).length:Nat)) I (congrArg (fun n:Nat=>Value.int .i64 (n:Int)) (Az _)) ?_
 refine wP I (wU 14 true I (dT (by omega)) (wP I (wP I ?_)))
 refine AU 0 tH I I I I I I I I hc ?_
 refine wP I (wU 18 (decide (q.num<0)) I ((DW c 45).trans hc45) (wP I (Aa (A0 ?_))))
 try refine Au ?_
 refine A8 (X:=Unit) (fun _=>[(3,str (decDigits q.num.natAbs)),(4,str (decDigits q.den))]) (fun _=>[]) (fun _=>True) ?_ ?_
 ·refine Af I (fun hn=> ?_) (fun hn=> ?_)
  ·have hn:q.num<0:=of_decide_eq_true hn
   have e:(itoa q.num).drop 1=decDigits q.num.natAbs:=by rw[BL,G9,if_pos hn];rfl
   refine zB (wP I ?_)
   refine EI 1 tH I I I I I I I I (by omega) ?_
   rw[e]
   exact wP I (Aa (Aj () O ⟨I,I,O⟩ [] I))
  ·have hn: ¬q.num<0:=of_decide_eq_false hn
   have e:itoa q.num=decDigits q.num.natAbs:=by rw[BL,G9,if_neg hn];rfl
   exact zI (Aj () O ⟨congrArg (fun l=>some (str l)) e,I,O⟩ [] I)
 intro _ _
 refine zA (zB (wP I (wP I ?_)))
 refine Ak 23 (.int .i64 ((decDigits q.num.natAbs).length:Nat)) I (congrArg (fun n:Nat=>Value.int .i64 (n:Int)) (Az _)) ?_
 refine wP I ?_
 by_cases h1:36<(decDigits q.num.natAbs).length
 ·refine wU 24 true I (dT (by omega)) (wP I ?_)
  iterate 3 refine Ae I I ?_
  exact wP I (wP I (Aa (zE (zO (wR1 I I (by rw[dT h1];rfl))))))
 ·refine wU 24 false I (dF (by omega)) (wP I (wP I (wP I ?_)))
  refine Ak 27 (.int .i64 ((decDigits q.den).length:Nat)) I (congrArg (fun n:Nat=>Value.int .i64 (n:Int)) (Az _)) ?_
  exact wP I (wU 28 (decide (36<(decDigits q.den).length)) I (decide_eq_decide.2 (by omega)) (wP I (wP I (Aa (zE (zO (wR1 I I (by rw[dF h1,Bool.false_or]))))))))
theorem NM (a:List UInt8) (hl:a.length≤4000000000) (W:World) (ht:AJ W):
  Ad Tryz.prog 83 #[str a] W (fun _:Unit=> .int .i64 (T0 a)) (fun _=>True) (fun _=>[]):=by
 refine Ab (args:=[str a]) Tryz.func83 I I I ?_
 refine zA (zB (wP I (Aa (zE (zA (zA (zB (wP I (wC I I (fun W1 hp=>Hz a (by omega) W1 (ht.hp hp)) (wP I (Aa (zE (zA ?_)))))))))))))
 refine zB (wP I (wP I ?_))
 by_cases he:(rdR a).2=0
 rotate_left
 ·exact wU 7 true I (bne_iff_ne.2 he) (Aa (zE (zR I (zA (zB (wP I (wP I (Aa (zE (zO (zP (wR1 I I (by unfold T0;rw[if_pos he])))))))))))))
 obtain⟨q,hk,rfl⟩:=L8 he
 refine wU 7 false I (bne_eq_false_iff_eq.2 he) (Aa (zE (zS I (zI (zE (zA (zA (zB (wP I (wC I I (fun W1 hp=>HV q hk W1 (ht.hp hp)) (Aa (zE ?_))))))))))))
 refine Af I (fun hL=> ?_) (fun hL=> ?_)
 ·exact zA (zB (wP I (Aa (zE (zO (zP (wR1 I I (by unfold T0;rw[if_neg (fun h=>h he),if_pos hL]))))))))
 ·exact zI (zE (zA (zB (wP I (Aa (zE (zO (wR1 I I (by unfold T0;rw[if_neg (fun h=>h he),hL,if_neg (by decide)])))))))))
theorem Gp (f:FrP) (h:f.OK) (W:World) (ht:AJ W):
  Ad Tryz.prog 39 #[frV f] W (fun _:Unit=> .int .i64 0) (fun _=>True) (fun _=>[]):=by
 have h':=h
 obtain⟨p0,p1,hhd,hsp,hst,hsp0⟩:=h'
 have l1:=(Sp (q:=f.sp)).2 hsp
 have l2:=(Sp (q:=f.st)).2 hst
 refine Ab (args:=[frV f]) Tryz.func39 I I I ?_
 refine zA (zB ?_)
 (refine A3 rfl rfl rfl rfl ?_;intro)
 refine wP I (Aa ?_)
 rename_i b1
 have hsp1: ¬f.sp<0:=by have:=Rat.num_nonneg.1 hsp0;grind
 have z0:szQ (0:Rat) 1:=⟨by decide,by decide⟩
 refine A0 (Au (Au ?_))
 refine A8 (X:=Unit) (fun _=>[(1,Ap b1),(22, .bool false)]) (fun _=>[⟨b1,48,[.bool f.ax, .int .i64 f.pos, .int .i64 f.hd,str (Ac f.sp),str (Ac f.st)],true,none⟩]) (fun _=>True) ?_ ?_
 ·refine zB (wP I (wB 0 I I I (wP I (wU 7 false I (dF (by omega)) (wP I (wP I (wB 0 I I I (wP I (wU 11 false I (dF (by omega)) (wP I (wP I (wP I (wB 0 I I I ?_)))))))))))))
  refine wP I ?_
  rcases hhd with e|e
  ·refine wU 16 false I (by rw[e];rfl) (wP I ?_)
   iterate 3 refine Ae I I ?_
   exact wP I (wP I (Aa (Aj () O ⟨I,I,O⟩ [] I)))
  ·exact wU 16 true I (by rw[e];rfl) (wP I (wP I (wB 0 I I I (wP I (wU 20 false I (by rw[e];rfl) (wP I (wP I (Aa (Aj () O ⟨I,I,O⟩ [] I)))))))))
 intro _ _
 refine zS I (zI (zE (zA (zA (zB (wP I (wB 0 I I I (wC I I (fun W1 hp=>GN (hsp.ok (by decide)) W1 (ht.hp hp)) (wP I (Aa (zE (zA (zB ?_)))))))))))))
 refine wP I (wP I (Aa (zE (zS I (zI (zE (zA (zA (zB (wP I (wB 0 I I I (wC I I (fun W1 hp=>GN (hst.ok (by decide)) W1 (ht.hp hp)) (wP I ?_)))))))))))))
 refine Aa (zE (zA (zB (wP I (wP I (Aa (zE (zS I (zI (zE (zA (zA (zB ?_)))))))))))))
 refine wP I (wB 0 I I I (wC I I (fun W1 hp=>(HV f.sp (hsp.ok (by decide)) W1 (ht.hp hp)).cast (v':= .bool false) (by rw[l1])) (wP I (wP I (wB 0 I I I (wC I I (fun W1 hp=>(HV f.st (hst.ok (by decide)) W1 (ht.hp hp)).cast (v':= .bool false) (by rw[l2])) (wP I (Aa (zE (zS I (zI (zE (zA (zA ?_))))))))))))))
 refine zB (wP I (wB 0 I I I ?_))
 refine wC I I (fun W1 hp=>(by
  have h1:=Dh f.sp 0 (sz2 hsp z0 (by decide)) W1 (ht.hp hp)
  rw[E2.2 (show(0:Rat).num=0 from rfl)] at h1
  exact h1)) ?_
 exact wP I (wU 46 false I ((DA f.sp 0).trans (dF hsp1)) (Aa (zE (zS I (zI (zE (zA (zB (wP I (Aa (zE (zO (wR1 I I I)))))))))))))
theorem Kc (f:FrP) (h:f.OK) (a:List UInt8) (hl:a.length≤4000000000) (W:World) (ht:AJ W):
  Ad Tryz.prog 71 #[frV f,str a] W (fun _:Unit=> .int .i64 (T0 a)) (fun _=>True) (fun _=>[]):=by
 refine Ab (args:=[frV f,str a]) Tryz.func71 I I I ?_
 refine zA (zB ?_)
 (refine A3 rfl rfl rfl rfl ?_;intro)
 refine wP I (Aa ?_)
 rename_i b2
 refine zE (zA (zA (zB (wB 0 I I I (wC I I (fun W1 hp=>Gp f h W1 (ht.hp hp)) (wP I (Aa (zE (zS I (zI (zE (zA (zB ?_)))))))))))))
 exact wP I (wC I I (fun W1 hp=>NM a hl W1 (ht.hp hp)) (wP I (Aa (zE (zO (wR1 I I I))))))
theorem H5 (f:FrP) (h:f.OK) (t:Rat) (hz:szQ t 36) (W:World) (ht:AJ W):
  Ad Tryz.prog 29 #[frV f,str (Ac t)] W (fun _:Unit=> .tuple #[str (Ac (f.at t)), .int .i64 0]) (fun _=>True) (fun _=>[]):=by
 have hl:=B7 (hz.ok (by decide))
 refine Ab (args:=[frV f,str (Ac t)]) Tryz.func29 I I I ?_
 refine zA (zB ?_)
 (refine A3 rfl rfl rfl rfl ?_;intro)
 refine wP I (wP I (Aa ?_))
 rename_i b2
 refine zE (zA (zA (zB (wB 0 I I I (wP I (wC I I (fun W1 hp=>(Kc f h (Ac t) (by omega) W1 (ht.hp hp)).cast (v':= .int .i64 0) (by rw[Qy hz])) (wP I (Aa (zE (zA (zB (wP I (wP I ?_)))))))))))))
 refine Aa (zE (zS I (zI (zE (zA (zB (wB 0 I I I (wP I (wC I I (fun W1 hp=>CT f h t 36 36 36 h.sp h.st hz (by decide) W1 (ht.hp hp)) (wP I (wP I (Aa (zE ?_)))))))))))))
 exact zO (wR2 I I I)
def Pf (f:FrP) (t:Rat):Rat:=if t<f.st then 0 else f.sp
theorem Pd (f:FrP) (h:f.OK) (t:Rat) (hz:szQ t 36) (W:World) (ht:AJ W):
  Ad Tryz.prog 33 #[frV f,str (Ac t)] W (fun _:Unit=> .tuple #[str (Ac (Pf f t)), .int .i64 0]) (fun _=>True) (fun _=>[]):=by
 have hl:=B7 (hz.ok (by decide))
 refine Ab (args:=[frV f,str (Ac t)]) Tryz.func33 I I I ?_
 refine zA (zB ?_)
 (refine A3 rfl rfl rfl rfl ?_;intro)
 refine wP I (wP I (Aa ?_))
 rename_i b2
 refine zE (zA (zA (zB (wB 0 I I I (wP I (wC I I (fun W1 hp=>(Kc f h (Ac t) (by omega) W1 (ht.hp hp)).cast (v':= .int .i64 0) (by rw[Qy hz])) (wP I (Aa (zE (zA (zB (wP I (wP I ?_)))))))))))))
 refine Aa (zE (zS I (zI (zE (zA (zA (zB (wP I (wP I (wB 0 I I I (wC I I (fun W1 hp=>Dh t f.st (sz2 hz h.st (by decide)) W1 (ht.hp hp)) (wP I (wU 17 (decide (t<f.st)) I (DA t f.st) ?_)))))))))))))
 refine Aa (zE ?_)
 refine Af I (fun hc=> ?_) (fun hc=> ?_)
 ·have hc:t<f.st:=of_decide_eq_true hc
  exact zA (zB (wP I (wP I (Aa (zE (zO (zP (wR2 I I (by rw[Pf,if_pos hc,E2.2 (show(0:Rat).num=0 from I)])))))))))
 ·have hc: ¬t<f.st:=of_decide_eq_false hc
  exact zI (zE (zA (zB (wP I (wB 0 I I I (wP I (wP I (Aa (zE (zO (wR2 I I (by rw[Pf,if_neg hc]))))))))))))
theorem Mp (p q:Rat):(p<q∧Co p q= -1)∨(p=q∧Co p q=0)∨(q<p∧Co p q=1):=by
 have h1:=DA p q
 have h2:=Fb p q
 have h3:=VN p q
 rcases Int.lt_trichotomy (Co p q) 0 with c|c|c
 ·rw[dT c] at h1
  exact .inl ⟨of_decide_eq_true h1.symm,by omega⟩
 ·rw[dF (show¬Co p q<0 by omega)] at h1
  rw[dF (show¬Co p q>0 by omega)] at h2
  have h1:=of_decide_eq_false h1.symm
  have h2:=of_decide_eq_false h2.symm
  exact .inr (.inl ⟨by grind,c⟩)
 ·rw[dT (show Co p q>0 from c)] at h2
  exact .inr (.inr ⟨of_decide_eq_true h2.symm,by omega⟩)
theorem Dq (f:FrP) (h:f.OK) (t:Rat) (b k:Nat) (hb:szQ f.st b) (hz:szQ t k) (hk:b+k+1≤300) (above:Bool) (W:World) (ht:AJ W):
  Ad Tryz.prog 98 #[frV f,str (Ac t), .bool above] W (fun _:Unit=>str (Ac (if above=true then f.velA t else f.velB t))) (fun _=>True) (fun _=>[]):=by
 have z1:=sz2 hz hb (by omega)
 have zv:=sz2 h.hdz h.sp (by decide)
 have e0:Ac (0:Rat)=[48]:=E2.2 rfl
 refine Ab (args:=[frV f,str (Ac t), .bool above]) Tryz.func98 I I I ?_
 refine zA (zB ?_)
 (refine A3 rfl rfl rfl rfl ?_;intro)
 refine wP I (Aa ?_)
 rename_i b3
 refine zE (zA (zB (wP I (wP I (wB 0 I I I (wC I I (fun W1 hp=>Dh t f.st z1 W1 (ht.hp hp)) (wP I (Aa (A0 (Au (Au ?_)))))))))))
 refine A8 (X:=Unit) (fun _=>[(3,Ap b3),(21, .bool (decide (Co t f.st<0)||(Co t f.st==0)&& !above))]) (fun _=>[⟨b3,48,[.bool f.ax, .int .i64 f.pos, .int .i64 f.hd,str (Ac f.sp),str (Ac f.st)],true,none⟩]) (fun _=>True) ?_ ?_
 ·refine zB (wP I (wP I (wP I ?_)))
  refine AF 14 I (fun h14=> ?_) (fun h14=> ?_)
  ·refine Ae I I ?_
   iterate 5 refine Ae I I ?_
   exact wP I (Aa (Aj () O ⟨I,congrArg (fun b=>some (Value.bool b)) (by simp_all),O⟩ [] I))
  ·refine wP I (wP I (wP I ?_))
   refine AF 17 I (fun h17=> ?_) (fun h17=> ?_)
   ·exact wP I (wP I (wP I (wP I (Aa (Aj () O ⟨I,congrArg (fun b=>some (Value.bool b)) (by simp_all),O⟩ [] I)))))
   ·refine Ae I I ?_
    refine Ae I I ?_
    exact wP I (wP I (Aa (Aj () O ⟨I,congrArg (fun b=>some (Value.bool b)) (by simp_all),O⟩ [] I)))
 intro _ _
 refine Af I (fun hc=> ?_) (fun hc=> ?_)
 ·refine zA (zB (wP I (Aa (zE (zO (zP ?_))))))
  refine wR1 I I ?_
  have e:(if above=true then f.velA t else f.velB t)=0:=by
   rcases Mp t f.st with⟨h1,h2⟩|⟨h1,h2⟩|⟨h1,h2⟩
   ·cases above
    ·rw[if_neg (by decide),FrP.velB,if_neg (by grind)]
    ·rw[if_pos rfl,FrP.velA,if_pos h1]
   ·cases above
    ·rw[if_neg (by decide),FrP.velB,if_neg (by grind)]
    ·rw[h2] at hc;exact absurd hc (by decide)
   ·rw[h2] at hc;exact absurd hc (by cases above<;>decide)
  rw[e,e0]
 ·refine zI (zE (zA (zU (qP I (qB 0 I I I (qC I I (fun W1 hp=>EF f.hd h.hdN W1 (ht.hp hp)) (qP I (qB 0 I I I (qC I I (fun W1 hp=>Nm (f.hd:Rat) f.sp zv W1 (ht.hp hp)) (qP I (A4 (Aa (zE ?_)))))))))))))
  refine zO ?_
  refine wR1 I I ?_
  have e:(if above=true then f.velA t else f.velB t)=f.vel:=by
   rcases Mp t f.st with⟨h1,h2⟩|⟨h1,h2⟩|⟨h1,h2⟩
   ·rw[h2] at hc;exact absurd hc (by cases above<;>decide)
   ·cases above
    ·rw[h2] at hc;exact absurd hc (by decide)
    ·rw[if_pos rfl,FrP.velA,if_neg (by grind)]
   ·cases above
    ·rw[if_neg (by decide),FrP.velB,if_pos h1]
    ·rw[if_pos rfl,FrP.velA,if_neg (by grind)]
  rw[e]
  rfl
end
section
-- OLD
open Go Go.RowKit Go.Am
set_option maxRecDepth 10000
structure Sd where
 x:Int
 y:Int
 rise:Int
 run:Int
 gable:Bool
 plate:Int
 over:Int
 deriving DecidableEq,Inhabited
abbrev Sd.cells (s:Sd):List Value:=[.int .i64 s.x, .int .i64 s.y, .int .i64 s.rise, .int .i64 s.run, .bool s.gable, .int .i64 s.plate, .int .i64 s.over]
abbrev Sd.val (s:Sd):Value:= .agg #[.int .i64 s.x, .int .i64 s.y, .int .i64 s.rise, .int .i64 s.run, .bool s.gable, .int .i64 s.plate, .int .i64 s.over]
abbrev spot (x y:Int):Value:= .agg #[.int .i64 x, .int .i64 y]
abbrev H4 (s t u:Sd):Value:= .agg #[.int .i64 s.x, .int .i64 s.y, .int .i64 s.rise, .int .i64 s.run, .bool s.gable, .int .i64 s.plate, .int .i64 s.over, .int .i64 t.x, .int .i64 t.y, .int .i64 t.rise, .int .i64 t.run, .bool t.gable, .int .i64 t.plate, .int .i64 t.over, .int .i64 u.x, .int .i64 u.y, .int .i64 u.rise, .int .i64 u.run, .bool u.gable, .int .i64 u.plate, .int .i64 u.over]
theorem B9 (s:Sd):AQ Tryz.prog 218 [s.val] (spot s.x s.y):=by
 intro W
 refine Ab Tryz.func218 I I I ?_
 refine zA (zB ?_)
 refine wF I I fun _=> ?_
 refine Bn (z:=spot 0 0) I I I (fun W=>by kernel_rfl) fun b3=> ?_
 refine zC (zE (zA (zB (wP I (wB 0 I I I (wP I (wB 0 I I I ?_)))))))
 refine GB (spot 0 0) tH I I I I I (fun W=>by kernel_rfl) I I ?_
 exact wS 1 I I I (zC (zE (zO (A9 tH I (.cell 1 I I I I I) () I O fun W _=>Av.nil _ _))))
theorem MF (x y u v:Int):AQ Tryz.prog 219 [spot x y,spot u v] (spot (w64 (u-x)) (w64 (v-y))):=by
 intro W
 refine Ab Tryz.func219 I I I ?_
 refine zA (zB ?_)
 refine wF I I fun _=> ?_
 refine wF I I fun _=> ?_
 refine Bn (z:=spot 0 0) I I I (fun W=>by kernel_rfl) fun b3=> ?_
 refine zC (zE (zA (zB (wP I (wB 1 I I I (wP I (wB 0 I I I (wP I (wP I (wB 1 I I I (wP I (wB 0 I I I (wP I ?_)))))))))))))
 refine GB (spot 0 0) tH I I I I I (fun W=>by kernel_rfl) I I ?_
 exact wS 2 I I I (zC (zE (zO (A9 tH I (.cell 2 I I I I I) () I O fun W _=>Av.nil _ _))))
theorem Lh (x y u v:Int):AQ Tryz.prog 278 [spot x y,spot u v] (.int .i64 (w64 (w64 (x*v)-w64 (y*u)))):=by
 intro W
 refine Ab Tryz.func278 I I I ?_
 refine zA (zB ?_)
 refine wF I I fun _=> ?_
 refine wF I I fun _=> ?_
 refine wP I (zC (zE (zA (zB (wP I (wB 0 I I I (wP I (wB 1 I I I (wP I (wP I (wB 0 I I I (wP I (wB 1 I I I ?_)))))))))))))
 exact wP I (wP I (wP I (zC (zE (zO (wR1 I I I))))))
theorem Ky (s t u:Sd):AQ Tryz.prog 220 [H4 s t u] (spot (w64 (u.x-t.x)) (w64 (u.y-t.y))):=by
 intro W
 refine Ab Tryz.func220 I I I ?_
 refine zA (zB ?_)
 refine wF I I fun _=> ?_
 refine Bn (z:=spot 0 0) I I I (fun W=>by kernel_rfl) fun b3=> ?_
 refine zC (zE (zA (zU (qP I (qB 0 I I I (qC I I (fun W _=>B9 t W) (qP I (qB 0 I I I (qC I I (fun W _=>B9 u W) (qC I I (fun W _=>MF t.x t.y u.x u.y W) (zD (wS 1 I I I (zC ?_)))))))))))))
 exact zE (zO (A9 tH I (.cell 1 I I I I I) () I O fun W _=>Av.nil _ _))
theorem So (s t u:Sd):AQ Tryz.prog 225 [H4 s t u] (.bool (decide (w64 (w64 (w64 (t.x-s.x)*w64 (u.y-t.y))-w64 (w64 (t.y-s.y)*w64 (u.x-t.x)))>0))):=by
 intro W
 refine Ab Tryz.func225 I I I ?_
 refine zA (zB ?_)
 refine wF I I fun _=> ?_
 refine wP I (zC (zE (zA (zU (qP I (qB 0 I I I (qC I I (fun W _=>B9 s W) (qP I (qB 0 I I I (qC I I (fun W _=>B9 t W) (qC I I (fun W _=>MF s.x s.y t.x t.y W) (qB 0 I I I (qC I I (fun W _=>Ky s t u W) ?_)))))))))))))
 exact qC I I (fun W _=>Lh _ _ _ _ W) (qP I (qP I (zD (zC (zE (zO (wR1 I I I)))))))
structure FA (W:World) (b off:Nat) (l:List Sd):Prop where
 get: ∀(i:Nat) (s:Sd),l[i]? =some s→An W b (off+i*7) s.cells
def BW (W:World) (p:Option Addr) (l:List Sd):Prop:=l=[]∨ ∃b off,p=some ⟨b,off,none⟩∧FA W b off l
theorem BW.below {W W':World} {p:Option Addr} {l:List Sd} {n:Nat} (h:BW W p l) (hn:W.heap.size≤n) (hb:Below n W W'):BW W' p l:=by
 rcases h with h|⟨b,off,h1,h2⟩
 ·exact .inl h
 ·exact .inr ⟨b,off,h1,⟨fun i s hs=>(h2.get i s hs).below hn hb⟩⟩
theorem BW.hp {W0 W:World} {bxs:List Bx} {p:Option Addr} {l:List Sd} (h:BW W0 p l) (hp:Hp W0 bxs W):BW W p l:=h.below (Nat.le_refl _) hp.below
def sd (l:List Sd) (i:Nat):Sd:=l.getD i default
theorem Ex {l:List Sd} {i:Nat} (h:i<l.length):l[i]? =some (sd l i):=by simp[sd,h]
theorem BW.row {W:World} {p:Option Addr} {l:List Sd} (h:BW W p l) {i:Nat} (hi:i<l.length): ∃b off,p=some ⟨b,off,none⟩∧ ∀k,k<l.length→An W b (off+k*7) (sd l k).cells:=by
 rcases h with rfl|⟨b,off,h1,h2⟩
 ·simp at hi
 ·exact⟨b,off,h1,fun k hk=>h2.get k _ (Ex hk)⟩
end
section
-- OLD
open Go Go.RowKit Go.Am
set_option maxRecDepth 10000
theorem EU (p:Option Addr) (n cap:Nat) (W:World):Ad Tryz.prog 217 #[slv p n cap] W (fun b:Nat=> .func (.func 277) #[] #[.pointer (some ⟨b,0,none⟩)]) (fun _=>True) (fun b=>[⟨b,76,[slv p n cap],true,none⟩]):=by
 refine Ab (args:=[slv p n cap]) Tryz.func217 I I I ?_
 refine zA (zB ?_)
 refine A3 rfl rfl rfl rfl ?_;intro b
 exact wP I (zC (zE (zA (zB (wP I (wP I (zC (zE (zO (A9 tH I (.tmp I) b I O fun W hp=>Av.of_hp hp))))))))))
def prv (n i:Nat):Nat:=(i+n-1)%n
def nxt (n i:Nat):Nat:=(i+1)%n
abbrev YE (l:List Sd) (k:Nat):List Value:=[.int .i64 k,H4 (sd l (prv l.length k)) (sd l k) (sd l (nxt l.length k))]
structure DU (b:Nat) (p:Option Addr) (cap:Nat) (l:List Sd) (W:World):Prop where
 var:An W b 0 [slv p l.length cap]
 ring:BW W p l
theorem FT (b:Nat) (p:Option Addr) (cap:Nat) (l:List Sd) (hn:l.length<4611686018427387904):
  UJ Tryz.prog 277 [.pointer (some ⟨b,0,none⟩)] l.length (YE l) (DU b p cap l):=by
 refine⟨fun y J Jx hNeed hdr hY W hJ=> ?_⟩
 refine E4 (args:=[.func (.yield y) #[] #[], .pointer (some ⟨b,0,none⟩)]) (J0:=J 0) Tryz.func277 I I I hJ ?_
 refine zA (zB (wL 0 I I (fun W hp=>(hNeed 0 W hp).var) I (wP I (wP I (zC (zE (zA (zB (wL 0 I I (fun W hp=>(hNeed 0 W hp).var) I (wP I (wP I (zC (zE ?_)))))))))))))
 refine zH ?_
 refine Eu (X:=Nat) (fun k=>[(0, .func (.yield y) #[] #[]),(1, .pointer (some ⟨b,0,none⟩)),(3, .int .i64 (l.length:Nat)),(8, .int .i64 (l.length:Nat)),(9, .int .i64 (k:Nat))]) J (fun k=>k≤l.length) (fun k=>l.length-k) 0 (Nat.zero_le _) ⟨I,I,I,I,I,O⟩ (fun W h=>h) ?_
 intro k hk
 refine zA (zB (wP I (zC (zE (zA ?_)))))
 refine Af I ?_ ?_
 rotate_left
 ·intro h
  refine zJ (zK (zK (zL ?_)))
  have:k=l.length:=by simp at h;omega
  subst this
  exact GY I fun W h=>h
 intro h
 have hk:k<l.length:=by simp at h;omega
 clear h
 refine zI (zE (zA (zH (zA (zB (wP I (wP I (zC (zE (zA ?_))))))))))
 have hz:(l.length:Int)≠0:=by omega
 have e1:(w64 (w64 ((k:Int)+(l.length:Int))-1)).tmod (l.length:Int)=((prv l.length k:Nat):Int):=by
  rw[Ai (x:=(k:Int)+l.length) (by omega) (by omega),Ai (by omega) (by omega)]
  have:(k:Int)+l.length-1=((k+l.length-1:Nat):Int):=by omega
  rw[this];rfl
 have e2:(w64 ((k:Int)+1)).tmod (l.length:Int)=((nxt l.length k:Nat):Int):=by
  rw[Ai (x:=(k:Int)+1) (by omega) (by omega)]
  rfl
 have l1:prv l.length k<l.length:=Nat.mod_lt _ (by omega)
 have l2:nxt l.length k<l.length:=Nat.mod_lt _ (by omega)
 refine Gc 23 (hdr k) Tryz.mixed (by kernel_rfl) I ?_
 refine qP I (qP I (qL 0 I I (fun W hp=>(hNeed k W hp).var) I ?_))
 iterate 5 refine qP I ?_
 refine EB I I I I I hz ?_
 refine GT 20 _ I (congrArg (Value.int .i64) e1) ?_
 obtain⟨b2,off,rfl,hrow⟩: ∃b2 off,p=some ⟨b2,off,none⟩∧ ∀i,i<l.length→ ∀W,J k W→An W b2 (off+i*7) (sd l i).cells:=by
  obtain⟨b2,off,e,_⟩:=(hNeed 0 W hJ).ring.row hk
  refine⟨b2,off,e,fun i hi W hW=> ?_⟩
  obtain⟨b3,off3,e',h⟩:=(hNeed k W hW).ring.row hk
  rw[e] at e'
  cases e'
  exact h i hi
 refine qJ ?_
 refine Kb I I I I (fun W hp=>An.load 0 tH I ((hrow _ l1) W hp) I) ?_
 refine qL 0 I I (fun W hp=>(hNeed k W hp).var) I (qP I ?_)
 refine qJ ?_
 refine Kb I I I I (fun W hp=>An.load 0 tH I ((hrow _ hk) W hp) I) ?_
 refine qL 0 I I (fun W hp=>(hNeed k W hp).var) I (qP I (qP I (qP I ?_)))
 refine EB I I I I I hz ?_
 refine GT 31 _ I (congrArg (Value.int .i64) e2) ?_
 refine qJ ?_
 refine Kb I I I I (fun W hp=>An.load 0 tH I ((hrow _ l2) W hp) I) ?_
 refine QW (H4 default default default) tH I I I I I (fun W=>by kernel_rfl) I I ?_
 refine zD ?_
 refine DC (A1:=J (k+1)) (A2:=Jx) I I I I I I (fun W hp=>hY k W hk hp) ?_ ?_
 ·exact wP I (zC (zE (zS I (zI (zN (zE (zB (wP I (wP I (zC (Cu (k+1) hk (by omega) ⟨I,I,I,I,congrArg (fun z=>some (Value.int .i64 z)) (AE (x:=(k:Int)+1) (by omega) (by omega)),O⟩ (fun W h=>h))))))))))))
 ·exact wP I (zC (zE (zR I (zO (zQ (zP (zP (zQ (Ce I (fun W h=>h))))))))))
end
section
-- OLD
open Go Go.RowKit Go.Am
set_option maxRecDepth 10000
-- BOXES 6
abbrev Vt (a b c d:Int):Value:= .agg #[.int .i64 a, .int .i64 b, .int .i64 c, .int .i64 d]
theorem RD (s t u:Sd):AQ Tryz.prog 221 [H4 s t u] (Vt (if u.x<t.x then u.x else t.x) (if u.y<t.y then u.y else t.y) (if u.x>t.x then u.x else t.x) (if u.y>t.y then u.y else t.y)):=by
 intro W
 refine Ab Tryz.func221 I I I ?_
 refine zA (zB ?_)
 refine wF I I fun _=> ?_
 refine Bn (z:=Vt 0 0 0 0) I I I (fun W=>by kernel_rfl) fun b2=> ?_
 refine Aa (A0 (Au ?_))
 refine MV (X:=Nat×Nat) (fun x=>[(2, .pointer (some ⟨b2,0,none⟩)),(3, .pointer (some ⟨x.1,0,none⟩)),(4, .pointer (some ⟨x.2,0,none⟩))])
  (fun x=>[⟨b2,222,(Vt 0 0 0 0).cells.toList,true,none⟩,⟨x.1,215,(spot t.x t.y).cells.toList,true,none⟩,⟨x.2,215,(spot u.x u.y).cells.toList,true,none⟩]) 4 Tryz.mixed (by kernel_rfl) ?_ ?_
 ·refine qP I (qB 0 I I I (qC I I (fun W _=>B9 t W) (qP I (qB 0 I I I (qC I I (fun W _=>B9 u W) (zG (wX ?_)))))))
  refine RS.cons ?_ (RS.cons ?_ RS.nil)
  ·refine Bn (z:=spot 0 0) I I I (fun W=>by kernel_rfl) fun b3=> ?_
   refine zC (zF (wX ?_))
   refine RS.cons ?_ RS.nil
   refine Bn (z:=spot 0 0) I I I (fun W=>by kernel_rfl) fun b4=> ?_
   refine zC (zF (wX ?_))
   refine RS.cons ?_ RS.nil
   refine wS 2 I I I (zC (zF (wX ?_)))
   refine RS.cons ?_ RS.nil
   refine wS 3 I I I (zC (zF ?_))
   refine Be I (by((repeat (first|refine Bh.same ?_|refine Bh.off I ?_));exact O)) ?_
   exact A6 (b3,b4) ⟨I,I,I,O⟩ [1,2,3] (by decide) I
  ·refine Bn (z:=spot 0 0) I I I (fun W=>by kernel_rfl) fun b4=> ?_
   refine zC (zF (wX ?_))
   refine RS.cons ?_ RS.nil
   refine Bn (z:=spot 0 0) I I I (fun W=>by kernel_rfl) fun b3=> ?_
   refine zC (zF (wX ?_))
   refine RS.cons ?_ RS.nil
   refine wS 3 I I I (zC (zF (wX ?_)))
   refine RS.cons ?_ RS.nil
   refine wS 2 I I I (zC (zF ?_))
   refine Be I (by((repeat (first|refine Bh.same ?_|refine Bh.off I ?_));exact O)) ?_
   exact A6 (b3,b4) ⟨I,I,I,O⟩ [1,3,2] (by decide) I
 ·rintro⟨b3,b4⟩
  refine zE (zA (zB (wP I (wB 1 I I I (wP I (wB 2 I I I (wP I (wP I (wB 1 I I I (wP I (wB 2 I I I (wP I ?_))))))))))))
  refine GB (spot 0 0) tH I I I I I (fun W=>by kernel_rfl) I I ?_
  refine wP I (wB 1 I I I (wP I (wB 2 I I I (wP I (wP I (wB 1 I I I (wP I (wB 2 I I I (wP I ?_)))))))))
  refine GB (spot 0 0) tH I I I I I (fun W=>by kernel_rfl) I I ?_
  refine GB (Vt 0 0 0 0) tH I I I I I (fun W=>by kernel_rfl) I I ?_
  exact wS 0 I I I (zC (zE (zO (A9 tH I (.cell 0 I I I I I) () I O fun W _=>Av.nil _ _))))
theorem RM (a b c d a' b' c' d':Int):AQ Tryz.prog 222 [Vt a b c d,Vt a' b' c' d'] (.bool (decide (a≤c')&&decide (a'≤c)&&decide (b≤d')&&decide (b'≤d))):=by
 intro W
 refine Ab Tryz.func222 I I I ?_
 refine zA (zB ?_)
 refine wF I I fun _=> ?_
 refine wF I I fun _=> ?_
 refine wP I (zC (zE (zA (zB (wP I (wP I (wB 0 I I I (wP I (wP I (wB 1 I I I (wP I (wP I ?_))))))))))))
 refine AF 12 I (fun h12=> ?_) (fun h12=> ?_)
 ·refine wP I (wP I (wB 1 I I I (wP I (wP I (wB 0 I I I (wP I (wP I (wP I ?_))))))))
  refine AF 21 I (fun h21=> ?_) (fun h21=> ?_)
  ·refine wP I (wP I (wB 0 I I I (wP I (wP I (wB 1 I I I (wP I (wP I (wP I ?_))))))))
   refine AF 30 I (fun h30=> ?_) (fun h30=> ?_)
   ·exact wP I (wP I (wB 1 I I I (wP I (wP I (wB 0 I I I (wP I (wP I (wP I (zC (zE (zO (wR1 I I (by simp_all<;>(intros;omega))))))))))))))
   ·refine Ae I I ?_
    iterate 6 refine Ae I I ?_
    exact wP I (wP I (zC (zE (zO (wR1 I I (by simp_all<;>(intros;omega)))))))
  ·refine Ae I I ?_
   iterate 6 refine Ae I I ?_
   refine wP I (wP I ?_)
   iterate 7 refine Ae I I ?_
   exact wP I (wP I (zC (zE (zO (wR1 I I (by simp_all<;>(intros;omega)))))))
 ·refine Ae I I ?_
  iterate 6 refine Ae I I ?_
  refine wP I (wP I ?_)
  iterate 7 refine Ae I I ?_
  refine wP I (wP I ?_)
  iterate 7 refine Ae I I ?_
  exact wP I (wP I (zC (zE (zO (wR1 I I (by simp_all<;>(intros;omega)))))))
end
section
-- OLD
open Go Go.RowKit Go.Am
set_option maxRecDepth 10000
-- BOXES 6
theorem DU.mk' {W0 W:World} {bxs:List Bx} {b:Nat} {p:Option Addr} {cap:Nat} {l:List Sd} (h:BW W0 p l) (hp:Hp W0 bxs W) (k:Nat) (hk:nth bxs k=some ⟨b,76,[slv p l.length cap],true,none⟩):DU b p cap l W:=
 ⟨An.of_bx hp k hk rfl,h.hp hp⟩
def CL (l:List Sd):Nat→Int
 |0=>0
 |k+1=>w64 (CL l k+w64 (w64 ((sd l k).x*(sd l (nxt l.length k)).y)-w64 ((sd l k).y*(sd l (nxt l.length k)).x)))
theorem SX (W:World) (p:Option Addr) (cap:Nat) (l:List Sd) (hn:l.length<4611686018427387904) (hR:BW W p l):
  Ad Tryz.prog 223 #[slv p l.length cap] W (fun _:Unit=> .int .i64 (CL l l.length)) (fun _=>True) (fun _=>[]):=by
 refine Ab (args:=[slv p l.length cap]) Tryz.func223 I I I ?_
 refine zA (zB (wP I (zC (zE (zA (zB ?_))))))
 refine Bn (z:= .int .i64 0) I I I (fun W=>by kernel_rfl) fun b3=> ?_
 refine wS 0 I I I (zC (zE (zA (zA (zB (wP I ?_))))))
 refine wD (X:=Nat) I I (fun W _=>EU p l.length cap W) ?_
 intro b _
 refine zC (zE (zH ?_))
 refine Eo (X:=Nat) (fun k=>[⟨b3,3,[.int .i64 (CL l k)],true,none⟩,⟨b,76,[slv p l.length cap],true,none⟩]) (fun k x=>x=k) (fun _ _=>False) 0 I (by kernel_rfl) (FT b p cap l hn) (fun _=>rfl) I [] I (fun k x W _ hp=>DU.mk' hR hp 1 I) ?_ ?_ (fun _ _ _ _ _ h=>h.elim)
 ·intro k x d L rec hk hx hrec
  subst hx
  refine zB ?_
  refine Bn (z:=H4 default default default) I I I (fun W=>by kernel_rfl) fun b5=> ?_
  refine wS 4 I I I (zC ?_)
  refine CC 3 hrec I ?_
  refine zH (zU (qB 0 I I I (qP I (qB 4 I I I (qC I I (fun W _=>B9 (sd l x) W) (qP I (qB 4 I I I (qC I I (fun W _=>B9 (sd l (nxt l.length x)) W) (qC I I (fun W _=>Lh _ _ _ _ W) (qP I (zD (wS 0 I I I (zC ?_)))))))))))))
  exact zN (B6 3 (x+1) hrec I I [_] I)
 ·intro x d L rec hx
  subst hx
  refine zN (zE (zA (zB (wB 0 I I I (wP I (zC (zE (zO ?_))))))))
  refine D2 2 I ?_
  exact wR1 I I I
end
section
-- OLD
open Go Go.RowKit Go.Am
set_option maxRecDepth 10000
-- BOXES 8
-- EQB 4
structure YL (W:World) (b off:Nat) (rs:List (List Sd)):Prop where
 get: ∀(i:Nat) (l:List Sd),rs[i]? =some l→ ∃p cap,An W b (off+i*1) [slv p l.length cap]∧BW W p l
def BD (W:World) (p:Option Addr) (rs:List (List Sd)):Prop:=rs=[]∨ ∃b off,p=some ⟨b,off,none⟩∧YL W b off rs
def rg (rs:List (List Sd)) (i:Nat):List Sd:=rs.getD i []
theorem Bd {rs:List (List Sd)} {i:Nat} (h:i<rs.length):rs[i]? =some (rg rs i):=by simp[rg,h]
theorem BD.row {W:World} {p:Option Addr} {rs:List (List Sd)} (h:BD W p rs) {i:Nat} (hi:i<rs.length):
  ∃b off,p=some ⟨b,off,none⟩∧ ∀k,k<rs.length→ ∃q cap,An W b (off+k*1) [slv q (rg rs k).length cap]∧BW W q (rg rs k):=by
 rcases h with rfl|⟨b,off,h1,h2⟩
 ·simp at hi
 ·exact⟨b,off,h1,fun k hk=>h2.get k _ (Bd hk)⟩
theorem BD.below {W W':World} {p:Option Addr} {rs:List (List Sd)} {n:Nat} (h:BD W p rs) (hn:W.heap.size≤n) (hb:Below n W W'):BD W' p rs:=by
 rcases h with h|⟨b,off,h1,h2⟩
 ·exact .inl h
 ·refine .inr ⟨b,off,h1,⟨fun i l hl=> ?_⟩⟩
  obtain⟨q,cap,h3,h4⟩:=h2.get i l hl
  exact⟨q,cap,h3.below hn hb,h4.below hn hb⟩
end
section
open Go Go.RowKit Go.Am
set_option maxRecDepth 10000
-- BOXES 3
theorem SP (W:World) (m:Nat) (hm:m<1099511627776):Ad Tryz.prog 165 #[.slice none 0 0, .int .i64 (m:Nat)] W (fun V:Vec=>V.val 0) (fun V=>V.OK 7 0 []∧(0<m→V.p≠none)) (fun V=>[V.bx 80 []]):=by
 refine Ab (args:=[.slice none 0 0, .int .i64 (m:Nat)]) Tryz.func165 I I I ?_
 refine zA (zB (wP I (Aa (zE (zA (zA (zB (wP I (wP I (Aa (zE (zS I (zI ?_)))))))))))))
 refine zE (zA (zA (zB ?_)))
 iterate 8 refine wP I ?_
 refine Aa (zE (zA (zB (wP I (wP I (Aa (zE ?_)))))))
 have e14:w64 ((m:Int)-w64 (0-0))=m:=by
  have:w64 (0-0)=0:=rfl
  rw[this];exact(Ai (by omega) (by omega)).trans (by omega)
 refine AP 16 _ I (show Value.bool (decide (w64 ((m:Int)-w64 (0-0))>0))= .bool (decide (0<m)) by rw[e14];congr 1;simp) ?_
 refine Af I (fun h=> ?_) (fun h=> ?_)
 ·have h:0<m:=by simpa using h
  refine zB (wP I (wP I (wP I ?_)))
  refine CN 0 tH I I I I I I I I (Nat.le_refl _) ?_
  refine wP I ?_
  refine N6 Tryz.vec76 (ku:= .i64) (by kernel_rfl) m I I I I I I I I e14 h (by simp only[maxLen];omega) (by omega) ?_
  intro V hV hp hj
  refine wP I (wP I ?_)
  obtain⟨p,cap,junk⟩:=V
  cases p with
  |none=>exact absurd rfl hp
  |some g=>
  refine CN (a:=some ⟨g,0,none⟩) (len:=m) (cap:=cap) 0 tH I I I I I I I I (Nat.zero_le _) ?_
  refine wP I (Aa (zE (zA (zB (wP I (wP I (Aa (zE (zO ?_)))))))))
  obtain⟨h1,h2,h3⟩:=hV.cap (by simp)
  refine A9 tH rfl (.tmp rfl) (⟨some g,cap,Bz [.int .i64 0, .int .i64 0, .int .i64 0, .int .i64 0, .bool false, .int .i64 0, .int .i64 0] m++junk⟩:Vec) rfl ⟨⟨rfl,(fun h=>by cases h),fun _=>⟨Nat.zero_le _,h2, ?_⟩⟩,fun _=>by simp⟩ fun W hp=>Av.of_hp1 hp 0 rfl
  show 0+(Bz _ m++junk).length=cap*7
  rw[List.length_append,Nat.zero_add]
  exact h3
 ·have h:m=0:=by simp at h;omega
  subst h
  exact zI (zE (zA (zB (wP rfl (wP rfl (Aa (zE (zO (A9 tH rfl (.tmp rfl) Vec.empty rfl ⟨Vec.OK.empty 7,fun h=>absurd h (Nat.lt_irrefl _)⟩ fun W hp=>Own.one (fun p hp=>by cases hp) List.nodup_nil)))))))))
def cellsOf (l:List Sd):List Value:=l.flatMap Sd.cells
theorem HL (l m:List Sd):cellsOf (l++m)=cellsOf l++cellsOf m:=List.flatMap_append
theorem Ev: ∀l:List Sd,(cellsOf l).length=l.length*7
 |[]=>rfl
 |s::l=>by
  show(s.cells++cellsOf l).length=_
  rw[List.length_append,Ev l,List.length_cons]
  show 7+l.length*7=(l.length+1)*7
  omega
theorem Io: ∀(l:List Sd) (i:Nat) (s:Sd),l[i]? =some s→ ∀j,j<7→(cellsOf l)[i*7+j]? =s.cells[j]?
 |[],i,s,h,_,_=>by simp at h
 |t::l,0,s,h,j,hj=>by
  obtain rfl:t=s:=by simpa using h
  show(t.cells++cellsOf l)[0*7+j]? =_
  rw[Nat.zero_mul,Nat.zero_add,List.getElem?_append_left (show j<t.cells.length from hj)]
 |t::l,i+1,s,h,j,hj=>by
  show(t.cells++cellsOf l)[(i+1)*7+j]? =_
  rw[List.getElem?_append_right (show t.cells.length≤(i+1)*7+j by show 7≤_;omega)]
  show(cellsOf l)[(i+1)*7+j-7]? =_
  rw[show(i+1)*7+j-7=i*7+j by omega]
  exact Io l i s (by simpa using h) j hj
theorem Lf: ∀l:List Sd, ∀u∈cellsOf l,u.oneCell'=true:=fun l u hu=>by
 obtain⟨s,_,h⟩:=List.mem_flatMap.1 hu
 simp at h
 rcases h with rfl|rfl|rfl|rfl|rfl|rfl|rfl<;>rfl
theorem FA.of_cells {W:World} {b off:Nat} {l:List Sd} (hlt:b<W.heap.size) (h: ∀j u,(cellsOf l)[j]? =some u→W.cell? ⟨b,off+j,none⟩=some u):FA W b off l:=by
 refine⟨fun i s hs=>⟨hlt,fun j u hj=> ?_⟩⟩
 have hj':j<7:=(List.getElem?_eq_some_iff.1 hj).1
 have h1:=Io l i s hs j hj'
 rw[hj] at h1
 rw[Nat.add_assoc]
 exact h _ _ h1
theorem FA.cells {W:World} {b off:Nat} {l:List Sd} (h:FA W b off l): ∀j u,(cellsOf l)[j]? =some u→W.cell? ⟨b,off+j,none⟩=some u:=by
 intro j u hj
 have hlt:j<l.length*7:=by rw[←Ev];exact(List.getElem?_eq_some_iff.1 hj).1
 have hi:j/7<l.length:=by omega
 have h1:=Io l (j/7) _ (List.getElem?_eq_getElem hi) (j%7) (Nat.mod_lt _ (by omega))
 have e:j/7*7+j%7=j:=by omega
 rw[e,hj] at h1
 have h2:=(h.get (j/7) _ (List.getElem?_eq_getElem hi)).get (j%7) u h1.symm
 rw[Nat.add_assoc,e] at h2
 exact h2
theorem Vec.ring {V:Vec} {l:List Sd} (hV:V.OK 7 l.length (cellsOf l)): ∃p cap,V.val l.length=slv p l.length cap∧ ∀ {W0 W:World} {bxs:List Bx},Hp W0 bxs W→ ∀k,nth bxs k=some (V.bx 80 (cellsOf l))→BW W p l:=by
 obtain⟨p,cap,junk⟩:=V
 cases p with
 |none=>
  have h0:=hV.nil rfl
  refine⟨none,0,by rw[h0];rfl,fun _ _ _=> .inl (List.length_eq_zero_iff.1 h0)⟩
 |some g=>
  refine⟨some ⟨g,0,none⟩,cap,I,fun hp k hk=> .inr ⟨g,0,I,FA.of_cells (An.of_bx hp k hk I).lt fun j u hj=> ?_⟩⟩
  refine(An.of_bx hp k hk I).get j u ?_
  show(cellsOf l++junk)[j]? =some u
  rw[List.getElem?_append_left (List.getElem?_eq_some_iff.1 hj).1]
  exact hj
def tot (rs:List (List Sd)):Nat:=(rs.map List.length).sum
theorem FD (rs:List (List Sd)):rs.flatten.length=tot rs:=by simp[tot,List.length_flatten]
theorem KD {rs:List (List Sd)} {k:Nat} (hk:k<rs.length):(rs.take (k+1)).flatten=(rs.take k).flatten++rg rs k:=by
 rw[List.take_add_one,Bd hk];simp
theorem Cf (rs:List (List Sd)) (k:Nat):tot (rs.take k)≤tot rs:=by
 conv=>rhs;rw[←List.take_append_drop k rs]
 unfold tot
 rw[List.map_append,List.sum_append];omega
theorem Bj {rs:List (List Sd)} {k:Nat} (hk:k<rs.length):tot (rs.take (k+1))=tot (rs.take k)+(rg rs k).length:=by
 rw[←FD, ←FD,KD hk,List.length_append]
theorem JN (W:World) (p:Option Addr) (cap:Nat) (rs:List (List Sd)) (hn:rs.length<4611686018427387904) (hT:tot rs<1099511627776) (hR:BD W p rs) (hne: ∀l∈rs,l≠[]):
  Ad Tryz.prog 112 #[slv p rs.length cap] W (fun V:Vec=>V.val rs.flatten.length) (fun V=>V.OK 7 rs.flatten.length (cellsOf rs.flatten)) (fun V=>[V.bx 80 (cellsOf rs.flatten)]):=by
 refine Ab (args:=[slv p rs.length cap]) Tryz.func112 I I I ?_
 refine zA (zB (wP I (Aa (zE (zA (zB (wP I (Aa (zE (zA (zA (zB (wP I (wP I (wP I ?_)))))))))))))))
 refine Aa (zE (zH ?_))
 refine Ar (X:=Nat) (fun k=>[(0,slv p rs.length cap),(3, .int .i64 (tot (rs.take k):Nat)),(9,slv p rs.length cap),(10, .int .i64 (rs.length:Nat)),(11, .int .i64 (k:Nat))]) (fun _=>[])
  (fun k=>k≤rs.length) (fun k=>rs.length-k) 0 (Nat.zero_le _) ⟨rfl,rfl,rfl,rfl,rfl,trivial⟩ [] rfl ?_
 intro k hk
 refine zA (zB (wP I (Aa (zE (zA ?_)))))
 refine Af I (fun h=> ?_) (fun h=> ?_)
 ·have hk:k<rs.length:=by simp at h;omega
  clear h
  obtain⟨b,off,rfl,hrow⟩:=hR.row hk
  obtain⟨q,cap2,hq1,hq2⟩:=hrow k hk
  refine zI (zE (zA (zH (zA (zB ?_)))))
  refine wJ ?_
  refine wL 0 I I (fun W hp=>hq1.hp hp) I (wP I (Aa (zE (zA (zB ?_)))))
  iterate 5 refine wP I ?_
  refine Aa ?_
  have hs:w64 ((tot (rs.take k):Nat)+((rg rs k).length:Nat))=(tot (rs.take (k+1)):Nat):=by
   have h1:=Bj hk
   have h2:=Cf rs (k+1)
   rw[Ai (by omega) (by omega)];omega
  refine zE (zA (zB ?_))
  refine Ak 3 _ I (congrArg (Value.int .i64) hs) ?_
  exact wP I (wP I (Aa (zE (zS I (zI (zN (zE (zB (wP I (wP I (Aa (Al (k+1) hk (by omega) ⟨I,I,I,I,congrArg (fun z=>some (Value.int .i64 z)) (AE (x:=(k:Int)+1) (by omega) (by omega)),O⟩ [] I))))))))))))
 ·have e:k=rs.length:=by simp at h;omega
  subst e
  clear h
  rw[List.take_length]
  refine zJ (zK (zK (zL (zE (zA (zB (wP I ?_)))))))
  refine wD (X:=Vec) I I (fun W _=>SP W (tot rs) hT) ?_
  rintro V0 ⟨hV0,hV0p⟩
  refine wP I (Aa (zE (zA (zA (zB (wP I (wP I (wP I (Aa (zE (zH ?_)))))))))))
  refine Ar (X:=Nat×Vec) (fun x=>[(6,x.2.val (tot (rs.take x.1))),(25,slv p rs.length cap),(26, .int .i64 (rs.length:Nat)),(27, .int .i64 (x.1:Nat))]) (fun x=>[x.2.bx 80 (cellsOf (rs.take x.1).flatten)])
   (fun x=>x.1≤rs.length∧x.2.OK 7 (tot (rs.take x.1)) (cellsOf (rs.take x.1).flatten)) (fun x=>rs.length-x.1) (0,V0) ⟨Nat.zero_le _,hV0⟩ ⟨rfl,rfl,rfl,rfl,trivial⟩ [] rfl ?_
  rintro⟨k,V⟩ ⟨hk,hV⟩
  refine zA (zB (wP I (Aa (zE (zA ?_)))))
  refine Af I (fun h=> ?_) (fun h=> ?_)
  ·have hk:k<rs.length:=by simp at h;omega
   clear h
   obtain⟨b,off,rfl,hrow⟩:=hR.row hk
   obtain⟨q,cap2,hq1,hq2⟩:=hrow k hk
   refine zI (zE (zA (zH (zA (zB ?_)))))
   refine wJ ?_
   refine wL 0 I I (fun W hp=>hq1.hp hp) I (wP I (Aa (zE (zB (wP I (wP I ?_))))))
   obtain⟨b2,off2,rfl,hRk⟩: ∃b off,q=some ⟨b,off,none⟩∧FA W b off (rg rs k):=by
    rcases hq2 with h|h
    ·exact absurd h (hne _ (List.mem_of_getElem? (Bd hk)))
    ·exact h
   have h1:=Bj hk
   have h2:=Cf rs (k+1)
   refine CW (len:=tot (rs.take k)) 0 Tryz.vec76 I I I I I I I I I hV (Ev (rg rs k)) (fun W hp j u hj=> ?_) (Lf _) (by simp only[maxLen];omega) (by omega) ?_
   ·have hR':BW W (some ⟨b2,off2,none⟩) (rg rs k):=BW.hp (.inr ⟨b2,off2,rfl,hRk⟩) hp
    rcases hR' with h|⟨b3,off3,e,hR'⟩
    ·exact absurd h (hne _ (List.mem_of_getElem? (Bd hk)))
    ·cases e
     rw[Addr.add_none]
     exact hR'.cells j u hj
   intro V' hV' _
   have e3:cellsOf (rs.take k).flatten++cellsOf (rg rs k)=cellsOf (rs.take (k+1)).flatten:=by rw[KD hk,HL]
   rw[e3, ←h1] at hV'
   rw[e3, ←h1]
   exact wP I (Aa (zN (zE (zB (wP I (wP I (Aa (Al (k+1,V') ⟨hk,hV'⟩ (by show rs.length-(k+1)<rs.length-k;omega) ⟨I,I,I,congrArg (fun z=>some (Value.int .i64 z)) (AE (x:=(k:Int)+1) (by omega) (by omega)),O⟩ [] I))))))))
  ·have e:k=rs.length:=by simp at h;omega
   subst e
   rw[List.take_length] at hV
   rw[List.take_length]
   refine zJ (zK (zK (zL (zE (zA (zB (wP I (wP I (Aa (zE (zO ?_)))))))))))
   refine A9 tH I (.tmp I) V (by rw[FD]) (by rw[FD];exact hV) fun W hp=>Av.of_hp1 hp 0 I
-- BOXES 12
def lox (t u:Sd):Int:=if u.x<t.x then u.x else t.x
def loy (t u:Sd):Int:=if u.y<t.y then u.y else t.y
def hix (t u:Sd):Int:=if u.x>t.x then u.x else t.x
def hiy (t u:Sd):Int:=if u.y>t.y then u.y else t.y
def bsd (rs:List (List Sd)) (q:Nat×Nat):Sd:=sd (rg rs q.1) q.2
def esd (rs:List (List Sd)) (q:Nat×Nat):Sd:=sd (rg rs q.1) (nxt (rg rs q.1).length q.2)
def Cp (rs:List (List Sd)) (q:Nat×Nat):List Value:=[.int .i64 (lox (bsd rs q) (esd rs q)), .int .i64 (loy (bsd rs q) (esd rs q)), .int .i64 (hix (bsd rs q) (esd rs q)), .int .i64 (hiy (bsd rs q) (esd rs q))]
def Cb (q:Nat×Nat):List Value:=[.int .i64 (q.1:Nat), .int .i64 (q.2:Nat)]
def Bk (k j:Nat):List (Nat×Nat):=(List.range j).map fun i=>(k,i)
def AC (rs:List (List Sd)):Nat→List (Nat×Nat)
 |0=>[]
 |k+1=>AC rs k++Bk k (rg rs k).length
theorem UV (k j:Nat):Bk k (j+1)=Bk k j++[(k,j)]:=by simp[Bk,List.range_succ]
theorem MT (k j:Nat):(Bk k j).length=j:=by simp[Bk]
theorem ID (rs:List (List Sd)): ∀k,k≤rs.length→(AC rs k).length=tot (rs.take k)
 |0,_=>rfl
 |k+1,h=>by
  rw[Bj (by omega)]
  show(AC rs k++Bk k _).length=_
  rw[List.length_append,ID rs k (by omega),MT]
theorem OG (rs:List (List Sd)): ∀k, ∀q∈AC rs k,q.1<k∧q.2<(rg rs q.1).length
 |0,q,h=>by cases h
 |k+1,q,h=>by
  rcases List.mem_append.1 h with h|h
  ·have:=OG rs k q h
   exact⟨by omega,this.2⟩
  ·obtain⟨i,hi,rfl⟩:=List.mem_map.1 h
   exact⟨Nat.lt_succ_self k,List.mem_range.1 hi⟩
def nbB (n:Nat) (q q':Nat×Nat):Bool:=(q.1==q'.1)&&(((q.2:Int)-q'.2==1)||((q.2:Int)-q'.2==(n:Int)-1))
def E1 (t u t' u':Sd):Bool:=decide (lox t u≤hix t' u')&&decide (lox t' u'≤hix t u)&&decide (loy t u≤hiy t' u')&&decide (loy t' u'≤hiy t u)
def CY (rs:List (List Sd)) (q q':Nat×Nat):Bool:= !nbB (rg rs q.1).length q q'&&E1 (bsd rs q) (esd rs q) (bsd rs q') (esd rs q')
def pl (rs:List (List Sd)) (i:Nat):Nat×Nat:=(AC rs rs.length).getD i (0,0)
def crs (rs:List (List Sd)):Bool:=(List.range (tot rs)).any fun i=>(List.range i).any fun k=>CY rs (pl rs i) (pl rs k)
theorem RO {α:Type} (f:α→List Value) (n:Nat) (hf: ∀x,(f x).length=n): ∀(l:List α) (i:Nat) (x:α),l[i]? =some x→ ∀(j:Nat) (u:Value),(f x)[j]? =some u→(l.flatMap f)[i*n+j]? =some u
 |[],i,x,h,_,_,_=>by simp at h
 |y::l,0,x,h,j,u,hu=>by
  obtain rfl:y=x:=by simpa using h
  rw[List.flatMap_cons,Nat.zero_mul,Nat.zero_add,List.getElem?_append_left (List.getElem?_eq_some_iff.1 hu).1]
  exact hu
 |y::l,i+1,x,h,j,u,hu=>by
  rw[List.flatMap_cons,List.getElem?_append_right (by rw[hf];rw[Nat.add_mul];omega),hf]
  rw[show(i+1)*n+j-n=i*n+j by rw[Nat.add_mul];omega]
  exact RO f n hf l i x (by simpa using h) j u hu
theorem Vec.rowAt {α:Type} {f:α→List Value} {n:Nat} (hf: ∀x,(f x).length=n) {l:List α} {g cap:Nat} {junk:List Value} {e:TypeId} {W0 W:World} {bxs:List Bx} (hp:Hp W0 bxs W) (k:Nat) (hk:nth bxs k=some ((⟨some g,cap,junk⟩:Vec).bx e (l.flatMap f))) {i:Nat} {x:α} (hi:l[i]? =some x):
  An W g (0+i*n) (f x):=by
 have h:=An.of_bx hp k hk rfl
 refine⟨h.lt,fun j u hu=> ?_⟩
 have h1:=RO f n hf l i x hi j u hu
 have:=h.get (i*n+j) u (by
  show(l.flatMap f++junk)[i*n+j]? =some u
  rw[List.getElem?_append_left (List.getElem?_eq_some_iff.1 h1).1]
  exact h1)
 rw[Nat.zero_add] at this⊢
 exact this
theorem Vec.val_eq {V:Vec} {size n:Nat} {xs:List Value} (h:V.OK size n xs):V.val n= .slice (V.p.map fun g=>⟨g,0,none⟩) n (match V.p with|none=>0|some _=>V.cap):=by
 obtain⟨p,cap,junk⟩:=V
 cases p with
 |none=>have:=h.nil rfl;subst this;rfl
 |some g=>rfl
theorem Ir {n:Nat} {f:Nat→Bool} {k:Nat} (hk:k<n) (h:f k=true):(List.range n).any f=true:=List.any_eq_true.2 ⟨k,List.mem_range.2 hk,h⟩
theorem DJ {n:Nat} {f:Nat→Bool} (h: ∀k,k<n→f k=false):(List.range n).any f=false:=Bool.eq_false_iff.2 fun h2=>by
 obtain⟨k,hk,h3⟩:=List.any_eq_true.1 h2
 rw[h k (List.mem_range.1 hk)] at h3;cases h3
theorem MQ (W:World) (p:Option Addr) (cap:Nat) (rs:List (List Sd)) (hn:rs.length<4611686018427387904) (hT:tot rs<1099511627776) (hl: ∀l∈rs,l.length<4611686018427387904) (hR:BD W p rs):
  Ad Tryz.prog 150 #[slv p rs.length cap] W (fun _:Unit=> .bool (crs rs)) (fun _=>True) (fun _=>[]):=by
 refine Ab (args:=[slv p rs.length cap]) Tryz.func150 I I I ?_
 refine zA (zB (wP I (Aa (zE (zA (zB ?_))))))
 (refine Ah Tryz.hZ rfl rfl rfl rfl ?_;intro)
 refine Aa ?_
 rename_i b3
 refine zE (zA (zB ?_))
 (refine Ah Tryz.hZ rfl rfl rfl rfl ?_;intro)
 refine Aa ?_
 rename_i b4
 refine zE (zA (zA (zB (wP I (wP I (wP I (Aa (zE (zH ?_)))))))))
 iterate 2 refine DM ?_
 refine OR ?_
 refine MY (X:=Nat×Vec×Vec×List Nat) (fun x=>x.2.2.2.map Dj) (fun x=>[(0,slv p rs.length cap),(3, .pointer (some ⟨b3,0,none⟩)),(4, .pointer (some ⟨b4,0,none⟩)),(14,slv p rs.length cap),(15, .int .i64 (rs.length:Nat)),(16, .int .i64 (x.1:Nat))])
  (fun x=>[⟨b3,219,[x.2.1.val (AC rs x.1).length],true,none⟩,⟨b4,220,[x.2.2.1.val (AC rs x.1).length],true,none⟩,x.2.1.bx 222 ((AC rs x.1).flatMap (Cp rs)),x.2.2.1.bx 225 ((AC rs x.1).flatMap Cb),bag x.2.2.2])
  (fun x=>x.1≤rs.length∧x.2.1.OK 4 (AC rs x.1).length ((AC rs x.1).flatMap (Cp rs))∧x.2.2.1.OK 2 (AC rs x.1).length ((AC rs x.1).flatMap Cb)) (fun x=>rs.length-x.1) (0,Vec.empty,Vec.empty,[])
  ⟨Nat.zero_le _,Vec.OK.empty 4,Vec.OK.empty 2⟩ rfl ⟨rfl,rfl,rfl,rfl,rfl,rfl,trivial⟩ [] rfl ?_
 rintro⟨k,V1,V2,ds⟩ ⟨hk0,hV10,hV20⟩
 have hk:k≤rs.length:=hk0
 have hV1:V1.OK 4 (AC rs k).length ((AC rs k).flatMap (Cp rs)):=hV10
 have hV2:V2.OK 2 (AC rs k).length ((AC rs k).flatMap Cb):=hV20
 clear hk0 hV10 hV20
 refine zA (zB (wP I (Aa (zE (zA ?_)))))
 refine Af I (fun h=> ?_) (fun h=> ?_)
 ·have hk:k<rs.length:=by simp at h;omega
  clear h
  obtain⟨b',off,rfl,hrow⟩:=hR.row hk
  obtain⟨q,cap2,hq1,hq2⟩:=hrow k hk
  have hlk:(rg rs k).length<4611686018427387904:=hl _ (List.mem_of_getElem? (Bd hk))
  refine zI (zE (zA (zH (zA (zB (wP I ?_))))))
  refine wJ ?_
  refine wL 0 I I (fun W hp=>hq1.hp hp) I ?_
  (refine Ah Tryz.hZ rfl rfl rfl rfl ?_;intro)
  rename_i b5
  refine wS 5 I I I (wP I (Aa (zE (zA (zB (wP I ?_))))))
  refine wD (X:=Nat) I I (fun W _=>EU q (rg rs k).length cap2 W) ?_
  intro b _
  refine Aa (zE (zH ?_))
  refine Eo (X:=Vec×Vec×Nat) (fun x=>[⟨b3,219,[x.1.val (AC rs k++Bk k x.2.2).length],true,none⟩,⟨b4,220,[x.2.1.val (AC rs k++Bk k x.2.2).length],true,none⟩,x.1.bx 222 ((AC rs k++Bk k x.2.2).flatMap (Cp rs)),x.2.1.bx 225 ((AC rs k++Bk k x.2.2).flatMap Cb),bag ds,⟨b5,3,[.int .i64 (k:Nat)],true,none⟩,⟨b,76,[slv q (rg rs k).length cap2],true,none⟩])
   (fun j x=>x.2.2=j∧x.1.OK 4 (AC rs k++Bk k x.2.2).length ((AC rs k++Bk k x.2.2).flatMap (Cp rs))∧x.2.1.OK 2 (AC rs k++Bk k x.2.2).length ((AC rs k++Bk k x.2.2).flatMap Cb)) (fun _ _=>False) (V1,V2,0) rfl (by kernel_rfl) (FT b q cap2 (rg rs k) hlk) (fun _=>rfl)
   ⟨rfl,by show V1.OK 4 (AC rs k++Bk k 0).length _;rw[show AC rs k++Bk k 0=AC rs k by simp[Bk]];exact hV1,by show V2.OK 2 (AC rs k++Bk k 0).length _;rw[show AC rs k++Bk k 0=AC rs k by simp[Bk]];exact hV2⟩ []
   (by show _=_++[];rw[show AC rs k++Bk k (V1,V2,0).2.2=AC rs k by simp[Bk]];rfl) (fun j x W _ hp=>DU.mk' hq2 hp 6 rfl) ?_ ?_ (fun _ _ _ _ _ h=>h.elim)
  ·rintro j' ⟨U1,U2,j⟩ d L rec hj ⟨e1,hU1,hU2⟩ hrec
   obtain rfl:j=j':=e1
   have hU1:U1.OK 4 (AC rs k++Bk k j).length ((AC rs k++Bk k j).flatMap (Cp rs)):=hU1
   have hU2:U2.OK 2 (AC rs k++Bk k j).length ((AC rs k++Bk k j).flatMap Cb):=hU2
   have hlen:(AC rs k++Bk k (j+1)).length≤tot rs:=by
    rw[List.length_append,MT,ID rs k (by omega)]
    have h1:=Bj hk
    have h2:=Cf rs (k+1)
    omega
   have hlen1:(AC rs k++Bk k (j+1)).length=(AC rs k++Bk k j).length+1:=by
    simp only[List.length_append,MT];omega
   have es:AC rs k++Bk k (j+1)=(AC rs k++Bk k j)++[(k,j)]:=by rw[UV,List.append_assoc]
   have eb1:(AC rs k++Bk k (j+1)).flatMap (Cp rs)=(AC rs k++Bk k j).flatMap (Cp rs)++Cp rs (k,j):=by rw[es,List.flatMap_append];simp
   have eb2:(AC rs k++Bk k (j+1)).flatMap Cb=(AC rs k++Bk k j).flatMap Cb++Cb (k,j):=by rw[es,List.flatMap_append];simp
   refine zA (zB (wP I (Aa (zE (zB ?_)))))
   (refine Ah Tryz.hZ rfl rfl rfl rfl ?_;intro)
   refine wS 9 I I I (Aa ?_)
   rename_i b8
   refine CC 8 hrec I ?_
   refine BJ ?_
   refine JJ (X:= {x:Vec×Vec//x.1.OK 4 (AC rs k++Bk k (j+1)).length ((AC rs k++Bk k (j+1)).flatMap (Cp rs))∧x.2.OK 2 (AC rs k++Bk k (j+1)).length ((AC rs k++Bk k (j+1)).flatMap Cb)}) (fun _=>[(3, .pointer (some ⟨b3,0,none⟩)),(4, .pointer (some ⟨b4,0,none⟩))])
    (fun x=>[⟨b3,219,[x.1.1.val (AC rs k++Bk k (j+1)).length],true,none⟩,⟨b4,220,[x.1.2.val (AC rs k++Bk k (j+1)).length],true,none⟩,x.1.1.bx 222 ((AC rs k++Bk k (j+1)).flatMap (Cp rs)),x.1.2.bx 225 ((AC rs k++Bk k (j+1)).flatMap Cb),bag ds,⟨b5,3,[.int .i64 (k:Nat)],true,none⟩,⟨b,76,[slv q (rg rs k).length cap2],true,none⟩,BR d,Bp L rec .busy none]) 6 [⟨b3,219,[U1.val (AC rs k++Bk k j).length],true,none⟩,⟨b4,220,[U2.val (AC rs k++Bk k j).length],true,none⟩,DD,DD,bag ds,⟨b5,3,[.int .i64 (k:Nat)],true,none⟩,⟨b,76,[slv q (rg rs k).length cap2],true,none⟩,BR d,Bp L rec .busy none,⟨b8,213,(H4 (sd (rg rs k) (prv (rg rs k).length j)) (sd (rg rs k) j) (sd (rg rs k) (nxt (rg rs k).length j))).cells.toList,true,none⟩] Tryz.mixed (by kernel_rfl) ?_ ?_
   ·refine qB 0 I I I (qB 9 I I I (qC I I (fun W _=>(RD ..)) (qB 1 I I I (qB 5 I I I (qP I ?_)))))
    refine US Tryz.hZ tH I I I I I I I I ?_
    refine CH (wX ?_)
    refine RS.cons ?_ (RS.cons ?_ (RS.nil))
    ·(refine As Tryz.hZ tH rfl rfl rfl rfl rfl rfl rfl rfl rfl rfl rfl ?_;intro)
     refine Aa (Ag (wX ?_))
     refine RS.cons ?_ (RS.cons ?_ (RS.nil))
     ·(first|refine AB 2 10 Tryz.vec219 (AC rs k++Bk k (j+1)).length ((AC rs k++Bk k (j+1)).flatMap (Cp rs)) rfl rfl rfl rfl rfl rfl rfl rfl rfl rfl rfl hU1 rfl rfl hlen1.symm (by rw[eb1];rfl) (by simp only[maxLen];omega) (by omega) rfl ?_|refine AB 2 11 Tryz.vec219 (AC rs k++Bk k (j+1)).length ((AC rs k++Bk k (j+1)).flatMap (Cp rs)) rfl rfl rfl rfl rfl rfl rfl rfl rfl rfl rfl hU1 rfl rfl hlen1.symm (by rw[eb1];rfl) (by simp only[maxLen];omega) (by omega) rfl ?_);intro g1 c1 j1 hU1'
      refine Aa (Ag (wX (wZ ?_)))
      (refine As Tryz.hZ tH rfl rfl rfl rfl rfl rfl rfl rfl rfl rfl rfl ?_;intro)
      refine Aa (Ag (wX (wZ ?_)))
      (first|refine AB 3 10 Tryz.vec220 (AC rs k++Bk k (j+1)).length ((AC rs k++Bk k (j+1)).flatMap Cb) rfl rfl rfl rfl rfl rfl rfl rfl rfl rfl rfl hU2 rfl rfl hlen1.symm (by rw[eb2];rfl) (by simp only[maxLen];omega) (by omega) rfl ?_|refine AB 3 11 Tryz.vec220 (AC rs k++Bk k (j+1)).length ((AC rs k++Bk k (j+1)).flatMap Cb) rfl rfl rfl rfl rfl rfl rfl rfl rfl rfl rfl hU2 rfl rfl hlen1.symm (by rw[eb2];rfl) (by simp only[maxLen];omega) (by omega) rfl ?_);intro g2 c2 j2 hU2'
      refine Aa (Ag (wX (wZ (wS 0 I I I (Aa (Ag (wY (wZ (wS 1 I I I (Aa (Ag ?_)))))))))))
      refine AD I (by kernel_rfl) ?_
      exact A6 ⟨(⟨some g1,c1,j1⟩,⟨some g2,c2,j2⟩),hU1',hU2'⟩ ⟨I,I,O⟩ [0,1,2,3,4,5,6,7,8] (by decide) I
     ·(refine As Tryz.hZ tH rfl rfl rfl rfl rfl rfl rfl rfl rfl rfl rfl ?_;intro)
      refine Aa (Ag (wX (wZ ?_)))
      (first|refine AB 2 10 Tryz.vec219 (AC rs k++Bk k (j+1)).length ((AC rs k++Bk k (j+1)).flatMap (Cp rs)) rfl rfl rfl rfl rfl rfl rfl rfl rfl rfl rfl hU1 rfl rfl hlen1.symm (by rw[eb1];rfl) (by simp only[maxLen];omega) (by omega) rfl ?_|refine AB 2 11 Tryz.vec219 (AC rs k++Bk k (j+1)).length ((AC rs k++Bk k (j+1)).flatMap (Cp rs)) rfl rfl rfl rfl rfl rfl rfl rfl rfl rfl rfl hU1 rfl rfl hlen1.symm (by rw[eb1];rfl) (by simp only[maxLen];omega) (by omega) rfl ?_);intro g1 c1 j1 hU1'
      refine Aa (Ag (wX (wZ ?_)))
      (first|refine AB 3 10 Tryz.vec220 (AC rs k++Bk k (j+1)).length ((AC rs k++Bk k (j+1)).flatMap Cb) rfl rfl rfl rfl rfl rfl rfl rfl rfl rfl rfl hU2 rfl rfl hlen1.symm (by rw[eb2];rfl) (by simp only[maxLen];omega) (by omega) rfl ?_|refine AB 3 11 Tryz.vec220 (AC rs k++Bk k (j+1)).length ((AC rs k++Bk k (j+1)).flatMap Cb) rfl rfl rfl rfl rfl rfl rfl rfl rfl rfl rfl hU2 rfl rfl hlen1.symm (by rw[eb2];rfl) (by simp only[maxLen];omega) (by omega) rfl ?_);intro g2 c2 j2 hU2'
      refine Aa (Ag (wX (wZ (wS 0 I I I (Aa (Ag (wY (wZ (wS 1 I I I (Aa (Ag ?_)))))))))))
      refine AD I (by kernel_rfl) ?_
      exact A6 ⟨(⟨some g1,c1,j1⟩,⟨some g2,c2,j2⟩),hU1',hU2'⟩ ⟨I,I,O⟩ [0,1,2,3,4,5,6,7,8] (by decide) I
    ·(refine As Tryz.hZ tH rfl rfl rfl rfl rfl rfl rfl rfl rfl rfl rfl ?_;intro)
     refine Aa (Ag (wX (wZ ?_)))
     (refine As Tryz.hZ tH rfl rfl rfl rfl rfl rfl rfl rfl rfl rfl rfl ?_;intro)
     refine Aa (Ag (wX (wZ ?_)))
     (first|refine AB 2 10 Tryz.vec219 (AC rs k++Bk k (j+1)).length ((AC rs k++Bk k (j+1)).flatMap (Cp rs)) rfl rfl rfl rfl rfl rfl rfl rfl rfl rfl rfl hU1 rfl rfl hlen1.symm (by rw[eb1];rfl) (by simp only[maxLen];omega) (by omega) rfl ?_|refine AB 2 11 Tryz.vec219 (AC rs k++Bk k (j+1)).length ((AC rs k++Bk k (j+1)).flatMap (Cp rs)) rfl rfl rfl rfl rfl rfl rfl rfl rfl rfl rfl hU1 rfl rfl hlen1.symm (by rw[eb1];rfl) (by simp only[maxLen];omega) (by omega) rfl ?_);intro g1 c1 j1 hU1'
     refine Aa (Ag (wX (wZ ?_)))
     (first|refine AB 3 10 Tryz.vec220 (AC rs k++Bk k (j+1)).length ((AC rs k++Bk k (j+1)).flatMap Cb) rfl rfl rfl rfl rfl rfl rfl rfl rfl rfl rfl hU2 rfl rfl hlen1.symm (by rw[eb2];rfl) (by simp only[maxLen];omega) (by omega) rfl ?_|refine AB 3 11 Tryz.vec220 (AC rs k++Bk k (j+1)).length ((AC rs k++Bk k (j+1)).flatMap Cb) rfl rfl rfl rfl rfl rfl rfl rfl rfl rfl rfl hU2 rfl rfl hlen1.symm (by rw[eb2];rfl) (by simp only[maxLen];omega) (by omega) rfl ?_);intro g2 c2 j2 hU2'
     refine Aa (Ag (wX (wZ (wS 0 I I I (Aa (Ag (wY (wZ (wS 1 I I I (Aa (Ag ?_)))))))))))
     refine AD I (by kernel_rfl) ?_
     exact A6 ⟨(⟨some g1,c1,j1⟩,⟨some g2,c2,j2⟩),hU1',hU2'⟩ ⟨I,I,O⟩ [0,1,2,3,4,5,6,7,8] (by decide) I
   ·rintro⟨⟨U1',U2'⟩,hU1',hU2'⟩
    exact zN (B6 8 (U1',U2',j+1) hrec I ⟨I,hU1',hU2'⟩ [] I)
  ·rintro⟨U1,U2,j⟩ d L rec ⟨e1,hU1,hU2⟩
   obtain rfl:j=(rg rs k).length:=e1
   refine zN (zN (zE (zB (wP I (wP I (Aa ?_))))))
   refine SC 4 7 I I ?_
   exact JI (X:=Nat×Vec×Vec×List Nat) (k+1,U1,U2,d::ds) ⟨hk,hU1,hU2⟩ (by show rs.length-(k+1)<rs.length-k;omega) I ⟨I,I,I,I,I,congrArg (fun z=>some (Value.int .i64 z)) (AE (x:=(k:Int)+1) (by omega) (by omega)),O⟩ [0,1,2,3,4] (by decide) I
 ·have e:k=rs.length:=by simp at h;omega
  subst e
  clear h hk
  have hpl:(AC rs rs.length).length=tot rs:=by rw[ID rs _ (Nat.le_refl _),List.take_length]
  have hget: ∀i,i<tot rs→(AC rs rs.length)[i]? =some (pl rs i):=fun i hi=>by
   rw[←hpl] at hi
   simp[pl,hi]
  have hmem: ∀i,i<tot rs→(pl rs i).1<rs.length∧(pl rs i).2<(rg rs (pl rs i).1).length:=fun i hi=>OG rs _ _ (List.mem_of_getElem? (hget i hi))
  rw[hpl] at hV1 hV2
  have hR2:=hR
  have hm62:tot rs<1099511627776:=hT
  refine zJ (zK (zK (zL (zE (zA (zA (zB (wB 0 I I I ?_))))))))
  refine Ak 37 (.slice (V1.p.map fun g=>⟨g,0,none⟩) (tot rs) (match V1.p with|none=>0|some _=>V1.cap)) I (show V1.val (AC rs rs.length).length=_ by rw[hpl];exact Vec.val_eq hV1) ?_
  refine wP I (wP I (Aa (zE (zH ?_))))
  refine Ar (X:=Nat) (fun i=>[(0,slv p rs.length cap),(3, .pointer (some ⟨b3,0,none⟩)),(4, .pointer (some ⟨b4,0,none⟩)),(38, .int .i64 (tot rs:Nat)),(39, .int .i64 (i:Nat))])
   (fun _=>[⟨b3,219,[V1.val (tot rs)],true,none⟩,⟨b4,220,[V2.val (tot rs)],true,none⟩,V1.bx 222 ((AC rs rs.length).flatMap (Cp rs)),V2.bx 225 ((AC rs rs.length).flatMap Cb),bag ds])
   (fun i=>i≤tot rs∧ ∀i',i'<i→((List.range i').any fun k=>CY rs (pl rs i') (pl rs k))=false) (fun i=>tot rs-i) 0 ⟨Nat.zero_le _,fun j hj=>absurd hj (Nat.not_lt_zero _)⟩ ⟨rfl,rfl,rfl,rfl,rfl,trivial⟩ []
   (by show _=_++[];rw[hpl];rfl) ?_
  rintro i ⟨hi,hno⟩
  refine zA (zB (wP I (Aa (zE (zA ?_)))))
  refine Af I (fun h=> ?_) (fun h=> ?_)
  rotate_left
  ·have e:i=tot rs:=by simp at h;omega
   subst e
   refine zJ (zK (zK (zL (zE (zA (zB (wP I (Aa (zE (zO ?_))))))))))
   refine HK 4 ds I ?_
   have hf:crs rs=false:=DJ hno
   exact wR1 I I (by rw[hf])
  have hi:i<tot rs:=by simp at h;omega
  clear h
  obtain⟨p1,cap1,junk1⟩:=V1
  obtain⟨p2,cap3,junk2⟩:=V2
  cases p1 with
  |none=>exact absurd (hV1.nil rfl) (Nat.ne_of_gt (Nat.lt_of_le_of_lt (Nat.zero_le i) hi))
  |some g1=>
  cases p2 with
  |none=>exact absurd (hV2.nil rfl) (Nat.ne_of_gt (Nat.lt_of_le_of_lt (Nat.zero_le i) hi))
  |some g2=>
  refine zI (zE (zA (zH (zA (zB (wP I (wP I (Aa (zE (zA (zB (wP I (wP I ?_)))))))))))))
  refine Aa (zE (zH ?_))
  refine Ar (X:=Nat) (fun k=>[(0,slv p rs.length cap),(3, .pointer (some ⟨b3,0,none⟩)),(4, .pointer (some ⟨b4,0,none⟩)),(38, .int .i64 (tot rs:Nat)),(39, .int .i64 (i:Nat)),(9, .int .i64 (i:Nat)),(42, .int .i64 (i:Nat)),(43, .int .i64 (k:Nat))])
   (fun _=>[⟨b3,219,[slv (some ⟨g1,0,none⟩) (tot rs) cap1],true,none⟩,⟨b4,220,[slv (some ⟨g2,0,none⟩) (tot rs) cap3],true,none⟩,(⟨some g1,cap1,junk1⟩:Vec).bx 222 ((AC rs rs.length).flatMap (Cp rs)),(⟨some g2,cap3,junk2⟩:Vec).bx 225 ((AC rs rs.length).flatMap Cb),bag ds])
   (fun k=>k≤i∧ ∀k',k'<k→CY rs (pl rs i) (pl rs k')=false) (fun k=>i-k) 0 ⟨Nat.zero_le _,fun j hj=>absurd hj (Nat.not_lt_zero _)⟩ ⟨rfl,rfl,rfl,rfl,rfl,rfl,rfl,rfl,trivial⟩ [] rfl ?_
  rintro k ⟨hk,hnok⟩
  refine zA (zB (wP I (Aa (zE (zA ?_)))))
  refine Af I (fun h=> ?_) (fun h=> ?_)
  rotate_left
  ·have e:k=i:=by simp at h;omega
   subst e
   refine zJ (zK (zK (zL (zN (zE (zB (wP I (wP I (Aa ?_)))))))))
   refine Al (k+1) ⟨hi,fun i' hi'=> ?_⟩ (by omega) ⟨I,I,I,I,congrArg (fun z=>some (Value.int .i64 z)) (AE (x:=(k:Int)+1) (by omega) (by omega)),O⟩ [] I
   by_cases e:i'=k
   ·subst e;exact DJ hnok
   ·exact hno i' (by omega)
  have hk:k<i:=by simp at h;omega
  clear h
  have hkt:k<tot rs:=by omega
  obtain⟨hi1,hi2⟩:=hmem i hi
  obtain⟨hk1,hk2⟩:=hmem k hkt
  obtain⟨b',off,rfl,hrow⟩:=hR.row hi1
  obtain⟨q,cap2,hq1,hq2⟩:=hrow _ hi1
  have hlk:(rg rs (pl rs i).1).length<4611686018427387904:=hl _ (List.mem_of_getElem? (Bd hi1))
  have hlk2:(rg rs (pl rs k).1).length<4611686018427387904:=hl _ (List.mem_of_getElem? (Bd hk1))
  refine zI (zE (zA (zH (zA (zB (wP I (wP I (Aa (zE (zA (zB (wP I (wB 1 I I I ?_)))))))))))))
  refine wP I ?_
  refine wJ ?_
  refine wP I (wL 0 I I (fun W hp=>Vec.rowAt (f:=Cb) (n:=2) (fun _=>rfl) hp 3 I (hget i hi)) I ?_)
  refine wJ ?_
  refine wL 0 I I (fun W hp=>hq1.hp hp) I (wP I (wP I (Aa (zE (zA (zU (qB 1 I I I (qP I ?_))))))))
  refine qJ ?_
  refine qP I (qL 1 I I (fun W hp=>Vec.rowAt (f:=Cb) (n:=2) (fun _=>rfl) hp 3 I (hget i hi)) I (qB 1 I I I (qP I ?_)))
  refine qJ ?_
  refine qP I (qL 1 I I (fun W hp=>Vec.rowAt (f:=Cb) (n:=2) (fun _=>rfl) hp 3 I (hget k hkt)) I (qP I (qP I (A4 (Aa ?_)))))
  have egap:w64 (((pl rs i).2:Nat)-((pl rs k).2:Nat))=((pl rs i).2:Int)-(pl rs k).2:=Ai (by omega) (by omega)
  have en1:w64 (((rg rs (pl rs i).1).length:Nat)-1)=((rg rs (pl rs i).1).length:Int)-1:=Ai (by omega) (by omega)
  refine A0 ?_
  refine AP 12 _ I (congrArg (Value.int .i64) egap) ?_
  refine Hl (X:=Unit) (fun _=>[(0,slv (some ⟨b',off,none⟩) rs.length cap),(3, .pointer (some ⟨b3,0,none⟩)),(4, .pointer (some ⟨b4,0,none⟩)),(38, .int .i64 (tot rs:Nat)),(39, .int .i64 (i:Nat)),(9, .int .i64 (i:Nat)),(10, .int .i64 (k:Nat)),(42, .int .i64 (i:Nat)),(43, .int .i64 (k:Nat)),(13, .bool (nbB (rg rs (pl rs i).1).length (pl rs i) (pl rs k)))])
   (fun _=>[⟨b3,219,[slv (some ⟨g1,0,none⟩) (tot rs) cap1],true,none⟩,⟨b4,220,[slv (some ⟨g2,0,none⟩) (tot rs) cap3],true,none⟩,(⟨some g1,cap1,junk1⟩:Vec).bx 222 ((AC rs rs.length).flatMap (Cp rs)),(⟨some g2,cap3,junk2⟩:Vec).bx 225 ((AC rs rs.length).flatMap Cb),bag ds]) (fun _=>True) ?_ ?_
  ·refine zU (qB 1 I I I (qP I ?_))
   refine qJ ?_
   refine qP I (qL 0 I I (fun W hp=>Vec.rowAt (f:=Cb) (n:=2) (fun _=>rfl) hp 3 I (hget i hi)) I (qB 1 I I I (qP I ?_)))
   refine qJ ?_
   refine qP I (qL 0 I I (fun W hp=>Vec.rowAt (f:=Cb) (n:=2) (fun _=>rfl) hp 3 I (hget k hkt)) I (qP I (qP I ?_)))
   have e1:((((pl rs i).1:Nat):Int)==(((pl rs k).1:Nat):Int))=((pl rs i).1==(pl rs k).1):=by
    by_cases h:(pl rs i).1=(pl rs k).1
    ·rw[h,beq_self_eq_true,beq_self_eq_true]
    ·have h1:(((pl rs i).1:Nat):Int)≠(pl rs k).1:=by omega
     rw[beq_eq_false_iff_ne.2 h1,beq_eq_false_iff_ne.2 h]
   refine He 77 I (fun h77=> ?_) (fun h77=> ?_)
   ·have h77':((pl rs i).1==(pl rs k).1)=true:=e1.symm.trans h77
    refine qP I (qP I (qP I ?_))
    refine He 80 I (fun h80=> ?_) (fun h80=> ?_)
    ·have e:nbB (rg rs (pl rs i).1).length (pl rs i) (pl rs k)=true:=by
      have h80':(((pl rs i).2:Int)-(pl rs k).2==1)=true:=h80
      unfold nbB;rw[h77',h80'];rfl
     iterate 4 refine BA I I ?_
     exact qP I (qP I (qP I (A4 (Aa (Aj () O ⟨I,I,I,I,I,I,I,I,I,by rw[e];rfl,O⟩ [] I)))))
    ·have e:nbB (rg rs (pl rs i).1).length (pl rs i) (pl rs k)=(((pl rs i).2:Int)-(pl rs k).2==w64 (((rg rs (pl rs i).1).length:Nat)-1)):=by
      have h80':(((pl rs i).2:Int)-(pl rs k).2==1)=false:=h80
      unfold nbB;rw[h77',h80',en1];rfl
     iterate 7 refine qP I ?_
     exact A4 (Aa (Aj () O ⟨I,I,I,I,I,I,I,I,I,by rw[e];rfl,O⟩ [] I))
   ·have h77':((pl rs i).1==(pl rs k).1)=false:=e1.symm.trans h77
    have e:nbB (rg rs (pl rs i).1).length (pl rs i) (pl rs k)=false:=by unfold nbB;rw[h77'];rfl
    iterate 8 refine BA I I ?_
    exact qP I (qP I (A4 (Aa (Aj () O ⟨I,I,I,I,I,I,I,I,I,by rw[e];rfl,O⟩ [] I))))
  intro _ _
  have next:CY rs (pl rs i) (pl rs k)=false→ ∀k',k'<k+1→CY rs (pl rs i) (pl rs k')=false:=fun h k' hk'=>by
   by_cases e:k'=k
   ·subst e;exact h
   ·exact hnok k' (by omega)
  refine zA (zU (qP I (qP I (qP I ?_))))
  refine He 89 I (fun h89=> ?_) (fun h89=> ?_)
  ·have hnb:nbB (rg rs (pl rs i).1).length (pl rs i) (pl rs k)=false:=by simpa using h89
   refine qB 0 I I I (qP I ?_)
   refine qJ ?_
   refine qL 0 I I (fun W hp=>Vec.rowAt (f:=Cp rs) (n:=4) (fun _=>rfl) hp 2 I (hget i hi)) I (qB 0 I I I (qP I ?_))
   refine qJ ?_
   refine qL 0 I I (fun W hp=>Vec.rowAt (f:=Cp rs) (n:=4) (fun _=>rfl) hp 2 I (hget k hkt)) I (qC I I (fun W _=>(RM ..)) (qP I (A4 (Aa (zE ?_)))))
   refine Af I (fun h=> ?_) (fun h=> ?_)
   ·refine zA (zB (wP I (Aa (zE (zO (zQ (zP (zP (zQ (zQ (zP (zP (zQ ?_)))))))))))))
    refine zP ?_
    refine HK 4 ds I ?_
    have hf:crs rs=true:=Ir hi (Ir hk (by unfold CY;rw[hnb];exact h))
    exact wR1 I I (by rw[hf])
   ·exact zI (zN (zE (zB (wP I (wP I (Aa (Al (k+1) ⟨hk,next (by unfold CY;rw[hnb];exact h)⟩ (by omega) ⟨I,I,I,I,I,I,I,congrArg (fun z=>some (Value.int .i64 z)) (AE (x:=(k:Int)+1) (by omega) (by omega)),O⟩ [] I)))))))
  ·have hnb:nbB (rg rs (pl rs i).1).length (pl rs i) (pl rs k)=true:=by simpa using h89
   iterate 9 refine BA I I ?_
   exact qP I (A4 (Aa (zE (zS I (zI (zN (zE (zB (wP I (wP I (Aa (Al (k+1) ⟨hk,next (by unfold CY;rw[hnb];rfl)⟩ (by omega) ⟨I,I,I,I,I,I,I,congrArg (fun z=>some (Value.int .i64 z)) (AE (x:=(k:Int)+1) (by omega) (by omega)),O⟩ [] I))))))))))))
end
section
-- OLD
open Go Go.RowKit Go.Am
set_option maxRecDepth 10000
-- BOXES 8
-- EQB 4
def Sz (s t u:Sd):Bool:=
 !((w64 (u.x-t.x)==0)==(w64 (u.y-t.y)==0))&& !((w64 (t.x-s.x)==0)==(w64 (u.x-t.x)==0))
def Hu (l:List Sd) (k:Nat):Bool:=Sz (sd l (prv l.length k)) (sd l k) (sd l (nxt l.length k))
def shp (l:List Sd):Bool:=decide (4≤l.length)&&(List.range l.length).all (Hu l)
theorem Us {l:List Sd} {k:Nat} (hk:k<l.length) (h:Hu l k=false):shp l=false:=by
 unfold shp
 have:(List.range l.length).all (Hu l)=false:=by
  apply Bool.eq_false_iff.2
  intro h2
  have:=List.all_eq_true.1 h2 k (List.mem_range.2 hk)
  rw[h] at this;cases this
 rw[this,Bool.and_false]
theorem Ps (W:World) (p:Option Addr) (cap:Nat) (l:List Sd) (hn:l.length<4611686018427387904) (hR:BW W p l):
  Ad Tryz.prog 149 #[slv p l.length cap] W (fun _:Unit=> .bool (shp l)) (fun _=>True) (fun _=>[]):=by
 refine Ab (args:=[slv p l.length cap]) Tryz.func149 I I I ?_
 refine zA (zB ?_)
 refine Bn (z:= .bool false) I I I (fun W=>by kernel_rfl) fun b2=> ?_
 refine Aa (A0 ?_)
 refine Hl (X:=Unit) (fun _=>[(0,slv p l.length cap),(2, .pointer (some ⟨b2,0,none⟩))]) (fun _=>[⟨b2,4,[.bool false],true,none⟩]) (fun _=>4≤l.length) ?_ ?_
 ·(refine Au ?_;refine DX ?_)
  refine wP I (wP I (wP I (Aa (A0 ?_))))
  refine Af I (fun h=> ?_) (fun h=> ?_)
  ·refine zA (zB (wS 0 I I I (zC (zE (zO (zP ?_))))))
   have hs:shp l=false:=by simp at h;simp[shp];omega
   exact A9 tH I (.cell 0 I I I I I) () (by rw[hs]) O fun W _=>Av.nil _ _
  ·exact zI (Aj () (by simp at h;omega) ⟨I,I,O⟩ [] I)
 intro _ h4
 refine zA (zA (zB (wP I ?_)))
 refine wD (X:=Nat) I I (fun W _=>EU p l.length cap W) ?_
 intro b _
 refine zC (zE (zH ?_))
 refine Eo (X:=Bool×Nat) (fun x=>[⟨b2,4,[.bool x.1],true,none⟩,⟨b,76,[slv p l.length cap],true,none⟩]) (fun k x=>x.1=false∧x.2=k∧ ∀i,i<k→Hu l i=true) (fun c x=>c= .ret∧x.1=false∧ ∃k,k<l.length∧Hu l k=false) (false,0) I (by kernel_rfl) (FT b p cap l hn) (fun _=>rfl) ⟨I,I,fun i hi=>by omega⟩ [] I (fun k x W _ hp=>DU.mk' hR hp 1 I) ?_ ?_ ?_
 ·rintro k ⟨_,_⟩ d L rec hk ⟨rfl,rfl,hok⟩ hrec
  rename_i k
  refine zB ?_
  refine Bn (z:=H4 default default default) I I I (fun W=>by kernel_rfl) fun b4=> ?_
  refine wS 4 I I I (zC ?_)
  refine CC 3 hrec I ?_
  refine BJ (Au ?_)
  refine MV (X:=Nat×Nat) (fun x=>[(2, .pointer (some ⟨b2,0,none⟩)),(5, .pointer (some ⟨x.1,0,none⟩)),(6, .pointer (some ⟨x.2,0,none⟩))])
   (fun x=>[⟨b2,4,[.bool false],true,none⟩,⟨b,76,[slv p l.length cap],true,none⟩,BR d,Bp L rec .busy none,⟨b4,213,(H4 (sd l (prv l.length k)) (sd l k) (sd l (nxt l.length k))).cells.toList,true,none⟩,
    ⟨x.1,215,(spot (w64 ((sd l k).x-(sd l (prv l.length k)).x)) (w64 ((sd l k).y-(sd l (prv l.length k)).y))).cells.toList,true,none⟩,
    ⟨x.2,215,(spot (w64 ((sd l (nxt l.length k)).x-(sd l k).x)) (w64 ((sd l (nxt l.length k)).y-(sd l k).y))).cells.toList,true,none⟩]) 4 Tryz.mixed (by kernel_rfl) ?_ ?_
  ·refine qP I (qB 4 I I I (qC I I (fun W _=>B9 (sd l (prv l.length k)) W) (qP I (qB 4 I I I (qC I I (fun W _=>B9 (sd l k) W) (qC I I (fun W _=>MF _ _ _ _ W) (qB 4 I I I (qC I I (fun W _=>Ky (sd l (prv l.length k)) (sd l k) (sd l (nxt l.length k)) W) (zG (wX ?_))))))))))
   refine RS.cons ?_ (RS.cons ?_ RS.nil)
   ·refine Bn (z:=spot 0 0) I I I (fun W=>by kernel_rfl) fun bA=> ?_
    refine zC (zF (wX ?_))
    refine RS.cons ?_ RS.nil
    refine Bn (z:=spot 0 0) I I I (fun W=>by kernel_rfl) fun bB=> ?_
    refine zC (zF (wX ?_))
    refine RS.cons ?_ RS.nil
    refine wS 5 I I I (zC (zF (wX ?_)))
    refine RS.cons ?_ RS.nil
    refine wS 6 I I I (zC (zF ?_))
    refine Be I (by((repeat (first|refine Bh.same ?_|refine Bh.off I ?_));exact O)) ?_
    exact A6 (bA,bB) ⟨I,I,I,O⟩ [0,1,2,3,4,5,6] (by decide) I
   ·refine Bn (z:=spot 0 0) I I I (fun W=>by kernel_rfl) fun bB=> ?_
    refine zC (zF (wX ?_))
    refine RS.cons ?_ RS.nil
    refine Bn (z:=spot 0 0) I I I (fun W=>by kernel_rfl) fun bA=> ?_
    refine zC (zF (wX ?_))
    refine RS.cons ?_ RS.nil
    refine wS 6 I I I (zC (zF (wX ?_)))
    refine RS.cons ?_ RS.nil
    refine wS 5 I I I (zC (zF ?_))
    refine Be I (by((repeat (first|refine Bh.same ?_|refine Bh.off I ?_));exact O)) ?_
    exact A6 (bA,bB) ⟨I,I,I,O⟩ [0,1,2,3,4,6,5] (by decide) I
  rintro⟨bA,bB⟩
  refine zE (zA (zB (wP I (wB 6 I I I (wP I (wP I (wB 6 I I I (wP I ?_))))))))
  refine CX Tryz.underlying4 I I I I I I ?_
  refine wP I ?_
  refine AF 30 I (fun h30=> ?_) (fun h30=> ?_)
  ·refine Ae I I ?_
   iterate 6 refine Ae I I ?_
   refine wP I (zC (zE (zR I (zA (zB (wS 0 I I I (zC (zE (zO (zQ ?_))))))))))
   refine Dw 3 (false,k) hrec I ⟨I,I,k,hk, ?_⟩ [_,_,_] I
   simp[Hu,Sz] at h30⊢
   simp[h30]
  ·refine wP I (wB 5 I I I (wP I (wP I (wB 6 I I I (wP I ?_)))))
   refine CX Tryz.underlying4 I I I I I I ?_
   refine wP I (Aa (A0 ?_))
   refine Af I (fun h=> ?_) (fun h=> ?_)
   ·refine zA (zB (wS 0 I I I (zC (zE (zO (zQ ?_))))))
    refine Dw 3 (false,k) hrec I ⟨I,I,k,hk, ?_⟩ [_,_,_] I
    simp[Hu,Sz] at h⊢
    intro _
    exact h
   ·refine zI (zN ?_)
    refine B6 3 (false,k+1) hrec I ⟨I,I,fun i hi=> ?_⟩ [_,_,_] I
    by_cases e:i=k
    ·subst e
     show Sz _ _ _=true
     unfold Sz
     rw[Bool.and_eq_true,Bool.not_eq_true',Bool.not_eq_true']
     exact⟨h30,h⟩
    ·exact hok i (by show i<k;have:i<k+1:=hi;omega)
 ·rintro⟨_,_⟩ d L rec ⟨rfl,rfl,hok⟩
  refine zN (zE (zA (zB (wS 0 I I I (zC (zE (zO ?_)))))))
  refine D2 2 I ?_
  have hs:shp l=true:=by simp only[shp,Bool.and_eq_true,decide_eq_true_eq,List.all_eq_true];exact⟨h4,fun i hi=>hok i (List.mem_range.1 hi)⟩
  exact A9 tH I (.cell 0 I I I I I) () (by rw[hs]) O fun W _=>Av.nil _ _
 ·rintro⟨_,_⟩ d L rec c ⟨rfl,rfl,k,hk,hf⟩
  refine zO (zQ (zP ?_))
  refine D2 2 I ?_
  have hs:=Us hk hf
  exact A9 tH I (.cell 0 I I I I I) () (by rw[hs]) O fun W _=>Av.nil _ _
end
section
-- OLD
open Go Go.RowKit Go.Am
set_option maxRecDepth 10000
-- BOXES 6
def btw (n a b:Int):Bool:=decide (a≤n)&&decide (n≤b)
theorem Gz (n a b:Int):AQ Tryz.prog 215 [.int .i64 n, .int .i64 a, .int .i64 b] (.bool (btw n a b)):=by
 intro W
 refine Ab Tryz.func215 I I I ?_
 refine zA (zB (wP I (zC (zE (zA (zB (wP I (wP I (wP I (wP I ?_))))))))))
 refine AF 10 I (fun h10=> ?_) (fun h10=> ?_)
 ·exact wP I (wP I (wP I (wP I (wP I (zC (zE (zO (wR1 I I (by simp_all [btw])))))))))
 ·refine Ae I I ?_
  iterate 2 refine Ae I I ?_
  exact wP I (wP I (zC (zE (zO (wR1 I I (by simp_all [btw]<;>intros<;>omega))))))
def rgd (s:Sd):Bool:=(if s.gable then s.rise==0&&s.run==0 else btw s.rise 1 48&&btw s.run 1 48)&&(btw s.x 0 65536&&btw s.y 0 65536&&btw s.plate 0 65536&&btw s.over 0 65536)
def num (s:Sd):Nat→Int
 |0=>s.x
 |1=>s.y
 |2=>s.plate
 |_=>s.over
theorem Qb (s:Sd):AQ Tryz.prog 146 [s.val] (.bool (rgd s)):=by
 intro W
 refine Ab Tryz.func146 I I I ?_
 (refine Au ?_;refine DX ?_)
 refine wF I I fun _=> ?_
 refine wP I (Aa (A0 ?_))
 rename_i b1
 refine Hl (X:=Unit) (fun _=>[(1, .pointer (some ⟨b1,0,none⟩))]) (fun _=>[⟨b1,80,s.cells,true,none⟩]) (fun _=>(if s.gable then s.rise==0&&s.run==0 else btw s.rise 1 48&&btw s.run 1 48)=true) ?_ ?_
 ·(refine Au ?_;refine DX ?_)
  refine wP I (wB 0 I I I (Aa (A0 ?_)))
  refine Af I (fun hg=> ?_) (fun hg=> ?_)
  ·(refine Au ?_;refine DX ?_)
   refine wP I (wB 0 I I I (wP I (wP I ?_)))
   refine AF 10 I (fun h10=> ?_) (fun h10=> ?_)
   ·refine Ae I I ?_
    iterate 2 refine Ae I I ?_
    exact wP I (zC (zE (zR I (zA (zB (wP I (zC (zE (zO (zP (wR1 I I (by simp_all [rgd]))))))))))))
   ·refine wP I (wB 0 I I I (wP I (wP I (Aa (A0 ?_)))))
    refine Af I (fun h14=> ?_) (fun h14=> ?_)
    ·exact zA (zB (wP I (zC (zE (zO (zP (wR1 I I (by simp_all [rgd]))))))))
    ·exact zI (Aj () (by simp_all) ⟨I,O⟩ [] I)
  ·(refine Au ?_;refine DX ?_)
   refine wP I (wB 0 I I I (wC I I (fun W _=>Gz _ _ _ W) (wP I (wP I ?_))))
   refine AF 19 I (fun h19=> ?_) (fun h19=> ?_)
   ·refine Ae I I ?_
    iterate 3 refine Ae I I ?_
    exact wP I (zC (zE (zR I (zA (zB (wP I (zC (zE (zO (zP (wR1 I I (by simp_all [rgd]))))))))))))
   ·refine wP I (wB 0 I I I (wC I I (fun W _=>Gz _ _ _ W) (wP I (wP I (Aa (A0 ?_))))))
    refine Af I (fun h14=> ?_) (fun h14=> ?_)
    ·exact zA (zB (wP I (zC (zE (zO (zP (wR1 I I (by simp_all [rgd]))))))))
    ·exact zI (Aj () (by simp_all) ⟨I,O⟩ [] I)
 ·intro _ hg
  refine zA (zA (zB (wP I (wB 0 I I I (wP I (wB 0 I I I (wP I (wB 0 I I I (wP I (wB 0 I I I ?_))))))))))
  refine KY (.int .i64 0) tH I I I I I (fun W=>by kernel_rfl) I I (by rfl) (by rfl) I fun b33=> ?_
  refine wP I (wP I (zC (zE (zH ?_))))
  refine Ar (X:=Nat) (fun k=>[(33, .slice (some ⟨b33,0,none⟩) 4 4),(34, .int .i64 4),(35, .int .i64 (k:Nat))]) (fun _=>[⟨b1,80,s.cells,true,none⟩,⟨b33,3,[.int .i64 s.x, .int .i64 s.y, .int .i64 s.plate, .int .i64 s.over],true,none⟩])
   (fun k=>k≤4∧ ∀i,i<k→btw (num s i) 0 65536=true) (fun k=>4-k) 0 ⟨by omega,fun i hi=>by omega⟩ ⟨rfl,rfl,rfl,trivial⟩ [] rfl ?_
  rintro k ⟨hk,hin⟩
  (refine Au ?_;refine DX ?_)
  refine wP I (Aa (A0 ?_))
  refine Hl (X:=Unit) (fun _=>[(33, .slice (some ⟨b33,0,none⟩) 4 4),(34, .int .i64 4),(35, .int .i64 (k:Nat))]) (fun _=>[⟨b1,80,s.cells,true,none⟩,⟨b33,3,[.int .i64 s.x, .int .i64 s.y, .int .i64 s.plate, .int .i64 s.over],true,none⟩]) (fun _=>k<4) ?_ ?_
  ·skip
   refine Af I (fun h=> ?_) (fun h=> ?_)
   ·exact zI (Aj () (by simp at h;omega) ⟨I,I,I,O⟩ [] I)
   ·refine zJ (zK (zK (zL (zE (zA (zB (wP I (zC (zE (zO ?_))))))))))
    have:k=4:=by simp at h;omega
    subst this
    exact wR1 I I (by have h0:=hin 0 (by omega);have h1:=hin 1 (by omega);have h2:=hin 2 (by omega);have h3:=hin 3 (by omega);simp only[num] at h0 h1 h2 h3;simp[rgd,h0,h1,h2,h3,hg])
  ·intro _ hk
   refine zA (zH (zA (zB ?_)))
   refine wJ ?_
   refine Qo (v:= .int .i64 (num s k)) I I I I (fun W hp=>LR (k:=1) tH I I I (by
    match k,hk with
    |0,_=>rfl
    |1,_=>rfl
    |2,_=>rfl
    |3,_=>rfl) W hp) ?_
   refine wP I (zC (zE (zA (zB (wP I (wC I I (fun W _=>Gz _ _ _ W) (wP I (Aa (A0 ?_)))))))))
   refine Af I (fun h=> ?_) (fun h=> ?_)
   ·refine zA (zB (wP I (zC (zE (zO (zQ (zP (zP (zQ (zP ?_))))))))))
    have h:btw (num s k) 0 65536=false:=by simpa using h
    have hr:rgd s=false:=by
     match k,hk with
     |0,_=>simp only[num] at h;simp[rgd,h]
     |1,_=>simp only[num] at h;simp[rgd,h]
     |2,_=>simp only[num] at h;simp[rgd,h]
     |3,_=>simp only[num] at h;simp[rgd,h]
    exact wR1 I I (by rw[hr])
   ·refine zI (zN (zE (zB (wP I (wP I (zC ?_))))))
    refine Al (k+1) ⟨hk,fun i hi=> ?_⟩ (by omega) ⟨I,I,congrArg (fun z=>some (Value.int .i64 z)) (AE (x:=(k:Int)+1) (by omega) (by omega)),O⟩ [] I
    by_cases e:i=k
    ·subst e;simpa using h
    ·exact hin i (by omega)
end
section
open Go Go.RowKit Go.Am
set_option maxRecDepth 10000
-- BOXES 2
-- USES Qb
def Jw {α:Type} (f:α→Bool):List α→Nat→Int
 |[],_=> -1
 |x::l,k=>if f x=true then(k:Int) else Jw f l (k+1)
theorem No {α:Type} (f:α→Bool): ∀(l:List α) (k:Nat),decide (Jw f l k≥0)=l.any f
 |[],k=>by simp[Jw]
 |x::l,k=>by
  unfold Jw
  by_cases h:f x=true
  ·rw[if_pos h,List.any_cons,h,Bool.true_or,decide_eq_true_iff];omega
  ·rw[if_neg h,No f l (k+1),List.any_cons]
   simp[h]
theorem NP (g:Nat) (hE:Bc Tryz.prog g=true) (f:Sd→Bool) (hf: ∀s,AQ Tryz.prog g [s.val] (.bool (f s))) (W:World) (p:Option Addr) (cap:Nat) (l:List Sd) (hn:l.length<4611686018427387904) (hR:BW W p l):
  Ad Tryz.prog 214 #[slv p l.length cap, .func (.func g) #[] #[]] W (fun _:Unit=> .int .i64 (Jw f l 0)) (fun _=>True) (fun _=>[]):=by
 refine Ab (args:=[slv p l.length cap, .func (.func g) #[] #[]]) Tryz.func214 I I I ?_
 refine zA (zB (wP I (Aa (zE (zA (zA (zB (wP I (wP I (wP I (Aa (zE (zH ?_)))))))))))))
 refine Ar (X:=Nat) (fun k=>[(0,slv p l.length cap),(1, .func (.func g) #[] #[]),(7, .int .i64 (l.length:Nat)),(8, .int .i64 (k:Nat))]) (fun _=>[])
  (fun k=>k≤l.length∧Jw f l 0=Jw f (l.drop k) k) (fun k=>l.length-k) 0 ⟨Nat.zero_le _,rfl⟩ ⟨rfl,rfl,rfl,rfl,trivial⟩ [] rfl ?_
 rintro k ⟨hk,hi⟩
 refine zA (zB (wP I (Aa (zE (zA ?_)))))
 refine Af I (fun h=> ?_) (fun h=> ?_)
 rotate_left
 ·refine zJ (zK (zK (zL (zE (zA (zB (wP I (Aa (zE (zO ?_))))))))))
  have e:k=l.length:=by simp at h;omega
  rw[e,List.drop_length] at hi
  exact wR1 I I (by rw[hi];rfl)
 ·have hk:k<l.length:=by simp at h;omega
  clear h
  obtain⟨b,off,rfl,hrow⟩:=hR.row hk
  refine zI (zE (zA (zH (zA (zB (wP I (wP I (Aa (zE (zA (zB (wP I (wP I (wP I ?_))))))))))))))
  refine wJ ?_
  refine wL 0 I I (fun W hp=>(hrow k hk).hp hp) I ?_
  refine AT (g:=g) (v:= .bool (f (sd l k))) I I I I I I hE (fun W _=>hf (sd l k) W) ?_
  have hd:l.drop k=sd l k::l.drop (k+1):=by
   rw[List.drop_eq_getElem_cons hk];simp[sd,hk]
  have hstep:Jw f (l.drop k) k=if f (sd l k)=true then(k:Int) else Jw f (l.drop (k+1)) (k+1):=by rw[hd];rfl
  rw[hstep] at hi
  refine zC (zE ?_)
  refine Af I (fun h=> ?_) (fun h=> ?_)
  ·refine zA (zB (wP I (wP I (Aa (zE (zO (zQ (zP (zP (zQ (zP ?_)))))))))))
   rw[if_pos h] at hi
   exact wR1 I I (by rw[hi])
  ·refine zI (zN (zE (zB (wP I (wP I (Aa ?_))))))
   rw[if_neg (by rw[h];decide)] at hi
   exact Al (k+1) ⟨hk,hi⟩ (by omega) ⟨I,I,I,congrArg (fun z=>some (Value.int .i64 z)) (AE (x:=(k:Int)+1) (by omega) (by omega)),O⟩ [] I
theorem K5 (g:Nat) (hE:Bc Tryz.prog g=true) (f:Sd→Bool) (hf: ∀s,AQ Tryz.prog g [s.val] (.bool (f s))) (W:World) (p:Option Addr) (cap:Nat) (l:List Sd) (hn:l.length<4611686018427387904) (hR:BW W p l):
  Ad Tryz.prog 144 #[slv p l.length cap, .func (.func g) #[] #[]] W (fun _:Unit=> .bool (l.any f)) (fun _=>True) (fun _=>[]):=by
 refine Ab (args:=[slv p l.length cap, .func (.func g) #[] #[]]) Tryz.func144 I I I ?_
 refine zA (zB (wP I (zC (zE (zA (zB (wP I (wP I (wC I I (fun W hp=>NP g hE f hf W p cap l hn (hR.hp hp)) (wP I (wP I (zC (zE ?_)))))))))))))
 exact zO (wR1 I I (by rw[No]))
theorem Ol (g:Nat) (hE:Bc Tryz.prog g=true) (f:List Sd→Bool) (hf: ∀W p cap l,l.length<4611686018427387904→BW W p l→Ad Tryz.prog g #[slv p l.length cap] W (fun _:Unit=> .bool (f l)) (fun _=>True) (fun _=>[])) (W:World) (p:Option Addr) (cap:Nat) (rs:List (List Sd)) (hn:rs.length<4611686018427387904) (hl: ∀l∈rs,l.length<4611686018427387904) (hR:BD W p rs):
  Ad Tryz.prog 216 #[slv p rs.length cap, .func (.func g) #[] #[]] W (fun _:Unit=> .int .i64 (Jw f rs 0)) (fun _=>True) (fun _=>[]):=by
 refine Ab (args:=[slv p rs.length cap, .func (.func g) #[] #[]]) Tryz.func216 I I I ?_
 refine zA (zB (wP I (Aa (zE (zA (zA (zB (wP I (wP I (wP I (Aa (zE (zH ?_)))))))))))))
 refine Ar (X:=Nat) (fun k=>[(0,slv p rs.length cap),(1, .func (.func g) #[] #[]),(7, .int .i64 (rs.length:Nat)),(8, .int .i64 (k:Nat))]) (fun _=>[])
  (fun k=>k≤rs.length∧Jw f rs 0=Jw f (rs.drop k) k) (fun k=>rs.length-k) 0 ⟨Nat.zero_le _,rfl⟩ ⟨rfl,rfl,rfl,rfl,trivial⟩ [] rfl ?_
 rintro k ⟨hk,hi⟩
 refine zA (zB (wP I (Aa (zE (zA ?_)))))
 refine Af I (fun h=> ?_) (fun h=> ?_)
 rotate_left
 ·refine zJ (zK (zK (zL (zE (zA (zB (wP I (Aa (zE (zO ?_))))))))))
  have e:k=rs.length:=by simp at h;omega
  rw[e,List.drop_length] at hi
  exact wR1 I I (by rw[hi];rfl)
 ·have hk:k<rs.length:=by simp at h;omega
  clear h
  obtain⟨b,off,rfl,hrow⟩:=hR.row hk
  obtain⟨q,cap2,hq1,hq2⟩:=hrow k hk
  refine zI (zE (zA (zH (zA (zB (wP I (wP I (Aa (zE (zA (zB (wP I (wP I (wP I ?_))))))))))))))
  refine wJ ?_
  refine wL 0 I I (fun W hp=>hq1.hp hp) I ?_
  refine AT (g:=g) (v:= .bool (f (rg rs k))) I I I I I I hE (fun W hp=>hf W q cap2 (rg rs k) (hl _ (List.mem_of_getElem? (Bd hk))) (hq2.hp hp)) ?_
  have hd:rs.drop k=rg rs k::rs.drop (k+1):=by
   rw[List.drop_eq_getElem_cons hk];simp[rg,hk]
  have hstep:Jw f (rs.drop k) k=if f (rg rs k)=true then(k:Int) else Jw f (rs.drop (k+1)) (k+1):=by rw[hd];rfl
  rw[hstep] at hi
  refine zC (zE ?_)
  refine Af I (fun h=> ?_) (fun h=> ?_)
  ·refine zA (zB (wP I (wP I (Aa (zE (zO (zQ (zP (zP (zQ (zP ?_)))))))))))
   rw[if_pos h] at hi
   exact wR1 I I (by rw[hi])
  ·refine zI (zN (zE (zB (wP I (wP I (Aa ?_))))))
   rw[if_neg (by rw[h];decide)] at hi
   exact Al (k+1) ⟨hk,hi⟩ (by omega) ⟨I,I,I,congrArg (fun z=>some (Value.int .i64 z)) (AE (x:=(k:Int)+1) (by omega) (by omega)),O⟩ [] I
theorem KI (g:Nat) (hE:Bc Tryz.prog g=true) (f:List Sd→Bool) (hf: ∀W p cap l,l.length<4611686018427387904→BW W p l→Ad Tryz.prog g #[slv p l.length cap] W (fun _:Unit=> .bool (f l)) (fun _=>True) (fun _=>[])) (W:World) (p:Option Addr) (cap:Nat) (rs:List (List Sd)) (hn:rs.length<4611686018427387904) (hl: ∀l∈rs,l.length<4611686018427387904) (hR:BD W p rs):
  Ad Tryz.prog 147 #[slv p rs.length cap, .func (.func g) #[] #[]] W (fun _:Unit=> .bool (rs.any f)) (fun _=>True) (fun _=>[]):=by
 refine Ab (args:=[slv p rs.length cap, .func (.func g) #[] #[]]) Tryz.func147 I I I ?_
 refine zA (zB (wP I (zC (zE (zA (zB (wP I (wP I (wC I I (fun W hp=>Ol g hE f hf W p cap rs hn hl (hR.below (Nat.le_refl _) hp.below)) (wP I (wP I (zC (zE ?_)))))))))))))
 exact zO (wR1 I I (by rw[No]))
theorem PD (s:Sd):AQ Tryz.prog 145 [s.val] (.bool (!rgd s)):=by
 intro W
 refine Ab Tryz.func145 I I I ?_
 refine zA (zB ?_)
 refine wF I I fun _=> ?_
 exact wP I (zC (zE (zA (zB (wB 0 I I I (wC I I (fun W _=>(Qb ..)) (wP I (wP I (zC (zE (zO (wR1 I I I))))))))))))
theorem Pg (W:World) (p:Option Addr) (cap:Nat) (l:List Sd) (hn:l.length<4611686018427387904) (hR:BW W p l):
  Ad Tryz.prog 148 #[slv p l.length cap] W (fun _:Unit=> .bool (!shp l)) (fun _=>True) (fun _=>[]):=by
 refine Ab (args:=[slv p l.length cap]) Tryz.func148 I I I ?_
 exact zA (zB (wP I (zC (zE (zA (zB (wP I (wC I I (fun W hp=>Ps W p cap l hn (hR.hp hp)) (wP I (wP I (zC (zE (zO (wR1 I I I))))))))))))))
end
section
-- OLD
open Go Go.RowKit Go.Am
set_option maxRecDepth 10000
-- BOXES 8
-- EQB 4
def IV (t u:Sd) (px py:Int):Bool:=(w64 (u.x-t.x)==0)&&decide (t.x>px)&& !(decide (t.y>py)==decide (u.y>py))
def Ed (l:List Sd) (px py:Int):Nat→Bool
 |0=>false
 |k+1=>if IV (sd l k) (sd l (nxt l.length k)) px py=true then !Ed l px py k else Ed l px py k
theorem PB (W:World) (p:Option Addr) (cap:Nat) (l:List Sd) (px py:Int) (hn:l.length<4611686018427387904) (hR:BW W p l):
  Ad Tryz.prog 224 #[slv p l.length cap,spot px py] W (fun _:Unit=> .bool (Ed l px py l.length)) (fun _=>True) (fun _=>[]):=by
 refine Ab (args:=[slv p l.length cap,spot px py]) Tryz.func224 I I I ?_
 refine zA (zB ?_)
 refine wF I I fun _=> ?_
 refine wP I (zC (zE (zA (zB ?_))))
 rename_i b3
 refine Bn (z:= .bool false) I I I (fun W=>by kernel_rfl) fun b5=> ?_
 refine wS 1 I I I (zC (zE (zA (zA (zB (wP I ?_))))))
 refine wD (X:=Nat) I I (fun W _=>EU p l.length cap W) ?_
 intro b _
 refine zC (zE (zH ?_))
 refine Eo (X:=Bool×Nat) (fun x=>[⟨b3,215,(spot px py).cells.toList,true,none⟩,⟨b5,4,[.bool x.1],true,none⟩,⟨b,76,[slv p l.length cap],true,none⟩]) (fun k x=>x.2=k∧x.1=Ed l px py k) (fun _ _=>False) (false,0) I (by kernel_rfl) (FT b p cap l hn) (fun _=>rfl) ⟨I,I⟩ [] I (fun k x W _ hp=>DU.mk' hR hp 2 I) ?_ ?_ (fun _ _ _ _ _ h=>h.elim)
 ·rintro j ⟨i,k⟩ d L rec hk ⟨hj,hi⟩ hrec
  obtain rfl:k=j:=hj
  obtain rfl:i=Ed l px py k:=hi
  refine zB ?_
  refine Bn (z:=H4 default default default) I I I (fun W=>by kernel_rfl) fun b7=> ?_
  refine wS 5 I I I (zC ?_)
  refine CC 4 hrec I ?_
  refine zH (zA (zB (wP I (wB 5 I I I (wC I I (fun W _=>B9 (sd l k) W) ?_)))))
  refine Bn (z:=spot 0 0) I I I (fun W=>by kernel_rfl) fun b8=> ?_
  refine wS 6 I I I (zC (zE (zA (zB (wB 5 I I I (wC I I (fun W _=>Ky (sd l (prv l.length k)) (sd l k) (sd l (nxt l.length k)) W) (wP I (wP I (wP I ?_)))))))))
  have no:IV (sd l k) (sd l (nxt l.length k)) px py=false→Ed l px py (k+1)=Ed l px py k:=fun h=>by simp[Ed,h]
  have yes:IV (sd l k) (sd l (nxt l.length k)) px py=true→Ed l px py (k+1)= !Ed l px py k:=fun h=>by simp[Ed,h]
  refine AF 20 I (fun h20=> ?_) (fun h20=> ?_)
  ·refine wP I (wB 6 I I I (wP I (wB 0 I I I (wP I (wP I (wP I ?_))))))
   refine AF 27 I (fun h27=> ?_) (fun h27=> ?_)
   ·refine wP I (wB 6 I I I (wP I (wB 0 I I I (wP I (wP I (wP I (wB 5 I I I (wP I (wB 0 I I I (wP I ?_))))))))))
    refine CX Tryz.underlying4 I I I I I I ?_
    refine wP I (Aa (A0 ?_))
    refine Af I (fun h=> ?_) (fun h=> ?_)
    ·exact zB (wB 1 I I I (wP I (wS 1 I I I (zC (zN (B6 4 (!Ed l px py k,k+1) hrec I ⟨I,(yes (by simp_all [IV])).symm⟩ [_,_] I))))))
    ·exact zI (zN (B6 4 (Ed l px py k,k+1) hrec I ⟨I,(no (by simp_all [IV])).symm⟩ [_,_] I))
   ·refine Ae I I ?_
    iterate 11 refine Ae I I ?_
    exact wP I (zC (zE (zS I (zI (zN (B6 4 (Ed l px py k,k+1) hrec I ⟨I,(no (by simp_all [IV]<;>(intros;omega))).symm⟩ [_,_] I))))))
  ·refine Ae I I ?_
   iterate 4 refine Ae I I ?_
   refine wP I (wP I ?_)
   iterate 12 refine Ae I I ?_
   exact wP I (zC (zE (zS I (zI (zN (B6 4 (Ed l px py k,k+1) hrec I ⟨I,(no (by simp_all [IV])).symm⟩ [_,_] I))))))
 ·rintro⟨i,j⟩ d L rec ⟨hj,hi⟩
  obtain rfl:j=l.length:=hj
  obtain rfl:i=Ed l px py l.length:=hi
  refine zN (zE (zA (zB (wB 1 I I I (wP I (zC (zE (zO ?_))))))))
  refine D2 3 I ?_
  exact wR1 I I I
end
section
open Go Go.RowKit Go.Am
set_option maxRecDepth 10000
-- BOXES 2
def FQ (rs:List (List Sd)) (i k:Nat):Bool:=(k==i||i==0)||(Ed (rg rs k) (sd (rg rs i) 0).x (sd (rg rs i) 0).y (rg rs k).length==(k==0))
def Dv (rs:List (List Sd)) (i:Nat):Bool:=(decide (CL (rg rs i) (rg rs i).length>0)==(i==0))&&(List.range rs.length).all (FQ rs i)
def plc (rs:List (List Sd)):Bool:=(List.range rs.length).all (Dv rs)
theorem BO {n:Nat} {f:Nat→Bool} {k:Nat} (hk:k<n) (h:f k=false):(List.range n).all f=false:=Bool.eq_false_iff.2 fun h2=>by
 have:=List.all_eq_true.1 h2 k (List.mem_range.2 hk)
 rw[h] at this;cases this
theorem C7 (a b:Nat):((a:Int)==(b:Int))=(a==b):=by
 by_cases h:a=b
 ·subst h;rw[beq_self_eq_true,beq_self_eq_true]
 ·have h1:(a:Int)≠b:=by omega
  rw[beq_eq_false_iff_ne.2 h1,beq_eq_false_iff_ne.2 h]
theorem PZ (W:World) (p:Option Addr) (cap:Nat) (rs:List (List Sd)) (hn:rs.length<4611686018427387904) (hl: ∀l∈rs,l.length<4611686018427387904) (hne: ∀l∈rs,l≠[]) (hR:BD W p rs):
  Ad Tryz.prog 151 #[slv p rs.length cap] W (fun _:Unit=> .bool (plc rs)) (fun _=>True) (fun _=>[]):=by
 refine Ab (args:=[slv p rs.length cap]) Tryz.func151 I I I ?_
 refine zA (zB (wP I (Aa (zE (zA (zA (zB (wP I (wP I (wP I (Aa (zE (zH ?_)))))))))))))
 refine Ar (X:=Nat) (fun i=>[(0,slv p rs.length cap),(7,slv p rs.length cap),(8, .int .i64 (rs.length:Nat)),(9, .int .i64 (i:Nat))]) (fun _=>[])
  (fun i=>i≤rs.length∧ ∀j,j<i→Dv rs j=true) (fun i=>rs.length-i) 0 ⟨Nat.zero_le _,fun j hj=>absurd hj (Nat.not_lt_zero _)⟩ ⟨rfl,rfl,rfl,rfl,trivial⟩ [] rfl ?_
 rintro i ⟨hi,hok⟩
 refine zA (zB (wP I (Aa (zE (zA ?_)))))
 refine Af I (fun h=> ?_) (fun h=> ?_)
 rotate_left
 ·have e:i=rs.length:=by simp at h;omega
  subst e
  refine zJ (zK (zK (zL (zE (zA (zB (wP I (Aa (zE (zO ?_))))))))))
  have:plc rs=true:=List.all_eq_true.2 fun j hj=>hok j (List.mem_range.1 hj)
  exact wR1 I I (by rw[this])
 have hi:i<rs.length:=by simp at h;omega
 clear h
 obtain⟨b,off,rfl,hrow⟩:=hR.row hi
 obtain⟨q,cap2,hq1,hq2⟩:=hrow i hi
 have hli:=hl _ (List.mem_of_getElem? (Bd hi))
 have hnei:0<(rg rs i).length:=List.length_pos_iff.2 (hne _ (List.mem_of_getElem? (Bd hi)))
 refine zI (zE (zA (zH (zA (zB (wP I ?_))))))
 refine wJ ?_
 refine wL 0 I I (fun W hp=>hq1.hp hp) I (wP I (wP I (Aa (zE (zA (zA (zB (wP I (wC I I (fun W hp=>SX W q cap2 (rg rs i) hli (hq2.hp hp)) (wP I (wP I (wP I ?_))))))))))))
 refine CX Tryz.underlying4 I I I I I I ?_
 refine Aa (zE ?_)
 refine Af I (fun h=> ?_) (fun h=> ?_)
 ·refine zA (zB (wP I (Aa (zE (zO (zP (zQ (zP (zP (zQ (zP ?_)))))))))))
  have hf:plc rs=false:=BO hi (by
   unfold Dv
   rw[show(decide (CL (rg rs i) (rg rs i).length>0)==(i==0))=false by
    have h':=h
    rw[show((i:Int)==0)=(i==0) from C7 i 0] at h'
    simpa using h']
   rfl)
  exact wR1 I I (by rw[hf])
 have hA:(decide (CL (rg rs i) (rg rs i).length>0)==(i==0))=true:=by
  have h':=h
  rw[show((i:Int)==0)=(i==0) from C7 i 0] at h'
  simpa using h'
 clear h
 refine zI (zE (zA (zB (wP I (wP I (wP I (Aa (zE (zH ?_)))))))))
 refine Ar (X:=Nat) (fun k=>[(0,slv (some ⟨b,off,none⟩) rs.length cap),(7,slv (some ⟨b,off,none⟩) rs.length cap),(8, .int .i64 (rs.length:Nat)),(9, .int .i64 (i:Nat)),(3, .int .i64 (i:Nat)),(4,slv q (rg rs i).length cap2),(20,slv (some ⟨b,off,none⟩) rs.length cap),(21, .int .i64 (rs.length:Nat)),(22, .int .i64 (k:Nat))]) (fun _=>[])
  (fun k=>k≤rs.length∧ ∀j,j<k→FQ rs i j=true) (fun k=>rs.length-k) 0 ⟨Nat.zero_le _,fun j hj=>absurd hj (Nat.not_lt_zero _)⟩ ⟨rfl,rfl,rfl,rfl,rfl,rfl,rfl,rfl,rfl,trivial⟩ [] rfl ?_
 rintro k ⟨hk,hokk⟩
 refine zA (zB (wP I (Aa (zE (zA ?_)))))
 refine Af I (fun h=> ?_) (fun h=> ?_)
 rotate_left
 ·have e:k=rs.length:=by simp at h;omega
  subst e
  refine zJ (zK (zK (zL (zN (zE (zB (wP I (wP I (Aa ?_)))))))))
  refine Al (i+1) ⟨hi,fun j hj=> ?_⟩ (by omega) ⟨I,I,I,congrArg (fun z=>some (Value.int .i64 z)) (AE (x:=(i:Int)+1) (by omega) (by omega)),O⟩ [] I
  by_cases e:j=i
  ·subst e
   unfold Dv
   rw[hA,Bool.true_and]
   exact List.all_eq_true.2 fun m hm=>hokk m (List.mem_range.1 hm)
  ·exact hok j (by omega)
 have hk:k<rs.length:=by simp at h;omega
 clear h
 obtain⟨q2,cap3,hq3,hq4⟩:=hrow k hk
 have hlk:=hl _ (List.mem_of_getElem? (Bd hk))
 have next:FQ rs i k=true→ ∀j,j<k+1→FQ rs i j=true:=fun h j hj=>by
  by_cases e:j=k
  ·subst e;exact h
  ·exact hokk j (by omega)
 refine zI (zE (zA (zH (zA (zB (wP I ?_))))))
 refine wJ ?_
 refine wL 0 I I (fun W hp=>hq3.hp hp) I (wP I (wP I (Aa (zE (Au ?_)))))
 refine Hl (X:=Unit) (fun _=>[(0,slv (some ⟨b,off,none⟩) rs.length cap),(7,slv (some ⟨b,off,none⟩) rs.length cap),(8, .int .i64 (rs.length:Nat)),(9, .int .i64 (i:Nat)),(3, .int .i64 (i:Nat)),(4,slv q (rg rs i).length cap2),(5, .int .i64 (k:Nat)),(6,slv q2 (rg rs k).length cap3),(20,slv (some ⟨b,off,none⟩) rs.length cap),(21, .int .i64 (rs.length:Nat)),(22, .int .i64 (k:Nat)),(33, .bool (k==i||i==0))]) (fun _=>[]) (fun _=>True) ?_ ?_
 ·refine zB (wP I (wP I (wP I (wP I ?_))))
  refine AF 30 I (fun h30=> ?_) (fun h30=> ?_)
  ·have e:(k==i||i==0)=true:=by
    have:(k==i)=true:=by rw[←C7];exact h30
    rw[this];rfl
   iterate 2 refine Ae I I ?_
   exact wP I (Aa (Aj () O ⟨I,I,I,I,I,I,I,I,I,I,I,by rw[e];rfl,O⟩ [] I))
  ·have e:(k==i||i==0)=((i:Int)==0):=by
    have:(k==i)=false:=by rw[←C7];exact h30
    rw[this,Bool.false_or];exact(C7 i 0).symm
   exact wP I (wP I (wP I (Aa (Aj () O ⟨I,I,I,I,I,I,I,I,I,I,I,by rw[e];rfl,O⟩ [] I))))
 intro _ _
 refine Af I (fun h=> ?_) (fun h=> ?_)
 ·exact zJ (zK (zL (zE (zB (wP I (wP I (Aa (Al (k+1) ⟨hk,next (by unfold FQ;rw[h];rfl)⟩ (by omega) ⟨I,I,I,I,I,I,I,I,congrArg (fun z=>some (Value.int .i64 z)) (AE (x:=(k:Int)+1) (by omega) (by omega)),O⟩ [] I))))))))
 obtain⟨b3,off3,rfl,hrow3⟩:=hq2.row hnei
 refine zI (zE (zA (zB (wP I (wP I ?_)))))
 refine wJ ?_
 refine wL 0 I I (fun W hp=>(hrow3 0 hnei).hp hp) I (wC I I (fun W _=>(B9 ..)) (wC I I (fun W hp=>PB W q2 cap3 (rg rs k) _ _ hlk (hq4.hp hp)) (wP I (wP I ?_))))
 refine CX Tryz.underlying4 I I I I I I ?_
 refine Aa (zE ?_)
 refine Af I (fun h2=> ?_) (fun h2=> ?_)
 ·refine zA (zB (wP I (Aa (zE (zO (zQ (zP (zP (zQ (zQ (zP (zP (zQ ?_)))))))))))))
  refine zP ?_
  have hf:plc rs=false:=BO hi (by
   unfold Dv
   rw[BO hk (by
    unfold FQ
    rw[h,Bool.false_or]
    have h':=h2
    rw[show((k:Int)==0)=(k==0) from C7 k 0] at h'
    simpa using h'),Bool.and_false])
  exact wR1 I I (by rw[hf])
 ·refine zI (zN (zE (zB (wP I (wP I (Aa ?_))))))
  refine Al (k+1) ⟨hk,next ?_⟩ (by omega) ⟨I,I,I,I,I,I,I,I,congrArg (fun z=>some (Value.int .i64 z)) (AE (x:=(k:Int)+1) (by omega) (by omega)),O⟩ [] I
  unfold FQ
  rw[h,Bool.false_or]
  have h':=h2
  rw[show((k:Int)==0)=(k==0) from C7 k 0] at h'
  simpa using h'
end
section
-- OLD
open Go Go.RowKit Go.Am
set_option maxRecDepth 10000
-- BOXES 8
-- EQB 4
def Iq (s t u:Sd):Bool:=decide (w64 (w64 (w64 (t.x-s.x)*w64 (u.y-t.y))-w64 (w64 (t.y-s.y)*w64 (u.x-t.x)))>0)
def MP (s t u:Sd):Bool:=Iq s t u||(!t.gable&& !s.gable&&(t.plate==s.plate))
def CS (l:List Sd) (k:Nat):Bool:=MP (sd l (prv l.length k)) (sd l k) (sd l (nxt l.length k))
def Bq (l:List Sd) (b:Bool):Nat→Bool
 |0=>b
 |k+1=>Bq l b k|| !(sd l k).gable
def AY (rs:List (List Sd)):Nat→Bool
 |0=>false
 |k+1=>Bq (rg rs k) (AY rs k) (rg rs k).length
def G6 (l:List Sd):Bool:=(List.range l.length).all (CS l)
def jnd (rs:List (List Sd)):Bool:=rs.all G6&&AY rs rs.length
theorem PP (W:World) (p:Option Addr) (cap:Nat) (rs:List (List Sd)) (hn:rs.length<4611686018427387904) (hl: ∀l∈rs,l.length<4611686018427387904) (hR:BD W p rs):
  Ad Tryz.prog 152 #[slv p rs.length cap] W (fun _:Unit=> .bool (jnd rs)) (fun _=>True) (fun _=>[]):=by
 refine Ab (args:=[slv p rs.length cap]) Tryz.func152 I I I ?_
 refine zA (zB ?_)
 refine Bn (z:= .bool false) I I I (fun W=>by kernel_rfl) fun b2=> ?_
 refine zC (zE (zA (zB ?_)))
 refine Bn (z:= .bool false) I I I (fun W=>by kernel_rfl) fun b3=> ?_
 refine wS 1 I I I (zC (zE (zA (zA (zB (wP I (wP I (wP I (zC (zE (zH ?_)))))))))))
 refine OR ?_
 refine MY (X:=Nat×Bool×List Nat) (fun x=>x.2.2.map Dj) (fun x=>[(2, .pointer (some ⟨b2,0,none⟩)),(3, .pointer (some ⟨b3,0,none⟩)),(8,slv p rs.length cap),(9, .int .i64 (rs.length:Nat)),(10, .int .i64 (x.1:Nat))])
  (fun x=>[⟨b2,4,[.bool false],true,none⟩,⟨b3,4,[.bool x.2.1],true,none⟩,bag x.2.2]) (fun x=>x.1≤rs.length∧x.2.1=AY rs x.1∧ ∀i,i<x.1→G6 (rg rs i)=true) (fun x=>rs.length-x.1) (0,false,[])
  ⟨Nat.zero_le _,rfl,fun i hi=>absurd hi (Nat.not_lt_zero _)⟩ rfl ⟨rfl,rfl,rfl,rfl,rfl,trivial⟩ [] rfl ?_
 rintro⟨k,sm,ds⟩ ⟨hk,hsm,hok⟩
 have hk:k≤rs.length:=hk
 obtain rfl:sm=AY rs k:=hsm
 refine zA (zB (wP I (zC (zE (zA ?_)))))
 refine Af I (fun h=> ?_) (fun h=> ?_)
 rotate_left
 ·refine zJ (zK (zK (zL (zE (zA (zB (wB 1 I I I (wS 0 I I I (zC (zE (zO ?_)))))))))))
  refine HK 2 ds I ?_
  have e:k=rs.length:=by simp at h;omega
  subst e
  have hj:jnd rs=AY rs rs.length:=by
   have:rs.all G6=true:=List.all_eq_true.2 fun l hl=>by
    obtain⟨i,hi,rfl⟩:=List.getElem_of_mem hl
    have:=hok i hi
    rwa [show rg rs i=rs[i] by simp[rg,hi]] at this
   simp[jnd,this]
  exact A9 tH I (.cell 0 I I I I I) () (by rw[hj]) O fun W _=>Av.nil _ _
 have hk:k<rs.length:=by simp at h;omega
 obtain⟨b',off,rfl,hrow⟩:=hR.row hk
 obtain⟨q,cap2,hq1,hq2⟩:=hrow k hk
 have hlk:(rg rs k).length<4611686018427387904:=hl _ (List.mem_of_getElem? (Bd hk))
 refine zI (zE (zA (zH (zA (zB ?_)))))
 refine wJ ?_
 refine wL 0 I I (fun W hp=>hq1.hp hp) I (wP I (zC (zE (zA (zB (wP I ?_))))))
 refine wD (X:=Nat) I I (fun W _=>EU q (rg rs k).length cap2 W) ?_
 intro b _
 refine zC (zE (zH ?_))
 refine Eo (X:=Bool×Nat) (fun x=>[⟨b2,4,[.bool false],true,none⟩,⟨b3,4,[.bool x.1],true,none⟩,bag ds,⟨b,76,[slv q (rg rs k).length cap2],true,none⟩])
  (fun j x=>x.2=j∧x.1=Bq (rg rs k) (AY rs k) j∧ ∀i,i<j→CS (rg rs k) i=true) (fun c _=>c= .ret∧ ∃j,j<(rg rs k).length∧CS (rg rs k) j=false) (AY rs k,0) rfl (by kernel_rfl) (FT b q cap2 (rg rs k) hlk) (fun _=>rfl)
  ⟨rfl,rfl,fun i hi=>absurd hi (Nat.not_lt_zero _)⟩ [] rfl (fun k x W _ hp=>DU.mk' hq2 hp 3 rfl) ?_ ?_ ?_
 ·rintro j' ⟨sm,j⟩ d L rec hj ⟨e1,e2,hin⟩ hrec
  obtain rfl:j=j':=e1
  obtain rfl:sm=Bq (rg rs k) (AY rs k) j:=e2
  refine zB ?_
  refine Bn (z:=H4 default default default) I I I (fun W=>by kernel_rfl) fun b7=> ?_
  refine wS 6 I I I (zC ?_)
  refine CC 5 hrec I ?_
  refine BJ ?_
  refine Hl (X:=Unit) (fun _=>[(2, .pointer (some ⟨b2,0,none⟩)),(3, .pointer (some ⟨b3,0,none⟩)),(7, .pointer (some ⟨b7,0,none⟩))])
   (fun _=>[⟨b2,4,[.bool false],true,none⟩,⟨b3,4,[.bool (Bq (rg rs k) (AY rs k) (j+1))],true,none⟩,bag ds,⟨b,76,[slv q (rg rs k).length cap2],true,none⟩,BR d,Bp L rec .busy none,
    ⟨b7,213,(H4 (sd (rg rs k) (prv (rg rs k).length j)) (sd (rg rs k) j) (sd (rg rs k) (nxt (rg rs k).length j))).cells.toList,true,none⟩]) (fun _=>True) ?_ ?_
  ·refine DX ?_
   refine wB 1 I I I (wP I ?_)
   refine AF 19 I (fun h19=> ?_) (fun h19=> ?_)
   ·refine Ae I I ?_
    iterate 3 refine Ae I I ?_
    refine wP I (wS 1 I I I (zC ?_))
    refine Aj () O ⟨I,I,I,O⟩ [] ?_
    have h19:Bq (rg rs k) (AY rs k) j=true:=h19
    have e:Bq (rg rs k) (AY rs k) (j+1)=true:=by simp[Bq,h19]
    rw[e];rfl
   ·refine wP I (wP I (wB 6 I I I (wP I (wP I (wS 1 I I I (zC ?_))))))
    refine Aj () O ⟨I,I,I,O⟩ [] ?_
    have h19:Bq (rg rs k) (AY rs k) j=false:=h19
    have e:Bq (rg rs k) (AY rs k) (j+1)= !(sd (rg rs k) j).gable:=by simp[Bq,h19]
    rw[e];rfl
  intro _ _
  refine zA (zB (wB 6 I I I (wC I I (fun W _=>So (sd (rg rs k) (prv (rg rs k).length j)) (sd (rg rs k) j) (sd (rg rs k) (nxt (rg rs k).length j)) W) (wP I (wP I ?_)))))
  have good:CS (rg rs k) j=true→ ∀i,i<j+1→CS (rg rs k) i=true:=fun hg i hi=>by
   by_cases e:i=j
   ·subst e;exact hg
   ·exact hin i (by show i<j;omega)
  refine AF 28 I (fun h28=> ?_) (fun h28=> ?_)
  ·refine wP I (wP I (wB 6 I I I (wP I ?_)))
   refine AF 32 I (fun h32=> ?_) (fun h32=> ?_)
   ·refine Ae I I ?_
    iterate 2 refine Ae I I ?_
    refine wP I (wP I ?_)
    iterate 7 refine Ae I I ?_
    exact wP I (wP I (zC (zE (zR I (zA (zB (wS 0 I I I (zC (zE (zO (zQ (Dw 5 (Bq (rg rs k) (AY rs k) (j+1),j+1) hrec I ⟨I,j,hj,by simp_all [CS,MP,Iq]⟩ [_] I))))))))))))
   ·refine wP I (wP I (wB 6 I I I (wP I (wP I ?_))))
    refine AF 37 I (fun h37=> ?_) (fun h37=> ?_)
    ·refine Ae I I ?_
     iterate 6 refine Ae I I ?_
     exact wP I (wP I (zC (zE (zR I (zA (zB (wS 0 I I I (zC (zE (zO (zQ (Dw 5 (Bq (rg rs k) (AY rs k) (j+1),j+1) hrec I ⟨I,j,hj,by simp_all [CS,MP,Iq]⟩ [_] I))))))))))))
    ·refine wP I (wP I (wB 6 I I I (wP I (wP I (wB 6 I I I (wP I (wP I (wP I (Aa (A0 ?_))))))))))
     refine Af I (fun h=> ?_) (fun h=> ?_)
     ·exact zA (zB (wS 0 I I I (zC (zE (zO (zQ (Dw 5 (Bq (rg rs k) (AY rs k) (j+1),j+1) hrec I ⟨I,j,hj,by simp_all [CS,MP,Iq]⟩ [_] I)))))))
     ·exact zI (zN (B6 5 (Bq (rg rs k) (AY rs k) (j+1),j+1) hrec I ⟨I,I,good (by simp_all [CS,MP,Iq])⟩ [_] I))
  ·refine Ae I I ?_
   iterate 16 refine Ae I I ?_
   exact wP I (zC (zE (zS I (zI (zN (B6 5 (Bq (rg rs k) (AY rs k) (j+1),j+1) hrec I ⟨I,I,good (by simp_all [CS,MP,Iq])⟩ [_] I))))))
 ·rintro⟨sm,j⟩ d L rec ⟨e1,e2,hin⟩
  obtain rfl:j=(rg rs k).length:=e1
  obtain rfl:sm=Bq (rg rs k) (AY rs k) (rg rs k).length:=e2
  refine zN (zN (zE (zB (wP I (wP I (zC ?_))))))
  refine SC 2 4 I I ?_
  refine JI (X:=Nat×Bool×List Nat) (k+1,Bq (rg rs k) (AY rs k) (rg rs k).length,d::ds) ?_ ?_ I ?_ [0,1,2] (by decide) I
  rotate_left
  ·show rs.length-(k+1)<rs.length-k;omega
  ·exact⟨I,I,I,I,congrArg (fun z=>some (Value.int .i64 z)) (AE (x:=(k:Int)+1) (by omega) (by omega)),O⟩
  refine⟨hk,I,fun i hi=> ?_⟩
  by_cases e:i=k
  ·subst e
   exact List.all_eq_true.2 fun x hx=>hin x (List.mem_range.1 hx)
  ·exact hok i (by show i<k;have:i<k+1:=hi;omega)
 ·rintro⟨sm,j'⟩ d L rec c ⟨rfl,j,hj,hf⟩
  refine zO (zQ (zQ (zP (zP (zQ (zP ?_))))))
  refine SC 2 4 I I ?_
  refine HK 2 (d::ds) I ?_
  have hj:jnd rs=false:=by
   have h1:G6 (rg rs k)=false:=Bool.eq_false_iff.2 fun h2=>by
    have:=List.all_eq_true.1 h2 j (List.mem_range.2 hj)
    rw[hf] at this;cases this
   have:rs.all G6=false:=Bool.eq_false_iff.2 fun h2=>by
    have:=List.all_eq_true.1 h2 _ (List.mem_of_getElem? (Bd hk))
    rw[h1] at this;cases this
   simp[jnd,this]
  exact A9 tH I (.cell 0 I I I I I) () (by rw[hj]) O fun W _=>Av.nil _ _
end
section
open Go Go.RowKit Go.Am
set_option maxRecDepth 10000
-- BOXES 3
abbrev AO (p:Option Addr) (n cap:Nat):Value:= .agg #[slv p n cap]
def chk (rs:List (List Sd)):Int:=
 if rs.any (fun l=>l.length==0)=true then 5
 else if tot rs=0 then 5
 else if tot rs>24 then 4
 else if rs.flatten.any (fun s=> !rgd s)=true then 2
 else if rs.any (fun l=> !shp l)=true then 14
 else if crs rs=true then 15
 else if (!plc rs|| !jnd rs)=true then 14
 else 0
theorem H0 {rs:List (List Sd)} {l:List Sd} (h:l∈rs):l.length≤tot rs:=by
 unfold tot
 induction rs with
 |nil=>cases h
 |cons x rs ih=>
  rw[List.map_cons,List.sum_cons]
  rcases List.mem_cons.1 h with rfl|h
  ·omega
  ·have:=ih h;omega
theorem Gl (W:World) (p:Option Addr) (cap:Nat) (rs:List (List Sd)) (hn:rs.length<4611686018427387904) (hT:tot rs<1099511627776) (hR:BD W p rs):
  Ad Tryz.prog 92 #[AO p rs.length cap] W (fun _:Unit=> .int .i64 (chk rs)) (fun _=>True) (fun _=>[]):=by
 have hl: ∀l∈rs,l.length<4611686018427387904:=fun l h=>by have:=H0 h;omega
 refine Ab (args:=[AO p rs.length cap]) Tryz.func92 I I I ?_
 refine zA (zB ?_)
 (refine A3 rfl rfl rfl rfl ?_;intro)
 refine wP I (Aa ?_)
 rename_i b1
 refine zE (zA (zB (wP I (Aa (zE (zA (zA (zB (wP I (wB 0 I I I (wP I (wP I (Aa ?_)))))))))))))
 refine zE (zH ?_)
 refine Ar (X:=Nat) (fun k=>[(1, .pointer (some ⟨b1,0,none⟩)),(3, .int .i64 (tot (rs.take k):Nat)),(7,slv p rs.length cap),(8, .int .i64 (rs.length:Nat)),(9, .int .i64 (k:Nat))]) (fun _=>[⟨b1,24,[slv p rs.length cap],true,none⟩])
  (fun k=>k≤rs.length∧ ∀j,j<k→(rg rs j).length≠0) (fun k=>rs.length-k) 0 ⟨Nat.zero_le _,fun j hj=>absurd hj (Nat.not_lt_zero _)⟩ ⟨rfl,rfl,rfl,rfl,rfl,trivial⟩ [] rfl ?_
 rintro k ⟨hk,hok⟩
 refine zA (zB (wP I (Aa (zE (zA ?_)))))
 refine Af I (fun h=> ?_) (fun h=> ?_)
 ·have hk:k<rs.length:=by simp at h;omega
  clear h
  obtain⟨b,off,rfl,hrow⟩:=hR.row hk
  obtain⟨q,cap2,hq1,hq2⟩:=hrow k hk
  refine zI (zE (zA (zH (zA (zB ?_)))))
  refine wJ ?_
  refine wL 0 I I (fun W hp=>hq1.hp hp) I (wP I (Aa (zE (zA (zA (zB (wP I (wP I (wP I (Aa (zE ?_)))))))))))
  refine Af I (fun h=> ?_) (fun h=> ?_)
  ·refine zA (zB (wP I (Aa (zE (zO (zP (zQ (zP (zP (zQ (zP ?_)))))))))))
   have he:rs.any (fun l=>l.length==0)=true:=List.any_eq_true.2 ⟨_,List.mem_of_getElem? (Bd hk),by have h':((((rg rs k).length:Nat):Int)==0)=true:=h;rw[beq_iff_eq] at h'⊢;omega⟩
   exact wR1 I I (by unfold chk;rw[if_pos he])
  have hz:(rg rs k).length≠0:=by
   have h':((((rg rs k).length:Nat):Int)==0)=false:=h
   rw[beq_eq_false_iff_ne] at h';omega
  clear h
  refine zI (zE (zB ?_))
  iterate 5 refine wP I ?_
  refine Aa ?_
  have hs:w64 ((tot (rs.take k):Nat)+((rg rs k).length:Nat))=(tot (rs.take (k+1)):Nat):=by
   have h1:=Bj hk
   have h2:=Cf rs (k+1)
   rw[Ai (by omega) (by omega)];omega
  refine zN (zE (zB ?_))
  refine Ak 3 _ I (congrArg (Value.int .i64) hs) ?_
  refine wP I (wP I (Aa ?_))
  refine Al (k+1) ⟨hk,fun j hj=> ?_⟩ (by omega) ⟨I,I,I,I,congrArg (fun z=>some (Value.int .i64 z)) (AE (x:=(k:Int)+1) (by omega) (by omega)),O⟩ [] I
  by_cases e:j=k
  ·subst e;exact hz
  ·exact hok j (by omega)
 have e:k=rs.length:=by simp at h;omega
 subst e
 clear h
 rw[List.take_length]
 have hne: ∀l∈rs,l≠[]:=fun l hl e=>by
  obtain⟨i,hi,e2⟩:=List.getElem_of_mem hl
  have:=hok i hi
  rw[show rg rs i=rs[i] by simp[rg,hi],e2,e] at this
  exact this I
 have he:rs.any (fun l=>l.length==0)=false:=Bool.eq_false_iff.2 fun h2=>by
  obtain⟨l,h3,h4⟩:=List.any_eq_true.1 h2
  rw[beq_iff_eq] at h4
  exact hne l h3 (List.length_eq_zero_iff.1 h4)
 have hN: ¬(rs.any (fun l=>l.length==0)=true):=by rw[he];decide
 refine zJ (zK (zK (zL (zE (zA (zH (zA (zB (wP I (wP I (wP I (Aa (zE ?_)))))))))))))
 refine Af I (fun h=> ?_) (fun h=> ?_)
 ·refine zA (zB (wP I (Aa (zE (zO (zQ (zP ?_)))))))
  have h0:tot rs=0:=by have h':(((tot rs:Nat):Int)==0)=true:=h;rw[beq_iff_eq] at h';omega
  exact wR1 I I (by unfold chk;rw[if_neg hN,if_pos h0])
 have h0: ¬tot rs=0:=by have h':(((tot rs:Nat):Int)==0)=false:=h;rw[beq_eq_false_iff_ne] at h';omega
 clear h
 refine zA (zB (wP I (wP I (wP I (Aa (zE ?_))))))
 refine Af I (fun h=> ?_) (fun h=> ?_)
 ·refine zA (zB (wP I (Aa (zE (zO (zQ (zP ?_)))))))
  have h1:tot rs>24:=by have h':decide (((tot rs:Nat):Int)>24)=true:=h;rw[decide_eq_true_iff] at h';omega
  exact wR1 I I (by unfold chk;rw[if_neg hN,if_neg h0,if_pos h1])
 have h1: ¬tot rs>24:=by have h':decide (((tot rs:Nat):Int)>24)=false:=h;rw[decide_eq_false_iff_not] at h';omega
 clear h
 refine zA (zB (wP I (wB 0 I I I ?_)))
 refine wD (X:=Vec) I I (fun W hp=>JN W p cap rs hn hT (hR.below (Nat.le_refl _) hp.below) hne) ?_
 intro V hV
 obtain⟨q,cq,eV,hVR⟩:=Vec.ring hV
 have hfl:rs.flatten.length<4611686018427387904:=by rw[FD];omega
 refine Ak 30 _ I eV ?_
 refine wC I I (fun W hp=>K5 145 (by kernel_rfl) (fun s=> !rgd s) PD W q cq rs.flatten hfl (hVR hp 1 I)) (wP I (Aa (zE ?_)))
 refine Af I (fun h=> ?_) (fun h=> ?_)
 ·exact zA (zB (wP I (Aa (zE (zO (zQ (zP (wR1 I I (by unfold chk;rw[if_neg hN,if_neg h0,if_neg h1,if_pos h])))))))))
 have h2: ¬(rs.flatten.any (fun s=> !rgd s)=true):=by rw[h];decide
 clear h
 refine zA (zB (wP I (wB 0 I I I (wC I I (fun W hp=>KI 148 (by kernel_rfl) (fun l=> !shp l) Pg W p cap rs hn hl (hR.below (Nat.le_refl _) hp.below)) (wP I (Aa (zE ?_)))))))
 refine Af I (fun h=> ?_) (fun h=> ?_)
 ·exact zA (zB (wP I (Aa (zE (zO (zQ (zP (wR1 I I (by unfold chk;rw[if_neg hN,if_neg h0,if_neg h1,if_neg h2,if_pos h])))))))))
 have h3: ¬(rs.any (fun l=> !shp l)=true):=by rw[h];decide
 clear h
 refine zA (zB (wP I (wB 0 I I I (wC I I (fun W hp=>MQ W p cap rs hn hT hl (hR.below (Nat.le_refl _) hp.below)) (wP I (Aa (zE ?_)))))))
 refine Af I (fun h=> ?_) (fun h=> ?_)
 ·exact zA (zB (wP I (Aa (zE (zO (zQ (zP (wR1 I I (by unfold chk;rw[if_neg hN,if_neg h0,if_neg h1,if_neg h2,if_neg h3,if_pos h])))))))))
 have h4: ¬(crs rs=true):=by rw[h];decide
 clear h
 refine zA (zB (wP I (wB 0 I I I (wC I I (fun W hp=>PZ W p cap rs hn hl hne (hR.below (Nat.le_refl _) hp.below)) (wP I (wP I ?_))))))
 refine AF 45 I (fun h45=> ?_) (fun h45=> ?_)
 ·have h5:(!plc rs|| !jnd rs)=true:=by have h':(!plc rs)=true:=h45;rw[h'];rfl
  iterate 4 refine Ae I I ?_
  exact wP I (wP I (Aa (zE (zR I (zA (zB (wP I (Aa (zE (zO (zQ (zP (wR1 I I (by unfold chk;rw[if_neg hN,if_neg h0,if_neg h1,if_neg h2,if_neg h3,if_neg h4,if_pos h5]))))))))))))))
 ·have h':(!plc rs)=false:=h45
  refine wP I (wB 0 I I I (wC I I (fun W hp=>PP W p cap rs hn hl (hR.below (Nat.le_refl _) hp.below)) (wP I (wP I (wP I (Aa (zE ?_)))))))
  refine Af I (fun h=> ?_) (fun h=> ?_)
  ·refine zA (zB (wP I (Aa (zE (zO (zQ (zP ?_)))))))
   have h5:(!plc rs|| !jnd rs)=true:=by rw[h',h];rfl
   exact wR1 I I (by unfold chk;rw[if_neg hN,if_neg h0,if_neg h1,if_neg h2,if_neg h3,if_neg h4,if_pos h5])
  ·refine zI (zN (zE (zA (zB (wP I (Aa (zE (zO ?_))))))))
   have h5: ¬((!plc rs|| !jnd rs)=true):=by rw[h',h];decide
   exact wR1 I I (by unfold chk;rw[if_neg hN,if_neg h0,if_neg h1,if_neg h2,if_neg h3,if_neg h4,if_neg h5])
-- BOXES 3
theorem BD.hp {W0 W:World} {bxs:List Bx} {p:Option Addr} {rs:List (List Sd)} (h:BD W0 p rs) (hp:Hp W0 bxs W):BD W p rs:=h.below (Nat.le_refl _) hp.below
def grt (rs:List (List Sd)) (m:Int):Bool:=(decide ((tot rs:Int)>m)&&decide ((tot rs:Int)≤24))||decide ((tot rs:Int)>40)||decide ((rs.length:Int)>40)
theorem Re (W:World) (p:Option Addr) (cap:Nat) (rs:List (List Sd)) (m:Int) (hn:rs.length<4611686018427387904) (hT:tot rs<4611686018427387904) (hR:BD W p rs):
  Ad Tryz.prog 40 #[AO p rs.length cap, .int .i64 m] W (fun _:Unit=> .bool (grt rs m)) (fun _=>True) (fun _=>[]):=by
 refine Ab (args:=[AO p rs.length cap, .int .i64 m]) Tryz.func40 I I I ?_
 refine zA (zB ?_)
 (refine A3 rfl rfl rfl rfl ?_;intro)
 rename_i b1
 refine wP I (Aa (zE (zA (zB (wP I (Aa (zE (zA (zA (zB (wP I (Aa (zE ?_)))))))))))))
 refine zH ?_
 refine Ar (X:=Nat) (fun k=>[(1, .int .i64 m),(2, .pointer (some ⟨b1,0,none⟩)),(5, .int .i64 (tot (rs.take k):Nat)),(6, .int .i64 (k:Nat))]) (fun _=>[⟨b1,24,[slv p rs.length cap],true,none⟩])
  (fun k=>k≤rs.length) (fun k=>rs.length-k) 0 (Nat.zero_le _) ⟨rfl,rfl,rfl,rfl,trivial⟩ [] rfl ?_
 intro k hk
 refine zA (zA (zB (wP I (wP I (wB 0 I I I (wP I (wP I (Aa (zE ?_)))))))))
 refine Af I (fun h=> ?_) (fun h=> ?_)
 ·have hk:k<rs.length:=by simp at h;omega
  clear h
  obtain⟨b,off,rfl,hrow⟩:=hR.row hk
  obtain⟨q,cap2,hq1,hq2⟩:=hrow k hk
  refine zI (zE (zA (zH (zB (wP I (wP I (wB 0 I I I (wP I ?_))))))))
  refine wJ ?_
  refine wL 0 I I (fun W hp=>hq1.hp hp) I (wP I (wP I (wP I (Aa ?_))))
  have hs:w64 ((tot (rs.take k):Nat)+((rg rs k).length:Nat))=(tot (rs.take (k+1)):Nat):=by
   have h1:=Bj hk
   have h2:=Cf rs (k+1)
   rw[Ai (by omega) (by omega)];omega
  refine zN (zE (zB ?_))
  refine Ak 5 _ I (congrArg (Value.int .i64) hs) ?_
  exact wP I (wP I (wP I (Aa (Al (k+1) hk (by omega) ⟨I,I,I,congrArg (fun z=>some (Value.int .i64 z)) (AE (x:=(k:Int)+1) (by omega) (by omega)),O⟩ [] I))))
 have e:k=rs.length:=by simp at h;omega
 subst e
 clear h
 rw[List.take_length]
 refine zJ (zK (zK (zL (zE (zA (zB (wP I (wP I (wP I (wP I ?_))))))))))
 refine AF 25 I (fun h25=> ?_) (fun h25=> ?_)
 ·refine wP I (wP I (wP I (wP I ?_)))
  have h25':decide ((tot rs:Int)>m)=true:=h25
  refine AF 29 I (fun h29=> ?_) (fun h29=> ?_)
  ·have e:grt rs m=true:=by have h':decide ((tot rs:Int)≤24)=true:=h29;unfold grt;rw[h25',h'];rfl
   iterate 2 refine Ae I I ?_
   refine wP I (wP I ?_)
   iterate 4 refine Ae I I ?_
   exact wP I (wP I (Aa (zE (zO (wR1 I I (by rw[e]))))))
  ·refine wP I (wP I (wP I (wP I ?_)))
   have h':decide ((tot rs:Int)≤24)=false:=h29
   refine AF 33 I (fun h33=> ?_) (fun h33=> ?_)
   ·have e:grt rs m=true:=by have h2:decide ((tot rs:Int)>40)=true:=h33;unfold grt;rw[h2,Bool.or_true];rfl
    iterate 4 refine Ae I I ?_
    exact wP I (wP I (Aa (zE (zO (wR1 I I (by rw[e]))))))
   ·have e:grt rs m=decide ((rs.length:Int)>40):=by have h2:decide ((tot rs:Int)>40)=false:=h33;unfold grt;rw[h',h2,Bool.and_false];rfl
    exact wP I (wB 0 I I I (wP I (wP I (wP I (wP I (Aa (zE (zO (wR1 I I (by rw[e]))))))))))
 ·have h25':decide ((tot rs:Int)>m)=false:=h25
  iterate 2 refine Ae I I ?_
  iterate 6 refine wP I ?_
  refine AF 33 I (fun h33=> ?_) (fun h33=> ?_)
  ·have e:grt rs m=true:=by have h2:decide ((tot rs:Int)>40)=true:=h33;unfold grt;rw[h2,Bool.or_true];rfl
   iterate 4 refine Ae I I ?_
   exact wP I (wP I (Aa (zE (zO (wR1 I I (by rw[e]))))))
  ·have e:grt rs m=decide ((rs.length:Int)>40):=by have h2:decide ((tot rs:Int)>40)=false:=h33;unfold grt;rw[h25',h2];rfl
   exact wP I (wB 0 I I I (wP I (wP I (wP I (wP I (Aa (zE (zO (wR1 I I (by rw[e]))))))))))
theorem DL {rs:List (List Sd)} (h:chk rs=0):(∀l∈rs,l≠[])∧tot rs≤24∧tot rs≠0:=by
 unfold chk at h
 split at h
 ·cases h
 ·rename_i h1
  split at h
  ·cases h
  ·rename_i h2
   split at h
   ·cases h
   ·rename_i h3
    refine⟨fun l hl e=>h1 (List.any_eq_true.2 ⟨l,hl,by rw[e];rfl⟩),by omega,h2⟩
theorem W6 (W:World) (p:Option Addr) (cap:Nat) (rs:List (List Sd)) (hn:rs.length<4611686018427387904) (hR:BD W p rs) (hc:chk rs=0):
  Ad Tryz.prog 52 #[AO p rs.length cap] W (fun V:Vec=> .tuple #[V.val rs.flatten.length, .int .i64 0]) (fun V=>V.OK 7 rs.flatten.length (cellsOf rs.flatten)) (fun V=>[V.bx 80 (cellsOf rs.flatten)]):=by
 obtain⟨hne,hT,_⟩:=DL hc
 refine Ab (args:=[AO p rs.length cap]) Tryz.func52 I I I ?_
 refine zA (zB ?_)
 (refine A3 rfl rfl rfl rfl ?_;intro)
 refine wP I (wP I (Aa (zE (zA (zA (zB (wB 0 I I I (wC I I (fun W hp=>(Gl W p cap rs hn (by omega) (hR.hp hp)).cast (by rw[hc])) (wP I (Aa (zE (zS I (zI ?_)))))))))))))
 refine zE (zA (zB (wP I (wB 0 I I I ?_))))
 refine wD (X:=Vec) I I (fun W hp=>JN W p cap rs hn (by omega) (hR.hp hp) hne) ?_
 intro V hV
 exact wP I (wP I (Aa (zE (zO (AK tH I (.tmp I) (.tmp I) V I hV fun W hp=>Av.of_hp1 hp 1 I)))))
end
section
open Go Go.RowKit Go.Am
def AI (f:Nat→Int):Nat→Int
 |0=>0
 |k+1=>AI f k+f k
theorem BY {f g:Nat→Int}: ∀(n:Nat),(∀i,i<n→f i=g i)→AI f n=AI g n
 |0,_=>rfl
 |n+1,h=>by
  show AI f n+f n=AI g n+g n
  rw[BY n (fun i hi=>h i (by omega)),h n (by omega)]
theorem O1 (f g:Nat→Int): ∀n,AI (fun i=>f i+g i) n=AI f n+AI g n
 |0=>rfl
 |n+1=>by
  show AI _ n+(f n+g n)=AI f n+f n+(AI g n+g n)
  rw[O1 f g n];omega
theorem F3 (c:Int) (f:Nat→Int): ∀n,AI (fun i=>c*f i) n=c*AI f n
 |0=>by simp[AI]
 |n+1=>by
  show AI _ n+c*f n=c*(AI f n+f n)
  rw[F3 c f n,Int.mul_add]
theorem MH (g:Nat→Int): ∀n,AI (fun i=>g (i+1)) n+g 0=AI g (n+1)
 |0=>by simp[AI]
 |n+1=>by
  have ih:=MH g n
  show AI (fun i=>g (i+1)) n+g (n+1)+g 0=AI g (n+1)+g (n+1)
  omega
theorem U5 (g:Nat→Int) (n:Nat):AI (fun i=>g (nxt n i)) n=AI g n:=by
 cases n with
 |zero=>rfl
 |succ m=>
  rw[←MH g m]
  show AI (fun i=>g (nxt (m+1) i)) m+g (nxt (m+1) m)=_
  have h0:nxt (m+1) m=0:=Nat.mod_self _
  rw[h0,BY m (fun i hi=>by rw[show nxt (m+1) i=i+1 from Nat.mod_eq_of_lt (by omega)])]
def inR (s:Sd):Prop:=0≤s.x∧s.x≤65536∧0≤s.y∧s.y≤65536
theorem TU {s:Sd} (h:rgd s=true):inR s:=by
 unfold rgd at h
 simp only[Bool.and_eq_true,btw,decide_eq_true_eq] at h
 exact⟨h.2.1.1.1.1,h.2.1.1.1.2,h.2.1.1.2.1,h.2.1.1.2.2⟩
theorem CZ {l:List Sd} (h: ∀s∈l,inR s) {i:Nat} (hi:i<l.length):inR (sd l i):=h _ (List.mem_of_getElem? (Ex hi))
theorem DP {n i:Nat} (h:i<n):nxt n i<n:=Nat.mod_lt _ (by omega)
theorem Gx {n i:Nat} (h:i<n):prv n i<n:=Nat.mod_lt _ (by omega)
def EG (l:List Sd) (i:Nat):Int:=(sd l i).x*(sd l (nxt l.length i)).y-(sd l i).y*(sd l (nxt l.length i)).x
theorem I9 {a b:Int} (ha:0≤a) (ha':a≤65536) (hb:0≤b) (hb':b≤65536):0≤a*b∧a*b≤4294967296:=by
 refine⟨Int.mul_nonneg ha hb, ?_⟩
 calc a*b≤65536*b:=Int.mul_le_mul_of_nonneg_right ha' hb
  _≤65536*65536:=Int.mul_le_mul_of_nonneg_left hb' (by decide)
  _=4294967296:=by decide
theorem OU {l:List Sd} (h: ∀s∈l,inR s): ∀k,k≤l.length→k≤1000000→CL l k=AI (EG l) k∧ -(k*4294967296:Int)≤CL l k∧CL l k≤k*4294967296
 |0,_,_=>⟨rfl,by simp[CL],by simp[CL]⟩
 |k+1,hk,hm=>by
  obtain⟨h1,h2,h3⟩:=OU h k (by omega) (by omega)
  have hs:=CZ h (show k<l.length by omega)
  have hn:=CZ h (DP (show k<l.length by omega))
  obtain⟨a1,a2⟩:=I9 hs.1 hs.2.1 hn.2.2.1 hn.2.2.2
  obtain⟨b1,b2⟩:=I9 hs.2.2.1 hs.2.2.2 hn.1 hn.2.1
  have e:CL l (k+1)=CL l k+EG l k:=by
   show w64 (CL l k+w64 (w64 ((sd l k).x*(sd l (nxt l.length k)).y)-w64 ((sd l k).y*(sd l (nxt l.length k)).x)))=_
   unfold EG
   rw[Ai (x:=(sd l k).x*_) (by omega) (by omega),Ai (x:=(sd l k).y*_) (by omega) (by omega),Ai (x:=_-_) (by omega) (by omega)]
   exact Ai (by omega) (by omega)
  have ec:EG l k=(sd l k).x*(sd l (nxt l.length k)).y-(sd l k).y*(sd l (nxt l.length k)).x:=rfl
  refine⟨by rw[e,h1];rfl, ?_, ?_⟩<;>rw[e,ec]<;>push_cast<;>omega
theorem Cr {rs:List (List Sd)} (h:chk rs=0):(∀l∈rs, ∀s∈l,rgd s=true)∧(∀l∈rs,shp l=true)∧crs rs=false∧plc rs=true∧jnd rs=true:=by
 unfold chk at h
 split at h
 ·cases h
 split at h
 ·cases h
 split at h
 ·cases h
 split at h
 ·cases h
 rename_i h2
 split at h
 ·cases h
 rename_i h3
 split at h
 ·cases h
 rename_i h4
 split at h
 ·cases h
 rename_i h5
 refine⟨fun l hl s hs=> ?_,fun l hl=> ?_,by simpa using h4, ?_, ?_⟩
 ·cases hr:rgd s with
  |true=>rfl
  |false=>exact absurd (List.any_eq_true.2 ⟨s,List.mem_flatten.2 ⟨l,hl,hs⟩,by rw[hr];rfl⟩) h2
 ·cases hr:shp l with
  |true=>rfl
  |false=>exact absurd (List.any_eq_true.2 ⟨l,hl,by rw[hr];rfl⟩) h3
 ·cases hp:plc rs with
  |true=>rfl
  |false=>rw[hp] at h5;exact absurd rfl h5
 ·cases hp:jnd rs with
  |true=>rfl
  |false=>rw[hp] at h5;exact absurd (by simp) h5
end
section
open Go Go.RowKit Go.Am
set_option maxRecDepth 10000
-- BOXES 1
def sgI (a:Int):Int:=if a<0 then -1 else if a>0 then 1 else 0
theorem Ns (a:Int):AQ Tryz.prog 237 [.int .i64 a] (.int .i64 (sgI a)):=by
 intro W
 refine Ab Tryz.func237 I I I ?_
 refine zA (zB (wP I (Aa (zE (zA (zA (zB (wP I (wP I (Aa (zE ?_)))))))))))
 refine Af I (fun h=> ?_) (fun h=> ?_)
 ·refine zA (zB (wP I (Aa (zE (zO (zP ?_))))))
  have h':a<0:=by simpa using h
  exact wR1 I I (by unfold sgI;rw[if_pos h'])
 have h1: ¬a<0:=by simpa using h
 refine zI (zE (zA (zA (zB (wP I (wP I (Aa (zE ?_))))))))
 refine Af I (fun h2=> ?_) (fun h2=> ?_)
 ·refine zA (zB (wP I (Aa (zE (zO (zP ?_))))))
  have h':a>0:=by simpa using h2
  exact wR1 I I (by unfold sgI;rw[if_neg h1,if_pos h'])
 have h3: ¬a>0:=by simpa using h2
 exact zI (zE (zA (zB (wP I (Aa (zE (zO (wR1 I I (by unfold sgI;rw[if_neg h1,if_neg h3])))))))))
def KA (n a b:Int):Bool:=decide (n<a)||decide (n>b)
theorem Kr (n a b:Int):KA n a b= !btw n a b:=by
 unfold KA btw
 rw[Bool.eq_iff_iff]
 simp only[Bool.or_eq_true,Bool.not_eq_true',Bool.and_eq_false_iff,decide_eq_true_eq,decide_eq_false_iff_not]
 omega
theorem CV (n a b:Int):AQ Tryz.prog 158 [.int .i64 n, .int .i64 a, .int .i64 b] (.bool (KA n a b)):=by
 intro W
 refine Ab Tryz.func158 I I I ?_
 refine zA (zB (wP I (Aa (zE (zA (zB (wP I (wP I (wP I (wP I ?_))))))))))
 refine AF 10 I (fun h10=> ?_) (fun h10=> ?_)
 ·refine Ae I I ?_
  iterate 2 refine Ae I I ?_
  exact wP I (wP I (Aa (zE (zO (wR1 I I (by simp_all [KA]<;>(intros;omega)))))))
 ·exact wP I (wP I (wP I (wP I (wP I (Aa (zE (zO (wR1 I I (by simp_all [KA]<;>(intros;omega))))))))))
theorem NN (s:Sd):AQ Tryz.prog 103 [s.val] (.bool (rgd s)):=by
 intro W
 refine Ab Tryz.func103 I I I ?_
 refine zA (zB ?_)
 (refine A3 rfl rfl rfl rfl ?_;intro)
 refine wP I (Aa ?_)
 rename_i b1
 have no:(KA s.x 0 65536||KA s.y 0 65536||KA s.plate 0 65536||KA s.over 0 65536)=true→rgd s=false:=fun h=>by
  simp only[Kr] at h
  unfold rgd
  rw[show(btw s.x 0 65536&&btw s.y 0 65536&&btw s.plate 0 65536&&btw s.over 0 65536)=false by
   rw[Bool.eq_false_iff];intro h2;simp_all,Bool.and_false]
 have yes:KA s.x 0 65536=false→KA s.y 0 65536=false→KA s.plate 0 65536=false→KA s.over 0 65536=false→rgd s=(if s.gable then s.rise==0&&s.run==0 else btw s.rise 1 48&&btw s.run 1 48):=fun h1 h2 h3 h4=>by
  rw[Kr,Bool.not_eq_false'] at h1 h2 h3 h4
  unfold rgd
  rw[h1,h2,h3,h4];simp
 refine zE (zA (zA (zB (wP I (wB 0 I I I (wC I I (fun W _=>(CV ..)) (wP I ?_)))))))
 refine AF 6 I (fun h6=> ?_) (fun h6=> ?_)
 ·refine Ae I I ?_
  iterate 2 refine Ae I I ?_
  refine wP I (wP I ?_)
  iterate 3 refine Ae I I ?_
  refine wP I (wP I ?_)
  iterate 3 refine Ae I I ?_
  exact wP I (Aa (zE (zR I (zA (zB (wP I (Aa (zE (zO (zP (wR1 I I (by rw[no (by simp_all)]))))))))))))
 ·refine wP I (wB 0 I I I (wC I I (fun W _=>(CV ..)) (wP I (wP I ?_))))
  refine AF 11 I (fun h11=> ?_) (fun h11=> ?_)
  ·refine Ae I I ?_
   iterate 2 refine Ae I I ?_
   refine wP I (wP I ?_)
   iterate 3 refine Ae I I ?_
   exact wP I (Aa (zE (zR I (zA (zB (wP I (Aa (zE (zO (zP (wR1 I I (by rw[no (by simp_all)]))))))))))))
  ·refine wP I (wB 0 I I I (wC I I (fun W _=>(CV ..)) (wP I (wP I ?_))))
   refine AF 16 I (fun h16=> ?_) (fun h16=> ?_)
   ·refine Ae I I ?_
    iterate 2 refine Ae I I ?_
    exact wP I (Aa (zE (zR I (zA (zB (wP I (Aa (zE (zO (zP (wR1 I I (by rw[no (by simp_all)]))))))))))))
   ·refine wP I (wB 0 I I I (wC I I (fun W _=>(CV ..)) (wP I (Aa (zE ?_)))))
    refine Af I (fun h=> ?_) (fun h=> ?_)
    ·exact zA (zB (wP I (Aa (zE (zO (zP (wR1 I I (by rw[no (by simp_all)]))))))))
    refine zI (zE (zA (zA (zB ?_))))
    have e:=yes (by simp_all) (by simp_all) (by simp_all) (by simp_all)
    refine wP I (wB 0 I I I (Aa (zE ?_)))
    refine Af I (fun hg=> ?_) (fun hg=> ?_)
    ·refine zA (zB (wP I (wB 0 I I I (wP I (wP I ?_)))))
     refine AF 26 I (fun h26=> ?_) (fun h26=> ?_)
     ·exact wP I (wB 0 I I I (wP I (wP I (wP I (Aa (zE (zO (zP (wR1 I I (by rw[e,hg];simp_all))))))))))
     ·refine Ae I I ?_
      iterate 2 refine Ae I I ?_
      exact wP I (wP I (Aa (zE (zO (zP (wR1 I I (by rw[e,hg];simp_all)))))))
    ·refine zI (zE (zA (zB (wP I (wB 0 I I I (wC I I (fun W _=>(CV ..)) (wP I (wP I ?_))))))))
     refine AF 35 I (fun h35=> ?_) (fun h35=> ?_)
     ·exact wP I (wB 0 I I I (wC I I (fun W _=>(CV ..)) (wP I (wP I (wP I (Aa (zE (zO (wR1 I I (by rw[e,hg];simp_all [Kr]))))))))))
     ·refine Ae I I ?_
      iterate 3 refine Ae I I ?_
      exact wP I (wP I (Aa (zE (zO (wR1 I I (by rw[e,hg];simp_all [Kr]))))))
theorem GK (W:World) (p:Option Addr) (cap:Nat) (l:List Sd) (i:Nat) (hn:l.length<4611686018427387904) (hR:BW W p l) (hi:i<l.length):
  Ad Tryz.prog 236 #[slv p l.length cap, .int .i64 (i:Nat)] W (fun _:Unit=> .tuple #[.int .i64 (sd l (nxt l.length i)).x, .int .i64 (sd l (nxt l.length i)).y]) (fun _=>True) (fun _=>[]):=by
 obtain⟨b,off,rfl,hrow⟩:=hR.row hi
 have hi2:=DP hi
 refine Ab (args:=[slv (some ⟨b,off,none⟩) l.length cap, .int .i64 (i:Nat)]) Tryz.func236 I I I ?_
 refine zA (zB (wP I (wP I (Aa (zE (zA (zB (wP I (wP I (wV 8 ((i+1:Nat):Int) I (show w64 ((i:Nat)+1)=((i+1:Nat):Int) by rw[Ai (by omega) (by omega)];omega) (wP I (wP I ?_))))))))))))
 refine FI I I I I I (by omega) ?_
 refine wV 11 (nxt l.length i:Nat) I (show Int.tmod ((i+1:Nat):Int) (l.length:Nat)=(nxt l.length i:Nat) from(Int.ofNat_tmod _ _).symm) (wP I (Aa (zE (zA (zU (qP I (qP I ?_)))))))
 refine qJ ?_
 refine qP I (qL 0 I I (fun W hp=>(hrow (nxt l.length i) hi2).hp hp) I (qP I (qP I ?_)))
 refine qJ ?_
 exact qP I (qL 1 I I (fun W hp=>(hrow (nxt l.length i) hi2).hp hp) I (qP I (qP I (A4 (Aa (zE (zO (wR2 I I I))))))))
def Nr (l:List Sd) (i:Nat):Int:=sgI (w64 ((sd l (nxt l.length i)).x-(sd l i).x))
def Np (l:List Sd) (i:Nat):Int:=sgI (w64 ((sd l (nxt l.length i)).y-(sd l i).y))
theorem Fg (W:World) (p:Option Addr) (cap:Nat) (l:List Sd) (i:Nat) (hn:l.length<4611686018427387904) (hR:BW W p l) (hi:i<l.length):
  Ad Tryz.prog 159 #[slv p l.length cap, .int .i64 (i:Nat)] W (fun _:Unit=> .tuple #[.int .i64 (Nr l i), .int .i64 (Np l i)]) (fun _=>True) (fun _=>[]):=by
 obtain⟨b,off,rfl,hrow⟩:=hR.row hi
 refine Ab (args:=[slv (some ⟨b,off,none⟩) l.length cap, .int .i64 (i:Nat)]) Tryz.func159 I I I ?_
 refine zA (zB (wP I (wP I (Aa (zE (zA (zB (wP I (wP I (wC I I (fun W hp=>GK W _ cap l i hn (hR.hp hp) hi) ?_))))))))))
 iterate 5 refine wP I ?_
 refine Aa (zE (zA (zU (qP I (qP I (qP I ?_))))))
 refine qJ ?_
 refine qP I (qL 0 I I (fun W hp=>(hrow i hi).hp hp) I (qP I (qC I I (fun W _=>(Ns ..)) (qP I (qP I (qP I ?_))))))
 refine qJ ?_
 exact qP I (qL 1 I I (fun W hp=>(hrow i hi).hp hp) I (qP I (qC I I (fun W _=>(Ns ..)) (qP I (qP I (A4 (Aa (zE (zO (wR2 I I I))))))))))
def Ku (l:List Sd) (i:Nat):Int:=w64 (w64 (Nr l (prv l.length i)*Np l i)-w64 (Np l (prv l.length i)*Nr l i))
theorem MZ (W:World) (p:Option Addr) (cap:Nat) (l:List Sd) (i:Nat) (hn:l.length<4611686018427387904) (hR:BW W p l) (hi:i<l.length):
  Ad Tryz.prog 160 #[slv p l.length cap, .int .i64 (i:Nat)] W (fun _:Unit=> .int .i64 (Ku l i)) (fun _=>True) (fun _=>[]):=by
 have hi2:=Gx hi
 refine Ab (args:=[slv p l.length cap, .int .i64 (i:Nat)]) Tryz.func160 I I I ?_
 refine zA (zB (wP I (Aa (zE (zA (zB ?_))))))
 iterate 6 refine wP I ?_
 refine wV 15 ((i+l.length-1:Nat):Int) I (show w64 (w64 ((i:Nat)+(l.length:Nat))-1)=((i+l.length-1:Nat):Int) by rw[Ai (x:=(i:Nat)+(l.length:Nat)) (by omega) (by omega),Ai (by omega) (by omega)];omega) (wP I (wP I ?_))
 refine FI I I I I I (by omega) ?_
 refine wV 18 (prv l.length i:Nat) I (show Int.tmod ((i+l.length-1:Nat):Int) (l.length:Nat)=(prv l.length i:Nat) from(Int.ofNat_tmod _ _).symm) (wC I I (fun W hp=>Fg W _ cap l (prv l.length i) hn (hR.hp hp) hi2) ?_)
 iterate 5 refine wP I ?_
 refine Aa (zE (zA (zB (wP I (wP I (wC I I (fun W hp=>Fg W _ cap l i hn (hR.hp hp) hi) ?_))))))
 iterate 5 refine wP I ?_
 refine Aa (zE (zA (zB ?_)))
 iterate 8 refine wP I ?_
 exact Aa (zE (zO (wR1 I I I)))
def twR (l:List Sd):Nat→Int
 |0=>0
 |k+1=>w64 (w64 (twR l k+w64 ((sd l k).x*(sd l (nxt l.length k)).y))-w64 ((sd l (nxt l.length k)).x*(sd l k).y))
theorem KV (W:World) (p:Option Addr) (cap:Nat) (l:List Sd) (hn:l.length<4611686018427387904) (hR:BW W p l):
  Ad Tryz.prog 162 #[slv p l.length cap] W (fun _:Unit=> .int .i64 (twR l l.length)) (fun _=>True) (fun _=>[]):=by
 refine Ab (args:=[slv p l.length cap]) Tryz.func162 I I I ?_
 refine zA (zB (wP I (Aa (zE (zA (zB (wP I (Aa (zE (zA (zA (zB (wP I ?_)))))))))))))
 refine Aa (zE (zH ?_))
 refine Ar (X:=Nat) (fun k=>[(0,slv p l.length cap),(3, .int .i64 (twR l k)),(4, .int .i64 (k:Nat))]) (fun _=>[]) (fun k=>k≤l.length) (fun k=>l.length-k) 0 (Nat.zero_le _) ⟨I,I,I,O⟩ [] I ?_
 intro k hk
 refine zA (zA (zB (wP I (wP I (wP I (wP I (Aa (zE ?_))))))))
 refine Af I (fun h=> ?_) (fun h=> ?_)
 rotate_left
 ·have e:k=l.length:=by simp at h;omega
  subst e
  exact zJ (zK (zK (zL (zE (zA (zB (wP I (wP I (Aa (zE (zO (wR1 I I I))))))))))))
 have hk:k<l.length:=by simp at h;omega
 clear h
 obtain⟨b,off,rfl,hrow⟩:=hR.row hk
 refine zI (zE (zA (zH (zA (zB (wP I (wP I (wC I I (fun W hp=>GK W _ cap l k hn (hR.hp hp) hk) ?_))))))))
 iterate 5 refine wP I ?_
 refine Aa (zE (zU (qP I (qP I (qP I ?_)))))
 refine qJ ?_
 refine qP I (qL 0 I I (fun W hp=>(hrow k hk).hp hp) I ?_)
 iterate 6 refine qP I ?_
 refine qJ ?_
 exact qP I (qL 1 I I (fun W hp=>(hrow k hk).hp hp) I (qP I (qP I (qP I (A4 (Aa (zN (zE (zB (wP I (wP I (wP I (Aa (Al (k+1) hk (by omega) ⟨I,I,congrArg (fun z=>some (Value.int .i64 z)) (AE (x:=(k:Int)+1) (by omega) (by omega)),O⟩ [] I))))))))))))))
-- BOXES 1
def axR (l:List Sd) (i:Nat):Bool:=w64 (w64 (Nr l i*Nr l i)+w64 (Np l i*Np l i))==1
def okR (l:List Sd) (i:Nat):Bool:=axR l i&& !(Ku l i==0)
def Jh (l:List Sd):Bool:=(List.range l.length).all (okR l)&&decide (l.length≥4)
theorem M3 {l:List Sd} {k:Nat} (hk:k<l.length) (h:okR l k=false):Jh l=false:=by
 unfold Jh
 rw[BO hk h];rfl
theorem NQ (W:World) (p:Option Addr) (cap:Nat) (l:List Sd) (hn:l.length<4611686018427387904) (hR:BW W p l):
  Ad Tryz.prog 104 #[slv p l.length cap] W (fun _:Unit=> .bool (Jh l)) (fun _=>True) (fun _=>[]):=by
 refine Ab (args:=[slv p l.length cap]) Tryz.func104 I I I ?_
 refine zA (zB (wP I (Aa (zE (zA (zA (zB (wP I (Aa (zE (zH ?_)))))))))))
 refine Ar (X:=Nat) (fun k=>[(0,slv p l.length cap),(3, .int .i64 (k:Nat))]) (fun _=>[]) (fun k=>k≤l.length∧ ∀i,i<k→okR l i=true) (fun k=>l.length-k) 0 ⟨Nat.zero_le _,fun i hi=>absurd hi (Nat.not_lt_zero _)⟩ ⟨I,I,O⟩ [] I ?_
 rintro k ⟨hk,hok⟩
 refine zA (zA (zB (wP I (wP I (wP I (wP I (Aa (zE ?_))))))))
 refine Af I (fun h=> ?_) (fun h=> ?_)
 rotate_left
 ·have e:k=l.length:=by simp at h;omega
  subst e
  refine zJ (zK (zK (zL (zE (zA (zB (wP I (wP I (wP I (wP I (Aa (zE (zO ?_)))))))))))))
  have hall:(List.range l.length).all (okR l)=true:=List.all_eq_true.2 fun i hi=>hok i (List.mem_range.1 hi)
  have e:Jh l=decide ((l.length:Int)≥4):=by
   unfold Jh
   rw[hall,Bool.true_and]
   by_cases h4:l.length≥4
   ·rw[dT h4,dT (by omega)]
   ·rw[dF h4,dF (by omega)]
  exact wR1 I I (by rw[e])
 have hk:k<l.length:=by simp at h;omega
 clear h
 refine zI (zE (zA (zH (zA (zB (wP I (wP I (wC I I (fun W hp=>Fg W _ cap l k hn (hR.hp hp) hk) ?_))))))))
 iterate 5 refine wP I ?_
 refine Aa (zE (zA (zB ?_)))
 iterate 9 refine wP I ?_
 refine AF 26 I (fun h26=> ?_) (fun h26=> ?_)
 ·refine Ae I I ?_
  iterate 3 refine Ae I I ?_
  refine wP I (Aa (zE (zR I (zA (zB (wP I (Aa (zE (zO (zQ (zP (zP (zQ ?_)))))))))))))
  refine zP ?_
  have h':(w64 (w64 (Nr l k*Nr l k)+w64 (Np l k*Np l k)) !=1)=true:=h26
  have hf:okR l k=false:=by unfold okR axR;rw[bne_iff_ne] at h';rw[beq_eq_false_iff_ne.2 h'];rfl
  exact wR1 I I (by rw[M3 hk hf])
 ·refine wP I (wP I (wC I I (fun W hp=>MZ W _ cap l k hn (hR.hp hp) hk) (wP I (wP I (Aa ?_)))))
  have h':(w64 (w64 (Nr l k*Nr l k)+w64 (Np l k*Np l k)) !=1)=false:=h26
  have ha:axR l k=true:=by unfold axR;rw[bne_eq_false_iff_eq] at h';rw[beq_iff_eq];exact h'
  refine zE ?_
  refine Af I (fun h=> ?_) (fun h=> ?_)
  ·refine zA (zB (wP I (Aa (zE (zO (zQ (zP (zP (zQ (zP ?_))))))))))
   have hf:okR l k=false:=by unfold okR;rw[show(Ku l k==0)=true from h,Bool.not_true,Bool.and_false]
   exact wR1 I I (by rw[M3 hk hf])
  ·have hf:okR l k=true:=by unfold okR;rw[ha,show(Ku l k==0)=false from h];rfl
   refine zI (zN (zE (zB (wP I (wP I (wP I (Aa ?_)))))))
   refine Al (k+1) ⟨hk,fun i hi=> ?_⟩ (by omega) ⟨I,congrArg (fun z=>some (Value.int .i64 z)) (AE (x:=(k:Int)+1) (by omega) (by omega)),O⟩ [] I
   by_cases e:i=k
   ·subst e;exact hf
   ·exact hok i (by omega)
theorem Ia (W:World) (p q:Option Addr) (cap caq:Nat) (l m:List Sd) (i k:Nat) (hn:l.length<4611686018427387904) (hm:m.length<4611686018427387904) (hR:BW W p l) (hS:BW W q m) (hi:i<l.length) (hk:k<m.length):
  Ad Tryz.prog 161 #[slv p l.length cap, .int .i64 (i:Nat),slv q m.length caq, .int .i64 (k:Nat)] W (fun _:Unit=> .bool (E1 (sd l i) (sd l (nxt l.length i)) (sd m k) (sd m (nxt m.length k)))) (fun _=>True) (fun _=>[]):=by
 obtain⟨b,off,rfl,hrow⟩:=hR.row hi
 obtain⟨b',off',rfl,hrow'⟩:=hS.row hk
 refine Ab (args:=[slv (some ⟨b,off,none⟩) l.length cap, .int .i64 (i:Nat),slv (some ⟨b',off',none⟩) m.length caq, .int .i64 (k:Nat)]) Tryz.func161 I I I ?_
 refine zA (zB (wP I (Aa (zE (zA (zB (wP I (wP I (wC I I (fun W hp=>GK W _ cap l i hn (hR.hp hp) hi) ?_)))))))))
 iterate 5 refine wP I ?_
 refine Aa (zE (zA (zB (wP I (wP I (wC I I (fun W hp=>GK W _ caq m k hm (hS.hp hp) hk) ?_))))))
 iterate 5 refine wP I ?_
 refine Aa ?_
 obtain⟨B1,e1⟩: ∃b,decide (lox (sd l i) (sd l (nxt l.length i))≤hix (sd m k) (sd m (nxt m.length k)))=b:=⟨_,rfl⟩
 obtain⟨B2,e2⟩: ∃b,decide (lox (sd m k) (sd m (nxt m.length k))≤hix (sd l i) (sd l (nxt l.length i)))=b:=⟨_,rfl⟩
 obtain⟨B3,e3⟩: ∃b,decide (loy (sd l i) (sd l (nxt l.length i))≤hiy (sd m k) (sd m (nxt m.length k)))=b:=⟨_,rfl⟩
 obtain⟨B4,e4⟩: ∃b,decide (loy (sd m k) (sd m (nxt m.length k))≤hiy (sd l i) (sd l (nxt l.length i)))=b:=⟨_,rfl⟩
 have hM:E1 (sd l i) (sd l (nxt l.length i)) (sd m k) (sd m (nxt m.length k))=(B1&&B2&&B3&&B4):=by unfold E1;rw[e1,e2,e3,e4]
 refine zE (zA (zU (qP I (qP I ?_))))
 refine qJ ?_
 refine qP I (qL 0 I I (fun W hp=>(hrow i hi).hp hp) I (qP I (qP I (qP I (qP I ?_)))))
 refine qJ ?_
 refine qP I (qL 0 I I (fun W hp=>(hrow' k hk).hp hp) I (qP I (qP I (qP I (qP I ?_)))))
 refine He 40 I (fun h40=> ?_) (fun h40=> ?_)
 ·refine qP I (qP I ?_)
  refine qJ ?_
  refine qP I (qL 0 I I (fun W hp=>(hrow' k hk).hp hp) I (qP I (qP I (qP I (qP I ?_)))))
  refine qJ ?_
  refine qP I (qL 0 I I (fun W hp=>(hrow i hi).hp hp) I ?_)
  iterate 5 refine qP I ?_
  refine He 57 I (fun h57=> ?_) (fun h57=> ?_)
  ·refine qP I (qP I ?_)
   refine qJ ?_
   refine qP I (qL 1 I I (fun W hp=>(hrow i hi).hp hp) I (qP I (qP I (qP I (qP I ?_)))))
   refine qJ ?_
   refine qP I (qL 1 I I (fun W hp=>(hrow' k hk).hp hp) I ?_)
   iterate 5 refine qP I ?_
   refine He 74 I (fun h74=> ?_) (fun h74=> ?_)
   ·refine qP I (qP I ?_)
    refine qJ ?_
    refine qP I (qL 1 I I (fun W hp=>(hrow' k hk).hp hp) I (qP I (qP I (qP I (qP I ?_)))))
    refine qJ ?_
    refine qP I (qL 1 I I (fun W hp=>(hrow i hi).hp hp) I ?_)
    iterate 5 refine qP I ?_
    exact A4 (Aa (zE (zO (wR1 I I (by rw[hM,show B1=true from e1.symm.trans h40,show B2=true from e2.symm.trans h57,show B3=true from e3.symm.trans h74];exact congrArg Value.bool e4)))))
   ·refine BA I I ?_
    iterate 14 refine BA I I ?_
    refine qP I (qP I (A4 (Aa (zE (zO ?_)))))
    have e:(B1&&B2&&B3&&B4)=false:=by first|(rw[show B1=false from e1.symm.trans h40];rfl)|(rw[show B2=false from e2.symm.trans h57];cases B1<;>rfl)|(rw[show B3=false from e3.symm.trans h74];cases B1<;>cases B2<;>rfl)
    exact wR1 I I (by rw[hM,e])
  ·refine BA I I ?_
   iterate 14 refine BA I I ?_
   refine qP I (qP I ?_)
   iterate 15 refine BA I I ?_
   refine qP I (qP I (A4 (Aa (zE (zO ?_)))))
   have e:(B1&&B2&&B3&&B4)=false:=by first|(rw[show B1=false from e1.symm.trans h40];rfl)|(rw[show B2=false from e2.symm.trans h57];cases B1<;>rfl)|(rw[show B3=false from e3.symm.trans h74];cases B1<;>cases B2<;>rfl)
   exact wR1 I I (by rw[hM,e])
 ·refine BA I I ?_
  iterate 14 refine BA I I ?_
  refine qP I (qP I ?_)
  iterate 15 refine BA I I ?_
  refine qP I (qP I ?_)
  iterate 15 refine BA I I ?_
  refine qP I (qP I (A4 (Aa (zE (zO ?_)))))
  have e:(B1&&B2&&B3&&B4)=false:=by first|(rw[show B1=false from e1.symm.trans h40];rfl)|(rw[show B2=false from e2.symm.trans h57];cases B1<;>rfl)|(rw[show B3=false from e3.symm.trans h74];cases B1<;>cases B2<;>rfl)
  exact wR1 I I (by rw[hM,e])
def Lj (t u:Sd) (px py:Int):Bool:=(t.x==u.x)&&decide (u.x>px)&&decide (loy t u≤py)&&decide (py<hiy t u)
def GJ (l:List Sd) (px py:Int):Nat→Bool
 |0=>false
 |k+1=>if Lj (sd l k) (sd l (nxt l.length k)) px py=true then !GJ l px py k else GJ l px py k
theorem NW (W:World) (p:Option Addr) (cap:Nat) (l:List Sd) (px py:Int) (hn:l.length<4611686018427387904) (hR:BW W p l):
  Ad Tryz.prog 163 #[slv p l.length cap, .int .i64 px, .int .i64 py] W (fun _:Unit=> .bool (GJ l px py l.length)) (fun _=>True) (fun _=>[]):=by
 refine Ab (args:=[slv p l.length cap, .int .i64 px, .int .i64 py]) Tryz.func163 I I I ?_
 refine zA (zB (wP I (Aa (zE (zA (zB (wP I (Aa (zE (zA (zA (zB (wP I ?_)))))))))))))
 refine Aa (zE (zH ?_))
 refine Ar (X:=Nat) (fun k=>[(0,slv p l.length cap),(1, .int .i64 px),(2, .int .i64 py),(7, .bool (GJ l px py k)),(8, .int .i64 (k:Nat))]) (fun _=>[]) (fun k=>k≤l.length) (fun k=>l.length-k) 0 (Nat.zero_le _) ⟨I,I,I,I,I,O⟩ [] I ?_
 intro k hk
 refine zA (zA (zB (wP I (wP I (wP I (wP I (Aa (zE ?_))))))))
 refine Af I (fun h=> ?_) (fun h=> ?_)
 rotate_left
 ·have e:k=l.length:=by simp at h;omega
  subst e
  exact zJ (zK (zK (zL (zE (zA (zB (wP I (wP I (Aa (zE (zO (wR1 I I I))))))))))))
 have hk:k<l.length:=by simp at h;omega
 clear h
 obtain⟨b,off,rfl,hrow⟩:=hR.row hk
 refine zI (zE (zA (zH (zA (zB (wP I (wP I (wC I I (fun W hp=>GK W _ cap l k hn (hR.hp hp) hk) ?_))))))))
 iterate 5 refine wP I ?_
 refine Aa ?_
 obtain⟨B1,e1⟩: ∃b,((sd l k).x==(sd l (nxt l.length k)).x)=b:=⟨_,rfl⟩
 obtain⟨B2,e2⟩: ∃b,decide ((sd l (nxt l.length k)).x>px)=b:=⟨_,rfl⟩
 obtain⟨B3,e3⟩: ∃b,decide (loy (sd l k) (sd l (nxt l.length k))≤py)=b:=⟨_,rfl⟩
 obtain⟨B4,e4⟩: ∃b,decide (py<hiy (sd l k) (sd l (nxt l.length k)))=b:=⟨_,rfl⟩
 have hM:Lj (sd l k) (sd l (nxt l.length k)) px py=(B1&&B2&&B3&&B4):=by unfold Lj;rw[e1,e2,e3,e4]
 have no:(B1&&B2&&B3&&B4)=false→GJ l px py (k+1)=GJ l px py k:=fun h=>by
  show(if Lj (sd l k) (sd l (nxt l.length k)) px py=true then !GJ l px py k else GJ l px py k)=_
  rw[hM,h,if_neg (by decide)]
 have yes:(B1&&B2&&B3&&B4)=true→GJ l px py (k+1)= !GJ l px py k:=fun h=>by
  show(if Lj (sd l k) (sd l (nxt l.length k)) px py=true then !GJ l px py k else GJ l px py k)=_
  rw[hM,h,if_pos rfl]
 refine zE (zA (zB (wP I (wP I ?_))))
 refine wJ ?_
 refine wP I (wL 0 I I (fun W hp=>(hrow k hk).hp hp) I (wP I (wP I (wP I ?_))))
 refine AF 30 I (fun h30=> ?_) (fun h30=> ?_)
 ·refine wP I (wP I (wP I (wP I (wP I ?_))))
  refine AF 35 I (fun h35=> ?_) (fun h35=> ?_)
  ·refine wP I (wP I ?_)
   refine wJ ?_
   refine wP I (wL 1 I I (fun W hp=>(hrow k hk).hp hp) I ?_)
   iterate 6 refine wP I ?_
   refine AF 46 I (fun h46=> ?_) (fun h46=> ?_)
   ·refine wP I (wP I (wP I ?_))
    refine wJ ?_
    refine wP I (wL 1 I I (fun W hp=>(hrow k hk).hp hp) I (wP I (wP I (wP I (wP I (Aa ?_))))))
    have e:(B1&&B2&&B3&&B4)=B4:=by rw[show B1=true from e1.symm.trans h30,show B2=true from e2.symm.trans h35,show B3=true from e3.symm.trans h46];rfl
    refine zE ?_
    refine Af I (fun h=> ?_) (fun h=> ?_)
    ·have e5:(B1&&B2&&B3&&B4)=true:=e.trans (e4.symm.trans h)
     exact zB (wP I (wP I (wP I (Aa (zN (zE (zB (wP I (wP I (wP I (Aa (Al (k+1) hk (by omega) ⟨I,I,I,congrArg (fun z=>some (Value.bool z)) (yes e5).symm,congrArg (fun z=>some (Value.int .i64 z)) (AE (x:=(k:Int)+1) (by omega) (by omega)),O⟩ [] I))))))))))))
    ·have e5:(B1&&B2&&B3&&B4)=false:=e.trans (e4.symm.trans h)
     exact zI (zN (zE (zB (wP I (wP I (wP I (Aa (Al (k+1) hk (by omega) ⟨I,I,I,congrArg (fun z=>some (Value.bool z)) (no e5).symm,congrArg (fun z=>some (Value.int .i64 z)) (AE (x:=(k:Int)+1) (by omega) (by omega)),O⟩ [] I))))))))
   ·refine Ae I I ?_
    iterate 8 refine Ae I I ?_
    refine wP I (Aa ?_)
    have e:(B1&&B2&&B3&&B4)=false:=by first|(rw[show B1=false from e1.symm.trans h30];rfl)|(rw[show B2=false from e2.symm.trans h35];cases B1<;>rfl)|(rw[show B3=false from e3.symm.trans h46];cases B1<;>cases B2<;>rfl)
    exact zE (zS I (zI (zN (zE (zB (wP I (wP I (wP I (Aa (Al (k+1) hk (by omega) ⟨I,I,I,congrArg (fun z=>some (Value.bool z)) (no e).symm,congrArg (fun z=>some (Value.int .i64 z)) (AE (x:=(k:Int)+1) (by omega) (by omega)),O⟩ [] I))))))))))
  ·refine Ae I I ?_
   iterate 8 refine Ae I I ?_
   refine wP I (wP I ?_)
   iterate 9 refine Ae I I ?_
   refine wP I (Aa ?_)
   have e:(B1&&B2&&B3&&B4)=false:=by first|(rw[show B1=false from e1.symm.trans h30];rfl)|(rw[show B2=false from e2.symm.trans h35];cases B1<;>rfl)|(rw[show B3=false from e3.symm.trans h46];cases B1<;>cases B2<;>rfl)
   exact zE (zS I (zI (zN (zE (zB (wP I (wP I (wP I (Aa (Al (k+1) hk (by omega) ⟨I,I,I,congrArg (fun z=>some (Value.bool z)) (no e).symm,congrArg (fun z=>some (Value.int .i64 z)) (AE (x:=(k:Int)+1) (by omega) (by omega)),O⟩ [] I))))))))))
 ·refine Ae I I ?_
  iterate 2 refine Ae I I ?_
  refine wP I (wP I ?_)
  iterate 9 refine Ae I I ?_
  refine wP I (wP I ?_)
  iterate 9 refine Ae I I ?_
  refine wP I (Aa ?_)
  have e:(B1&&B2&&B3&&B4)=false:=by first|(rw[show B1=false from e1.symm.trans h30];rfl)|(rw[show B2=false from e2.symm.trans h35];cases B1<;>rfl)|(rw[show B3=false from e3.symm.trans h46];cases B1<;>cases B2<;>rfl)
  exact zE (zS I (zI (zN (zE (zB (wP I (wP I (wP I (Aa (Al (k+1) hk (by omega) ⟨I,I,I,congrArg (fun z=>some (Value.bool z)) (no e).symm,congrArg (fun z=>some (Value.int .i64 z)) (AE (x:=(k:Int)+1) (by omega) (by omega)),O⟩ [] I))))))))))
end
section
open Go Go.RowKit Go.Am
theorem O9 {n:Nat} {f g:Nat→Bool} (h: ∀i,i<n→f i=g i):(List.range n).all f=(List.range n).all g:=by
 rw[Bool.eq_iff_iff,List.all_eq_true,List.all_eq_true]
 constructor<;>intro h1 i hi
 ·rw[←h i (List.mem_range.1 hi)];exact h1 i hi
 ·rw[h i (List.mem_range.1 hi)];exact h1 i hi
def Vj (rs:List (List Sd)):Prop:= ∀l∈rs, ∀s∈l,inR s
theorem YN {rs:List (List Sd)} (h:rs.flatten.any (fun s=> !rgd s)=false): ∀l∈rs, ∀s∈l,rgd s=true:=fun l hl s hs=>by
 cases hr:rgd s with
 |true=>rfl
 |false=>
  have:rs.flatten.any (fun s=> !rgd s)=true:=List.any_eq_true.2 ⟨s,List.mem_flatten.2 ⟨l,hl,hs⟩,by rw[hr];rfl⟩
  rw[h] at this;cases this
theorem Ys {n k:Nat} (h:k<n):nxt n (prv n k)=k:=by
 unfold nxt prv
 cases k with
 |zero=>
  rw[Nat.zero_add,Nat.mod_eq_of_lt (show n-1<n by omega),show n-1+1=n by omega,Nat.mod_self]
 |succ k=>rw[show k+1+n-1=k+n by omega,Nat.add_mod_right,Nat.mod_eq_of_lt (show k<n by omega),Nat.mod_eq_of_lt h]
theorem d64 {a b:Int} (h1:0≤a∧a≤65536) (h2:0≤b∧b≤65536):w64 (a-b)=a-b:=Ai (by omega) (by omega)
theorem Fa {l:List Sd} (hr: ∀s∈l,inR s) (h:shp l=true) {i:Nat} (hi:i<l.length):
  ¬(((sd l (nxt l.length i)).x-(sd l i).x=0)↔((sd l (nxt l.length i)).y-(sd l i).y=0))∧ ¬(((sd l i).x-(sd l (prv l.length i)).x=0)↔((sd l (nxt l.length i)).x-(sd l i).x=0)):=by
 unfold shp at h
 obtain⟨_,h⟩:=Bool.and_eq_true_iff.1 h
 have h1:=List.all_eq_true.1 h i (List.mem_range.2 hi)
 obtain⟨s1,s2,s3,s4⟩:=CZ hr hi
 obtain⟨n1,n2,n3,n4⟩:=CZ hr (DP hi)
 obtain⟨p1,p2,p3,p4⟩:=CZ hr (Gx hi)
 unfold Hu Sz at h1
 rw[d64 ⟨n1,n2⟩ ⟨s1,s2⟩,d64 ⟨n3,n4⟩ ⟨s3,s4⟩,d64 ⟨s1,s2⟩ ⟨p1,p2⟩] at h1
 obtain⟨h2,h3⟩:=Bool.and_eq_true_iff.1 h1
 refine⟨fun e=> ?_,fun e=> ?_⟩
 ·have:(((sd l (nxt l.length i)).x-(sd l i).x==0)==((sd l (nxt l.length i)).y-(sd l i).y==0))=true:=by rw[beq_iff_eq,Bool.eq_iff_iff,beq_iff_eq,beq_iff_eq];exact e
  rw[this] at h2;cases h2
 ·have:(((sd l i).x-(sd l (prv l.length i)).x==0)==((sd l (nxt l.length i)).x-(sd l i).x==0))=true:=by rw[beq_iff_eq,Bool.eq_iff_iff,beq_iff_eq,beq_iff_eq];exact e
  rw[this] at h3;cases h3
theorem TS {l:List Sd} (h:shp l=true):4≤l.length:=by
 unfold shp at h
 exact of_decide_eq_true (Bool.and_eq_true_iff.1 h).1
theorem Zr {l:List Sd} (hr: ∀s∈l,inR s) (h4:4≤l.length)
  (h: ∀i,i<l.length→ ¬(((sd l (nxt l.length i)).x-(sd l i).x=0)↔((sd l (nxt l.length i)).y-(sd l i).y=0))∧ ¬(((sd l i).x-(sd l (prv l.length i)).x=0)↔((sd l (nxt l.length i)).x-(sd l i).x=0))):shp l=true:=by
 unfold shp
 rw[dT h4,Bool.true_and,List.all_eq_true]
 intro i hi
 have hi:=List.mem_range.1 hi
 obtain⟨h1,h2⟩:=h i hi
 obtain⟨s1,s2,s3,s4⟩:=CZ hr hi
 obtain⟨n1,n2,n3,n4⟩:=CZ hr (DP hi)
 obtain⟨p1,p2,p3,p4⟩:=CZ hr (Gx hi)
 unfold Hu Sz
 rw[d64 ⟨n1,n2⟩ ⟨s1,s2⟩,d64 ⟨n3,n4⟩ ⟨s3,s4⟩,d64 ⟨s1,s2⟩ ⟨p1,p2⟩]
 have e1:(((sd l (nxt l.length i)).x-(sd l i).x==0)==((sd l (nxt l.length i)).y-(sd l i).y==0))=false:=by
  rw[Bool.eq_false_iff];intro e;rw[beq_iff_eq,Bool.eq_iff_iff,beq_iff_eq,beq_iff_eq] at e;exact h1 e
 have e2:(((sd l i).x-(sd l (prv l.length i)).x==0)==((sd l (nxt l.length i)).x-(sd l i).x==0))=false:=by
  rw[Bool.eq_false_iff];intro e;rw[beq_iff_eq,Bool.eq_iff_iff,beq_iff_eq,beq_iff_eq] at e;exact h2 e
 rw[e1,e2];rfl
theorem ZV {a b:Int} (h1: -65536≤a∧a≤65536) (h2: -65536≤b∧b≤65536): -4294967296≤a*b∧a*b≤4294967296:=by
 have h:(a*b).natAbs≤65536*65536:=by
  rw[Int.natAbs_mul]
  exact Nat.mul_le_mul (by omega) (by omega)
 omega
theorem Vy {s t u:Sd} (hs:inR s) (ht:inR t) (hu:inR u):Iq s t u=decide ((t.x-s.x)*(u.y-t.y)-(t.y-s.y)*(u.x-t.x)>0):=by
 obtain⟨s1,s2,s3,s4⟩:=hs
 obtain⟨t1,t2,t3,t4⟩:=ht
 obtain⟨u1,u2,u3,u4⟩:=hu
 unfold Iq
 rw[d64 ⟨t1,t2⟩ ⟨s1,s2⟩,d64 ⟨u3,u4⟩ ⟨t3,t4⟩,d64 ⟨t3,t4⟩ ⟨s3,s4⟩,d64 ⟨u1,u2⟩ ⟨t1,t2⟩]
 have m1:=ZV (a:=t.x-s.x) (b:=u.y-t.y) (by omega) (by omega)
 have m2:=ZV (a:=t.y-s.y) (b:=u.x-t.x) (by omega) (by omega)
 rw[Ai (x:=(t.x-s.x)*_) (by omega) (by omega),Ai (x:=(t.y-s.y)*_) (by omega) (by omega),Ai (by omega) (by omega)]
theorem O4 (rs:List (List Sd)) (m:Nat): ∀d, ∃t,AC rs (m+d)=AC rs m++t
 |0=>⟨[],by simp⟩
 |d+1=>by
  obtain⟨t,h⟩:=O4 rs m d
  refine⟨t++Bk (m+d) (rg rs (m+d)).length, ?_⟩
  show AC rs (m+d)++Bk (m+d) (rg rs (m+d)).length=_
  rw[h,List.append_assoc]
theorem IN {rs:List (List Sd)} {r i:Nat} (hr:r<rs.length) (hi:i<(rg rs r).length):pl rs (tot (rs.take r)+i)=(r,i):=by
 obtain⟨t,h⟩:=O4 rs (r+1) (rs.length-(r+1))
 rw[show r+1+(rs.length-(r+1))=rs.length by omega] at h
 have h2:AC rs (r+1)=AC rs r++Bk r (rg rs r).length:=rfl
 have hlen:=ID rs r (by omega)
 unfold pl
 rw[List.getD_eq_getElem?_getD,h,h2,List.append_assoc,List.getElem?_append_right (by omega),hlen,Nat.add_sub_cancel_left,List.getElem?_append_left (by simp[Bk];exact hi)]
 simp[Bk,hi]
theorem Ts {rs:List (List Sd)} {r i:Nat} (hr:r<rs.length) (hi:i<(rg rs r).length):tot (rs.take r)+i<tot rs:=by
 have h1:=Bj hr
 have h2:=Cf rs (r+1)
 omega
theorem K3 (t u t' u':Sd):E1 t u t' u'=E1 t' u' t u:=by
 unfold E1
 rw[Bool.eq_iff_iff]
 simp only[Bool.and_eq_true,decide_eq_true_eq]
 omega
theorem Vf {rs:List (List Sd)} (h:crs rs=false) {r i s k:Nat} (hr:r<rs.length) (hi:i<(rg rs r).length) (hs:s<rs.length) (hk:k<(rg rs s).length) (hne:r≠s):
  E1 (bsd rs (r,i)) (esd rs (r,i)) (bsd rs (s,k)) (esd rs (s,k))=false:=by
 have one: ∀ {a b:Nat×Nat} {j j':Nat},pl rs j=a→pl rs j'=b→j<tot rs→j'<j→a.1≠b.1→E1 (bsd rs a) (esd rs a) (bsd rs b) (esd rs b)=false:=by
  intro a b j j' ha hb hj hj' hab
  have h1:((List.range j).any fun k=>CY rs (pl rs j) (pl rs k))=false:=by
   cases he:((List.range j).any fun k=>CY rs (pl rs j) (pl rs k)) with
   |false=>rfl
   |true=>
    have:crs rs=true:=List.any_eq_true.2 ⟨j,List.mem_range.2 hj,he⟩
    rw[h] at this;cases this
  have h2:CY rs (pl rs j) (pl rs j')=false:=by
   cases he:CY rs (pl rs j) (pl rs j') with
   |false=>rfl
   |true=>
    have:((List.range j).any fun k=>CY rs (pl rs j) (pl rs k))=true:=List.any_eq_true.2 ⟨j',List.mem_range.2 hj',he⟩
    rw[h1] at this;cases this
  rw[ha,hb] at h2
  unfold CY nbB at h2
  rw[beq_eq_false_iff_ne.2 hab] at h2
  simpa using h2
 have hj:=Ts hr hi
 have hj':=Ts hs hk
 rcases Nat.lt_trichotomy (tot (rs.take s)+k) (tot (rs.take r)+i) with hlt|heq|hgt
 ·exact one (IN hr hi) (IN hs hk) hj hlt hne
 ·have h1:=IN hr hi
  rw[←heq,IN hs hk] at h1
  exact absurd (congrArg Prod.fst h1).symm hne
 ·rw[K3]
  exact one (IN hs hk) (IN hr hi) hj' hgt (fun e=>hne e.symm)
theorem C9 {f:Nat→Int}: ∀n,(∀i,i<n→f i=0)→AI f n=0
 |0,_=>rfl
 |n+1,h=>by
  show AI f n+f n=0
  rw[C9 n (fun i hi=>h i (by omega)),h n (by omega)];rfl
theorem KO {f:Nat→Int} {j:Nat}: ∀n,j<n→(∀i,i<n→i≠j→f i=0)→AI f n=f j
 |0,hj,_=>absurd hj (Nat.not_lt_zero _)
 |n+1,hj,h=>by
  show AI f n+f n=f j
  by_cases e:j=n
  ·subst e
   rw[C9 j (fun i hi=>h i (by omega) (by omega))];omega
  ·rw[KO n (by omega) (fun i hi=>h i (by omega)),h n (by omega) (fun x=>e x.symm)];omega
theorem Dz (f g:Nat→Int): ∀n,AI (fun i=>f i-g i) n=AI f n-AI g n
 |0=>rfl
 |n+1=>by
  show AI _ n+(f n-g n)=AI f n+f n-(AI g n+g n)
  rw[Dz f g n];omega
theorem Jf (f:Nat→Nat→Int) (m:Nat): ∀n,AI (fun i=>AI (fun j=>f i j) m) n=AI (fun j=>AI (fun i=>f i j) n) m
 |0=>(C9 m (fun _ _=>rfl)).symm
 |n+1=>by
  show AI _ n+AI (fun j=>f n j) m=AI (fun j=>AI (fun i=>f i j) n+f n j) m
  rw[Jf f m n,O1]
theorem Hf {f:Nat→Int}: ∀n,(∀i,i<n→0≤f i)→0≤AI f n
 |0,_=>Int.le_refl _
 |n+1,h=>by
  have h1:=Hf n (fun i hi=>h i (by omega))
  have h2:=h n (by omega)
  show 0≤AI f n+f n
  omega
theorem KP {f:Nat→Int} {j:Nat}: ∀n,(∀i,i<n→0≤f i)→j<n→0<f j→0<AI f n
 |0,_,hj,_=>absurd hj (Nat.not_lt_zero _)
 |n+1,h,hj,h0=>by
  have h1:=Hf n (fun i hi=>h i (by omega))
  have h2:=h n (by omega)
  show 0<AI f n+f n
  by_cases e:j=n
  ·subst e;omega
  ·have:=KP n (fun i hi=>h i (by omega)) (show j<n by omega) h0
   omega
def ind (a b:Int):Int:=if a>b then 1 else 0
theorem Dp (a b:Int):(ind a b=1∧a>b)∨(ind a b=0∧a≤b):=by
 unfold ind
 by_cases h:a>b
 ·rw[if_pos h];exact .inl ⟨rfl,h⟩
 ·rw[if_neg h];exact .inr ⟨rfl,by omega⟩
theorem FS {a b:Int} (h:a>b):ind a b=1:=if_pos h
theorem FM {a b:Int} (h:a≤b):ind a b=0:=if_neg (by omega)
theorem TD {a:Int} (h:0≤a): ∀m:Nat,AI (fun x=>ind a x) m=if a≤m then a else m
 |0=>by
  show(0:Int)=_
  split<;>omega
 |m+1=>by
  show AI (fun x=>ind a x) m+ind a m=_
  rw[TD h m]
  rcases Dp a m with⟨e,h1⟩|⟨e,h1⟩<;>rw[e]<;>split<;>split<;>omega
theorem K1 {a:Int} {m:Nat} (h:0≤a) (h2:a≤m):AI (fun x=>ind a x) m=a:=by rw[TD h,if_pos h2]
def On (σ:Nat→Nat) (X Y:Nat→Int) (k:Nat) (px py:Int):Prop:=
 (X k≤px∨X (σ k)≤px)∧(px≤X k∨px≤X (σ k))∧(Y k≤py∨Y (σ k)≤py)∧(py≤Y k∨py≤Y (σ k))
structure Net (T:Nat) (σ:Nat→Nat) (X Y:Nat→Int):Prop where
 lt: ∀k,k<T→σ k<T
 sum: ∀f:Nat→Int,AI (fun k=>f (σ k)) T=AI f T
 side: ∀k,k<T→(X (σ k)=X k∧Y (σ k)≠Y k)∨(Y (σ k)=Y k∧X (σ k)≠X k)
 alt: ∀k,k<T→(X (σ k)=X k↔Y (σ (σ k))=Y (σ k))
 free: ∀j k,j<T→k<T→ ∀px py,On σ X Y j px py→On σ X Y k px py→j=k∨j=σ k∨k=σ j
def Wn (T:Nat) (σ:Nat→Nat) (X Y:Nat→Int) (x y:Int):Int:=AI (fun k=>ind (X k) x*(ind (Y (σ k)) y-ind (Y k) y)) T
def Vd (σ:Nat→Nat) (X Y:Nat→Int) (x y:Int) (k:Nat):Int:=(ind (X k) (x-1)-ind (X k) x)*(ind (Y (σ k)) y-ind (Y k) y)
def Hd (σ:Nat→Nat) (X Y:Nat→Int) (x y:Int) (k:Nat):Int:=(ind (X (σ k)) x-ind (X k) x)*(ind (Y (σ k)) (y-1)-ind (Y (σ k)) y)
def LC (σ:Nat→Nat) (X Y:Nat→Int) (k:Nat) (x y:Int):Prop:=
 (Y k<Y (σ k)∧x=X k-1∧Y k≤y∧y<Y (σ k))∨(Y (σ k)<Y k∧x=X k∧Y (σ k)≤y∧y<Y k)∨
 (X k<X (σ k)∧y=Y k∧X k≤x∧x<X (σ k))∨(X (σ k)<X k∧y=Y k-1∧X (σ k)≤x∧x<X k)
def RC (σ:Nat→Nat) (X Y:Nat→Int) (k:Nat) (x y:Int):Prop:=
 (Y k<Y (σ k)∧x=X k∧Y k≤y∧y<Y (σ k))∨(Y (σ k)<Y k∧x=X k-1∧Y (σ k)≤y∧y<Y k)∨
 (X k<X (σ k)∧y=Y k-1∧X k≤x∧x<X (σ k))∨(X (σ k)<X k∧y=Y k∧X (σ k)≤x∧x<X k)
def Lv (T:Nat) (σ:Nat→Nat) (X Y:Nat→Int) (k:Nat) (L:Int):Prop:=
 (∀x y,LC σ X Y k x y→Wn T σ X Y x y=L)∧ ∀x y,RC σ X Y k x y→Wn T σ X Y x y=L-1
section
variable {T:Nat} {σ:Nat→Nat} {X Y:Nat→Int}
theorem Y1 (x y:Int):Wn T σ X Y (x-1) y-Wn T σ X Y x y=AI (Vd σ X Y x y) T:=by
 unfold Wn
 rw[←Dz]
 exact BY T fun k _=>by unfold Vd;rw[Int.sub_mul]
theorem ZZ (N:Net T σ X Y) (x y:Int):Wn T σ X Y x y-Wn T σ X Y x (y-1)=AI (Hd σ X Y x y) T:=by
 have h1:=N.sum fun k=>ind (X k) x*(ind (Y k) (y-1)-ind (Y k) y)
 unfold Wn
 rw[←Dz]
 have h2:AI (fun i=>ind (X i) x*(ind (Y (σ i)) y-ind (Y i) y)-ind (X i) x*(ind (Y (σ i)) (y-1)-ind (Y i) (y-1))) T=
   AI (fun k=>ind (X k) x*(ind (Y k) (y-1)-ind (Y k) y)-ind (X k) x*(ind (Y (σ k)) (y-1)-ind (Y (σ k)) y)) T:=
  BY T fun k _=>by simp only[Int.mul_sub];omega
 rw[h2,Dz, ←h1, ←Dz]
 exact BY T fun k _=>by unfold Hd;rw[Int.sub_mul]
theorem Vv {x y:Int} {k:Nat} (h:Vd σ X Y x y k≠0):X k=x∧((Y k≤y∧y<Y (σ k))∨(Y (σ k)≤y∧y<Y k)):=by
 unfold Vd at h
 rcases Dp (X k) (x-1) with⟨e1,h1⟩|⟨e1,h1⟩<;>rcases Dp (X k) x with⟨e2,h2⟩|⟨e2,h2⟩<;>rcases Dp (Y (σ k)) y with⟨e3,h3⟩|⟨e3,h3⟩<;>rcases Dp (Y k) y with⟨e4,h4⟩|⟨e4,h4⟩<;>
  rw[e1,e2,e3,e4] at h<;>first|exact absurd rfl h|omega
theorem YS {x y:Int} {k:Nat} (h:Hd σ X Y x y k≠0):Y (σ k)=y∧((X k≤x∧x<X (σ k))∨(X (σ k)≤x∧x<X k)):=by
 unfold Hd at h
 rcases Dp (X (σ k)) x with⟨e1,h1⟩|⟨e1,h1⟩<;>rcases Dp (X k) x with⟨e2,h2⟩|⟨e2,h2⟩<;>rcases Dp (Y (σ k)) (y-1) with⟨e3,h3⟩|⟨e3,h3⟩<;>rcases Dp (Y (σ k)) y with⟨e4,h4⟩|⟨e4,h4⟩<;>
  rw[e1,e2,e3,e4] at h<;>first|exact absurd rfl h|omega
theorem ZN {y:Int} {k:Nat} (h:Y k≤y∧y<Y (σ k)):Vd σ X Y (X k) y k=1:=by
 unfold Vd
 rw[FS (show X k>X k-1 by omega),FM (Int.le_refl _),FS h.2,FM h.1];rfl
theorem YO {y:Int} {k:Nat} (h:Y (σ k)≤y∧y<Y k):Vd σ X Y (X k) y k= -1:=by
 unfold Vd
 rw[FS (show X k>X k-1 by omega),FM (Int.le_refl _),FS h.2,FM h.1];rfl
theorem XE {x:Int} {k:Nat} (e:Y (σ k)=Y k) (h:X k≤x∧x<X (σ k)):Hd σ X Y x (Y k) k=1:=by
 unfold Hd
 rw[e,FS (show Y k>Y k-1 by omega),FM (Int.le_refl (Y k)),FS h.2,FM h.1];rfl
theorem Y0 {x:Int} {k:Nat} (e:Y (σ k)=Y k) (h:X (σ k)≤x∧x<X k):Hd σ X Y x (Y k) k= -1:=by
 unfold Hd
 rw[e,FS (show Y k>Y k-1 by omega),FM (Int.le_refl (Y k)),FS h.2,FM h.1];rfl
theorem Net.up_eq (N:Net T σ X Y) {k:Nat} (hk:k<T) (hv:X (σ k)=X k) {c y:Int} (hc:c=X k-1∨c=X k) (h1:(Y k≤y∧y+1<Y (σ k))∨(Y (σ k)≤y∧y+1<Y k)):Wn T σ X Y c (y+1)=Wn T σ X Y c y:=by
 have h2:=ZZ N c (y+1)
 rw[show y+1-1=y by omega] at h2
 rw[C9 (f:=Hd σ X Y c (y+1)) T (fun j hj=> ?_)] at h2
 ·omega
 ·refine Classical.byContradiction fun h=> ?_
  obtain⟨e,hx⟩:=YS h
  have e2:Y j=y+1:=by rcases N.side j hj with h|h<;>omega
  rcases N.free j k hj hk (X k) (y+1) ⟨by omega,by omega,by omega,by omega⟩ ⟨by omega,by omega,by omega,by omega⟩ with h|h|h
  ·subst h;omega
  ·subst h;omega
  ·rw[h] at h1 hv hc;rw[h] at*;omega
theorem Net.flat_eq (N:Net T σ X Y) {k:Nat} (hk:k<T) (hh:Y (σ k)=Y k) {c x:Int} (hc:c=Y k-1∨c=Y k) (h1:(X k≤x-1∧x<X (σ k))∨(X (σ k)≤x-1∧x<X k)):Wn T σ X Y (x-1) c=Wn T σ X Y x c:=by
 have h2:=Y1 (T:=T) (σ:=σ) (X:=X) (Y:=Y) x c
 rw[C9 (f:=Vd σ X Y x c) T (fun j hj=> ?_)] at h2
 ·omega
 ·refine Classical.byContradiction fun h=> ?_
  obtain⟨e,hx⟩:=Vv h
  have e2:X (σ j)=x:=by rcases N.side j hj with h|h<;>omega
  rcases N.free j k hj hk x (Y k) ⟨by omega,by omega,by omega,by omega⟩ ⟨by omega,by omega,by omega,by omega⟩ with h|h|h
  ·subst h;omega
  ·subst h;omega
  ·rw[h] at h1;omega
theorem Net.up_const (N:Net T σ X Y) {k:Nat} (hk:k<T) (hv:X (σ k)=X k) {c lo:Int} (hc:c=X k-1∨c=X k) (hlo:lo=Y k∨lo=Y (σ k)) (hm:lo≤Y k∧lo≤Y (σ k)): ∀d:Nat,(lo+d<Y k∨lo+d<Y (σ k))→Wn T σ X Y c (lo+d)=Wn T σ X Y c lo
 |0,_=>by rw[show lo+((0:Nat):Int)=lo by omega]
 |d+1,h=>by
  rw[show lo+((d+1:Nat):Int)=lo+d+1 by omega,N.up_eq hk hv hc (by omega)]
  exact N.up_const hk hv hc hlo hm d (by omega)
theorem Net.flat_const (N:Net T σ X Y) {k:Nat} (hk:k<T) (hh:Y (σ k)=Y k) {c lo:Int} (hc:c=Y k-1∨c=Y k) (hlo:lo=X k∨lo=X (σ k)) (hm:lo≤X k∧lo≤X (σ k)): ∀d:Nat,(lo+d<X k∨lo+d<X (σ k))→Wn T σ X Y (lo+d) c=Wn T σ X Y lo c
 |0,_=>by rw[show lo+((0:Nat):Int)=lo by omega]
 |d+1,h=>by
  have h1:=N.flat_eq hk hh hc (x:=lo+((d+1:Nat):Int)) (by omega)
  rw[←h1,show lo+((d+1:Nat):Int)-1=lo+d by omega]
  exact N.flat_const hk hh hc hlo hm d (by omega)
theorem Net.over_up (N:Net T σ X Y) {k:Nat} (hk:k<T) (hv:X (σ k)=X k) {y:Int} (h1:(Y k≤y∧y<Y (σ k))∨(Y (σ k)≤y∧y<Y k)):Wn T σ X Y (X k-1) y-Wn T σ X Y (X k) y=Vd σ X Y (X k) y k:=by
 rw[Y1]
 refine KO T hk fun j hj hne=> ?_
 refine Classical.byContradiction fun h=> ?_
 obtain⟨e,hx⟩:=Vv h
 have e2:X (σ j)=X j:=by rcases N.side j hj with h|h<;>omega
 rcases N.free j k hj hk (X k) y ⟨by omega,by omega,by omega,by omega⟩ ⟨by omega,by omega,by omega,by omega⟩ with h|h|h
 ·exact hne h
 ·have:=(N.alt k hk).1 hv
  rw[←h] at this;omega
 ·have:=(N.alt j hj).1 e2
  rw[←h] at this;omega
theorem Net.over_flat (N:Net T σ X Y) {k:Nat} (hk:k<T) (hh:Y (σ k)=Y k) {x:Int} (h1:(X k≤x∧x<X (σ k))∨(X (σ k)≤x∧x<X k)):Wn T σ X Y x (Y k)-Wn T σ X Y x (Y k-1)=Hd σ X Y x (Y k) k:=by
 rw[ZZ N]
 refine KO T hk fun j hj hne=> ?_
 refine Classical.byContradiction fun h=> ?_
 obtain⟨e,hx⟩:=YS h
 have e2:Y (σ j)=Y j:=by rcases N.side j hj with h|h<;>omega
 rcases N.free j k hj hk x (Y k) ⟨by omega,by omega,by omega,by omega⟩ ⟨by omega,by omega,by omega,by omega⟩ with h|h|h
 ·exact hne h
 ·have:=N.alt k hk
  rw[←h] at this h1
  have h9:=this.2 e2
  omega
 ·have:=N.alt j hj
  rw[←h] at this hx
  have h9:=this.2 hh
  omega
theorem Net.lv_ex (N:Net T σ X Y) {k:Nat} (hk:k<T): ∃L,Lv T σ X Y k L:=by
 rcases N.side k hk with⟨hv,hd⟩|⟨hh,hd⟩
 ·have con: ∀c,(c=X k-1∨c=X k)→ ∀lo,(lo=Y k∨lo=Y (σ k))→lo≤Y k→lo≤Y (σ k)→ ∀y,lo≤y→(y<Y k∨y<Y (σ k))→Wn T σ X Y c y=Wn T σ X Y c lo:=fun c hc lo hlo m1 m2 y h1 h2=>by
   have:=N.up_const hk hv hc hlo ⟨m1,m2⟩ (y-lo).toNat (by omega)
   rw[show lo+((y-lo).toNat:Int)=y by omega] at this
   exact this
  by_cases hu:Y k<Y (σ k)
  ·refine⟨Wn T σ X Y (X k-1) (Y k),fun x y h=> ?_,fun x y h=> ?_⟩
   ·unfold LC at h
    obtain⟨rfl,h1,h2⟩:x=X k-1∧Y k≤y∧y<Y (σ k):=by omega
    exact con _ (.inl I) _ (.inl I) (Int.le_refl _) (by omega) y h1 (.inr h2)
   ·unfold RC at h
    obtain⟨rfl,h1,h2⟩:x=X k∧Y k≤y∧y<Y (σ k):=by omega
    have e1:=con _ (.inl rfl) _ (.inl rfl) (Int.le_refl _) (by omega) y h1 (.inr h2)
    have e2:=N.over_up hk hv (.inl ⟨h1,h2⟩)
    rw[ZN ⟨h1,h2⟩] at e2
    omega
  ·refine⟨Wn T σ X Y (X k) (Y (σ k)),fun x y h=> ?_,fun x y h=> ?_⟩
   ·unfold LC at h
    obtain⟨rfl,h1,h2⟩:x=X k∧Y (σ k)≤y∧y<Y k:=by omega
    exact con _ (.inr I) _ (.inr I) (by omega) (Int.le_refl _) y h1 (.inl h2)
   ·unfold RC at h
    obtain⟨rfl,h1,h2⟩:x=X k-1∧Y (σ k)≤y∧y<Y k:=by omega
    have e1:=con _ (.inr rfl) _ (.inr rfl) (by omega) (Int.le_refl _) y h1 (.inl h2)
    have e2:=N.over_up hk hv (.inr ⟨h1,h2⟩)
    rw[YO ⟨h1,h2⟩] at e2
    omega
 ·have con: ∀c,(c=Y k-1∨c=Y k)→ ∀lo,(lo=X k∨lo=X (σ k))→lo≤X k→lo≤X (σ k)→ ∀x,lo≤x→(x<X k∨x<X (σ k))→Wn T σ X Y x c=Wn T σ X Y lo c:=fun c hc lo hlo m1 m2 x h1 h2=>by
   have:=N.flat_const hk hh hc hlo ⟨m1,m2⟩ (x-lo).toNat (by omega)
   rw[show lo+((x-lo).toNat:Int)=x by omega] at this
   exact this
  by_cases hu:X k<X (σ k)
  ·refine⟨Wn T σ X Y (X k) (Y k),fun x y h=> ?_,fun x y h=> ?_⟩
   ·unfold LC at h
    obtain⟨rfl,h1,h2⟩:y=Y k∧X k≤x∧x<X (σ k):=by omega
    exact con _ (.inr I) _ (.inl I) (Int.le_refl _) (by omega) x h1 (.inr h2)
   ·unfold RC at h
    obtain⟨rfl,h1,h2⟩:y=Y k-1∧X k≤x∧x<X (σ k):=by omega
    have e1:=con _ (.inr rfl) _ (.inl rfl) (Int.le_refl _) (by omega) x h1 (.inr h2)
    have e2:=N.over_flat hk hh (.inl ⟨h1,h2⟩)
    rw[XE hh ⟨h1,h2⟩] at e2
    omega
  ·refine⟨Wn T σ X Y (X (σ k)) (Y k-1),fun x y h=> ?_,fun x y h=> ?_⟩
   ·unfold LC at h
    obtain⟨rfl,h1,h2⟩:y=Y k-1∧X (σ k)≤x∧x<X k:=by omega
    exact con _ (.inl I) _ (.inr I) (by omega) (Int.le_refl _) x h1 (.inl h2)
   ·unfold RC at h
    obtain⟨rfl,h1,h2⟩:y=Y k∧X (σ k)≤x∧x<X k:=by omega
    have e1:=con _ (.inl rfl) _ (.inr rfl) (by omega) (Int.le_refl _) x h1 (.inl h2)
    have e2:=N.over_flat hk hh (.inr ⟨h1,h2⟩)
    rw[Y0 hh ⟨h1,h2⟩] at e2
    omega
theorem Net.share (N:Net T σ X Y) {k:Nat} (hk:k<T): ∃x y,(LC σ X Y k x y∧LC σ X Y (σ k) x y)∨(RC σ X Y k x y∧RC σ X Y (σ k) x y):=by
 have h1:=N.side k hk
 have h2:=N.side (σ k) (N.lt k hk)
 have h3:=N.alt k hk
 unfold LC RC
 generalize σ (σ k)=k2 at*
 generalize σ k=k1 at*
 by_cases a:Y k<Y k1
 ·by_cases b:X k1<X k2
  ·exact⟨X k1,Y k1-1, .inr ⟨by omega,by omega⟩⟩
  ·exact⟨X k1-1,Y k1-1, .inl ⟨by omega,by omega⟩⟩
 by_cases a2:Y k1<Y k
 ·by_cases b:X k1<X k2
  ·exact⟨X k1,Y k1, .inl ⟨by omega,by omega⟩⟩
  ·exact⟨X k1-1,Y k1, .inr ⟨by omega,by omega⟩⟩
 by_cases a3:X k<X k1
 ·by_cases b:Y k1<Y k2
  ·exact⟨X k1-1,Y k1, .inl ⟨by omega,by omega⟩⟩
  ·exact⟨X k1-1,Y k1-1, .inr ⟨by omega,by omega⟩⟩
 ·by_cases b:Y k1<Y k2
  ·exact⟨X k1,Y k1, .inr ⟨by omega,by omega⟩⟩
  ·exact⟨X k1,Y k1-1, .inl ⟨by omega,by omega⟩⟩
theorem Net.lv_next (N:Net T σ X Y) {k:Nat} (hk:k<T) {L:Int} (h:Lv T σ X Y k L):Lv T σ X Y (σ k) L:=by
 obtain⟨L',h'⟩:=N.lv_ex (N.lt k hk)
 obtain⟨x,y,⟨h1,h2⟩|⟨h1,h2⟩⟩:=N.share hk
 ·have e1:=h.1 x y h1
  have e2:=h'.1 x y h2
  rw[show L=L' by omega];exact h'
 ·have e1:=h.2 x y h1
  have e2:=h'.2 x y h2
  rw[show L=L' by omega];exact h'
theorem Il {x:Int} (h: ∀k,k<T→X k≤x) (y:Int):Wn T σ X Y x y=0:=C9 T fun k hk=>by rw[FM (h k hk),Int.zero_mul]
theorem Uq {x y:Int} {j:Nat} (h:Vd σ X Y x y j≠0):(LC σ X Y j (x-1) y∧RC σ X Y j x y)∨(RC σ X Y j (x-1) y∧LC σ X Y j x y):=by
 obtain⟨e,hx⟩:=Vv h
 rcases hx with⟨h1,h2⟩|⟨h1,h2⟩
 ·exact .inl ⟨.inl ⟨by omega,by omega,h1,h2⟩, .inl ⟨by omega,by omega,h1,h2⟩⟩
 ·exact .inr ⟨.inr (.inl ⟨by omega,by omega,h1,h2⟩), .inr (.inl ⟨by omega,by omega,h1,h2⟩)⟩
theorem Net.ray (N:Net T σ X Y) {M:Int} (hM: ∀k,k<T→X k≤M) (y:Int): ∀d:Nat,Wn T σ X Y (M-d) y=0∨ ∃k L,k<T∧Lv T σ X Y k L∧(Wn T σ X Y (M-d) y=L∨Wn T σ X Y (M-d) y=L-1)
 |0=> .inl (Il (fun k hk=>by have:=hM k hk;omega) y)
 |d+1=>by
  have h1:=Y1 (T:=T) (σ:=σ) (X:=X) (Y:=Y) (M-d) y
  rw[show M-((d+1:Nat):Int)=M-d-1 by omega]
  by_cases h: ∃j,j<T∧Vd σ X Y (M-d) y j≠0
  ·obtain⟨j,hj,h⟩:=h
   obtain⟨L,hL⟩:=N.lv_ex hj
   refine .inr ⟨j,L,hj,hL, ?_⟩
   rcases Uq h with⟨h,_⟩|⟨h,_⟩
   ·exact .inl (hL.1 _ _ h)
   ·exact .inr (hL.2 _ _ h)
  ·rw[C9 (f:=Vd σ X Y (M-d) y) T (fun j hj=>Classical.byContradiction fun e=>h ⟨j,hj,e⟩)] at h1
   rw[show Wn T σ X Y (M-d-1) y=Wn T σ X Y (M-d) y by omega]
   exact N.ray hM y d
theorem Net.values (N:Net T σ X Y) (x y:Int):Wn T σ X Y x y=0∨ ∃k L,k<T∧Lv T σ X Y k L∧(Wn T σ X Y x y=L∨Wn T σ X Y x y=L-1):=by
 have bound: ∀n, ∃M:Int, ∀k,k<n→X k≤M:=fun n=>by
  induction n with
  |zero=>exact⟨0,fun k hk=>absurd hk (Nat.not_lt_zero _)⟩
  |succ n ih=>
   obtain⟨M,hM⟩:=ih
   refine⟨if M<X n then X n else M,fun k hk=> ?_⟩
   by_cases e:k=n
   ·subst e;split<;>omega
   ·have:=hM k (by omega);split<;>omega
 obtain⟨M,hM⟩:=bound T
 by_cases h:x≤M
 ·have:=N.ray hM y (M-x).toNat
  rw[show M-((M-x).toNat:Int)=x by omega] at this
  exact this
 ·exact .inl (Il (fun k hk=>by have:=hM k hk;omega) y)
theorem Net.first (N:Net T σ X Y) {M:Int} (hM: ∀k,k<T→X k≤M) (y:Int): ∀d:Nat,(∀x,M-d≤x→Wn T σ X Y x y=0)∨ ∃k x,k<T∧(∀x',x≤x'→Wn T σ X Y x' y=0)∧((LC σ X Y k (x-1) y∧RC σ X Y k x y)∨(RC σ X Y k (x-1) y∧LC σ X Y k x y))
 |0=> .inl fun x hx=>Il (fun k hk=>by have:=hM k hk;omega) y
 |d+1=>by
  rcases N.first hM y d with h0|h0
  ·by_cases h: ∃j,j<T∧Vd σ X Y (M-d) y j≠0
   ·obtain⟨j,hj,h⟩:=h
    exact .inr ⟨j,M-d,hj,h0,Uq h⟩
   ·left
    intro x hx
    have h1:=Y1 (T:=T) (σ:=σ) (X:=X) (Y:=Y) (M-d) y
    rw[C9 (f:=Vd σ X Y (M-d) y) T (fun j hj=>Classical.byContradiction fun e=>h ⟨j,hj,e⟩)] at h1
    have h2:=h0 (M-d) (Int.le_refl _)
    by_cases e:x=M-d-1
    ·subst e;omega
    ·exact h0 x (by omega)
  ·exact .inr h0
theorem Net.range (N:Net T σ X Y) {M:Int} (hX: ∀k,k<T→0≤X k∧X k≤M) (hY: ∀k,k<T→0≤Y k∧Y k≤M) {x y:Int} (h:Wn T σ X Y x y≠0):(0≤x∧x<M)∧0≤y∧y<M:=by
 refine Classical.byContradiction fun hn=>h ?_
 by_cases h1:M≤x
 ·exact Il (fun k hk=>by have:=hX k hk;omega) y
 by_cases h2:x<0
 ·unfold Wn
  rw[BY (g:=fun k=>ind (Y (σ k)) y-ind (Y k) y) T (fun k hk=>by rw[FS (show X k>x by have:=hX k hk;omega),Int.one_mul]),Dz,N.sum (fun k=>ind (Y k) y)];omega
 by_cases h3:M≤y
 ·exact C9 T fun k hk=>by rw[FM (show Y k≤y by have:=hY k hk;omega),FM (show Y (σ k)≤y by have:=hY _ (N.lt k hk);omega)];simp
 by_cases h4:y<0
 ·exact C9 T fun k hk=>by rw[FS (show Y k>y by have:=hY k hk;omega),FS (show Y (σ k)>y by have:=hY _ (N.lt k hk);omega)];simp
 omega
theorem Net.area (N:Net T σ X Y) {M:Nat} (hX: ∀k,k<T→0≤X k∧X k≤M) (hY: ∀k,k<T→0≤Y k∧Y k≤M):
  AI (fun k=>X k*Y (σ k)-Y k*X (σ k)) T=2*AI (fun x=>AI (fun y=>Wn T σ X Y x y) M) M:=by
 have h1:AI (fun k=>X k*(Y (σ k)-Y k)) T=AI (fun x=>AI (fun y=>Wn T σ X Y x y) M) M:=by
  unfold Wn
  rw[BY (g:=fun k=>AI (fun x:Nat=>AI (fun y:Nat=>ind (X k) x*(ind (Y (σ k)) y-ind (Y k) y)) M) M) T fun k hk=> ?_]
  ·rw[Jf]
   refine BY M fun x _=> ?_
   rw[Jf]
  ·have e1:=K1 (hX k hk).1 (hX k hk).2
   have e2:=K1 (hY k hk).1 (hY k hk).2
   have e3:=K1 (hY _ (N.lt k hk)).1 (hY _ (N.lt k hk)).2
   rw[BY (g:=fun x:Nat=>(Y (σ k)-Y k)*ind (X k) x) M fun x _=> ?_]
   ·rw[F3,e1,Int.mul_comm]
   ·show AI (fun y:Nat=>ind (X k) x*(ind (Y (σ k)) y-ind (Y k) y)) M=_
    rw[F3,Dz,e2,e3,Int.mul_comm]
 rw[←h1, ←F3]
 have h2:=N.sum fun k=>X k*Y k
 have h3:AI (fun k=>X k*Y (σ k)-Y k*X (σ k)-2*(X k*(Y (σ k)-Y k))) T=AI (fun k=>X k*Y k-X (σ k)*Y (σ k)) T:=BY T fun k hk=>by
  rcases N.side k hk with⟨e,_⟩|⟨e,_⟩
  ·rw[e,Int.mul_sub,Int.mul_comm (Y k) (X k)];omega
  ·rw[e,Int.mul_sub,Int.mul_comm (Y k) (X (σ k))];omega
 rw[Dz,Dz (fun k=>X k*Y k),h2] at h3
 omega
end
theorem RF {n:Nat} {P:Nat→Prop} (h0:0<n→P 0) (h: ∀k,k<n→P k→P (nxt n k)): ∀k,k<n→P k
 |0,hk=>h0 hk
 |k+1,hk=>by
  have:=h k (by omega) (RF h0 h k (by omega))
  rw[show nxt n k=k+1 from Nat.mod_eq_of_lt hk] at this
  exact this
section
variable {n:Nat} {X Y:Nat→Int}
theorem Net.one (N:Net n (nxt n) X Y) (h0:0<n): ∃L:Int,(L=0∨L=1)∧(∀k,k<n→Lv n (nxt n) X Y k L)∧ ∀x y,Wn n (nxt n) X Y x y=0∨Wn n (nxt n) X Y x y=2*L-1:=by
 obtain⟨L,hL⟩:=N.lv_ex h0
 have all: ∀k,k<n→Lv n (nxt n) X Y k L:=RF (fun _=>hL) fun k hk h=>N.lv_next hk h
 have hb: ∀m, ∃M:Int, ∀k,k<m→X k≤M:=fun m=>by
  induction m with
  |zero=>exact⟨0,fun k hk=>absurd hk (Nat.not_lt_zero _)⟩
  |succ m ih=>
   obtain⟨M,hM⟩:=ih
   refine⟨if M<X m then X m else M,fun k hk=> ?_⟩
   by_cases e:k=m
   ·subst e;split<;>omega
   ·have:=hM k (by omega);split<;>omega
 obtain⟨M,hM⟩:=hb n
 have cell: ∃x y,LC (nxt n) X Y 0 x y∧ ∃x' y',RC (nxt n) X Y 0 x' y':=by
  have:=N.side 0 h0
  unfold LC RC
  by_cases a:Y 0<Y (nxt n 0)
  ·exact⟨X 0-1,Y 0,by omega,X 0,Y 0,by omega⟩
  by_cases a2:Y (nxt n 0)<Y 0
  ·exact⟨X 0,Y (nxt n 0),by omega,X 0-1,Y (nxt n 0),by omega⟩
  by_cases a3:X 0<X (nxt n 0)
  ·exact⟨X 0,Y 0,by omega,X 0,Y 0-1,by omega⟩
  ·exact⟨X (nxt n 0),Y 0-1,by omega,X (nxt n 0),Y 0,by omega⟩
 obtain⟨x1,y1,c1,x2,y2,c2⟩:=cell
 have e1:=hL.1 _ _ c1
 have e2:=hL.2 _ _ c2
 have try1: ∀x y,Wn n (nxt n) X Y x y≠0→L=0∨L=1:=fun x y h=>by
  have hx:x<M:=Classical.byContradiction fun e=>h (Il (fun k hk=>by have:=hM k hk;omega) y)
  rcases N.first hM y (M-x).toNat with h1|⟨k,x',hk,h1,h2⟩
  ·exact absurd (h1 x (by omega)) h
  ·have z:=h1 x' (Int.le_refl _)
   rcases h2 with⟨_,h2⟩|⟨_,h2⟩
   ·have:=(all k hk).2 _ _ h2;omega
   ·have:=(all k hk).1 _ _ h2;omega
 have h01:L=0∨L=1:=by
  by_cases e:L=0
  ·exact .inl e
  ·exact try1 x1 y1 (by rw[e1];exact e)
 refine⟨L,h01,all,fun x y=> ?_⟩
 rcases N.values x y with h|⟨k,L',hk,h1,h2⟩
 ·exact .inl h
 ·have e:L'=L:=by
   have a:=all k hk
   have hc: ∃x y,LC (nxt n) X Y k x y:=by
    have:=N.side k hk
    unfold LC
    by_cases a:Y k<Y (nxt n k)
    ·exact⟨X k-1,Y k,by omega⟩
    by_cases a2:Y (nxt n k)<Y k
    ·exact⟨X k,Y (nxt n k),by omega⟩
    by_cases a3:X k<X (nxt n k)
    ·exact⟨X k,Y k,by omega⟩
    ·exact⟨X (nxt n k),Y k-1,by omega⟩
   obtain⟨x,y,hc⟩:=hc
   rw[←h1.1 _ _ hc,a.1 _ _ hc]
  omega
theorem Net.area_one (N:Net n (nxt n) X Y) (h0:0<n) {M:Nat} (hX: ∀k,k<n→0≤X k∧X k≤M) (hY: ∀k,k<n→0≤Y k∧Y k≤M) {L:Int} (h01:L=0∨L=1) (hL: ∀k,k<n→Lv n (nxt n) X Y k L) (hv: ∀x y,Wn n (nxt n) X Y x y=0∨Wn n (nxt n) X Y x y=2*L-1):
  0<(2*L-1)*AI (fun k=>X k*Y (nxt n k)-Y k*X (nxt n k)) n:=by
 rw[N.area hX hY]
 have hsome: ∃x y,Wn n (nxt n) X Y x y=2*L-1:=by
  have:=N.side 0 h0
  have h:=hL 0 h0
  have cell:(∃x y,LC (nxt n) X Y 0 x y)∧ ∃x' y',RC (nxt n) X Y 0 x' y':=by
   unfold LC RC
   by_cases a:Y 0<Y (nxt n 0)
   ·exact⟨⟨X 0-1,Y 0,by omega⟩,X 0,Y 0,by omega⟩
   by_cases a2:Y (nxt n 0)<Y 0
   ·exact⟨⟨X 0,Y (nxt n 0),by omega⟩,X 0-1,Y (nxt n 0),by omega⟩
   by_cases a3:X 0<X (nxt n 0)
   ·exact⟨⟨X 0,Y 0,by omega⟩,X 0,Y 0-1,by omega⟩
   ·exact⟨⟨X (nxt n 0),Y 0-1,by omega⟩,X (nxt n 0),Y 0,by omega⟩
  obtain⟨⟨x1,y1,c1⟩,x2,y2,c2⟩:=cell
  have e1:=h.1 _ _ c1
  have e2:=h.2 _ _ c2
  rcases h01 with e|e
  ·exact⟨x2,y2,by omega⟩
  ·exact⟨x1,y1,by omega⟩
 obtain⟨x,y,hxy⟩:=hsome
 obtain⟨⟨r1,r2⟩,r3,r4⟩:=N.range hX hY (x:=x) (y:=y) (by rw[hxy];omega)
 have sq: ∀x y,0≤(2*L-1)*Wn n (nxt n) X Y x y:=fun x y=>by
  rcases hv x y with h|h<;>rw[h]
  ·simp
  ·rcases h01 with e|e<;>subst e<;>decide
 have pos:0<(2*L-1)*Wn n (nxt n) X Y x y:=by
  rw[hxy]
  rcases h01 with e|e<;>subst e<;>decide
 have hp:0<AI (fun i=>AI (fun j=>(2*L-1)*Wn n (nxt n) X Y i j) M) M:=by
  refine KP (j:=x.toNat) M (fun i _=>Hf M fun j _=>sq i j) (by omega) ?_
  refine KP (j:=y.toNat) M (fun j _=>sq _ j) (by omega) ?_
  show 0<(2*L-1)*Wn n (nxt n) X Y (x.toNat:Nat) (y.toNat:Nat)
  rw[show((x.toNat:Nat):Int)=x by omega,show((y.toNat:Nat):Int)=y by omega]
  exact pos
 have e:AI (fun i:Nat=>AI (fun j:Nat=>(2*L-1)*Wn n (nxt n) X Y i j) M) M=(2*L-1)*AI (fun i:Nat=>AI (fun j:Nat=>Wn n (nxt n) X Y i j) M) M:=by
  rw[←F3]
  exact BY M fun i _=>F3 _ _ M
 rw[e] at hp
 rcases h01 with e|e<;>subst e<;>omega
end
theorem QY {rs:List (List Sd)} {m:Nat}: ∀k,k≤rs.length→m<tot (rs.take k)→ ∃r i,r<k∧i<(rg rs r).length∧m=tot (rs.take r)+i
 |0,_,h=>by simp[tot] at h
 |k+1,hk,h=>by
  rw[Bj (by omega)] at h
  by_cases e:m<tot (rs.take k)
  ·obtain⟨r,i,h1,h2,h3⟩:=QY k (by omega) e
   exact⟨r,i,by omega,h2,h3⟩
  ·exact⟨k,m-tot (rs.take k),by omega,by omega,by omega⟩
theorem TP {rs:List (List Sd)} {m:Nat} (h:m<tot rs): ∃r i,r<rs.length∧i<(rg rs r).length∧m=tot (rs.take r)+i:=QY rs.length (Nat.le_refl _) (by rw[List.take_length];exact h)
theorem Ho {n k:Nat} (h:k<n):nxt n k=if k+1=n then 0 else k+1:=by
 unfold nxt
 split
 ·rename_i e;rw[e,Nat.mod_self]
 ·exact Nat.mod_eq_of_lt (by omega)
theorem XG {n k:Nat} (h:k<n):prv n k=if k=0 then n-1 else k-1:=by
 unfold prv
 split
 ·rename_i e;subst e;rw[Nat.zero_add];exact Nat.mod_eq_of_lt (by omega)
 ·rw[show k+n-1=k-1+n by omega,Nat.add_mod_right];exact Nat.mod_eq_of_lt (by omega)
theorem XW {n k:Nat} (h:k<n):prv n (nxt n k)=k:=by
 rw[XG (DP h),Ho h];split<;>split<;>omega
theorem Xp {n r a b:Nat} (hb:b<a) (ha:a<n):nbB n (r,a) (r,b)=true↔(a=nxt n b∨b=nxt n a):=by
 unfold nbB
 rw[Ho ha,Ho (show b<n by omega)]
 simp only[beq_self_eq_true,Bool.true_and,Bool.or_eq_true,beq_iff_eq]
 split<;>split<;>omega
def near (rs:List (List Sd)) (r i s k:Nat):Prop:=r=s∧(i=k∨i=nxt (rg rs r).length k∨k=nxt (rg rs r).length i)
theorem Qj (rs:List (List Sd)):crs rs=false↔ ∀r i s k,r<rs.length→i<(rg rs r).length→s<rs.length→k<(rg rs s).length→ ¬near rs r i s k→E1 (bsd rs (r,i)) (esd rs (r,i)) (bsd rs (s,k)) (esd rs (s,k))=false:=by
 constructor
 ·intro h r i s k hr hi hs hk hn
  by_cases e:r=s
  rotate_left
  ·exact Vf h hr hi hs hk e
  subst e
  have one: ∀ {a b:Nat},a<(rg rs r).length→b<a→ ¬(a=nxt (rg rs r).length b∨b=nxt (rg rs r).length a)→E1 (bsd rs (r,a)) (esd rs (r,a)) (bsd rs (r,b)) (esd rs (r,b))=false:=by
   intro a b ha hb hab
   have hj:=Ts hr ha
   have h2:CY rs (pl rs (tot (rs.take r)+a)) (pl rs (tot (rs.take r)+b))=false:=by
    cases he:CY rs (pl rs (tot (rs.take r)+a)) (pl rs (tot (rs.take r)+b)) with
    |false=>rfl
    |true=>
     have:crs rs=true:=List.any_eq_true.2 ⟨_,List.mem_range.2 hj,List.any_eq_true.2 ⟨_,List.mem_range.2 (by omega),he⟩⟩
     rw[h] at this;cases this
   rw[IN hr ha,IN hr (by omega)] at h2
   unfold CY at h2
   have h3:nbB (rg rs r).length (r,a) (r,b)=false:=Bool.eq_false_iff.2 fun e=>hab ((Xp hb ha).1 e)
   rw[h3] at h2
   simpa using h2
  rcases Nat.lt_trichotomy i k with hlt|heq|hgt
  ·rw[K3]
   exact one hk hlt fun h=>hn ⟨I,by omega⟩
  ·exact absurd ⟨I, .inl heq⟩ hn
  ·exact one hi hgt fun h=>hn ⟨I,by omega⟩
 ·intro h
  unfold crs
  refine DJ fun m hm=>DJ fun j hj=> ?_
  obtain⟨r,i,hr,hi,rfl⟩:=TP hm
  obtain⟨s,k,hs,hk,rfl⟩:=TP (show j<tot rs by omega)
  rw[IN hr hi,IN hs hk]
  unfold CY
  cases hb:nbB (rg rs r).length (r,i) (s,k) with
  |true=>rfl
  |false=>
   simp only[Bool.not_false,Bool.true_and]
   refine h r i s k hr hi hs hk fun hn=> ?_
   obtain⟨rfl,hn⟩:=hn
   have hik:k<i:=by omega
   have:=(Xp (r:=r) hik hi).2 (by omega)
   rw[hb] at this;cases this
theorem XT {t u t' u':Sd} {px py:Int} (h:E1 t u t' u'=false) (h1:(t.x≤px∨u.x≤px)∧(px≤t.x∨px≤u.x)∧(t.y≤py∨u.y≤py)∧(py≤t.y∨py≤u.y))
  (h2:(t'.x≤px∨u'.x≤px)∧(px≤t'.x∨px≤u'.x)∧(t'.y≤py∨u'.y≤py)∧(py≤t'.y∨py≤u'.y)):False:=by
 have e:E1 t u t' u'=true:=by
  unfold E1 lox hix loy hiy
  simp only[Bool.and_eq_true,decide_eq_true_eq]
  refine⟨⟨⟨?_, ?_⟩, ?_⟩, ?_⟩<;>split<;>split<;>omega
 rw[h] at e;cases e
theorem X5 {rs:List (List Sd)} (hin:Vj rs) (hs: ∀l∈rs,shp l=true) (hc:crs rs=false) {r:Nat} (hr:r<rs.length):Net (rg rs r).length (nxt (rg rs r).length) (fun k=>(sd (rg rs r) k).x) (fun k=>(sd (rg rs r) k).y):=by
 have hm:rg rs r∈rs:=List.mem_of_getElem? (Bd hr)
 refine⟨fun k hk=>DP hk,fun f=>U5 f _,fun k hk=> ?_,fun k hk=> ?_,fun j k hj hk px py h1 h2=> ?_⟩
 ·have:=(Fa (hin _ hm) (hs _ hm) hk).1
  omega
 ·have h1:=(Fa (hin _ hm) (hs _ hm) hk).1
  have h2:=(Fa (hin _ hm) (hs _ hm) (DP hk))
  rw[XW hk] at h2
  omega
 ·refine Classical.byContradiction fun hn=> ?_
  have h:=(Qj rs).1 hc r j r k hr hj hr hk fun h=>hn (by obtain⟨_,h⟩:=h;omega)
  exact XT h h1 h2
theorem Vx {rs:List (List Sd)} (hin:Vj rs) (hs: ∀l∈rs,shp l=true) (hc:crs rs=false) {r:Nat} (hr:r<rs.length):
  ∃L:Int,(L=0∨L=1)∧(∀k,k<(rg rs r).length→Lv (rg rs r).length (nxt (rg rs r).length) (fun k=>(sd (rg rs r) k).x) (fun k=>(sd (rg rs r) k).y) k L)∧
   (∀x y,Wn (rg rs r).length (nxt (rg rs r).length) (fun k=>(sd (rg rs r) k).x) (fun k=>(sd (rg rs r) k).y) x y=0∨Wn (rg rs r).length (nxt (rg rs r).length) (fun k=>(sd (rg rs r) k).x) (fun k=>(sd (rg rs r) k).y) x y=2*L-1)∧
   0<(2*L-1)*AI (EG (rg rs r)) (rg rs r).length:=by
 have hm:rg rs r∈rs:=List.mem_of_getElem? (Bd hr)
 have N:=X5 hin hs hc hr
 have h4:=TS (hs _ hm)
 obtain⟨L,h01,hL,hv⟩:=N.one (by omega)
 refine⟨L,h01,hL,hv, ?_⟩
 have hi: ∀k,k<(rg rs r).length→inR (sd (rg rs r) k):=fun k hk=>CZ (hin _ hm) hk
 exact N.area_one (M:=65536) (by omega) (fun k hk=>⟨(hi k hk).1,(hi k hk).2.1⟩) (fun k hk=>⟨(hi k hk).2.2.1,(hi k hk).2.2.2⟩) h01 hL hv
theorem XV {rs:List (List Sd)} (hin:Vj rs) (hs: ∀l∈rs,shp l=true) (hc:crs rs=false) {r:Nat} (hr:r<rs.length):AI (EG (rg rs r)) (rg rs r).length≠0:=by
 obtain⟨L,_,_,_,h⟩:=Vx hin hs hc hr
 intro e
 rw[e,Int.mul_zero] at h
 exact absurd h (by decide)
end
end Go.Proofs.YtmblgcglonikiaaGreatDoor
