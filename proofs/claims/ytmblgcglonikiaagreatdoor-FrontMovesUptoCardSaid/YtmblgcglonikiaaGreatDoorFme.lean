/-
  Lemmas that the theorem frontMoves_upto_card needs (part 5 of 5).
-/
import Derived.Test.YtmblgcglonikiaaGreatDoorFmd
import Derived.Lib.SlicesCompact
import Derived.Shelf.Lays
import Derived.Shelf.SlLaysN
import Derived.Shelf.Small.Bits
import Derived.Shelf.SlicesG.CompactS
import Derived.Laws.StructEq
import Derived.Test.YtmblgcglonikiaaGreatDoorRows
import Derived.Test.YtmblgcglonikiaaGreatDoorCards
import Derived.Test.YtmblgcglonikiaaGreatDoorTie
import Derived.Deep.Slices
import Derived.ChangeArms
import Derived.ChangeShapes
import Derived.WideShapes
import Derived.Carry
import Derived.ProofKit
import Derived.OpenShut
import Derived.Deep.DeepHandedRow
import Derived.Lib.LaidTab
import Derived.Stop.LaidErr
import Derived.Lay
import Derived.SevenTiedAt
import Derived.Shelf.Vars
import Derived.ChangeMaps5
set_option maxHeartbeats 64000000
namespace Go.Proofs.YtmblgcglonikiaaGreatDoor
section
open Go Go.RowKit Go.Am Go.Lib
set_option maxRecDepth 10000
-- BOXES 1
-- CODE2
theorem Ie (p q:Rat) (h:Sz2 p q) (W:World) (ht:A3 W):
  Ad Tryz.prog 201 #[str (Ac p),str (Ac q)] W (fun _:Unit=> .tuple #[str (Ac (p+q)), .int .i64 0]) (fun _=>True) (fun _=>[]):=by
 have hpn:=p.den_pos
 have hqn:=q.den_pos
 have ra:=HU p q
 refine Ab (args:=[str (Ac p),str (Ac q)]) Tryz.func201 I I I ?_
 refine zA (zB (wP I (wP I (Aa (zE (zA (zB (wP I (wC I I (fun W _=>BJ h.okp W) ?_)))))))))
 iterate 7 refine wP I ?_
 refine Aa (zE (zA (zB (wP I (wC I I (fun W _=>BJ h.okq W) ?_)))))
 iterate 7 refine wP I ?_
 refine Aa (Av (An (An ?_)))
 refine Au (X:=Unit) (fun _=>[(0,str (Ac p)),(1,str (Ac q)),(6, .int .i64 (iN p)),(7, .int .i64 (iD p)),(9, .int .i64 (iN q)),(10, .int .i64 (iD q)),(37, .bool (sh2 p q))]) (fun _=>[]) (fun _=>True) ?_ ?_
 ·refine zB (wP I (wP I ?_))
  refine Cu 35 I (fun h35=> ?_) (fun h35=> ?_)
  ·exact wP I (wP I (Aa (Ae () O ⟨I,I,I,I,I,I,congrArg (fun b=>some (Value.bool b)) (by unfold sh2;simp_all),O⟩ [] I)))
  ·refine Ag I I ?_
   exact wP I (Aa (Ae () O ⟨I,I,I,I,I,I,congrArg (fun b=>some (Value.bool b)) (by unfold sh2;simp_all),O⟩ [] I))
 intro _ _
 refine Aj I (fun hs=> ?_) (fun hs=> ?_)
 ·obtain⟨e1,e2,e3,e4,l1,l2,l3,l4⟩:=FJ hs
  have m1:=Lr l1 (Fj l4)
  have m2:=Lr l3 (Fj l2)
  have m3:=Lr (Fj l2) (Fj l4)
  have hdd:((p.den:Nat):Int)*((q.den:Nat):Int)=((p.den*q.den:Nat):Int):=(Int.natCast_mul _ _).symm
  rw[hdd,Int.natAbs_natCast] at m3
  have hpq:=Nat.mul_pos hpn hqn
  rw[hdd,Nr _ hpq] at ra
  refine zA (zB (wP I (wP I (wP I (wV 40 (p.num*(q.den:Nat)) I (by rw[e1,e4];exact CL l1 (Fj l4)) (wP I (wP I (wP I (wV 43 (q.num*(p.den:Nat)) I (by rw[e3,e2];exact CL l3 (Fj l2)) (wP I (wV 44 (p.num*(q.den:Nat)+q.num*(p.den:Nat)) I (Ai (by omega) (by omega)) (wP I (wP I (wP I ?_))))))))))))))
  exact wV 47 ((p.den*q.den:Nat):Int) I (by rw[e2,e4, ←hdd];exact CL (Fj l2) (Fj l4)) (wC I I (fun W _=>(Cf (p.num*(q.den:Nat)+q.num*(p.den:Nat)) (p.den*q.den) (by omega) hpq (by omega) W).cast (v':=str (Ac (p+q))) (by rw[ra])) (wP I (wP I (Aa (zE (zO (zP (wR2 I I I))))))))
 ·have hd0:((p.den:Nat):Int)*((q.den:Nat):Int)≠0:=Int.mul_ne_zero (by omega) (by omega)
  refine zI (zE (zA (zB (wP I (wC I I (fun W _=>BA h.okp W) ?_)))))
  iterate 5 refine wP I ?_
  refine Aa (zE (zA (zB (wP I (wC I I (fun W _=>BA h.okq W) ?_)))))
  iterate 5 refine wP I ?_
  refine Aa (zE (zA (zB (wP I (wP I (wP I (wP I (wC I I (fun W1 hp=>Dz p.num (q.den:Nat) q.num (p.den:Nat) h.okp.1 h.okq.2 h.okq.1 h.okp.2 h.c1 h.c2 W1 (ht.hp hp)) ?_))))))))
  iterate 7 refine wP I ?_
  refine Aa (zE (zA (zA (zB (wP I (wP I (Aa (zE (zS I (zI (zE (zA (zB ?_)))))))))))))
  refine wP I (wP I ?_)
  refine wC I I (fun W1 hp=>by
   have h1:=Dz (p.den:Nat) (q.den:Nat) 1 1 h.okp.2 h.okq.2 (Gi (by decide)) (Gi (by decide)) h.d (Gi (by decide)) W1 (ht.hp hp)
   rw[show(1:Int)*1=1 from rfl,Pb] at h1
   exact h1) ?_
  iterate 7 refine wP I ?_
  refine Aa (zE (zA (zA (zB ?_))))
  iterate 5 refine wP I ?_
  refine wU 82 false I (by show(!_)=false;rw[A6,dT I];rfl) (wP I (Aa (zE (zS I (zI (zE (zA (zB (wP I (wP I (wC I I (fun W1 hp=>M3 (p.num*(q.den:Nat)) (q.num*(p.den:Nat)) h.c1.dd h.c2.dd h.add.dd W1 (ht.hp hp)) ?_)))))))))))
  iterate 5 refine wP I ?_
  refine Aa (zE (zA (zA (zB (wP I (wP I (Aa (zE (zS I (zI (zE (zA (zB ?_)))))))))))))
  exact wP I (wP I (wC I I (fun W1 hp=>(H5 _ _ hd0 h.add h.d W1 (ht.hp hp)).cast (v':= .tuple #[str (Ac (p+q)), .int .i64 0]) (by rw[ra])) (wP I (wP I (wP I (wP I (Aa (zE (zO (wR2 I I I))))))))))
theorem Mc (p q:Rat) (h:Sz2 p q) (W:World) (ht:A3 W):
  Ad Tryz.prog 131 #[str (Ac p),str (Ac q)] W (fun _:Unit=> .tuple #[str (Ac (p+q)), .int .i64 0]) (fun _=>True) (fun _=>[]):=by
 refine Ab (args:=[str (Ac p),str (Ac q)]) Tryz.func131 I I I ?_
 refine zA (zB (wP I (wP I (Aa (zE (zA (zA (zB (wP I (wP I (wC I I (fun W1 hp=>Cq h.okp h.okq W1 (ht.hp hp)) (wP I (Aa ?_)))))))))))))
 refine zE (zA (zB (wP I (wP I (Aa (zE (zS I (zI (zE (zA (zB (wP I (wP I ?_)))))))))))))
 exact wC I I (fun W1 hp=>Ie p q h W1 (ht.hp hp)) (wP I (wP I (wP I (wP I (Aa (zE (zO (wR2 I I I))))))))
theorem Sz2.neg {p q:Rat} (h:Sz2 p q):Sz2 p (-q):=by
 have e:(-q).num= -q.num:=rfl
 have d:(-q).den=q.den:=rfl
 refine⟨h.okp,⟨by rw[e];exact HO h.okq.1,h.okq.2⟩,h.c1,by rw[e,Int.neg_mul];exact HO h.c2,h.d,by rw[e,Int.mul_neg];exact HO h.n, ?_, ?_⟩
 ·rw[e,d,Int.neg_mul, ←Int.sub_eq_add_neg];exact h.sub
 ·rw[e,d,Int.neg_mul,Int.sub_neg];exact h.add
theorem MX (p q:Rat) (h:Sz2 p q) (W:World) (ht:A3 W):
  Ad Tryz.prog 134 #[str (Ac p),str (Ac q)] W (fun _:Unit=> .tuple #[str (Ac (p-q)), .int .i64 0]) (fun _=>True) (fun _=>[]):=by
 refine Ab (args:=[str (Ac p),str (Ac q)]) Tryz.func134 I I I ?_
 refine zA (zB (wP I (wP I (Aa (zE (zA (zA (zB (wP I (wP I (wC I I (fun W1 hp=>Cq h.okp h.okq W1 (ht.hp hp)) (wP I (Aa ?_)))))))))))))
 refine zE (zA (zB (wP I (wP I (Aa (zE (zS I (zI (zE (zA (zB (wP I (wP I ?_)))))))))))))
 exact wC I I (fun W _=>Md q (DB h.okq) W) (wC I I (fun W1 hp=>(Ie p (-q) h.neg W1 (ht.hp hp)).cast (v':= .tuple #[str (Ac (p-q)), .int .i64 0]) (by rw[Rat.sub_eq_add_neg])) (wP I (wP I (wP I (wP I (Aa (zE (zO (wR2 I I I)))))))))
theorem Mu (p q:Rat) (h:Sz2 p q) (W:World) (ht:A3 W):
  Ad Tryz.prog 135 #[str (Ac p),str (Ac q)] W (fun _:Unit=> .tuple #[str (Ac (p*q)), .int .i64 0]) (fun _=>True) (fun _=>[]):=by
 have hpn:=p.den_pos
 have hqn:=q.den_pos
 have ra:=HL p q
 refine Ab (args:=[str (Ac p),str (Ac q)]) Tryz.func135 I I I ?_
 refine zA (zB (wP I (wP I (Aa (zE (zA (zA (zB (wP I (wP I (wC I I (fun W1 hp=>Cq h.okp h.okq W1 (ht.hp hp)) (wP I (Aa ?_)))))))))))))
 refine zE (zA (zB (wP I (wP I (Aa (zE (zS I (zI (zE (zA (zB (wP I (wC I I (fun W _=>BJ h.okp W) ?_)))))))))))))
 iterate 7 refine wP I ?_
 refine Aa (zE (zA (zB (wP I (wC I I (fun W _=>BJ h.okq W) ?_)))))
 iterate 7 refine wP I ?_
 refine Aa (Av (An (An ?_)))
 refine Au (X:=Unit) (fun _=>[(0,str (Ac p)),(1,str (Ac q)),(7, .int .i64 (iN p)),(8, .int .i64 (iD p)),(10, .int .i64 (iN q)),(11, .int .i64 (iD q)),(38, .bool (sh2 p q))]) (fun _=>[]) (fun _=>True) ?_ ?_
 ·refine zB (wP I (wP I ?_))
  refine Cu 36 I (fun h36=> ?_) (fun h36=> ?_)
  ·exact wP I (wP I (Aa (Ae () O ⟨I,I,I,I,I,I,congrArg (fun b=>some (Value.bool b)) (by unfold sh2;simp_all),O⟩ [] I)))
  ·refine Ag I I ?_
   exact wP I (Aa (Ae () O ⟨I,I,I,I,I,I,congrArg (fun b=>some (Value.bool b)) (by unfold sh2;simp_all),O⟩ [] I))
 intro _ _
 refine Aj I (fun hs=> ?_) (fun hs=> ?_)
 ·obtain⟨e1,e2,e3,e4,l1,l2,l3,l4⟩:=FJ hs
  have m1:=Lr l1 l3
  have m3:=Lr (Fj l2) (Fj l4)
  have hdd:((p.den:Nat):Int)*((q.den:Nat):Int)=((p.den*q.den:Nat):Int):=(Int.natCast_mul _ _).symm
  rw[hdd,Int.natAbs_natCast] at m3
  have hpq:=Nat.mul_pos hpn hqn
  rw[hdd,Nr _ hpq] at ra
  refine zA (zB (wP I (wP I (wP I (wV 41 (p.num*q.num) I (by rw[e1,e3];exact CL l1 l3) (wP I (wP I (wP I (wV 44 ((p.den*q.den:Nat):Int) I (by rw[e2,e4, ←hdd];exact CL (Fj l2) (Fj l4)) (wC I I (fun W _=>(Cf (p.num*q.num) (p.den*q.den) (by omega) hpq (by omega) W).cast (v':=str (Ac (p*q))) (by rw[ra])) (wP I (wP I (Aa ?_)))))))))))))
  exact zE (zO (zP (wR2 I I I)))
 ·have hd0:((p.den:Nat):Int)*((q.den:Nat):Int)≠0:=Int.mul_ne_zero (by omega) (by omega)
  refine zI (zE (zA (zB (wP I (wC I I (fun W _=>BA h.okp W) ?_)))))
  iterate 5 refine wP I ?_
  refine Aa (zE (zA (zB (wP I (wC I I (fun W _=>BA h.okq W) ?_)))))
  iterate 5 refine wP I ?_
  refine Aa (zE (zA (zB (wP I (wP I (wP I (wP I (wC I I (fun W1 hp=>(IH p.num (p.den:Nat) q.num (q.den:Nat) h.okp.1 h.okp.2 h.okq.1 h.okq.2 h.n h.d hd0 W1 (ht.hp hp)).cast (v':= .tuple #[str (Ac (p*q)), .int .i64 0]) (by rw[ra])) (wP I (wP I (wP I (wP I (Aa ?_)))))))))))))
  exact zE (zO (wR2 I I I))
theorem M0 (p q:Rat) (h:Sz2 p q) (h0:q.num≠0) (W:World) (ht:A3 W):
  Ad Tryz.prog 132 #[str (Ac p),str (Ac q)] W (fun _:Unit=> .tuple #[str (Ac (p/q)), .int .i64 0]) (fun _=>True) (fun _=>[]):=by
 have hpn:=p.den_pos
 have hqn:=q.den_pos
 have ra:=HP p q h0
 refine Ab (args:=[str (Ac p),str (Ac q)]) Tryz.func132 I I I ?_
 refine zA (zB (wP I (wP I (Aa (zE (zA (zA (zB (wP I (wP I (wC I I (fun W1 hp=>Cq h.okp h.okq W1 (ht.hp hp)) (wP I (Aa ?_)))))))))))))
 refine zE (zA (zB (wP I (wP I (Aa (zE (zS I (zI (zE (zA (zA (zB (wP I (wP I ?_))))))))))))))
 refine wU 24 false I ((A6 _ _).trans (dF fun e=>h0 (Ck.1 e))) (Aa (zE (zS I (zI (zE (zA (zB (wP I (wC I I (fun W _=>BJ h.okp W) ?_)))))))))
 iterate 7 refine wP I ?_
 refine Aa (zE (zA (zB (wP I (wC I I (fun W _=>BJ h.okq W) ?_)))))
 iterate 7 refine wP I ?_
 refine Aa (Av (An (An ?_)))
 refine Au (X:=Unit) (fun _=>[(0,str (Ac p)),(1,str (Ac q)),(7, .int .i64 (iN p)),(8, .int .i64 (iD p)),(10, .int .i64 (iN q)),(11, .int .i64 (iD q)),(40, .bool (sh2 p q))]) (fun _=>[]) (fun _=>True) ?_ ?_
 ·refine zB (wP I (wP I ?_))
  refine Cu 38 I (fun h38=> ?_) (fun h38=> ?_)
  ·exact wP I (wP I (Aa (Ae () O ⟨I,I,I,I,I,I,congrArg (fun b=>some (Value.bool b)) (by unfold sh2;simp_all),O⟩ [] I)))
  ·refine Ag I I ?_
   exact wP I (Aa (Ae () O ⟨I,I,I,I,I,I,congrArg (fun b=>some (Value.bool b)) (by unfold sh2;simp_all),O⟩ [] I))
 intro _ _
 refine Aj I (fun hs=> ?_) (fun hs=> ?_)
 ·obtain⟨e1,e2,e3,e4,l1,l2,l3,l4⟩:=FJ hs
  obtain⟨m,hm⟩: ∃m,m=q.num.natAbs:=⟨_,rfl⟩
  obtain⟨c,hc⟩: ∃c:Int,c=if q.num<0 then -((q.den:Nat):Int) else((q.den:Nat):Int):=⟨_,rfl⟩
  have hca:c.natAbs<1000000000:=by rw[hc];split<;>omega
  have hm9:m<1000000000:=by omega
  have m1:=Lr l1 hca
  have m3:=Lr (Fj l2) (Fj hm9)
  have hdd:((p.den:Nat):Int)*((m:Nat):Int)=((p.den*m:Nat):Int):=(Int.natCast_mul _ _).symm
  rw[hdd,Int.natAbs_natCast] at m3
  have hpq:0<p.den*m:=Nat.mul_pos hpn (by omega)
  have hr:mkRat (p.num*c) (p.den*m)=p/q:=by
   rw[←ra]
   unfold nrm
   have hn1:(((p.den:Nat):Int)*q.num).natAbs=p.den*m:=by rw[Int.natAbs_mul,Int.natAbs_natCast,hm]
   rw[hn1]
   by_cases hq:q.num<0
   ·rw[if_pos (Int.mul_neg_of_pos_of_neg (by omega) hq),hc,if_pos hq,Int.mul_neg]
   ·rw[if_neg (by have:=Int.mul_nonneg (show(0:Int)≤(p.den:Nat) by omega) (show 0≤q.num by omega);omega),hc,if_neg hq]
  refine zA (zA (zB (wP I (wP I (wU 42 (decide (q.num<0)) I (by rw[e3]) (Aa (Av ?_)))))))
  try refine An ?_
  refine Au (X:=Unit) (fun _=>[(7, .int .i64 (iN p)),(8, .int .i64 (iD p)),(10, .int .i64 (m:Nat)),(11, .int .i64 c)]) (fun _=>[]) (fun _=>True) ?_ ?_
  ·refine Aj I (fun hq=> ?_) (fun hq=> ?_)
   ·have hq:q.num<0:=of_decide_eq_true hq
    exact zB (wP I (wP I (wV 44 (m:Nat) I (by rw[e3];show w64 (0-q.num)=_;rw[Ai (by omega) (by omega)];omega) (wP I (wP I (wV 46 c I (by rw[e4];show w64 (0-((q.den:Nat):Int))=_;rw[Ai (by omega) (by omega),hc,if_pos hq];omega) (wP I (wP I (Aa (Ae () O ⟨I,I,I,I,O⟩ [] I))))))))))
   ·have hq: ¬q.num<0:=of_decide_eq_false hq
    exact zI (Ae () O ⟨I,I,congrArg (fun z=>some (Value.int .i64 z)) (by rw[e3];omega),congrArg (fun z=>some (Value.int .i64 z)) (by rw[e4,hc,if_neg hq]),O⟩ [] I)
  intro _ _
  refine zA (zB (wP I (wP I (wP I (wV 49 (p.num*c) I (by rw[e1];exact CL l1 hca) (wP I (wP I (wP I (wV 52 ((p.den*m:Nat):Int) I (by rw[e2, ←hdd];exact CL (Fj l2) (Fj hm9)) (wC I I (fun W _=>(Cf (p.num*c) (p.den*m) (by omega) hpq (by omega) W).cast (v':=str (Ac (p/q))) (by rw[hr])) (wP I (wP I (Aa ?_)))))))))))))
  exact zE (zO (zP (wR2 I I I)))
 ·have hd0:((p.den:Nat):Int)*q.num≠0:=Int.mul_ne_zero (by omega) h0
  have hc2:okN (((p.den:Nat):Int)*q.num):=by rw[Int.mul_comm];exact h.c2
  refine zI (zE (zA (zB (wP I (wC I I (fun W _=>BA h.okp W) ?_)))))
  iterate 5 refine wP I ?_
  refine Aa (zE (zA (zB (wP I (wC I I (fun W _=>BA h.okq W) ?_)))))
  iterate 5 refine wP I ?_
  refine Aa (zE (zA (zB (wP I (wP I (wP I (wP I (wC I I (fun W1 hp=>(IH p.num (p.den:Nat) (q.den:Nat) q.num h.okp.1 h.okp.2 h.okq.2 h.okq.1 h.c1 hc2 hd0 W1 (ht.hp hp)).cast (v':= .tuple #[str (Ac (p/q)), .int .i64 0]) (by rw[ra])) (wP I (wP I (wP I (wP I (Aa ?_)))))))))))))
  exact zE (zO (wR2 I I I))
theorem KI {q:Rat} (h:okQ q) (W:World) (ht:A3 W):
  Ad Tryz.prog 113 #[str (Ac q)] W (fun _:Unit=> .tuple #[str (itoa q.num),str (decDigits q.den), .int .i64 0]) (fun _=>True) (fun _=>[]):=by
 refine Ab (args:=[str (Ac q)]) Tryz.func113 I I I ?_
 refine zA (zB (wP I (wP I (wP I (Aa (zE (zA (zA (zB (wP I (wC I I (fun W1 hp=>E1 h W1 (ht.hp hp)) (wP I (Aa ?_)))))))))))))
 refine zE (zA (zB (wP I (wP I (Aa (zE (zS I (zI (zE (zA (zB (wP I (wC I I (fun W _=>H9 q (DB h) W) ?_)))))))))))))
 iterate 5 refine wP I ?_
 refine Aa (zE (zA (zB ?_)))
 iterate 5 refine wP I ?_
 exact Aa (zE (zO (wR3 I I I)))
-- BOXES 4
-- CODE2
theorem EJ {a:List UInt8} (h:(rdR a).2=0): ∃q,okQ q∧a=Ac q:=by
 unfold rdR at h
 cases hf:frm a with
 |none=>rw[hf] at h;exact absurd h (by decide)
 |some x=>
  obtain⟨z,d⟩:=x
  rw[hf] at h
  simp only at h
  by_cases h1:z.natAbs<AQ∧d<AQ
  ·rw[if_pos h1] at h
   by_cases h2:Nat.gcd z.natAbs d=1
   ·obtain⟨h3,h4⟩:=Iw hf
    exact⟨⟨z,d,by omega,h2⟩,⟨h1.1,by unfold okN;rw[Int.natAbs_natCast];exact h1.2⟩,h4⟩
   ·rw[if_neg h2] at h;exact absurd h (by decide)
  ·rw[if_neg h1] at h;exact absurd h (by decide)
def CQ (a:List UInt8):Bool:=match frm a with
 |none=>false
 |some (z,d)=>decide (36<(decDigits z.natAbs).length)||decide (36<(decDigits d).length)
theorem K5 (q:Rat):CQ (Ac q)=(decide (36<(decDigits q.num.natAbs).length)||decide (36<(decDigits q.den).length)):=by
 unfold CQ Ac
 rw[DT q.num q.den_pos]
theorem Gk {q:Rat}:CQ (Ac q)=false↔szQ q 36:=by
 rw[K5,Bool.or_eq_false_iff,decide_eq_false_iff_not,decide_eq_false_iff_not]
 constructor
 ·rintro⟨h1,h2⟩
  exact⟨Nat.lt_of_lt_of_le (Dw _) (Nat.pow_le_pow_right (by decide) (by omega)),Nat.lt_of_lt_of_le (Dw _) (Nat.pow_le_pow_right (by decide) (by omega))⟩
 ·rintro⟨h1,h2⟩
  have l1:=BQ 36 _ (by decide) h1
  have l2:=BQ 36 _ (by decide) h2
  exact⟨by omega,by omega⟩
def B5 (a:List UInt8):Int:=if (rdR a).2≠0 then(rdR a).2 else if CQ a=true then 4 else 0
theorem JN {a:List UInt8} (h:B5 a=0): ∃q,szQ q 36∧a=Ac q:=by
 unfold B5 at h
 by_cases h1:(rdR a).2=0
 ·obtain⟨q,_,rfl⟩:=EJ h1
  rw[if_neg (fun h=>h h1)] at h
  cases h2:CQ (Ac q) with
  |true=>rw[h2,if_pos rfl] at h;exact absurd h (by decide)
  |false=>exact⟨q,Gk.1 h2,rfl⟩
 ·rw[if_pos h1] at h;exact absurd h h1
theorem F3 {q:Rat} (h:szQ q 36):B5 (Ac q)=0:=by
 unfold B5
 rw[I3 (h.ok (by decide)),if_neg (fun h=>h rfl),Gk.2 h,if_neg (by decide)]
theorem BX (a:List UInt8) (hl:a.length≤4000000000) (W:World) (hv:AV W) (ht:A3 W):
  Ad Tryz.prog 88 #[str a] W (fun _:Unit=> .int .i64 (B5 a)) (fun _=>True) (fun _=>[]):=by
 refine Ab (args:=[str a]) Tryz.func88 I I I ?_
 refine zA (zB (wP I (Aa (zE (zA (zA (zB (wP I (wC I I (fun W hp=>Cc a hl W (hv.hp hp) (ht.hp hp)) (wP I (Aa (zE (zA ?_)))))))))))))
 refine zB (wP I (wP I ?_))
 by_cases he:(rdR a).2=0
 rotate_left
 ·exact wU 10 true I (bne_iff_ne.2 he) (Aa (zE (zR I (zA (zB (wP I (wP I (Aa (zE (zO (zP (wR1 I I (by unfold B5;rw[if_pos he])))))))))))))
 obtain⟨q,hk,rfl⟩:=EJ he
 have hE:B5 (Ac q)=if CQ (Ac q)=true then 4 else 0:=by unfold B5;rw[if_neg (fun h=>h he)]
 rw[hE,K5]
 refine wU 10 false I (bne_eq_false_iff_eq.2 he) (Aa (zE (zS I (zI (zE (zA (zA (zB (wP I (wC I I (fun W hp=>Gx q hk W (hv.hp hp) (ht.hp hp)) ?_))))))))))
 iterate 7 refine wP I ?_
 refine Aa (zE (zA (zB (wP I (wC I I (fun W _=>CY q.num W) (wP I (wC I I (fun W _=>CY (q.den:Nat) W) ?_)))))))
 rw[Int.natAbs_natCast]
 refine wP I (wP I ?_)
 refine Ah 23 (.bool (decide (36<(decDigits q.num.natAbs).length)||decide (36<(decDigits q.den).length))) I (congrArg Value.bool (by
  show decide ((if (((decDigits q.den).length:Nat):Int)>((decDigits q.num.natAbs).length:Nat) then _ else _)>36)=_
  rw[Bool.eq_iff_iff,Bool.or_eq_true,decide_eq_true_eq,decide_eq_true_eq,decide_eq_true_eq]
  split<;>omega)) ?_
 refine Aa (zE ?_)
 refine Aj I (fun hL=> ?_) (fun hL=> ?_)
 ·exact zA (zB (wP I (Aa (zE (zO (zP (wR1 I I (by rw[if_pos hL]))))))))
 ·exact zI (zE (zA (zB (wP I (Aa (zE (zO (wR1 I I (by rw[hL,if_neg (by decide)])))))))))
structure FrW where
 ax:Bool
 pos:Int
 hd:Int
 sp:List UInt8
 st:List UInt8
abbrev fwV (f:FrW):Value:= .agg #[.bool f.ax, .int .i64 f.pos, .int .i64 f.hd,str f.sp,str f.st]
abbrev fwX (b:Nat) (f:FrW):Bx:=⟨b,48,[.bool f.ax, .int .i64 f.pos, .int .i64 f.hd,str f.sp,str f.st],true,none⟩
def Cs (f:FrW):Bool:=(decide (f.pos<0)||decide (f.pos>65536))||(decide (f.hd≠1)&&decide (f.hd≠ -1))
def fcE (f:FrW):Int:=if Cs f=true then 2 else if (rdR f.sp).2≠0 then(rdR f.sp).2 else if (rdR f.st).2≠0 then(rdR f.st).2 else if (CQ f.sp||CQ f.st)=true then 4 else if hasPrefix f.sp [45]=true then 2 else 0
def FrP.w (f:FrP):FrW:=⟨f.ax,f.pos,f.hd,Ac f.sp,Ac f.st⟩
theorem Lv {f:FrW} (h:fcE f=0): ∃g:FrP,g.OK∧f=g.w:=by
 unfold fcE at h
 by_cases h0:Cs f=true
 ·rw[if_pos h0] at h;exact absurd h (by decide)
 rw[if_neg h0] at h
 by_cases h1:(rdR f.sp).2=0
 rotate_left
 ·rw[if_pos h1] at h;exact absurd h h1
 rw[if_neg (fun h=>h h1)] at h
 by_cases h2:(rdR f.st).2=0
 rotate_left
 ·rw[if_pos h2] at h;exact absurd h h2
 rw[if_neg (fun h=>h h2)] at h
 by_cases h3:(CQ f.sp||CQ f.st)=true
 ·rw[if_pos h3] at h;exact absurd h (by decide)
 rw[if_neg h3] at h
 by_cases h4:hasPrefix f.sp [45]=true
 ·rw[if_pos h4] at h;exact absurd h (by decide)
 obtain⟨u,_,e1⟩:=EJ h1
 obtain⟨v,_,e2⟩:=EJ h2
 rw[e1,e2] at h3
 rw[e1,DI] at h4
 have h3:(CQ (Ac u)||CQ (Ac v))=false:=by simpa using h3
 obtain⟨h5,h6⟩:=Bool.or_eq_false_iff.1 h3
 have h0:Cs f=false:=by simpa using h0
 unfold Cs at h0
 simp only[Bool.or_eq_false_iff,Bool.and_eq_false_iff,decide_eq_false_iff_not] at h0
 refine⟨⟨f.ax,f.pos,f.hd,u,v⟩,⟨by show 0≤f.pos;omega,by show f.pos≤65536;omega,by show f.hd=1∨f.hd= -1;omega,Gk.1 h5,Gk.1 h6,by have:=h4;simp at this;exact Rat.num_nonneg.2 this⟩, ?_⟩
 obtain⟨a,b,c,d,e⟩:=f
 have e1:d=Ac u:=e1
 have e2:e=Ac v:=e2
 subst e1 e2
 rfl
-- BOXES 4
-- CODE2
theorem CU (z:Int) (hz:z.natAbs<4611686018427387904) (W:World) (_ht:A3 W):Ad Tryz.prog 84 #[.int .i64 z] W (fun _:Unit=>str (Ac (z:Rat))) (fun _=>True) (fun _=>[]):=by
 refine Ab (args:=[.int .i64 z]) Tryz.func84 I I I ?_
 refine zA (zB (wP I (Aa (zE (zA (zB (wP I (wC I I (fun W1 _=>NK z hz W1) ?_))))))))
 iterate 5 refine wP I ?_
 exact Aa (zE (zA (zB (wP I (wP I (Aa (zE (zO (wR1 I I I)))))))))
theorem Ji (p q:Rat) (h:Sz2 p q) (W:World) (ht:A3 W):Ad Tryz.prog 81 #[str (Ac p),str (Ac q)] W (fun _:Unit=>str (Ac (p+q))) (fun _=>True) (fun _=>[]):=by
 refine Ab (args:=[str (Ac p),str (Ac q)]) Tryz.func81 I I I ?_
 refine zA (zB (wP I (Aa (zE (zA (zB (wP I (wP I (wC I I (fun W1 hp=>Mc p q h W1 (ht.hp hp)) ?_)))))))))
 iterate 5 refine wP I ?_
 exact Aa (zE (zA (zB (wP I (wP I (Aa (zE (zO (wR1 I I I)))))))))
theorem DJ (p q:Rat) (h:Sz2 p q) (W:World) (ht:A3 W):Ad Tryz.prog 85 #[str (Ac p),str (Ac q)] W (fun _:Unit=>str (Ac (p-q))) (fun _=>True) (fun _=>[]):=by
 refine Ab (args:=[str (Ac p),str (Ac q)]) Tryz.func85 I I I ?_
 refine zA (zB (wP I (Aa (zE (zA (zB (wP I (wP I (wC I I (fun W1 hp=>MX p q h W1 (ht.hp hp)) ?_)))))))))
 iterate 5 refine wP I ?_
 exact Aa (zE (zA (zB (wP I (wP I (Aa (zE (zO (wR1 I I I)))))))))
theorem IK (p q:Rat) (h:Sz2 p q) (W:World) (ht:A3 W):Ad Tryz.prog 86 #[str (Ac p),str (Ac q)] W (fun _:Unit=>str (Ac (p*q))) (fun _=>True) (fun _=>[]):=by
 refine Ab (args:=[str (Ac p),str (Ac q)]) Tryz.func86 I I I ?_
 refine zA (zB (wP I (Aa (zE (zA (zB (wP I (wP I (wC I I (fun W1 hp=>Mu p q h W1 (ht.hp hp)) ?_)))))))))
 iterate 5 refine wP I ?_
 exact Aa (zE (zA (zB (wP I (wP I (Aa (zE (zO (wR1 I I I)))))))))
theorem Ih (p q:Rat) (h:Sz2 p q) (h0:q.num≠0) (W:World) (ht:A3 W):Ad Tryz.prog 82 #[str (Ac p),str (Ac q)] W (fun _:Unit=>str (Ac (p/q))) (fun _=>True) (fun _=>[]):=by
 refine Ab (args:=[str (Ac p),str (Ac q)]) Tryz.func82 I I I ?_
 refine zA (zB (wP I (Aa (zE (zA (zB (wP I (wP I (wC I I (fun W1 hp=>M0 p q h h0 W1 (ht.hp hp)) ?_)))))))))
 iterate 5 refine wP I ?_
 exact Aa (zE (zA (zB (wP I (wP I (Aa (zE (zO (wR1 I I I)))))))))
theorem DD (p q:Rat) (h:Sz2 p q) (W:World) (ht:A3 W):Ad Tryz.prog 80 #[str (Ac p),str (Ac q)] W (fun _:Unit=> .int .i64 (GR p q)) (fun _=>True) (fun _=>[]):=by
 refine Ab (args:=[str (Ac p),str (Ac q)]) Tryz.func80 I I I ?_
 refine zA (zB (wP I (Aa (zE (zA (zB (wP I (wP I (wC I I (fun W1 hp=>Mw p q h W1 (ht.hp hp)) ?_)))))))))
 iterate 5 refine wP I ?_
 exact Aa (zE (zA (zB (wP I (wP I (Aa (zE (zO (wR1 I I I)))))))))
theorem FrP.OK.posN {f:FrP} (h:f.OK):f.pos.natAbs<4611686018427387904:=by have:=h.p0;have:=h.p1;omega
theorem FrP.OK.hdN {f:FrP} (h:f.OK):f.hd.natAbs<4611686018427387904:=by rcases h.hd with e|e<;>omega
theorem HG (f:FrP) (h:f.OK) (t:Rat) (a b k:Nat) (hs:szQ f.sp a) (hb:szQ f.st b) (hz:szQ t k) (hk:a+b+k+9≤300) (W:World) (ht:A3 W):
  Ad Tryz.prog 72 #[frV f,str (Ac t)] W (fun _:Unit=>str (Ac (f.at t))) (fun _=>True) (fun _=>[]):=by
 have z1:=sz2 hz hb (by omega)
 have z2:=hz.sub hb
 have z3:=sz2 hs z2 (by omega)
 have z4:=hs.mul z2
 have z5:=sz2 h.posz z4 (by omega)
 refine Ab (args:=[frV f,str (Ac t)]) Tryz.func72 I I I ?_
 refine zA (zB ?_)
 (refine At rfl rfl rfl rfl ?_;intro)
 refine wP I (Aa ?_)
 rename_i b2
 refine zE (zA (zA (zB (wP I (wP I (wB 0 I I I (wC I I (fun W1 hp=>DD t f.st z1 W1 (ht.hp hp)) (wP I (wU 10 (decide (t≤f.st)) I (Nh t f.st) (Aa (zE ?_)))))))))))
 refine Aj I (fun hc=> ?_) (fun hc=> ?_)
 ·have hc:=of_decide_eq_true hc
  exact zA (zB (wP I (wB 0 I I I (wC I I (fun W1 hp=>CU f.pos h.posN W1 (ht.hp hp)) (wP I (Aa (zE (zO (zP (wR1 I I (by rw[FrP.at,if_pos hc])))))))))))
 ·have hc:=of_decide_eq_false hc
  refine zI (zE (zA (zU (qP I (qB 0 I I I (qP I (qP I (qB 0 I I I (qC I I (fun W1 hp=>DJ t f.st z1 W1 (ht.hp hp)) (qC I I (fun W1 hp=>IK f.sp (t-f.st) z3 W1 (ht.hp hp)) (qP I (A9 (Aa ?_)))))))))))))
  refine zE (zA (zA (zB (wP I (wB 0 I I I (wP I (Aa (zE ?_))))))))
  refine Aj I (fun hh=> ?_) (fun hh=> ?_)
  ·have hh:f.hd<0:=of_decide_eq_true hh
   have e1:f.hd= -1:=by rcases h.hd with e|e<;>omega
   refine zA (zB (wP I (wB 0 I I I (wC I I (fun W1 hp=>CU f.pos h.posN W1 (ht.hp hp)) (wP I (wC I I (fun W1 hp=>DJ (f.pos:Rat) (f.sp*(t-f.st)) z5 W1 (ht.hp hp)) (wP I (Aa (zE (zO (zP ?_)))))))))))
   exact AG tH I (.tmp I) () (by
    rw[FrP.at,if_neg hc,FrP.vel,e1,show((-1:Int):Rat)= -1 from rfl]
    exact congrArg (fun q:Rat=>str (Ac q)) (by grind)) O fun W _=>As.nil _ _
  ·have hh: ¬f.hd<0:=of_decide_eq_false hh
   have e1:f.hd=1:=by rcases h.hd with e|e<;>omega
   refine zI (zE (zA (zB (wP I (wB 0 I I I (wC I I (fun W1 hp=>CU f.pos h.posN W1 (ht.hp hp)) (wP I (wC I I (fun W1 hp=>Ji (f.pos:Rat) (f.sp*(t-f.st)) z5 W1 (ht.hp hp)) (wP I (Aa (zE (zO ?_))))))))))))
   exact AG tH I (.tmp I) () (by
    rw[FrP.at,if_neg hc,FrP.vel,e1,show((1:Int):Rat)=1 from rfl]
    exact congrArg (fun q:Rat=>str (Ac q)) (by grind)) O fun W _=>As.nil _ _
-- BOXES 4
def FrP.velB (f:FrP) (t:Rat):Rat:=if f.st<t then f.vel else 0
def FrP.velA (f:FrP) (t:Rat):Rat:=if t<f.st then 0 else f.vel
theorem El (f:FrP) (h:f.OK) (t:Rat) (k:Nat) (hz:szQ t k) (hk:k+36+1≤300) (W:World) (hv:AV W) (ht:A3 W):
  Ad Tryz.prog 95 #[frV f,str (Ac t)] W (fun _:Unit=> .tuple #[str (Ac (f.velB t)),str (Ac (f.velA t))]) (fun _=>True) (fun _=>[]):=by
 have z1:=sz2 hz h.st hk
 refine Ab (args:=[frV f,str (Ac t)]) Tryz.func95 I I I ?_
 refine zA (zB ?_)
 (refine At rfl rfl rfl rfl ?_;intro)
 refine wP I (wP I (Aa ?_))
 rename_i b2
 refine zE (zA (zA (zB (wP I (wP I (wB 0 I I I ?_))))))
 by_cases c1:t<f.st
 ·have n1: ¬f.st<t:=fun e=>Rat.not_le.2 c1 (Rat.le_of_lt e)
  refine wC I I (fun W hp=>(B0 t f.st z1 W (hv.hp hp) (ht.hp hp)).cast (by rw[GR,if_pos c1])) (Aa (zE (zH (zA (zB (wP I (wP I (Aa (zE (zR I (zA (zB (wP I (wP I ?_))))))))))))))
  exact Aa (zE (zO (zQ (zP (wR2 I I (by rw[FrP.velB,FrP.velA,if_neg n1,if_pos c1,DA]))))))
 ·by_cases c2:t=f.st
  ·have n1: ¬f.st<t:=fun e=>by rw[c2] at e;exact Rat.lt_irrefl e
   refine wC I I (fun W hp=>(B0 t f.st z1 W (hv.hp hp) (ht.hp hp)).cast (by rw[GR,if_neg c1,if_pos c2])) (Aa (zE (zH (zA (zB (wP I (wP I (Aa (zE (zS I (zA (zB (wP I (wP I ?_))))))))))))))
   exact Aa (zE (zR I (zA (zB (wB 0 I I I (wC I I (fun W hp=>B6 f h W (hv.hp hp) (ht.hp hp)) (wP I (wP I (Aa (zE (zO (zQ (zP (wR2 I I (by rw[FrP.velB,FrP.velA,if_neg n1,if_neg c1,DA])))))))))))))))
  ·have c3:f.st<t:=Decidable.byContradiction fun h=>c2 (Rat.le_antisymm (Rat.not_lt.1 h) (Rat.not_lt.1 c1))
   refine wC I I (fun W hp=>(B0 t f.st z1 W (hv.hp hp) (ht.hp hp)).cast (by rw[GR,if_neg c1,if_neg c2])) (Aa (zE (zH (zA (zB (wP I (wP I (Aa (zE (zS I (zA (zB (wP I (wP I ?_))))))))))))))
   refine Aa (zE (zS I (zI (zN (zE (zA (zU (qB 0 I I I (qC I I (fun W hp=>B6 f h W (hv.hp hp) (ht.hp hp)) (qB 0 I I I (qC I I (fun W hp=>B6 f h W (hv.hp hp) (ht.hp hp)) (qP I (qP I ?_)))))))))))))
   exact A9 (Aa (zE (zO (wR2 I I (by rw[FrP.velB,FrP.velA,if_pos c3,if_neg c1])))))
-- BOXES 4
-- CODE2
theorem Do (q:Rat) (h:okQ q) (W:World) (ht:A3 W):
  Ad Tryz.prog 91 #[str (Ac q)] W (fun _:Unit=> .bool (CQ (Ac q))) (fun _=>True) (fun _=>[]):=by
 obtain⟨c,hc,hc45⟩:=Dn q.num
 have hl0:0<(itoa q.num).length:=by
  have:=List.getElem?_eq_some_iff.1 hc
  obtain⟨h1,_⟩:=this
  exact h1
 have hsz:=DB h
 have hi:(itoa q.num).length≤1000:=by
  have:=h.1.dd
  rw[Bu,List.length_append]
  have:=HS q.num
  omega
 have hdn:(decDigits q.den).length≤1000:=by have:=h.2.dd;rw[Int.natAbs_natCast] at this;omega
 rw[K5]
 refine Ab (args:=[str (Ac q)]) Tryz.func91 I I I ?_
 refine zA (zB (wP I (Aa (zE (zA (zB (wP I (wC I I (fun W1 hp=>KI h W1 (ht.hp hp)) ?_))))))))
 iterate 7 refine wP I ?_
 refine Aa (zE (zA (zA (zB (wP I (wP I ?_))))))
 refine Ah 13 (.int .i64 ((itoa q.num).length:Nat)) I (congrArg (fun n:Nat=>Value.int .i64 (n:Int)) (Ap _)) ?_
 refine wP I (wU 14 true I (dT (by omega)) (wP I (wP I ?_)))
 refine AH 0 tH I I I I I I I I hc ?_
 refine wP I (wU 18 (decide (q.num<0)) I ((CD c 45).trans hc45) (wP I (Aa (Av ?_))))
 try refine An ?_
 refine Au (X:=Unit) (fun _=>[(3,str (decDigits q.num.natAbs)),(4,str (decDigits q.den))]) (fun _=>[]) (fun _=>True) ?_ ?_
 ·refine Aj I (fun hn=> ?_) (fun hn=> ?_)
  ·have hn:q.num<0:=of_decide_eq_true hn
   have e:(itoa q.num).drop 1=decDigits q.num.natAbs:=by rw[Bu,Fk,if_pos hn];rfl
   refine zB (wP I ?_)
   refine De 1 tH I I I I I I I I (by omega) ?_
   rw[e]
   exact wP I (Aa (Ae () O ⟨I,I,O⟩ [] I))
  ·have hn: ¬q.num<0:=of_decide_eq_false hn
   have e:itoa q.num=decDigits q.num.natAbs:=by rw[Bu,Fk,if_neg hn];rfl
   exact zI (Ae () O ⟨congrArg (fun l=>some (str l)) e,I,O⟩ [] I)
 intro _ _
 refine zA (zB (wP I (wP I ?_)))
 refine Ah 23 (.int .i64 ((decDigits q.num.natAbs).length:Nat)) I (congrArg (fun n:Nat=>Value.int .i64 (n:Int)) (Ap _)) ?_
 refine wP I ?_
 by_cases h1:36<(decDigits q.num.natAbs).length
 ·refine wU 24 true I (dT (by omega)) (wP I ?_)
  iterate 3 refine Ag I I ?_
  exact wP I (wP I (Aa (zE (zO (wR1 I I (by rw[dT h1];rfl))))))
 ·refine wU 24 false I (dF (by omega)) (wP I (wP I (wP I ?_)))
  refine Ah 27 (.int .i64 ((decDigits q.den).length:Nat)) I (congrArg (fun n:Nat=>Value.int .i64 (n:Int)) (Ap _)) ?_
  exact wP I (wU 28 (decide (36<(decDigits q.den).length)) I (decide_eq_decide.2 (by omega)) (wP I (wP I (Aa (zE (zO (wR1 I I (by rw[dF h1,Bool.false_or]))))))))
theorem CZ (a:List UInt8) (hl:a.length≤4000000000) (W:World) (ht:A3 W):
  Ad Tryz.prog 83 #[str a] W (fun _:Unit=> .int .i64 (B5 a)) (fun _=>True) (fun _=>[]):=by
 refine Ab (args:=[str a]) Tryz.func83 I I I ?_
 refine zA (zB (wP I (Aa (zE (zA (zA (zB (wP I (wC I I (fun W1 hp=>D5 a (by omega) W1 (ht.hp hp)) (wP I (Aa (zE (zA ?_)))))))))))))
 refine zB (wP I (wP I ?_))
 by_cases he:(rdR a).2=0
 rotate_left
 ·exact wU 7 true I (bne_iff_ne.2 he) (Aa (zE (zR I (zA (zB (wP I (wP I (Aa (zE (zO (zP (wR1 I I (by unfold B5;rw[if_pos he])))))))))))))
 obtain⟨q,hk,rfl⟩:=EJ he
 refine wU 7 false I (bne_eq_false_iff_eq.2 he) (Aa (zE (zS I (zI (zE (zA (zA (zB (wP I (wC I I (fun W1 hp=>Do q hk W1 (ht.hp hp)) (Aa (zE ?_))))))))))))
 refine Aj I (fun hL=> ?_) (fun hL=> ?_)
 ·exact zA (zB (wP I (Aa (zE (zO (zP (wR1 I I (by unfold B5;rw[if_neg (fun h=>h he),if_pos hL]))))))))
 ·exact zI (zE (zA (zB (wP I (Aa (zE (zO (wR1 I I (by unfold B5;rw[if_neg (fun h=>h he),hL,if_neg (by decide)])))))))))
theorem FW (f:FrP) (h:f.OK) (W:World) (ht:A3 W):
  Ad Tryz.prog 39 #[frV f] W (fun _:Unit=> .int .i64 0) (fun _=>True) (fun _=>[]):=by
 have h':=h
 obtain⟨p0,p1,hhd,hsp,hst,hsp0⟩:=h'
 have l1:=(Gk (q:=f.sp)).2 hsp
 have l2:=(Gk (q:=f.st)).2 hst
 refine Ab (args:=[frV f]) Tryz.func39 I I I ?_
 refine zA (zB ?_)
 (refine At rfl rfl rfl rfl ?_;intro)
 refine wP I (Aa ?_)
 rename_i b1
 have hsp1: ¬f.sp<0:=by have:=Rat.num_nonneg.1 hsp0;grind
 have z0:szQ (0:Rat) 1:=⟨by decide,by decide⟩
 refine Av (An (An ?_))
 refine Au (X:=Unit) (fun _=>[(1,Aw b1),(22, .bool false)]) (fun _=>[⟨b1,48,[.bool f.ax, .int .i64 f.pos, .int .i64 f.hd,str (Ac f.sp),str (Ac f.st)],true,none⟩]) (fun _=>True) ?_ ?_
 ·refine zB (wP I (wB 0 I I I (wP I (wU 7 false I (dF (by omega)) (wP I (wP I (wB 0 I I I (wP I (wU 11 false I (dF (by omega)) (wP I (wP I (wP I (wB 0 I I I ?_)))))))))))))
  refine wP I ?_
  rcases hhd with e|e
  ·refine wU 16 false I (by rw[e];rfl) (wP I ?_)
   iterate 3 refine Ag I I ?_
   exact wP I (wP I (Aa (Ae () O ⟨I,I,O⟩ [] I)))
  ·exact wU 16 true I (by rw[e];rfl) (wP I (wP I (wB 0 I I I (wP I (wU 20 false I (by rw[e];rfl) (wP I (wP I (Aa (Ae () O ⟨I,I,O⟩ [] I)))))))))
 intro _ _
 refine zS I (zI (zE (zA (zA (zB (wP I (wB 0 I I I (wC I I (fun W1 hp=>E1 (hsp.ok (by decide)) W1 (ht.hp hp)) (wP I (Aa (zE (zA (zB ?_)))))))))))))
 refine wP I (wP I (Aa (zE (zS I (zI (zE (zA (zA (zB (wP I (wB 0 I I I (wC I I (fun W1 hp=>E1 (hst.ok (by decide)) W1 (ht.hp hp)) (wP I ?_)))))))))))))
 refine Aa (zE (zA (zB (wP I (wP I (Aa (zE (zS I (zI (zE (zA (zA (zB ?_)))))))))))))
 refine wP I (wB 0 I I I (wC I I (fun W1 hp=>(Do f.sp (hsp.ok (by decide)) W1 (ht.hp hp)).cast (v':= .bool false) (by rw[l1])) (wP I (wP I (wB 0 I I I (wC I I (fun W1 hp=>(Do f.st (hst.ok (by decide)) W1 (ht.hp hp)).cast (v':= .bool false) (by rw[l2])) (wP I (Aa (zE (zS I (zI (zE (zA (zA ?_))))))))))))))
 refine zB (wP I (wB 0 I I I ?_))
 refine wC I I (fun W1 hp=>(by
  have h1:=DD f.sp 0 (sz2 hsp z0 (by decide)) W1 (ht.hp hp)
  rw[Ck.2 (show(0:Rat).num=0 from rfl)] at h1
  exact h1)) ?_
 exact wP I (wU 46 false I ((Dj f.sp 0).trans (dF hsp1)) (Aa (zE (zS I (zI (zE (zA (zB (wP I (Aa (zE (zO (wR1 I I I)))))))))))))
theorem D3 (f:FrP) (h:f.OK) (a:List UInt8) (hl:a.length≤4000000000) (W:World) (ht:A3 W):
  Ad Tryz.prog 71 #[frV f,str a] W (fun _:Unit=> .int .i64 (B5 a)) (fun _=>True) (fun _=>[]):=by
 refine Ab (args:=[frV f,str a]) Tryz.func71 I I I ?_
 refine zA (zB ?_)
 (refine At rfl rfl rfl rfl ?_;intro)
 refine wP I (Aa ?_)
 rename_i b2
 refine zE (zA (zA (zB (wB 0 I I I (wC I I (fun W1 hp=>FW f h W1 (ht.hp hp)) (wP I (Aa (zE (zS I (zI (zE (zA (zB ?_)))))))))))))
 exact wP I (wC I I (fun W1 hp=>CZ a hl W1 (ht.hp hp)) (wP I (Aa (zE (zO (wR1 I I I))))))
theorem HF (f:FrP) (h:f.OK) (t:Rat) (hz:szQ t 36) (W:World) (ht:A3 W):
  Ad Tryz.prog 29 #[frV f,str (Ac t)] W (fun _:Unit=> .tuple #[str (Ac (f.at t)), .int .i64 0]) (fun _=>True) (fun _=>[]):=by
 have hl:=AS (hz.ok (by decide))
 refine Ab (args:=[frV f,str (Ac t)]) Tryz.func29 I I I ?_
 refine zA (zB ?_)
 (refine At rfl rfl rfl rfl ?_;intro)
 refine wP I (wP I (Aa ?_))
 rename_i b2
 refine zE (zA (zA (zB (wB 0 I I I (wP I (wC I I (fun W1 hp=>(D3 f h (Ac t) (by omega) W1 (ht.hp hp)).cast (v':= .int .i64 0) (by rw[F3 hz])) (wP I (Aa (zE (zA (zB (wP I (wP I ?_)))))))))))))
 refine Aa (zE (zS I (zI (zE (zA (zB (wB 0 I I I (wP I (wC I I (fun W1 hp=>HG f h t 36 36 36 h.sp h.st hz (by decide) W1 (ht.hp hp)) (wP I (wP I (Aa (zE ?_)))))))))))))
 exact zO (wR2 I I I)
def PD (f:FrP) (t:Rat):Rat:=if t<f.st then 0 else f.sp
theorem Kx (f:FrP) (h:f.OK) (t:Rat) (hz:szQ t 36) (W:World) (ht:A3 W):
  Ad Tryz.prog 33 #[frV f,str (Ac t)] W (fun _:Unit=> .tuple #[str (Ac (PD f t)), .int .i64 0]) (fun _=>True) (fun _=>[]):=by
 have hl:=AS (hz.ok (by decide))
 refine Ab (args:=[frV f,str (Ac t)]) Tryz.func33 I I I ?_
 refine zA (zB ?_)
 (refine At rfl rfl rfl rfl ?_;intro)
 refine wP I (wP I (Aa ?_))
 rename_i b2
 refine zE (zA (zA (zB (wB 0 I I I (wP I (wC I I (fun W1 hp=>(D3 f h (Ac t) (by omega) W1 (ht.hp hp)).cast (v':= .int .i64 0) (by rw[F3 hz])) (wP I (Aa (zE (zA (zB (wP I (wP I ?_)))))))))))))
 refine Aa (zE (zS I (zI (zE (zA (zA (zB (wP I (wP I (wB 0 I I I (wC I I (fun W1 hp=>DD t f.st (sz2 hz h.st (by decide)) W1 (ht.hp hp)) (wP I (wU 17 (decide (t<f.st)) I (Dj t f.st) ?_)))))))))))))
 refine Aa (zE ?_)
 refine Aj I (fun hc=> ?_) (fun hc=> ?_)
 ·have hc:t<f.st:=of_decide_eq_true hc
  exact zA (zB (wP I (wP I (Aa (zE (zO (zP (wR2 I I (by rw[PD,if_pos hc,Ck.2 (show(0:Rat).num=0 from I)])))))))))
 ·have hc: ¬t<f.st:=of_decide_eq_false hc
  exact zI (zE (zA (zB (wP I (wB 0 I I I (wP I (wP I (Aa (zE (zO (wR2 I I (by rw[PD,if_neg hc]))))))))))))
-- BOXES 4
-- CODE2
theorem Lf {a:List UInt8} (h:(rdR a).2=0) (he:B5 a≠0):CQ a=true∧B5 a=4:=by
 have e:B5 a=if CQ a=true then 4 else 0:=by unfold B5;rw[if_neg (fun h2=>h2 h)]
 rw[e] at he⊢
 by_cases hL:CQ a=true
 ·exact⟨hL,if_pos hL⟩
 ·rw[if_neg hL] at he;exact absurd rfl he
theorem JA {a:List UInt8} (h:(rdR a).2=0) (he:B5 a=0):CQ a=false:=by
 have e:B5 a=if CQ a=true then 4 else 0:=by unfold B5;rw[if_neg (fun h2=>h2 h)]
 rw[e] at he
 by_cases hL:CQ a=true
 ·rw[if_pos hL] at he;exact absurd he (by decide)
 ·simpa using hL
theorem Pd {f:FrW} (hb:Cs f=false) (r1:(rdR f.sp).2=0) (r2:(rdR f.st).2=0):fcE f=if (CQ f.sp||CQ f.st)=true then 4 else if hasPrefix f.sp [45]=true then 2 else 0:=by
 unfold fcE
 rw[hb,if_neg (by decide),if_neg (fun h=>h r1),if_neg (fun h=>h r2)]
theorem Db (f:FrW) (l1:f.sp.length≤4000000000) (l2:f.st.length≤4000000000) (W:World) (hv:AV W) (ht:A3 W):
  Ad Tryz.prog 38 #[fwV f] W (fun _:Unit=> .int .i64 (fcE f)) (fun _=>True) (fun _=>[]):=by
 refine Ab (args:=[fwV f]) Tryz.func38 I I I ?_
 refine zA (zB ?_)
 (refine At rfl rfl rfl rfl ?_;intro)
 refine wP I (Aa ?_)
 rename_i b1
 refine Av (An (An ?_))
 refine Au (X:=Unit) (fun _=>[(1,Aw b1),(26, .bool (Cs f))]) (fun _=>[fwX b1 f]) (fun _=>True) ?_ ?_
 ·refine zB (wP I (wB 0 I I I (wP I ?_)))
  by_cases c1:f.pos<0
  ·have e:Cs f=true:=by unfold Cs;rw[dT c1];rfl
   rw[e]
   refine wU 11 true I (dT c1) (wP I ?_)
   iterate 3 refine Ag I I ?_
   refine wP I (wP I ?_)
   iterate 8 refine Ag I I ?_
   exact wP I (Aa (Ae () O ⟨I,I,O⟩ [] I))
  refine wU 11 false I (dF c1) (wP I (wP I (wB 0 I I I (wP I ?_))))
  by_cases c2:f.pos>65536
  ·have e:Cs f=true:=by unfold Cs;rw[dT c2,Bool.or_true];rfl
   rw[e]
   refine wU 15 true I (dT c2) (wP I (wP I ?_))
   iterate 8 refine Ag I I ?_
   exact wP I (Aa (Ae () O ⟨I,I,O⟩ [] I))
  have e:Cs f=(decide (f.hd≠1)&&decide (f.hd≠ -1)):=by unfold Cs;rw[dF c1,dF c2];rfl
  rw[e]
  refine wU 15 false I (dF c2) (wP I (wP I (wP I (wB 0 I I I (wP I ?_)))))
  by_cases c3:f.hd=1
  ·rw[dF (fun h=>h c3),Bool.false_and]
   refine wU 20 false I (by rw[c3];rfl) (wP I ?_)
   iterate 3 refine Ag I I ?_
   exact wP I (wP I (Aa (Ae () O ⟨I,I,O⟩ [] I)))
  ·rw[dT c3,Bool.true_and]
   exact wU 20 true I (bne_iff_ne.2 c3) (wP I (wP I (wB 0 I I I (wP I (wU 24 (decide (f.hd≠ -1)) I (by by_cases e:f.hd= -1<;>simp[e]) (wP I (wP I (Aa (Ae () O ⟨I,I,O⟩ [] I)))))))))
 intro _ _
 refine Aj I (fun hb=> ?_) (fun hb=> ?_)
 ·exact zA (zB (wP I (Aa (zE (zO (zP (wR1 I I (by unfold fcE;rw[if_pos hb]))))))))
 have hb:Cs f=false:=hb
 refine zI (zE (zA (zA (zB (wP I (wB 0 I I I (wP I (wB 0 I I I ?_))))))))
 refine Az Tryz.hZ tH I I I I I I I I I I I fun bS=> ?_
 refine wP I (wP I (Aa (zE (zH ?_))))
 refine A5 (X:=Nat) (fun i=>[(1,Aw b1),(31, .slice (some ⟨bS,0,none⟩) 2 2),(32, .int .i64 2),(33, .int .i64 (i:Nat))]) (fun _=>[fwX b1 f,⟨bS,25,[str f.sp,str f.st],true,none⟩]) (fun i=>i≤2∧(0<i→(rdR f.sp).2=0)∧(1<i→(rdR f.st).2=0)) (fun i=>2-i) 0 ⟨by decide,fun h=>absurd h (by decide),fun h=>absurd h (by decide)⟩ ⟨I,I,I,I,O⟩ [] I ?_
 rintro i ⟨hi,h1,h2⟩
 have hi:i=0∨i=1∨i=2:=by have:i≤2:=hi;omega
 rcases hi with rfl|rfl|rfl
 ·refine zA (zB (wP I (Aa (zE (zA (zR I (zI (zE (zA (zH (zA (zB ?_))))))))))))
  refine wJ ?_
  refine wB 1 I I I (wP I (Aa (zE (zA (zB (wP I (wC I I (fun W1 hp=>Cc f.sp l1 W1 (hv.hp hp) (ht.hp hp)) (wP I (Aa (zE (zA (zB (wP I (wP I ?_))))))))))))))
  by_cases he:(rdR f.sp).2=0
  rotate_left
  ·refine wU 40 true I (bne_iff_ne.2 he) (Aa (zE (zR I (zA (zB (wP I (wP I (Aa (zE (zO (zQ (zP (zP ?_)))))))))))))
   exact zQ (zP (wR1 I I (by unfold fcE;rw[hb,if_neg (by decide),if_pos he])))
  exact wU 40 false I (bne_eq_false_iff_eq.2 he) (Aa (zE (zS I (zI (zN (zE (zB (wP I (wP I (Aa (Ax 1 ⟨by decide,fun _=>he,fun h=>absurd h (by decide)⟩ (by decide) ⟨I,I,I,I,O⟩ [] I)))))))))))
 ·refine zA (zB (wP I (Aa (zE (zA (zR I (zI (zE (zA (zH (zA (zB ?_))))))))))))
  refine wJ ?_
  refine wB 1 I I I (wP I (Aa (zE (zA (zB (wP I (wC I I (fun W1 hp=>Cc f.st l2 W1 (hv.hp hp) (ht.hp hp)) (wP I (Aa (zE (zA (zB (wP I (wP I ?_))))))))))))))
  by_cases he:(rdR f.st).2=0
  rotate_left
  ·refine wU 40 true I (bne_iff_ne.2 he) (Aa (zE (zR I (zA (zB (wP I (wP I (Aa (zE (zO (zQ (zP (zP ?_)))))))))))))
   exact zQ (zP (wR1 I I (by unfold fcE;rw[hb,if_neg (by decide),if_neg (fun h=>h (h1 (by decide))),if_pos he])))
  exact wU 40 false I (bne_eq_false_iff_eq.2 he) (Aa (zE (zS I (zI (zN (zE (zB (wP I (wP I (Aa (Ax 2 ⟨by decide,fun _=>h1 (by decide),fun _=>he⟩ (by decide) ⟨I,I,I,I,O⟩ [] I)))))))))))
 have r1:(rdR f.sp).2=0:=h1 (by decide)
 have r2:(rdR f.st).2=0:=h2 (by decide)
 have hfc:=Pd hb r1 r2
 refine zA (zB (wP I (Aa (zE (zA (zS I (zJ (zK (zK (zL (zE (zA (zA ?_)))))))))))))
 refine zB (wP I (wB 0 I I I (wP I (wB 0 I I I ?_))))
 refine Az Tryz.hZ tH I I I I I I I I I I I fun bT=> ?_
 refine wP I (wP I (Aa (zE (zH ?_))))
 refine A5 (X:=Nat) (fun i=>[(1,Aw b1),(47, .slice (some ⟨bT,0,none⟩) 2 2),(48, .int .i64 2),(49, .int .i64 (i:Nat))]) (fun _=>[fwX b1 f,⟨bS,25,[str f.sp,str f.st],true,none⟩,⟨bT,25,[str f.sp,str f.st],true,none⟩]) (fun i=>i≤2∧(0<i→B5 f.sp=0)∧(1<i→B5 f.st=0)) (fun i=>2-i) 0 ⟨by decide,fun h=>absurd h (by decide),fun h=>absurd h (by decide)⟩ ⟨I,I,I,I,O⟩ [] I ?_
 rintro i ⟨hi,h1,h2⟩
 have hi:i=0∨i=1∨i=2:=by have:i≤2:=hi;omega
 rcases hi with rfl|rfl|rfl
 ·refine zA (zB (wP I (Aa (zE (zA (zR I (zI (zE (zA (zH (zA (zB ?_))))))))))))
  refine wJ ?_
  refine wB 2 I I I (wP I (Aa (zE (zA (zB (wP I (wC I I (fun W1 hp=>BX f.sp l1 W1 (hv.hp hp) (ht.hp hp)) (wP I (Aa (zE (zA (zB (wP I (wP I ?_))))))))))))))
  by_cases he:B5 f.sp=0
  rotate_left
  ·have e4:=Lf r1 he
   refine wU 56 true I (bne_iff_ne.2 he) (Aa (zE (zR I (zA (zB (wP I (wP I (Aa (zE (zO (zQ (zP (zP ?_)))))))))))))
   exact zQ (zP (wR1 I I (by rw[hfc,e4.1,e4.2];rfl)))
  exact wU 56 false I (bne_eq_false_iff_eq.2 he) (Aa (zE (zS I (zI (zN (zE (zB (wP I (wP I (Aa (Ax 1 ⟨by decide,fun _=>he,fun h=>absurd h (by decide)⟩ (by decide) ⟨I,I,I,I,O⟩ [] I)))))))))))
 ·refine zA (zB (wP I (Aa (zE (zA (zR I (zI (zE (zA (zH (zA (zB ?_))))))))))))
  refine wJ ?_
  refine wB 2 I I I (wP I (Aa (zE (zA (zB (wP I (wC I I (fun W1 hp=>BX f.st l2 W1 (hv.hp hp) (ht.hp hp)) (wP I (Aa (zE (zA (zB (wP I (wP I ?_))))))))))))))
  by_cases he:B5 f.st=0
  rotate_left
  ·have e4:=Lf r2 he
   refine wU 56 true I (bne_iff_ne.2 he) (Aa (zE (zR I (zA (zB (wP I (wP I (Aa (zE (zO (zQ (zP (zP ?_)))))))))))))
   exact zQ (zP (wR1 I I (by rw[hfc,e4.1,e4.2,Bool.or_true];rfl)))
  exact wU 56 false I (bne_eq_false_iff_eq.2 he) (Aa (zE (zS I (zI (zN (zE (zB (wP I (wP I (Aa (Ax 2 ⟨by decide,fun _=>h1 (by decide),fun _=>he⟩ (by decide) ⟨I,I,I,I,O⟩ [] I)))))))))))
 have hfc:fcE f=if hasPrefix f.sp [45]=true then 2 else 0:=by
  rw[hfc,JA r1 (h1 (by decide)),JA r2 (h2 (by decide))]
  rfl
 refine zA (zB (wP I (Aa (zE (zA (zS I (zJ (zK (zK (zL (zE (zA (zA ?_)))))))))))))
 refine zB (wP I (wB 0 I I I (wC I I (fun W1 _=>EY f.sp [45] W1) (Aa (zE ?_)))))
 refine Aj I (fun hx=> ?_) (fun hx=> ?_)
 ·exact zA (zB (wP I (Aa (zE (zO (zP (wR1 I I (by rw[hfc,if_pos hx]))))))))
 ·have hx:hasPrefix f.sp [45]=false:=hx
  exact zI (zE (zA (zB (wP I (Aa (zE (zO (wR1 I I (by rw[hfc,hx,if_neg (by decide)])))))))))
theorem DE (f:FrW) (l1:f.sp.length≤4000000000) (l2:f.st.length≤4000000000) (W:World) (ht:A3 W):
  Ad Tryz.prog 39 #[fwV f] W (fun _:Unit=> .int .i64 (fcE f)) (fun _=>True) (fun _=>[]):=by
 refine Ab (args:=[fwV f]) Tryz.func39 I I I ?_
 refine zA (zB ?_)
 (refine At rfl rfl rfl rfl ?_;intro)
 refine wP I (Aa ?_)
 rename_i b1
 refine Av (An (An ?_))
 refine Au (X:=Unit) (fun _=>[(1,Aw b1),(22, .bool (Cs f))]) (fun _=>[fwX b1 f]) (fun _=>True) ?_ ?_
 ·refine zB (wP I (wB 0 I I I (wP I ?_)))
  by_cases c1:f.pos<0
  ·have e:Cs f=true:=by unfold Cs;rw[dT c1];rfl
   rw[e]
   refine wU 7 true I (dT c1) (wP I ?_)
   iterate 3 refine Ag I I ?_
   refine wP I (wP I ?_)
   iterate 8 refine Ag I I ?_
   exact wP I (Aa (Ae () O ⟨I,I,O⟩ [] I))
  refine wU 7 false I (dF c1) (wP I (wP I (wB 0 I I I (wP I ?_))))
  by_cases c2:f.pos>65536
  ·have e:Cs f=true:=by unfold Cs;rw[dT c2,Bool.or_true];rfl
   rw[e]
   refine wU 11 true I (dT c2) (wP I (wP I ?_))
   iterate 8 refine Ag I I ?_
   exact wP I (Aa (Ae () O ⟨I,I,O⟩ [] I))
  have e:Cs f=(decide (f.hd≠1)&&decide (f.hd≠ -1)):=by unfold Cs;rw[dF c1,dF c2];rfl
  rw[e]
  refine wU 11 false I (dF c2) (wP I (wP I (wP I (wB 0 I I I (wP I ?_)))))
  by_cases c3:f.hd=1
  ·rw[dF (fun h=>h c3),Bool.false_and]
   refine wU 16 false I (by rw[c3];rfl) (wP I ?_)
   iterate 3 refine Ag I I ?_
   exact wP I (wP I (Aa (Ae () O ⟨I,I,O⟩ [] I)))
  ·rw[dT c3,Bool.true_and]
   exact wU 16 true I (bne_iff_ne.2 c3) (wP I (wP I (wB 0 I I I (wP I (wU 20 (decide (f.hd≠ -1)) I (by by_cases e:f.hd= -1<;>simp[e]) (wP I (wP I (Aa (Ae () O ⟨I,I,O⟩ [] I)))))))))
 intro _ _
 refine Aj I (fun hb=> ?_) (fun hb=> ?_)
 ·exact zA (zB (wP I (Aa (zE (zO (zP (wR1 I I (by unfold fcE;rw[if_pos hb]))))))))
 have hb:Cs f=false:=hb
 refine zI (zE (zA (zA (zB (wP I (wB 0 I I I (wC I I (fun W1 hp=>D5 f.sp (by omega) W1 (ht.hp hp)) (wP I (Aa (zE (zA (zB (wP I (wP I ?_))))))))))))))
 by_cases r1:(rdR f.sp).2=0
 rotate_left
 ·exact wU 27 true I (bne_iff_ne.2 r1) (Aa (zE (zR I (zA (zB (wP I (wP I (Aa (zE (zO (zP (wR1 I I (by unfold fcE;rw[hb,if_neg (by decide),if_pos r1])))))))))))))
 refine wU 27 false I (bne_eq_false_iff_eq.2 r1) (Aa (zE (zS I (zI (zE (zA (zA (zB (wP I (wB 0 I I I (wC I I (fun W1 hp=>D5 f.st (by omega) W1 (ht.hp hp)) (wP I (Aa ?_)))))))))))))
 refine zE (zA (zB (wP I (wP I ?_))))
 by_cases r2:(rdR f.st).2=0
 rotate_left
 ·exact wU 33 true I (bne_iff_ne.2 r2) (Aa (zE (zR I (zA (zB (wP I (wP I (Aa (zE (zO (zP (wR1 I I (by unfold fcE;rw[hb,if_neg (by decide),if_neg (fun h=>h r1),if_pos r2])))))))))))))
 have hfc:=Pd hb r1 r2
 obtain⟨u,hu,eu⟩:=EJ r1
 obtain⟨v,hv,ev⟩:=EJ r2
 refine wU 33 false I (bne_eq_false_iff_eq.2 r2) (Aa (zE (zS I (zI (zE (An (An ?_)))))))
 refine Au (X:=Unit) (fun _=>[(1,Aw b1),(42, .bool (CQ f.sp||CQ f.st))]) (fun _=>[fwX b1 f]) (fun _=>True) ?_ ?_
 ·refine zB (wP I (wB 0 I I I (wC I I (fun W1 hp=>(by rw[eu];exact Do u hu W1 (ht.hp hp):Ad Tryz.prog 91 #[str f.sp] W1 (fun _:Unit=> .bool (CQ f.sp)) (fun _=>True) (fun _=>[]))) ?_)))
  cases hL:CQ f.sp with
  |true=>
   refine wP I ?_
   iterate 3 refine Ag I I ?_
   exact wP I (Aa (Ae () O ⟨I,I,O⟩ [] I))
  |false=>
   exact wP I (wP I (wB 0 I I I (wC I I (fun W1 hp=>(by rw[ev];exact Do v hv W1 (ht.hp hp):Ad Tryz.prog 91 #[str f.st] W1 (fun _:Unit=> .bool (CQ f.st)) (fun _=>True) (fun _=>[]))) (wP I (Aa (Ae () O ⟨I,I,O⟩ [] I))))))
 intro _ _
 refine Aj I (fun hL=> ?_) (fun hL=> ?_)
 ·exact zA (zB (wP I (Aa (zE (zO (zP (wR1 I I (by rw[hfc,if_pos hL]))))))))
 have hL:(CQ f.sp||CQ f.st)=false:=hL
 rw[hL,if_neg (by decide)] at hfc
 have zu:szQ u 36:=Gk.1 (by rw[←eu];exact(Bool.or_eq_false_iff.1 hL).1)
 have z0:szQ (0:Rat) 1:=⟨by decide,by decide⟩
 have e0:Ac (0:Rat)=[48]:=Ck.2 rfl
 have hpx:hasPrefix f.sp [45]=decide (u<0):=by
  rw[eu,DI]
  exact decide_eq_decide.2 ⟨fun h=>Rat.not_le.1 fun h2=>absurd (Rat.num_nonneg.2 h2) (by omega),fun h=>Int.not_le.1 fun h2=>Rat.not_le.2 h (Rat.num_nonneg.1 h2)⟩
 refine zI (zE (zA (zA (zB (wP I (wB 0 I I I ?_))))))
 refine wC I I (fun W1 hp=>(by
  have h1:=DD u 0 (sz2 zu z0 (by decide)) W1 (ht.hp hp)
  rw[e0, ←eu] at h1
  exact h1)) ?_
 refine wP I (wU 46 (hasPrefix f.sp [45]) I (by rw[hpx];exact Dj u 0) (Aa (zE ?_)))
 refine Aj I (fun hx=> ?_) (fun hx=> ?_)
 ·exact zA (zB (wP I (Aa (zE (zO (zP (wR1 I I (by rw[hfc,if_pos hx]))))))))
 ·have hx:hasPrefix f.sp [45]=false:=hx
  exact zI (zE (zA (zB (wP I (Aa (zE (zO (wR1 I I (by rw[hfc,hx,if_neg (by decide)])))))))))
def stE (f:FrW) (a:List UInt8):Int:=if fcE f≠0 then 1 else B5 a
theorem Gz {f:FrW} {a:List UInt8} (h:stE f a=0): ∃(g:FrP) (t:Rat),g.OK∧szQ t 36∧f=g.w∧a=Ac t:=by
 unfold stE at h
 by_cases hf:fcE f=0
 ·rw[if_neg (fun h=>h hf)] at h
  obtain⟨g,hg,e⟩:=Lv hf
  obtain⟨t,ht,e2⟩:=JN h
  exact⟨g,t,hg,ht,e,e2⟩
 ·rw[if_pos hf] at h;exact absurd h (by decide)
theorem Dd (f:FrW) (l1:f.sp.length≤4000000000) (l2:f.st.length≤4000000000) (a:List UInt8) (hl:a.length≤4000000000) (W:World) (ht:A3 W):
  Ad Tryz.prog 71 #[fwV f,str a] W (fun _:Unit=> .int .i64 (stE f a)) (fun _=>True) (fun _=>[]):=by
 refine Ab (args:=[fwV f,str a]) Tryz.func71 I I I ?_
 refine zA (zB ?_)
 (refine At rfl rfl rfl rfl ?_;intro)
 refine wP I (Aa (zE (zA (zA (zB (wB 0 I I I (wC I I (fun W1 hp=>DE f l1 l2 W1 (ht.hp hp)) (wP I ?_))))))))
 by_cases he:fcE f=0
 rotate_left
 ·exact wU 7 true I (bne_iff_ne.2 he) (Aa (zE (zR I (zA (zB (wP I (Aa (zE (zO (zP (wR1 I I (by unfold stE;rw[if_pos he]))))))))))))
 exact wU 7 false I (bne_eq_false_iff_eq.2 he) (Aa (zE (zS I (zI (zE (zA (zB (wP I (wC I I (fun W1 hp=>CZ a hl W1 (ht.hp hp)) (wP I (Aa (zE (zO (wR1 I I (by unfold stE;rw[if_neg (fun h=>h he)])))))))))))))))
-- BOXES 2
theorem Ou (a b:List UInt8):((⟨a.toArray⟩:ByteArray).toList==(⟨b.toArray⟩:ByteArray).toList)=decide (a=b):=A6 a b
theorem KH (W:World) (p q:Option Addr) (cap cap2:Nat) (xs ys:List (List UInt8)) (hA:N5 W p xs) (hB:N5 W q ys) (hn:xs.length<4611686018427387904) (hm:ys.length<4611686018427387904):
  Ad Tryz.prog 13 #[slv p xs.length cap,slv q ys.length cap2] W (fun _:Unit=> .bool (decide (xs=ys))) (fun _=>True) (fun _=>[]):=by
 refine Ab (args:=[slv p xs.length cap,slv q ys.length cap2]) Tryz.func13 I I I ?_
 refine zA (zB (wP I (Aa (zE (zA (zA (zB ?_)))))))
 iterate 5 refine wP I ?_
 by_cases hl:xs.length=ys.length
 ·refine wU 10 false I (by rw[hl];simp) (Aa (zE (zS I (zI (zE (zA (zA (zB (wP I (wP I (wP I (Aa (Av ?_)))))))))))))
  refine Au (X:=Unit) (fun _=>[(4, .bool false)]) (fun _=>[]) (fun _=>xs=ys) ?_ ?_
  ·refine BO ?_
   refine A5 (X:=Nat) (fun i=>[(0,slv p xs.length cap),(1,slv q ys.length cap2),(4, .bool false),(12, .int .i64 (xs.length:Nat)),(13, .int .i64 (i:Nat))]) (fun _=>[]) (fun i=>i≤xs.length∧xs.take i=ys.take i) (fun i=>xs.length-i) 0 ⟨Nat.zero_le _,I⟩ ⟨I,I,I,I,I,O⟩ [] I ?_
   rintro i ⟨hi,he⟩
   refine zA (zB (wP I ?_))
   by_cases hlt:i<xs.length
   ·refine wU 14 true I (dT (by omega)) (Aa (zE (zA (zR I (zI (zE (zA (zH (zA (zB ?_))))))))))
    obtain⟨pb,po,rfl,hr1⟩:=hA.row hlt
    obtain⟨qb,qo,rfl,hr2⟩:=hB.row (show i<ys.length by omega)
    refine wP I (wP I (Aa (zE (zA (zU (qP I (qP I ?_)))))))
    refine qJ ?_
    refine qL 0 I I (fun W hp=>(hr1 i hlt).hp hp) I (qP I (qP I ?_))
    refine qJ ?_
    refine qL 0 I I (fun W hp=>(hr2 i (by omega)).hp hp) I (qP I ?_)
    by_cases hx:xs[i]=ys[i]
    ·exact qU 24 false I (by show(!_)=false;rw[Ou,dT hx];rfl) (A9 (Aa (zE (zS I (zI (zN (zE (zB (wP I (wV 25 ((i+1:Nat):Int) I (AD (by omega)) (wP I (Aa (Ax (i+1) ⟨hlt,by rw[List.take_add_one,List.take_add_one,he,List.getElem?_eq_getElem hlt,List.getElem?_eq_getElem (by omega),hx]⟩ (by show xs.length-(i+1)<xs.length-i;omega) ⟨I,I,I,I,I,O⟩ [] I)))))))))))))
    ·refine qU 24 true I (by show(!_)=true;rw[Ou,dF hx];rfl) (A9 (Aa (zE (zR I (zA (zB (wP I (Aa (zE (zO (zQ (zP (zP ?_)))))))))))))
     exact zQ (zP (wR1 rfl rfl (by rw[dF fun e=>hx (by subst e;rfl)])))
   ·exact wU 14 false I (dF (by omega)) (Aa (zE (zA (zS I (zJ (zK (zK (zL (Ae () (by rw[List.take_of_length_le (by omega),List.take_of_length_le (by omega)] at he;exact he) ⟨I,O⟩ [] I)))))))))
  ·intro _ he
   have he:xs=ys:=he
   exact zA (zB (wP I (Aa (zE (zO (wR1 I I (by rw[dT he])))))))
 ·exact wU 10 true I (by rw[bne_iff_ne];omega) (Aa (zE (zR I (zA (zB (wP I (Aa (zE (zO (zP (wR1 I I (by rw[dF fun e=>hl (by rw[e])]))))))))))))
-- BOXES 4
abbrev frB (b:Nat) (f:FrP):Bx:=⟨b,48,(frV f).cells.toList,true,none⟩
theorem Ja (f g:FrP) (W:World):Ad Tryz.prog 94 #[frV f,frV g] W (fun x:Nat×Nat=> .func (.func 154) #[] #[Aw x.1,Aw x.2]) (fun _=>True) (fun x=>[frB x.1 f,frB x.2 g]):=by
 refine Ab (args:=[frV f,frV g]) Tryz.func94 I I I ?_
 refine zA (zB ?_)
 (refine At rfl rfl rfl rfl ?_;intro)
 (refine At rfl rfl rfl rfl ?_;intro)
 refine wP I (Aa ?_)
 rename_i b2 b3
 exact zE (zA (zB (wP I (wP I (Aa (zE (zO (AG tH I (.tmp I) (b2,b3) I O fun W hp=>As.of_hp hp))))))))
def CR (f g:FrP):Rat:=(g.pos:Rat)-(f.pos:Rat)
def AL (f g:FrP):List Rat:=
 [f.st,g.st]++(if f.vel=0 then[] else[f.st+CR f g/f.vel])++(if g.vel=0 then[] else[g.st-CR f g/g.vel])++
 (if f.vel=g.vel then[] else[(CR f g+(f.vel*f.st-g.vel*g.st))/(f.vel-g.vel)])
theorem NO (f g:FrP):(AL f g).length≤5:=by
 unfold AL
 by_cases h1:f.vel=0<;>by_cases h2:g.vel=0<;>by_cases h3:f.vel=g.vel<;>simp only[h1,h2,h3,if_true,if_false]<;>(try split)<;>simp
end
section
def Fh (x:Rat):List Rat→List Rat
 |[]=>[x]
 |y::l=>if x<y then x::y::l else y::Fh x l
def Bd (l:List Rat):List Rat:=l.foldl (fun s x=>Fh x s) []
theorem LW (x:Rat): ∀l,(Fh x l).length=l.length+1
 |[]=>rfl
 |y::l=>by
  unfold Fh
  split
  ·rfl
  ·simp[LW x l]
theorem Ix {x z:Rat}: ∀ {l},z∈Fh x l↔z=x∨z∈l
 |[]=>by simp[Fh]
 |y::l=>by
  unfold Fh
  split
  ·simp
  ·rw[List.mem_cons,Ix,List.mem_cons]
   constructor
   ·rintro(h|h|h)
    ·exact .inr (.inl h)
    ·exact .inl h
    ·exact .inr (.inr h)
   ·rintro(h|h|h)
    ·exact .inr (.inl h)
    ·exact .inl h
    ·exact .inr (.inr h)
theorem Ht {x:Rat}: ∀ {l},l.Pairwise (· ≤ ·)→(Fh x l).Pairwise (· ≤ ·)
 |[],_=>by simp[Fh]
 |y::l,h=>by
  have h2:=List.pairwise_cons.1 h
  unfold Fh
  split
  ·rename_i hxy
   refine List.pairwise_cons.2 ⟨fun z hz=> ?_,h⟩
   rcases List.mem_cons.1 hz with rfl|hz
   ·exact Rat.le_of_lt hxy
   ·exact Rat.le_trans (Rat.le_of_lt hxy) (h2.1 z hz)
  ·rename_i hxy
   refine List.pairwise_cons.2 ⟨fun z hz=> ?_,Ht h2.2⟩
   rcases Ix.1 hz with rfl|hz
   ·exact Rat.not_lt.1 hxy
   ·exact h2.1 z hz
theorem KF (l:List Rat):(Bd l).Pairwise (· ≤ ·):=by
 have: ∀(l s:List Rat),s.Pairwise (· ≤ ·)→(l.foldl (fun s x=>Fh x s) s).Pairwise (· ≤ ·):=by
  intro l
  induction l with
  |nil=>exact fun s h=>h
  |cons x l ih=>exact fun s h=>ih _ (Ht h)
 exact this l [] List.Pairwise.nil
theorem Ob {z:Rat} {l:List Rat}:z∈Bd l↔z∈l:=by
 have: ∀(l s:List Rat),z∈l.foldl (fun s x=>Fh x s) s↔z∈l∨z∈s:=by
  intro l
  induction l with
  |nil=>exact fun s=>by simp
  |cons x l ih=>
   intro s
   rw[List.foldl_cons,ih,Ix,List.mem_cons]
   constructor
   ·rintro(h|h|h)
    ·exact .inl (.inr h)
    ·exact .inl (.inl h)
    ·exact .inr h
   ·rintro((h|h)|h)
    ·exact .inr (.inl h)
    ·exact .inl h
    ·exact .inr (.inr h)
 rw[Bd,this];simp
end
section
def AM:List Rat→List Rat
 |[]=>[]
 |[x]=>[x]
 |x::y::l=>if y=x then AM (x::l) else x::AM (y::l)
termination_by l=>l.length
end
section
def FQ (f g:FrP) (t:Rat):Bool:=decide (f.at t=g.at t)&&(decide (f.velB t≠g.velB t)||decide (f.velA t≠g.velA t))
def eqL (f g:FrP):List Rat:=AM (Bd ((AL f g).filter (FQ f g)))
theorem Oc {f g:FrP} {t:Rat}:t∈AL f g↔t=f.st∨t=g.st∨(f.vel≠0∧t=f.st+CR f g/f.vel)∨(g.vel≠0∧t=g.st-CR f g/g.vel)∨
  (f.vel≠g.vel∧t=(CR f g+(f.vel*f.st-g.vel*g.st))/(f.vel-g.vel)):=by
 unfold AL
 by_cases h1:f.vel=0<;>by_cases h2:g.vel=0<;>by_cases h3:f.vel=g.vel<;>simp only[h1,h2,h3,if_true,if_false,List.mem_append,List.mem_cons,List.not_mem_nil,or_false,false_or,ne_eq,not_true,not_false_eq_true,true_and,false_and,or_assoc]<;>(try split)<;>simp_all
end
section
def FrP.way (f:FrP) (x:Rat):Rat:=(f.hd:Rat)*(x-(f.pos:Rat))
end
section
open Go Go.RowKit Go.Am Go.Lib
set_option maxRecDepth 10000
-- BOXES 4
structure QZ (b1 b2:Nat) (f g:FrP) (W:World):Prop where
 f:A0 W b1 0 (frV f).cells.toList
 g:A0 W b2 0 (frV g).cells.toList
 v:AV W
 t:A3 W
structure OI (f g:FrP):Prop where
 d1:f.vel≠0→Sz2 (CR f g) f.vel
 a1:f.vel≠0→Sz2 f.st (CR f g/f.vel)
 d2:g.vel≠0→Sz2 (CR f g) g.vel
 a2:g.vel≠0→Sz2 g.st (CR f g/g.vel)
 m1:Sz2 f.vel f.st
 m2:Sz2 g.vel g.st
 s:Sz2 (f.vel*f.st) (g.vel*g.st)
 a:Sz2 (CR f g) (f.vel*f.st-g.vel*g.st)
 w:Sz2 f.vel g.vel
 d:f.vel≠g.vel→Sz2 (CR f g+(f.vel*f.st-g.vel*g.st)) (f.vel-g.vel)
def mi3 (f:FrP):Nat:=if f.vel=0 then 2 else 3
def mi4 (f g:FrP):Nat:=if g.vel=0 then mi3 f else mi3 f+1
theorem QV (f g:FrP):(AL f g).getD 0 0=f.st∧(AL f g).getD 1 0=g.st∧1<(AL f g).length:=by
 unfold AL
 by_cases h1:f.vel=0<;>by_cases h2:g.vel=0<;>by_cases h3:f.vel=g.vel<;>simp only[h1,h2,h3,if_true,if_false]<;>(try split)<;>simp
theorem Rc {f g:FrP} (h:f.vel≠0):(AL f g).getD 2 0=f.st+CR f g/f.vel∧2<(AL f g).length:=by
 unfold AL
 by_cases h2:g.vel=0<;>by_cases h3:f.vel=g.vel<;>simp only[h,h2,h3,if_true,if_false]<;>(try split)<;>simp_all
theorem Rl {f g:FrP} (h:g.vel≠0):(AL f g).getD (mi3 f) 0=g.st-CR f g/g.vel∧mi3 f<(AL f g).length∧mi4 f g=mi3 f+1:=by
 unfold AL mi4 mi3
 by_cases h2:f.vel=0<;>by_cases h3:f.vel=g.vel<;>simp only[h,h2,h3,if_true,if_false]<;>(try split)<;>simp_all
theorem QY {f g:FrP} (h:f.vel≠g.vel):(AL f g).getD (mi4 f g) 0=(CR f g+(f.vel*f.st-g.vel*g.st))/(f.vel-g.vel)∧mi4 f g<(AL f g).length∧(AL f g).length=mi4 f g+1:=by
 unfold AL mi4 mi3
 by_cases h2:f.vel=0<;>by_cases h3:g.vel=0<;>simp only[h,h2,h3,if_true,if_false]<;>(try split)<;>simp_all
theorem Rm {f g:FrP} (h:f.vel=g.vel):(AL f g).length=mi4 f g:=by
 unfold AL mi4 mi3
 by_cases h2:f.vel=0<;>by_cases h3:g.vel=0<;>simp_all
abbrev Mf (l:List Rat) (k:Nat):List Value:=[str (Ac (l.getD k 0))]
theorem Oi (f g:FrP) (hf:f.OK) (hg:g.OK) (hz:OI f g) (b1 b2:Nat):
  OY Tryz.prog 154 [Aw b1,Aw b2] (AL f g).length (Mf (AL f g)) (fun _=>QZ b1 b2 f g):=by
 refine⟨fun y J Jx hN hB hY W hJ=> ?_⟩
 have hG: ∀k,Qz (J k):=fun k W W' h hb=>hB k W W' h hb
 have hdr: ∀k W,J k W→J k { W with drawn:=W.drawn+1 }:=fun k W h=>hB k W _ h ⟨rfl,rfl,rfl,Nat.le_refl _,fun _ _=>rfl⟩
 obtain⟨e0,e1,l1⟩:=QV f g
 have hY0: ∀W,J 0 W→YieldAt (Fw none) 0 Tryz.prog y [str (Ac f.st)].toArray W fun e W'=>(e= .returned (.bool true)∧J 1 W')∨(e= .returned (.bool false)∧Jx W'):=fun W h=>by
  have:=hY 0 W (by omega) h
  rwa [Mf,e0] at this
 have hY1: ∀W,J 1 W→YieldAt (Fw none) 0 Tryz.prog y [str (Ac g.st)].toArray W fun e W'=>(e= .returned (.bool true)∧J 2 W')∨(e= .returned (.bool false)∧Jx W'):=fun W h=>by
  have:=hY 1 W (by omega) h
  rwa [Mf,e1] at this
 refine EO (args:=[.func (.yield y) #[] #[],Aw b1,Aw b2]) (J0:=J 0) Tryz.func154 I I I hJ ?_
 refine zA (zA (zB (wP I (wP I (wL 4 I I (fun W hp=>(hN 0 W hp).f) I ?_)))))
 refine Dk (A1:=J 1) (A2:=Jx) I I I I I I hY0 ?_ ?_
 rotate_left
 ·refine wP I (wP I ?_)
  iterate 5 refine Ag I I ?_
  exact wP I (zC (zE (zR I (zO (zP (BM I (fun W h=>h)))))))
 refine wP I (wP I (wP I (wP I (wL 4 I I (fun W hp=>(hN 1 W hp).g) I ?_))))
 refine Dk (A1:=J 2) (A2:=Jx) I I I I I I hY1 ?_ ?_
 rotate_left
 ·exact wP I (wP I (zC (zE (zR I (zO (zP (BM I (fun W h=>h))))))))
 refine wP I (wP I (Aa (zE (zS I (zI (zE (zA ?_)))))))
 refine FH 6 (hdr 2) Tryz.mixed (by kernel_rfl) I ?_
 refine qL 0 I I (fun W hp=>(hN 2 W hp).f) I ?_
 refine Bz (hG 2) I I I I I I (by kernel_rfl) (fun W hp=>B6 f hf W (hN 2 W hp).v (hN 2 W hp).t) ?_
 refine qL 0 I I (fun W hp=>(hN 2 W hp).g) I ?_
 refine Bz (hG 2) I I I I I I (by kernel_rfl) (fun W hp=>B6 g hg W (hN 2 W hp).v (hN 2 W hp).t) ?_
 refine qP I (qP I (A9 (Aa (zE (zA ?_)))))
 refine FH 8 (hdr 2) Tryz.mixed (by kernel_rfl) I ?_
 refine qP I (qL 1 I I (fun W hp=>(hN 2 W hp).g) I ?_)
 refine Bz (hG 2) I I I I I I (by kernel_rfl) (fun W hp=>Bf g.pos hg.pos64 W (hN 2 W hp).t) ?_
 refine qP I (qL 1 I I (fun W hp=>(hN 2 W hp).f) I ?_)
 refine Bz (hG 2) I I I I I I (by kernel_rfl) (fun W hp=>Bf f.pos hf.pos64 W (hN 2 W hp).t) ?_
 refine Bz (hG 2) I I I I I I (by kernel_rfl) (fun W hp=>BP (g.pos:Rat) (f.pos:Rat) (sz2 hg.posz hf.posz (by decide)) W (hN 2 W hp).v (hN 2 W hp).t) ?_
 refine qP I (A9 (Aa (zE (zA (zA ?_)))))
 -- the first one's velocity
 refine MY (X:=Bool) (fun s=>[(0, .func (.yield y) #[] #[]),(1,Aw b1),(2,Aw b2),(4,str (Ac f.vel)),(5,str (Ac g.vel)),(6,str (Ac (CR f g))),(42, .bool s)]) (fun s=>match s with|true=>Jx|false=>J (mi3 f)) (fun _=>True) ?_ ?_
 ·skip
  refine FH 10 (hdr 2) Tryz.mixed (by kernel_rfl) I ?_
  refine qP I (qP I ?_)
  by_cases h:f.vel=0
  ·refine qU 31 false I (by show(!_)=false;rw[A6,DO,dT h];rfl) (qP I ?_)
   iterate 7 refine FM I I ?_
   refine zD ?_
   iterate 2 refine Ag I I ?_
   exact wP I (zC (FK false O ⟨I,I,I,I,I,I,I,O⟩ (fun W hp=>by show J (mi3 f) W;rw[mi3,if_pos h];exact hp)))
  ·refine qU 31 true I (by show(!_)=true;rw[A6,DO,dF h];rfl) ?_
   obtain⟨e2,l2⟩:=Rc (g:=g) h
   have hY2: ∀W,J 2 W→YieldAt (Fw none) 0 Tryz.prog y [str (Ac (f.st+CR f g/f.vel))].toArray W fun e W'=>(e= .returned (.bool true)∧J 3 W')∨(e= .returned (.bool false)∧Jx W'):=fun W h=>by
    have:=hY 2 W (by omega) h
    rwa [Mf,e2] at this
   refine qP I (qP I (qP I (qL 4 I I (fun W hp=>(hN 2 W hp).f) I (qP I (qP I ?_)))))
   refine Bz (hG 2) I I I I I I (by kernel_rfl) (fun W hp=>DY (CR f g) f.vel (hz.d1 h) (by rwa [ne_eq,Rat.num_eq_zero]) W (hN 2 W hp).v (hN 2 W hp).t) ?_
   refine Bz (hG 2) I I I I I I (by kernel_rfl) (fun W hp=>EK f.st (CR f g/f.vel) (hz.a1 h) W (hN 2 W hp).v (hN 2 W hp).t) ?_
   refine A9 ?_
   refine Dk (A1:=J 3) (A2:=Jx) I I I I I I hY2 ?_ ?_
   ·exact wP I (wP I (zC (FK false O ⟨I,I,I,I,I,I,I,O⟩ (fun W hp=>by show J (mi3 f) W;rw[mi3,if_neg h];exact hp))))
   ·exact wP I (wP I (zC (FK true O ⟨I,I,I,I,I,I,I,O⟩ (fun W hp=>hp))))
 rintro(_|_) _
 rotate_left
 ·exact zR I (zO (zP (BM I (fun W h=>h))))
 -- the second one's
 refine zS I (zI (zE (zA (zA ?_))))
 refine MY (X:=Bool) (fun s=>[(0, .func (.yield y) #[] #[]),(1,Aw b1),(2,Aw b2),(4,str (Ac f.vel)),(5,str (Ac g.vel)),(6,str (Ac (CR f g))),(55, .bool s)]) (fun s=>match s with|true=>Jx|false=>J (mi4 f g)) (fun _=>True) ?_ ?_
 ·skip
  refine FH 10 (hdr (mi3 f)) Tryz.mixed (by kernel_rfl) I ?_
  refine qP I (qP I ?_)
  by_cases h:g.vel=0
  ·refine qU 44 false I (by show(!_)=false;rw[A6,DO,dT h];rfl) (qP I ?_)
   iterate 7 refine FM I I ?_
   refine zD ?_
   iterate 2 refine Ag I I ?_
   exact wP I (zC (FK false O ⟨I,I,I,I,I,I,I,O⟩ (fun W hp=>by show J (mi4 f g) W;rw[mi4,if_pos h];exact hp)))
  ·refine qU 44 true I (by show(!_)=true;rw[A6,DO,dF h];rfl) ?_
   obtain⟨e3,l3,l3'⟩:=Rl (f:=f) h
   have hY3: ∀W,J (mi3 f) W→YieldAt (Fw none) 0 Tryz.prog y [str (Ac (g.st-CR f g/g.vel))].toArray W fun e W'=>(e= .returned (.bool true)∧J (mi3 f+1) W')∨(e= .returned (.bool false)∧Jx W'):=fun W h=>by
    have:=hY (mi3 f) W l3 h
    rwa [Mf,e3] at this
   refine qP I (qP I (qP I (qL 4 I I (fun W hp=>(hN _ W hp).g) I (qP I (qP I ?_)))))
   refine Bz (hG _) I I I I I I (by kernel_rfl) (fun W hp=>DY (CR f g) g.vel (hz.d2 h) (by rwa [ne_eq,Rat.num_eq_zero]) W (hN _ W hp).v (hN _ W hp).t) ?_
   refine Bz (hG _) I I I I I I (by kernel_rfl) (fun W hp=>BP g.st (CR f g/g.vel) (hz.a2 h) W (hN _ W hp).v (hN _ W hp).t) ?_
   refine A9 ?_
   refine Dk (A1:=J (mi3 f+1)) (A2:=Jx) I I I I I I hY3 ?_ ?_
   ·exact wP I (wP I (zC (FK false O ⟨I,I,I,I,I,I,I,O⟩ (fun W hp=>by show J (mi4 f g) W;rw[l3'];exact hp))))
   ·exact wP I (wP I (zC (FK true O ⟨I,I,I,I,I,I,I,O⟩ (fun W hp=>hp))))
 rintro(_|_) _
 rotate_left
 ·exact zR I (zO (zP (BM I (fun W h=>h))))
 -- where both move
 refine zS I (zI (zE (zA (zB (wP I (wP I (wP I ?_)))))))
 by_cases h:f.vel=g.vel
 ·exact wU 58 false I (by show(!_)=false;rw[A6,dT (by rw[h])];rfl) (zC (zE (zS I (zI (Gy I fun W hp=>by rw[Rm h];exact hp)))))
 ·refine wU 58 true I (by show(!_)=true;rw[A6,dF fun e=>h (CH.1 e)];rfl) ?_
  obtain⟨e4,l4,l5⟩:=QY h
  have hY4: ∀W,J (mi4 f g) W→YieldAt (Fw none) 0 Tryz.prog y [str (Ac ((CR f g+(f.vel*f.st-g.vel*g.st))/(f.vel-g.vel)))].toArray W fun e W'=>(e= .returned (.bool true)∧J (mi4 f g+1) W')∨(e= .returned (.bool false)∧Jx W'):=fun W h=>by
   have:=hY (mi4 f g) W l4 h
   rwa [Mf,e4] at this
  refine zC (zE (zR I ?_))
  refine FH 16 (hdr (mi4 f g)) Tryz.mixed (by kernel_rfl) I ?_
  refine qP I (qP I (qP I (qP I (qL 4 I I (fun W hp=>(hN _ W hp).f) I ?_))))
  refine Bz (hG _) I I I I I I (by kernel_rfl) (fun W hp=>Cy f.vel f.st hz.m1 W (hN _ W hp).v (hN _ W hp).t) ?_
  refine qP I (qP I (qL 4 I I (fun W hp=>(hN _ W hp).g) I ?_))
  refine Bz (hG _) I I I I I I (by kernel_rfl) (fun W hp=>Cy g.vel g.st hz.m2 W (hN _ W hp).v (hN _ W hp).t) ?_
  refine Bz (hG _) I I I I I I (by kernel_rfl) (fun W hp=>BP (f.vel*f.st) (g.vel*g.st) hz.s W (hN _ W hp).v (hN _ W hp).t) ?_
  refine Bz (hG _) I I I I I I (by kernel_rfl) (fun W hp=>EK (CR f g) (f.vel*f.st-g.vel*g.st) hz.a W (hN _ W hp).v (hN _ W hp).t) ?_
  refine qP I (qP I ?_)
  refine Bz (hG _) I I I I I I (by kernel_rfl) (fun W hp=>BP f.vel g.vel hz.w W (hN _ W hp).v (hN _ W hp).t) ?_
  refine Bz (hG _) I I I I I I (by kernel_rfl) (fun W hp=>DY (CR f g+(f.vel*f.st-g.vel*g.st)) (f.vel-g.vel) (hz.d h) (by rw[ne_eq,Rat.num_eq_zero];grind) W (hN _ W hp).v (hN _ W hp).t) ?_
  refine A9 ?_
  refine Dk (A1:=J (mi4 f g+1)) (A2:=Jx) I I I I I I hY4 ?_ ?_
  ·exact zC (Gy I fun W hp=>by rw[l5];exact hp)
  ·exact zC (Jv I (fun W h=>h))
end
section
theorem Jb {x:Rat}: ∀(s:List Rat) (j:Nat),j≤s.length→(∀y∈s.take j, ¬x<y)→(∀y∈s.drop j,x<y)→Fh x s=s.take j++x::s.drop j
 |[],j,hj,_,_=>by
  obtain rfl:j=0:=by simpa using hj
  rfl
 |y::l,0,_,_,h2=>by
  unfold Fh
  rw[if_pos (h2 y (List.mem_cons_self ..))];rfl
 |y::l,j+1,hj,h1,h2=>by
  unfold Fh
  rw[if_neg (h1 y (by simp)),Jb l j (by simpa using hj) (fun z hz=>h1 z (by simp[hz])) (fun z hz=>h2 z (by simpa using hz))]
  rfl
theorem JF (l:List Rat):(Bd l).length=l.length:=by
 have: ∀(l s:List Rat),(l.foldl (fun s x=>Fh x s) s).length=l.length+s.length:=by
  intro l
  induction l with
  |nil=>exact fun s=>by simp
  |cons x l ih=>exact fun s=>by rw[List.foldl_cons,ih,LW,List.length_cons];omega
 rw[Bd,this];simp
theorem ML (l:List Rat) {i:Nat} (hi:i<l.length):Bd (l.take (i+1))=Fh l[i] (Bd (l.take i)):=by
 rw[Bd,List.take_add_one,List.getElem?_eq_getElem hi,List.foldl_append];rfl
theorem Oo {x:Rat} {s:List Rat} {j:Nat} (hs:s.Pairwise (· ≤ ·)) (hj:j≤s.length) (h2: ∀y∈s.drop j,x<y) (h1: ∀(h:0<j), ¬x<s[j-1]):Fh x s=s.take j++x::s.drop j:=by
 refine Jb s j hj (fun y hy=> ?_) h2
 obtain⟨k,hk,rfl⟩:=List.getElem_of_mem hy
 have hk':k<j:=by simp at hk;omega
 rw[List.getElem_take]
 have h3:=h1 (by omega)
 refine Rat.not_lt.2 (Rat.le_trans ?_ (Rat.not_lt.1 h3))
 by_cases e:k=j-1
 ·subst e;exact Rat.le_refl
 ·exact List.pairwise_iff_getElem.1 hs k (j-1) (by omega) (by omega) (by omega)
theorem Hh:AM []=[]:=by rw[AM]
theorem Hm (x:Rat):AM [x]=[x]:=by rw[AM]
theorem DQ (x y:Rat) (l:List Rat):AM (x::y::l)=if y=x then AM (x::l) else x::AM (y::l):=by rw[AM]
theorem Ho (x y:Rat):AM [x,y]=if y=x then AM [x] else AM [x]++[y]:=by
 rw[DQ]
 by_cases h:y=x
 ·rw[if_pos h,if_pos h]
 ·rw[if_neg h,if_neg h,Hm,Hm];rfl
theorem Gg (l:List Rat) (x y:Rat):AM (l++[x,y])=if y=x then AM (l++[x]) else AM (l++[x])++[y]:=by
 match l with
 |[]=>exact Ho x y
 |[a]=>
  show AM (a::x::[y])=if y=x then AM (a::x::[]) else AM (a::x::[])++[y]
  rw[DQ a x [y],DQ a x []]
  by_cases h2:x=a
  ·rw[if_pos h2,if_pos h2]
   subst h2
   exact Ho x y
  ·rw[if_neg h2,if_neg h2,Ho x y]
   by_cases h:y=x
   ·rw[if_pos h,if_pos h]
   ·rw[if_neg h,if_neg h];rfl
 |a::b::l=>
  show AM (a::b::(l++[x,y]))=if y=x then AM (a::b::(l++[x])) else AM (a::b::(l++[x]))++[y]
  rw[DQ a b (l++[x,y]),DQ a b (l++[x])]
  by_cases h2:b=a
  ·rw[if_pos h2,if_pos h2]
   exact Gg (a::l) x y
  ·rw[if_neg h2,if_neg h2]
   have:=Gg (b::l) x y
   rw[List.cons_append,List.cons_append] at this
   rw[this]
   by_cases h:y=x
   ·rw[if_pos h,if_pos h]
   ·rw[if_neg h,if_neg h];rfl
termination_by l.length
theorem J7 (l:List Rat): ∀(m:Nat),m≤l.length→Lib.compactUpTo (l.map Ac).toArray m=(AM (l.take m)).map Ac
 |0,_=>by simp[Lib.compactUpTo,AM]
 |m+1,hm=>by
  have hb: ∀i (hi:i<l.length),(l.map Ac).toArray[i]! =Ac l[i]:=fun i hi=>by simp[hi]
  rw[Lib.compactUpTo_succ,J7 l m (by omega),hb m (by omega)]
  have e1:l.take (m+1)=l.take m++[l[m]]:=by rw[List.take_add_one,List.getElem?_eq_getElem hm];rfl
  cases m with
  |zero=>
   rw[e1]
   have:Lib.keeps (l.map Ac).toArray 0=true:=Lib.keeps_lt_one _ 0 (by omega)
   rw[if_pos this,List.take_zero,List.nil_append,Hh,Hm]
   rfl
  |succ k=>
   have e2:l.take (k+1)=l.take k++[l[k]]:=by rw[List.take_add_one,List.getElem?_eq_getElem (by omega)];rfl
   rw[e1,e2,List.append_assoc]
   show _=(AM (l.take k++[l[k],l[k+1]])).map Ac
   rw[Gg]
   have h1:Lib.keeps (l.map Ac).toArray (k+1)=decide (¬l[k+1]=l[k]):=by
    unfold Lib.keeps
    rw[decide_eq_decide,Nat.add_sub_cancel,hb (k+1) hm,hb k (by omega)]
    constructor
    ·rintro(h|h)
     ·omega
     ·exact fun e=>h (by rw[e])
    ·exact fun h=> .inr fun e=>h (CH.1 e)
   rw[h1]
   by_cases h:l[k+1]=l[k]
   ·rw[if_pos h,if_neg (by simp[h]),List.append_nil]
   ·rw[if_neg h,if_pos (by simp[h]),List.map_append];rfl
theorem Kb (l:List Rat):Lib.compact (l.map Ac)=(AM l).map Ac:=by
 have:=J7 l l.length (Nat.le_refl _)
 rw[List.take_length] at this
 rw[←this]
 unfold Lib.compact
 simp
end
end Go.Proofs.YtmblgcglonikiaaGreatDoor
namespace Go.Proofs
open Go.Shelf
def Tryz.lays125_ren:Go.Shelf.Ren:=⟨fun|125=>124|128=>193|129=>194|n=>n,fun|3=>3|4=>4|5=>5|9=>9|46=>136|51=>192|53=>194|n=>n,fun n=>n⟩
theorem Tryz.lays125:Go.Proofs.Lays.n125 Tryz.prog Tryz.lays125_ren:= {
 mixed:=by kernel_rfl
 f125:=Tryz.func124.trans (congrArg some (by kernel_rfl))
 f128:=Tryz.func193.trans (congrArg some (by kernel_rfl))
 f129:=Tryz.func194.trans (congrArg some (by kernel_rfl))
 t3:=Tryz.underlying3
 a3:=Tryz.isAgg3
 z3:=Tryz.sizeOf3
 v3:=Tryz.zeroValue3
 t4:=Tryz.underlying4
 a4:=Tryz.isAgg4
 z4:=Tryz.sizeOf4
 v4:=Tryz.zeroValue4
 t5:=Tryz.underlying5
 a5:=Tryz.isAgg5
 z5:=Tryz.sizeOf5
 v5:=Tryz.zeroValue5
 t9:=Tryz.underlying9
 a9:=Tryz.isAgg9
 z9:=Tryz.sizeOf9
 v9:=Tryz.zeroValue9
 t46:=Tryz.underlying136
 a46:=Tryz.isAgg136
 z46:=Tryz.sizeOf136
 v46:=Tryz.zeroValue136
 t51:=Tryz.underlying192
 a51:=Tryz.isAgg192
 z51:=Tryz.sizeOf192
 v51:=Tryz.zeroValue192
 t53:=Tryz.underlying194
 a53:=Tryz.isAgg194
 z53:=Tryz.sizeOf194
 v53:=Tryz.zeroValue194 }
def Tryz.laysN44_ren:Go.Shelf.Ren:=⟨fun|44=>97|n=>n,fun|0=>0|3=>3|4=>4|25=>31|26=>25|n=>n,fun n=>n⟩
theorem Tryz.laysN44:Go.Proofs.SlLaysN.n44 Tryz.prog Tryz.laysN44_ren:= {
 mixed:=by kernel_rfl
 f44:=⟨Tryz.f97.name,by kernel_rfl,Tryz.func97.trans (congrArg some (by kernel_rfl))⟩
 t0:=Tryz.underlying0
 a0:=Tryz.isAgg0
 z0:=Tryz.sizeOf0
 v0:=Tryz.zeroValue0
 t3:=Tryz.underlying3
 a3:=Tryz.isAgg3
 z3:=Tryz.sizeOf3
 v3:=Tryz.zeroValue3
 t4:=Tryz.underlying4
 a4:=Tryz.isAgg4
 z4:=Tryz.sizeOf4
 v4:=Tryz.zeroValue4
 t25:=Tryz.underlying31
 a25:=Tryz.isAgg31
 z25:=Tryz.sizeOf31
 v25:=Tryz.zeroValue31
 t26:=Tryz.underlying25
 a26:=Tryz.isAgg25
 z26:=Tryz.sizeOf25
 v26:=Tryz.zeroValue25
 i26:=by kernel_rfl }
end Go.Proofs
namespace Go.Proofs.YtmblgcglonikiaaGreatDoor
section
open Go Go.RowKit Go.Am Go.Lib
set_option maxRecDepth 10000
-- BOXES 3
abbrev nS (l:List Rat):List Value:=l.map fun q=>str (Ac q)
def Lx (cf:Nat):Prop:=Bn Tryz.prog cf=true∧ ∀(p q:Rat) (W:World),Sz2 p q→AV W→A3 W→Ad Tryz.prog cf #[str (Ac p),str (Ac q)] W (fun _:Unit=> .int .i64 (GR p q)) (fun _=>True) (fun _=>[])
structure Jr (W W':World) (g:Nat):Prop where
 os:W'.os=W.os
 tape:W'.tape=W.tape
 output:W'.output=W.output
 size:W.heap.size≤W'.heap.size
 at_: ∀x,x≠g→x<W.heap.size→W'.heap[x]? =W.heap[x]?
theorem K4 {W W':World} {g:Nat} {B:Bx} {o:Obj} (hg:W.heap[g]? =some o) (hB: ∃o',(g,o')∈B.blk) (hp:Hp (B2 W) [Cg (AB W g),B] W'):Jr W W' g:=by
 have c0: ∀p∈AB W g,W'.heap[p.1]? =some p.2:=fun p hq=>(hp.own.cell 0 _ rfl p hq).1
 have old: ∀x,x≠g→x<W.heap.size→W'.heap[x]? =W.heap[x]? :=fun x hx hlt=>by
  have h1:W.heap[x]? =some W.heap[x]:=Array.getElem?_eq_getElem hlt
  rw[h1]
  exact c0 (x,W.heap[x]) (C1.2 ⟨hx,h1⟩)
 refine⟨hp.below.os,hp.below.tape,hp.below.output, ?_,old⟩
 have hlt:=(Array.getElem?_eq_some_iff.1 hg).1
 by_cases e:W.heap.size-1=g
 ·obtain⟨o',ho⟩:=hB
  have:=(Array.getElem?_eq_some_iff.1 (hp.own.cell 1 B rfl _ ho).1).1
  have h2:g<W'.heap.size:=this
  omega
 ·have h1:=old (W.heap.size-1) e (by omega)
  rw[Array.getElem?_eq_getElem (show W.heap.size-1<W.heap.size by omega)] at h1
  have:=(Array.getElem?_eq_some_iff.1 h1).1
  omega
theorem Jr.trans {W W1 W2:World} {g:Nat} (h:Jr W W1 g) (h':Jr W1 W2 g):Jr W W2 g:=
 ⟨h'.os.trans h.os,h'.tape.trans h.tape,h'.output.trans h.output,Nat.le_trans h.size h'.size,fun x hx hlt=>(h'.at_ x hx (Nat.lt_of_lt_of_le hlt h.size)).trans (h.at_ x hx hlt)⟩
theorem Jr.below {W0 W W':World} {g:Nat} (hk:Jr W W' g) (hb:Below W0.heap.size W0 W) (hg:W0.heap.size≤g):Below W0.heap.size W0 W':=
 ⟨hk.os.trans hb.os,hk.tape.trans hb.tape,hk.output.trans hb.output,Nat.le_trans hb.size hk.size,fun i hi=>(hk.at_ i (by omega) (Nat.lt_of_lt_of_le hi hb.size)).trans (hb.block i hi)⟩
theorem IG {W0 W:World} {bxs:List Bx} (hp:Hp W0 bxs W) (k:Nat) {g:Nat} {e:TypeId} {xs A B C:List Value} {off:Nat} (hk:nth bxs k=some ⟨g,e,xs,true,none⟩) (hxs:xs=A++(B++C)) (hoff:off=A.length):A0 W g off B:=by
 have h:=A0.of_bx hp k hk rfl
 refine⟨h.lt,fun m u hu=> ?_⟩
 have:=h.get (A.length+m) u (by
  show xs[A.length+m]? =some u
  rw[hxs,List.getElem?_append_right (by omega),Nat.add_sub_cancel_left,List.getElem?_append_left (List.getElem?_eq_some_iff.1 hu).1]
  exact hu)
 rw[Nat.zero_add, ←hoff] at this
 exact this
theorem Rh {r:Option Nat} {n:Nat} {P:Program} {W0:World} {N:Nat} {D:List Deferred} {c:Code} {Q:Exit→Act→World→Prop} {env:Env} {bxs bxs':List Bx} (e:bxs=bxs') (h:WC r n P N D c Q env (Hp W0 bxs')):WC r n P N D c Q env (Hp W0 bxs):=e▸h
abbrev CS (g:Nat) (l:List Rat) (junk:List Value):Bx:=⟨g,25,nS l++junk,true,none⟩
theorem Ma (l:List Rat):Bd (l.take 1)++l.drop 1=l:=by
 cases l with
 |nil=>rfl
 |cons x l=>rfl
theorem MO (cf:Nat) (hcf:Lx cf) (W:World) (g cap:Nat) (l:List Rat) (junk:List Value) (hn:l.length<4611686018427387904) (hg:W.heap[g]? =some (.cells (nS l++junk).toArray 25 (0,0)))
  (hf: ∀W',Jr W W' g→AV W'∧A3 W') (hz: ∀p∈l, ∀q∈l,Sz2 p q):
  Calls Tryz.prog 226 #[.slice (some ⟨g,0,none⟩) l.length cap, .int .i64 0, .int .i64 (l.length:Nat), .func (.func cf) #[] #[]] W fun e W'=> ∃x:Unit,e= .returned ((fun _=> .tuple #[]) x)∧True∧Ju W W' g ((fun _=>g) x) ((fun _=> .cells (nS (Bd l)++junk).toArray 25 (0,0)) x):=by
 have key:Calls Tryz.prog 226 [.slice (some ⟨g,0,none⟩) l.length cap, .int .i64 0, .int .i64 (l.length:Nat), .func (.func cf) #[] #[]].toArray W fun e W'=> ∃x:Unit,e= .returned ((fun _=> .tuple #[]) x)∧(fun _=>True) x∧Below (B2 W).heap.size (B2 W) W'∧As (B2 W) W' ((fun _=>[Cg (AB W g),CS g (Bd l) junk]) x):=by
  refine CN (X:=Unit) (val:=fun _=> .tuple #[]) (Φ:=fun _=>True) (nb:=fun _=>[Cg (AB W g),CS g (Bd l) junk]) (Hp.enterT (B:=CS g l junk) I hg) Tryz.func226 I I I ?_
  refine zA (zB (wP I (wP I (wP I (Aa (zE (zH ?_)))))))
  refine A5 (X:=Nat) (fun i=>[(0, .slice (some ⟨g,0,none⟩) l.length cap),(1, .int .i64 0),(2, .int .i64 (l.length:Nat)),(3, .func (.func cf) #[] #[]),(8, .int .i64 (i:Nat))]) (fun i=>[Cg (AB W g),CS g (Bd (l.take i)++l.drop i) junk])
   (fun i=>1≤i∧(i≤l.length∨i=1)) (fun i=>l.length+1-i) 1 ⟨Nat.le_refl _, .inr rfl⟩ ⟨rfl,rfl,rfl,rfl,rfl,trivial⟩ [] (by rw[Ma];rfl) ?_
  rintro i ⟨hi1,hi2⟩
  refine zA (zA (zB (wP I (wP I (wP I ?_)))))
  by_cases hlt:i<l.length
  rotate_left
  ·refine wU 14 false I (dF (by omega)) (Aa (zE (zS I (zJ (zK (zK (zL ?_)))))))
   have e:Bd (l.take i)++l.drop i=Bd l:=by rw[List.take_of_length_le (by omega),List.drop_of_length_le (by omega),List.append_nil]
   refine HI (X:=Unit) (val:=fun _=> .tuple #[]) (Φ:=fun _=>True) (nb:=fun _=>[Cg (AB W g),CS g (Bd l) junk]) (fn:=Tryz.f226) tH I () I O fun W1 hp=> ?_
   rw[e] at hp
   exact(hp.pick (l:=[Cg (AB W g),CS g (Bd l) junk]) [0,1] (by decide) I).own
  refine wU 14 true I (dT (by omega)) (Aa (zE (zR I (zI (zE (zA (zH (zA (zB (wP I (wP I (Aa (zE ?_)))))))))))))
  refine zH ?_
  obtain⟨s,hs⟩: ∃s,s=Bd (l.take i):=⟨_,rfl⟩
  obtain⟨x,hx⟩: ∃x,x=l[i]:=⟨_,rfl⟩
  obtain⟨rr,hr⟩: ∃rr,rr=l.drop (i+1):=⟨_,rfl⟩
  have hsl:s.length=i:=by rw[hs,JF,List.length_take];omega
  have hsort:s.Pairwise (· ≤ ·):=hs▸KF _
  have hdrop:l.drop i=x::rr:=by rw[hx,hr];exact List.drop_eq_getElem_cons hlt
  have hrl:rr.length=l.length-(i+1):=by rw[hr,List.length_drop]
  have hxl:x∈l:=hx▸List.getElem_mem hlt
  have hsm: ∀y∈s,y∈l:=fun y hy=>by rw[hs] at hy;exact List.mem_of_mem_take (Ob.1 hy)
  have hnext: ∀j,j≤s.length→(∀y∈s.drop j,x<y)→(∀(h:0<j), ¬x<s[j-1]!)→s.take j++x::s.drop j++rr=Bd (l.take (i+1))++l.drop (i+1):=fun j h1 h2 h3=>by
   rw[ML l hlt, ←hs, ←hx, ←hr,Oo hsort h1 h2 fun h=>by have:=h3 h;rwa [getElem!_pos s (j-1) (by omega)] at this]
  refine A5 (X:=Nat) (fun j=>[(0, .slice (some ⟨g,0,none⟩) l.length cap),(1, .int .i64 0),(2, .int .i64 (l.length:Nat)),(3, .func (.func cf) #[] #[]),(8, .int .i64 (i:Nat)),(9, .int .i64 (j:Nat))]) (fun j=>[Cg (AB W g),CS g (s.take j++x::s.drop j++rr) junk])
   (fun j=>j≤s.length∧ ∀y∈s.drop j,x<y) (fun j=>j) i ⟨by omega,by rw[←hsl,List.drop_length];exact fun y hy=>absurd hy List.not_mem_nil⟩ ⟨rfl,rfl,rfl,rfl,rfl,rfl,trivial⟩ [] (by rw[←hs,hdrop, ←hsl,List.take_length,List.drop_length,List.append_assoc];rfl) ?_
  rintro j ⟨hj,hgt⟩
  have hj:j≤s.length:=hj
  have hgt: ∀y∈s.drop j,x<y:=hgt
  refine zA (zA (zU (qP I (qP I (qP I ?_)))))
  cases j with
  |zero=>
   refine Jc 20 (.bool false) I I ?_
   refine qP I ?_
   iterate 12 refine FM I I ?_
   refine qP I (A9 (Aa (zE (zS I (zJ (zK (zK (zL (zN (zE (zB (wP I (wP I ?_)))))))))))))
   refine wV 16 ((i+1:Nat):Int) I (AD (by omega)) (wP I (Aa ?_))
   refine Ax (i+1) ⟨by show 1≤i+1;omega, .inl hlt⟩ (by show l.length+1-(i+1)<l.length+1-i;omega) ⟨I,I,I,I,I,O⟩ [] ?_
   rw[hnext 0 hj hgt fun h=>absurd h (by decide)];rfl
  |succ m=>
   have hm:m<s.length:=hj
   obtain⟨y,hy⟩: ∃y,y=s[m]:=⟨_,rfl⟩
   have hyl:y∈l:=hsm y (hy▸List.getElem_mem hm)
   have e1:s.take (m+1)=s.take m++[y]:=by rw[List.take_add_one,List.getElem?_eq_getElem hm,hy];rfl
   have e2:s.drop m=y::s.drop (m+1):=by rw[hy];exact List.drop_eq_getElem_cons hm
   have e3:s[m+1-1]! =y:=by rw[Nat.add_sub_cancel,getElem!_pos s m hm,hy]
   have hA:(nS (s.take m)).length=m:=by rw[List.length_map,List.length_take];omega
   obtain⟨C,hC⟩: ∃C,C=nS (s.drop (m+1)++rr)++junk:=⟨_,rfl⟩
   have row1:nS (s.take (m+1)++x::s.drop (m+1)++rr)++junk=nS (s.take m)++([str (Ac y),str (Ac x)]++C):=by rw[e1,hC];simp[nS]
   have row2:nS (s.take m++x::s.drop m++rr)++junk=nS (s.take m)++([str (Ac x),str (Ac y)]++C):=by rw[e2,hC];simp[nS]
   refine qU 20 true I (dT (by omega)) (qP I (qP I (qP I (qP I ?_))))
   refine qJ ?_
   refine qL 0 I I (fun W1 hp=>show A0 W1 g (0+(m+1)*1) [str (Ac x)] from IG hp 1 (A:=nS (s.take m)++[str (Ac y)]) (C:=C) I (by rw[row1];simp) (by rw[List.length_append,hA];simp)) I (qP I (qP I (qP I (qV 29 (m:Nat) I (show w64 (((m+1:Nat):Int)-1)=_ by rw[Ai (by omega) (by omega)];omega) ?_))))
   refine qJ ?_
   refine qL 0 I I (fun W1 hp=>show A0 W1 g (0+m*1) [str (Ac y)] from IG hp 1 (A:=nS (s.take m)) (C:=[str (Ac x)]++C) I (by rw[row1];simp) (by rw[hA];simp)) I ?_
   refine LF (capt:=[]) I I I I I I hcf.1 (fun W1 hp=>(by
    obtain⟨hv,ht⟩:=hf W1 (K4 hg ⟨_,List.mem_cons_self ..⟩ hp)
    exact hcf.2 x y W1 (hz x hxl y hyl) hv ht)) ?_
   refine qP I (qU 33 (decide (x<y)) I (Dj x y) (qP I (A9 (Aa (zE ?_)))))
   refine Aj I (fun h=> ?_) (fun h=> ?_)
   rotate_left
   ·have hc: ¬x<y:=of_decide_eq_false h
    refine zJ (zK (zK (zL (zN (zE (zB (wP I (wP I (wV 16 ((i+1:Nat):Int) I (AD (by omega)) (wP I (Aa ?_)))))))))))
    refine Ax (i+1) ⟨by show 1≤i+1;omega, .inl hlt⟩ (by show l.length+1-(i+1)<l.length+1-i;omega) ⟨I,I,I,I,I,O⟩ [] ?_
    rw[hnext (m+1) hj hgt fun _=>by rw[e3];exact hc];rfl
   have hc:x<y:=of_decide_eq_true h
   clear h
   refine Rh (bxs':=[Cg (AB W g),⟨g,25,nS (s.take m)++([str (Ac y),str (Ac x)]++C),true,none⟩]) (by rw[←row1]) ?_
   refine zI (zE (An (BO ?_)))
   repeat refine An ?_
   refine Co (X:=Unit) [true,true,false,false,false,true,true,true,true,true,true,true,true,true,true,false,false,false] (fun _=>[(0, .slice (some ⟨g,0,none⟩) l.length cap),(1, .int .i64 0),(2, .int .i64 (l.length:Nat)),(3, .func (.func cf) #[] #[]),(8, .int .i64 (i:Nat)),(9, .int .i64 ((m+1:Nat):Int))]) (fun _=>[Cg (AB W g),⟨g,25,nS (s.take m)++([str (Ac x),str (Ac y)]++C),true,none⟩])
    6 [Cg (AB W g),⟨g,25,nS (s.take m)++([str (Ac y),str (Ac x)]++C),true,none⟩] Tryz.mixed (by kernel_rfl) ?_ ?_
   ·refine qP I (qP I (qP I (qP I (qP I (qV 44 (m:Nat) I (show w64 (((m+1:Nat):Int)-1)=_ by rw[Ai (by omega) (by omega)];omega) ?_)))))
    refine qJ ?_
    refine qL 0 I I (fun W1 hp=>show A0 W1 g (0+m*1) [str (Ac y)] from IG hp 1 (A:=nS (s.take m)) (C:=[str (Ac x)]++C) I (by simp) (by rw[hA];simp)) I (qP I (qP I ?_))
    refine qJ ?_
    refine qL 0 I I (fun W1 hp=>show A0 W1 g (0+(m+1)*1) [str (Ac x)] from IG hp 1 (A:=nS (s.take m)++[str (Ac y)]) (C:=C) I (by simp) (by rw[List.length_append,hA];simp)) I ?_
    refine qJ ?_
    refine Fg ?_
    have h1:B3 (nS (s.take m)++([str (Ac y),str (Ac x)]++C)) (0+(m+1)*1) (str (Ac y)).cells.toList=nS (s.take m)++([str (Ac y),str (Ac y)]++C):=by
     rw[show 0+(m+1)*1=(nS (s.take m)).length+1 by rw[hA];omega,Fb];rfl
    have h2:B3 (nS (s.take m)++([str (Ac y),str (Ac y)]++C)) (0+m*1) (str (Ac x)).cells.toList=nS (s.take m)++([str (Ac x),str (Ac y)]++C):=by
     rw[show 0+m*1=(nS (s.take m)).length+0 by rw[hA];omega,Fb];rfl
    refine wX ?_
    refine RS.cons ?_ (RS.cons ?_ (RS.cons ?_ (RS.nil)))
    ·refine wP I (Aa (Ao (wX ?_)))
     refine RS.cons ?_ (RS.cons ?_ (RS.nil))
     ·refine wP I (Aa (Ao (wX ?_)))
      refine RS.cons ?_ (RS.cons ?_ (RS.nil))
      ·refine wP I (Aa (Ao (wX (wZ ?_))))
       refine Ay 1 _ tH I I I I I I I I I I (by show 0+(m+1)*1+1≤(nS (s.take m)++([str (Ac y),str (Ac x)]++C)).length;rw[List.length_append,hA];simp<;>omega) h1 ?_
       refine Aa (Ao (wY (wZ ?_)))
       refine wV 41 (m:Nat) I (show w64 (((m+1:Nat):Int)-1)=_ by rw[Ai (by omega) (by omega)];omega) ?_;(first|refine wJ ?_|refine qJ ?_)
       refine Aa (Ao (wY (wZ ?_)))
       refine Ay 1 _ tH I I I I I I I I I I (by show 0+m*1+1≤(nS (s.take m)++([str (Ac y),str (Ac y)]++C)).length;rw[List.length_append,hA];simp<;>omega) h2 ?_
       refine Aa (Ao ?_)
       refine Ba I (by kernel_rfl) ?_
       exact AP () ⟨I,I,I,I,I,I,O⟩ [0,1] (by decide) I
      ·refine Ay 1 _ tH I I I I I I I I I I (by show 0+(m+1)*1+1≤(nS (s.take m)++([str (Ac y),str (Ac x)]++C)).length;rw[List.length_append,hA];simp<;>omega) h1 ?_
       refine Aa (Ao (wY (wZ (wP I (Aa (Ao (wY (wZ ?_))))))))
       refine wV 41 (m:Nat) I (show w64 (((m+1:Nat):Int)-1)=_ by rw[Ai (by omega) (by omega)];omega) ?_;(first|refine wJ ?_|refine qJ ?_)
       refine Aa (Ao (wY (wZ ?_)))
       refine Ay 1 _ tH I I I I I I I I I I (by show 0+m*1+1≤(nS (s.take m)++([str (Ac y),str (Ac y)]++C)).length;rw[List.length_append,hA];simp<;>omega) h2 ?_
       refine Aa (Ao ?_)
       refine Ba I (by kernel_rfl) ?_
       exact AP () ⟨I,I,I,I,I,I,O⟩ [0,1] (by decide) I
     ·refine Ay 1 _ tH I I I I I I I I I I (by show 0+(m+1)*1+1≤(nS (s.take m)++([str (Ac y),str (Ac x)]++C)).length;rw[List.length_append,hA];simp<;>omega) h1 ?_
      refine Aa (Ao (wY (wZ (wP I (Aa (Ao (wY (wZ (wP I (Aa (Ao (wY (wZ ?_)))))))))))))
      refine wV 41 (m:Nat) I (show w64 (((m+1:Nat):Int)-1)=_ by rw[Ai (by omega) (by omega)];omega) ?_;(first|refine wJ ?_|refine qJ ?_)
      refine Aa (Ao (wY (wZ ?_)))
      refine Ay 1 _ tH I I I I I I I I I I (by show 0+m*1+1≤(nS (s.take m)++([str (Ac y),str (Ac y)]++C)).length;rw[List.length_append,hA];simp<;>omega) h2 ?_
      refine Aa (Ao ?_)
      refine Ba I (by kernel_rfl) ?_
      exact AP () ⟨I,I,I,I,I,I,O⟩ [0,1] (by decide) I
    ·refine wP I (Aa (Ao (wX ?_)))
     refine RS.cons ?_ (RS.cons ?_ (RS.cons ?_ (RS.nil)))
     ·refine wP I (Aa (Ao (wX ?_)))
      refine RS.cons ?_ (RS.cons ?_ (RS.nil))
      ·refine wP I (Aa (Ao (wX (wZ ?_))))
       refine Ay 1 _ tH I I I I I I I I I I (by show 0+(m+1)*1+1≤(nS (s.take m)++([str (Ac y),str (Ac x)]++C)).length;rw[List.length_append,hA];simp<;>omega) h1 ?_
       refine Aa (Ao (wY (wZ ?_)))
       refine wV 41 (m:Nat) I (show w64 (((m+1:Nat):Int)-1)=_ by rw[Ai (by omega) (by omega)];omega) ?_;(first|refine wJ ?_|refine qJ ?_)
       refine Aa (Ao (wY (wZ ?_)))
       refine Ay 1 _ tH I I I I I I I I I I (by show 0+m*1+1≤(nS (s.take m)++([str (Ac y),str (Ac y)]++C)).length;rw[List.length_append,hA];simp<;>omega) h2 ?_
       refine Aa (Ao ?_)
       refine Ba I (by kernel_rfl) ?_
       exact AP () ⟨I,I,I,I,I,I,O⟩ [0,1] (by decide) I
      ·refine Ay 1 _ tH I I I I I I I I I I (by show 0+(m+1)*1+1≤(nS (s.take m)++([str (Ac y),str (Ac x)]++C)).length;rw[List.length_append,hA];simp<;>omega) h1 ?_
       refine Aa (Ao (wY (wZ (wP I (Aa (Ao (wY (wZ ?_))))))))
       refine wV 41 (m:Nat) I (show w64 (((m+1:Nat):Int)-1)=_ by rw[Ai (by omega) (by omega)];omega) ?_;(first|refine wJ ?_|refine qJ ?_)
       refine Aa (Ao (wY (wZ ?_)))
       refine Ay 1 _ tH I I I I I I I I I I (by show 0+m*1+1≤(nS (s.take m)++([str (Ac y),str (Ac y)]++C)).length;rw[List.length_append,hA];simp<;>omega) h2 ?_
       refine Aa (Ao ?_)
       refine Ba I (by kernel_rfl) ?_
       exact AP () ⟨I,I,I,I,I,I,O⟩ [0,1] (by decide) I
     ·refine wP I (Aa (Ao (wX ?_)))
      refine RS.cons ?_ (RS.cons ?_ (RS.nil))
      ·refine wP I (Aa (Ao (wX (wZ ?_))))
       refine Ay 1 _ tH I I I I I I I I I I (by show 0+(m+1)*1+1≤(nS (s.take m)++([str (Ac y),str (Ac x)]++C)).length;rw[List.length_append,hA];simp<;>omega) h1 ?_
       refine Aa (Ao (wY (wZ ?_)))
       refine wV 41 (m:Nat) I (show w64 (((m+1:Nat):Int)-1)=_ by rw[Ai (by omega) (by omega)];omega) ?_;(first|refine wJ ?_|refine qJ ?_)
       refine Aa (Ao (wY (wZ ?_)))
       refine Ay 1 _ tH I I I I I I I I I I (by show 0+m*1+1≤(nS (s.take m)++([str (Ac y),str (Ac y)]++C)).length;rw[List.length_append,hA];simp<;>omega) h2 ?_
       refine Aa (Ao ?_)
       refine Ba I (by kernel_rfl) ?_
       exact AP () ⟨I,I,I,I,I,I,O⟩ [0,1] (by decide) I
      ·refine Ay 1 _ tH I I I I I I I I I I (by show 0+(m+1)*1+1≤(nS (s.take m)++([str (Ac y),str (Ac x)]++C)).length;rw[List.length_append,hA];simp<;>omega) h1 ?_
       refine Aa (Ao (wY (wZ (wP I (Aa (Ao (wY (wZ ?_))))))))
       refine wV 41 (m:Nat) I (show w64 (((m+1:Nat):Int)-1)=_ by rw[Ai (by omega) (by omega)];omega) ?_;(first|refine wJ ?_|refine qJ ?_)
       refine Aa (Ao (wY (wZ ?_)))
       refine Ay 1 _ tH I I I I I I I I I I (by show 0+m*1+1≤(nS (s.take m)++([str (Ac y),str (Ac y)]++C)).length;rw[List.length_append,hA];simp<;>omega) h2 ?_
       refine Aa (Ao ?_)
       refine Ba I (by kernel_rfl) ?_
       exact AP () ⟨I,I,I,I,I,I,O⟩ [0,1] (by decide) I
     ·refine Ay 1 _ tH I I I I I I I I I I (by show 0+(m+1)*1+1≤(nS (s.take m)++([str (Ac y),str (Ac x)]++C)).length;rw[List.length_append,hA];simp<;>omega) h1 ?_
      refine Aa (Ao (wY ?_))
      refine RS.cons ?_ (RS.cons ?_ (RS.nil))
      ·refine wP I (Aa (Ao (wY (wZ (wP I (Aa (Ao (wY (wZ ?_)))))))))
       refine wV 41 (m:Nat) I (show w64 (((m+1:Nat):Int)-1)=_ by rw[Ai (by omega) (by omega)];omega) ?_;(first|refine wJ ?_|refine qJ ?_)
       refine Aa (Ao (wY (wZ ?_)))
       refine Ay 1 _ tH I I I I I I I I I I (by show 0+m*1+1≤(nS (s.take m)++([str (Ac y),str (Ac y)]++C)).length;rw[List.length_append,hA];simp<;>omega) h2 ?_
       refine Aa (Ao ?_)
       refine Ba I (by kernel_rfl) ?_
       exact AP () ⟨I,I,I,I,I,I,O⟩ [0,1] (by decide) I
      ·refine wP I (Aa (Ao (wY (wZ (wP I (Aa (Ao (wY (wZ ?_)))))))))
       refine wV 41 (m:Nat) I (show w64 (((m+1:Nat):Int)-1)=_ by rw[Ai (by omega) (by omega)];omega) ?_;(first|refine wJ ?_|refine qJ ?_)
       refine Aa (Ao (wY (wZ ?_)))
       refine Ay 1 _ tH I I I I I I I I I I (by show 0+m*1+1≤(nS (s.take m)++([str (Ac y),str (Ac y)]++C)).length;rw[List.length_append,hA];simp<;>omega) h2 ?_
       refine Aa (Ao ?_)
       refine Ba I (by kernel_rfl) ?_
       exact AP () ⟨I,I,I,I,I,I,O⟩ [0,1] (by decide) I
    ·refine Ay 1 _ tH I I I I I I I I I I (by show 0+(m+1)*1+1≤(nS (s.take m)++([str (Ac y),str (Ac x)]++C)).length;rw[List.length_append,hA];simp<;>omega) h1 ?_
     refine Aa (Ao (wY ?_))
     refine RS.cons ?_ (RS.cons ?_ (RS.nil))
     ·refine wP I (Aa (Ao (wY (wZ (wP I (Aa (Ao (wY (wZ (wP I (Aa (Ao (wY ?_)))))))))))))
      refine wZ ?_
      refine wV 41 (m:Nat) I (show w64 (((m+1:Nat):Int)-1)=_ by rw[Ai (by omega) (by omega)];omega) ?_;(first|refine wJ ?_|refine qJ ?_)
      refine Aa (Ao (wY (wZ ?_)))
      refine Ay 1 _ tH I I I I I I I I I I (by show 0+m*1+1≤(nS (s.take m)++([str (Ac y),str (Ac y)]++C)).length;rw[List.length_append,hA];simp<;>omega) h2 ?_
      refine Aa (Ao ?_)
      refine Ba I (by kernel_rfl) ?_
      exact AP () ⟨I,I,I,I,I,I,O⟩ [0,1] (by decide) I
     ·refine wP I (Aa (Ao (wY ?_)))
      refine RS.cons ?_ (RS.cons ?_ (RS.nil))
      ·refine wP I (Aa (Ao (wY (wZ (wP I (Aa (Ao (wY (wZ ?_)))))))))
       refine wV 41 (m:Nat) I (show w64 (((m+1:Nat):Int)-1)=_ by rw[Ai (by omega) (by omega)];omega) ?_;(first|refine wJ ?_|refine qJ ?_)
       refine Aa (Ao (wY (wZ ?_)))
       refine Ay 1 _ tH I I I I I I I I I I (by show 0+m*1+1≤(nS (s.take m)++([str (Ac y),str (Ac y)]++C)).length;rw[List.length_append,hA];simp<;>omega) h2 ?_
       refine Aa (Ao ?_)
       refine Ba I (by kernel_rfl) ?_
       exact AP () ⟨I,I,I,I,I,I,O⟩ [0,1] (by decide) I
      ·refine wP I (Aa (Ao (wY (wZ (wP I (Aa (Ao (wY (wZ ?_)))))))))
       refine wV 41 (m:Nat) I (show w64 (((m+1:Nat):Int)-1)=_ by rw[Ai (by omega) (by omega)];omega) ?_;(first|refine wJ ?_|refine qJ ?_)
       refine Aa (Ao (wY (wZ ?_)))
       refine Ay 1 _ tH I I I I I I I I I I (by show 0+m*1+1≤(nS (s.take m)++([str (Ac y),str (Ac y)]++C)).length;rw[List.length_append,hA];simp<;>omega) h2 ?_
       refine Aa (Ao ?_)
       refine Ba I (by kernel_rfl) ?_
       exact AP () ⟨I,I,I,I,I,I,O⟩ [0,1] (by decide) I
   intro _
   refine zN (zE (zB (wP I (wP I (wV 36 (m:Nat) I (show w64 (((m+1:Nat):Int)-1)=_ by rw[Ai (by omega) (by omega)];omega) (wP I (Aa ?_)))))))
   refine Ax m ⟨by show m≤s.length;omega,fun z hz=> ?_⟩ (by show m<m+1;omega) ⟨I,I,I,I,I,I,O⟩ [] (by rw[←row2];rfl)
   rw[e2] at hz
   rcases List.mem_cons.1 hz with rfl|hz
   ·exact hc
   ·exact hgt z hz
 refine key.mono ?_
 rintro e W' ⟨x,he,_,hb,hn'⟩
 exact⟨x,he,O,GX hg I hb hn'⟩
theorem M1 (cf:Nat) (hcf:Lx cf) (W:World) (g cap:Nat) (l:List Rat) (junk:List Value) (z:Int) (hn:l.length≤12) (hg:W.heap[g]? =some (.cells (nS l++junk).toArray 25 (0,0)))
  (hf: ∀W',Jr W W' g→AV W'∧A3 W') (hz: ∀p∈l, ∀q∈l,Sz2 p q):
  Calls Tryz.prog 155 #[.slice (some ⟨g,0,none⟩) l.length cap, .int .i64 0, .int .i64 (l.length:Nat), .int .i64 z, .func (.func cf) #[] #[]] W fun e W'=> ∃x:Unit,e= .returned ((fun _=> .tuple #[]) x)∧True∧Ju W W' g ((fun _=>g) x) ((fun _=> .cells (nS (Bd l)++junk).toArray 25 (0,0)) x):=by
 have key:Calls Tryz.prog 155 [.slice (some ⟨g,0,none⟩) l.length cap, .int .i64 0, .int .i64 (l.length:Nat), .int .i64 z, .func (.func cf) #[] #[]].toArray W fun e W'=> ∃x:Unit,e= .returned ((fun _=> .tuple #[]) x)∧(fun _=>True) x∧Below (B2 W).heap.size (B2 W) W'∧As (B2 W) W' ((fun _=>[Cg (AB W g),CS g (Bd l) junk]) x):=by
  refine CN (X:=Unit) (val:=fun _=> .tuple #[]) (Φ:=fun _=>True) (nb:=fun _=>[Cg (AB W g),CS g (Bd l) junk]) (Hp.enterT (B:=CS g l junk) I hg) Tryz.func155 I I I ?_
  refine zA (zB (wP I (Aa (zE (zA (zB (wP I (Aa (zE (zH ?_))))))))))
  refine A5 (X:=Unit) (fun _=>[(0, .slice (some ⟨g,0,none⟩) l.length cap),(1, .int .i64 0),(2, .int .i64 (l.length:Nat)),(3, .int .i64 z),(4, .func (.func cf) #[] #[])]) (fun _=>[Cg (AB W g),CS g l junk]) (fun _=>True) (fun _=>0) () O ⟨I,I,I,I,I,O⟩ [] I ?_
  intro _ _
  refine zH (zA (zB (wP I (wP I (wP I (wV 23 (l.length:Nat) I (show w64 ((l.length:Nat)-0)=_ by rw[Ai (by omega) (by omega)];omega) (wP I (Aa (zE (zA (zA (zB (wP I (wP I ?_))))))))))))))
  refine wU 25 true I (dT (by omega)) (Aa (zE (zR I (zA (zB (wP I (wP I (wP I (wP I ?_)))))))))
  refine E6 (X:=Unit) (val:=fun _=> .tuple #[]) (Φ:=fun _=>True) (capt:=[]) 1 (B:=CS g l junk) (L1:=[]) (L2:=[]) (b:=g) (ob:= .cells (nS l++junk).toArray 25 (0,0)) (fun _=>CS g (Bd l) junk) (g':=fun _=>g) (o':=fun _=> .cells (nS (Bd l)++junk).toArray 25 (0,0))
   rfl rfl rfl rfl rfl rfl (by kernel_rfl) rfl rfl (fun _ _=>rfl) (fun W1 hp=>MO cf hcf W1 g cap l junk (by omega) (hp.own.cell 1 _ rfl (g, .cells (nS l++junk).toArray 25 (0,0)) (List.mem_cons_self ..)).1 (fun W2 hk=>hf W2 ((K4 hg ⟨_,List.mem_cons_self ..⟩ hp).trans hk)) hz) (fun _ _=> ?_)
  refine Aa (zE (zO (zP (zQ (zP (zQ ?_))))))
  refine N0 (X:=Unit) (val:=fun _=> .tuple #[]) (Φ:=fun _=>True) (nb:=fun _=>[Cg (AB W g),CS g (Bd l) junk]) (fn:=Tryz.f155) tH I () I O fun W1 hp=> ?_
  exact(hp.pick (l:=[Cg (AB W g),CS g (Bd l) junk]) [0,1] (by decide) I).own
 refine key.mono ?_
 rintro e W' ⟨x,he,_,hb,hn'⟩
 exact⟨x,he,O,GX hg I hb hn'⟩
theorem MI (cf:Nat) (W:World) (p:Option Addr) (cap:Nat):Ad Tryz.prog 226 #[.slice p 0 cap, .int .i64 0, .int .i64 ((0:Nat):Int), .func (.func cf) #[] #[]] W (fun _:Unit=> .tuple #[]) (fun _=>True) (fun _=>[]):=by
 refine Ab (args:=[.slice p 0 cap, .int .i64 0, .int .i64 ((0:Nat):Int), .func (.func cf) #[] #[]]) Tryz.func226 I I I ?_
 refine zA (zB (wP I (wP I (wP I (Aa (zE (zH ?_)))))))
 refine A5 (X:=Unit) (fun _=>[(0, .slice p 0 cap),(1, .int .i64 0),(2, .int .i64 ((0:Nat):Int)),(3, .func (.func cf) #[] #[]),(8, .int .i64 1)]) (fun _=>[]) (fun _=>True) (fun _=>0) () O ⟨I,I,I,I,I,O⟩ [] I ?_
 intro _ _
 refine zA (zA (zB (wP I (wP I (wP I ?_)))))
 refine Ah 14 (.bool false) I I ?_
 exact Aa (zE (zS I (zJ (zK (zK (zL (HI (X:=Unit) (val:=fun _=> .tuple #[]) (Φ:=fun _=>True) (nb:=fun _=>[]) (fn:=Tryz.f226) tH I () I O fun W _=>As.nil _ _)))))))
theorem MP (cf:Nat) (W:World) (p:Option Addr) (cap:Nat) (z:Int):Ad Tryz.prog 155 #[.slice p 0 cap, .int .i64 0, .int .i64 ((0:Nat):Int), .int .i64 z, .func (.func cf) #[] #[]] W (fun _:Unit=> .tuple #[]) (fun _=>True) (fun _=>[]):=by
 refine Ab (args:=[.slice p 0 cap, .int .i64 0, .int .i64 ((0:Nat):Int), .int .i64 z, .func (.func cf) #[] #[]]) Tryz.func155 I I I ?_
 refine zA (zB (wP I (Aa (zE (zA (zB (wP I (Aa (zE (zH ?_))))))))))
 refine A5 (X:=Unit) (fun _=>[(0, .slice p 0 cap),(1, .int .i64 0),(2, .int .i64 ((0:Nat):Int)),(3, .int .i64 z),(4, .func (.func cf) #[] #[])]) (fun _=>[]) (fun _=>True) (fun _=>0) () O ⟨I,I,I,I,I,O⟩ [] I ?_
 intro _ _
 refine zH (zA (zB (wP I (wP I (wP I ?_)))))
 refine Ah 23 (.int .i64 ((0:Nat):Int)) I I ?_
 refine wP I (Aa (zE (zA (zA (zB (wP I (wP I ?_)))))))
 refine Ah 25 (.bool true) I I ?_
 refine Aa (zE (zR I (zA (zB (wP I (wP I (wP I (wP I ?_))))))))
 refine Be (capt:=[]) I I I I I I (by kernel_rfl) (fun W _=>MI cf W p cap) ?_
 exact Aa (zE (zO (zP (zQ (zP (zQ (N0 (X:=Unit) (val:=fun _=> .tuple #[]) (Φ:=fun _=>True) (nb:=fun _=>[]) (fn:=Tryz.f155) tH I () I O fun W _=>As.nil _ _)))))))
theorem GF (x:Nat) (h:x≤18446744073709551615) (W:World):Ad Tryz.prog 124 #[.int .u64 (x:Nat)] W (fun _:Unit=> .int .i64 (Lib.bitLen x)) (fun _=>True) (fun _=>[]):=by
 refine Ad.of1 ((Go.Proofs.Any.bits_Len (P:=Tryz.prog) (ρ:=Tryz.lays125_ren) Tryz.lays125 (x:Int) W (by omega) (by omega)).mono ?_)
 rintro e w' ⟨rfl,rfl⟩
 exact⟨I,Below.refl _ _⟩
theorem Qh {n:Nat} (h:n≤12):IntKind.u64.wrap (n:Nat)=(n:Int):=by
 simp only[IntKind.wrap,IntKind.signed,IntKind.bits]
 simp
 omega
theorem Ki (cf:Nat) (hcf:Lx cf) (W:World) (g cap:Nat) (l:List Rat) (junk:List Value) (hn:l.length≤12) (hg:W.heap[g]? =some (.cells (nS l++junk).toArray 25 (0,0)))
  (hf: ∀W',Jr W W' g→AV W'∧A3 W') (hz: ∀p∈l, ∀q∈l,Sz2 p q):
  Calls Tryz.prog 96 #[.slice (some ⟨g,0,none⟩) l.length cap, .func (.func cf) #[] #[]] W fun e W'=> ∃x:Unit,e= .returned ((fun _=> .tuple #[]) x)∧True∧Ju W W' g ((fun _=>g) x) ((fun _=> .cells (nS (Bd l)++junk).toArray 25 (0,0)) x):=by
 have key:Calls Tryz.prog 96 [.slice (some ⟨g,0,none⟩) l.length cap, .func (.func cf) #[] #[]].toArray W fun e W'=> ∃x:Unit,e= .returned ((fun _=> .tuple #[]) x)∧(fun _=>True) x∧Below (B2 W).heap.size (B2 W) W'∧As (B2 W) W' ((fun _=>[Cg (AB W g),CS g (Bd l) junk]) x):=by
  refine CN (X:=Unit) (val:=fun _=> .tuple #[]) (Φ:=fun _=>True) (nb:=fun _=>[Cg (AB W g),CS g (Bd l) junk]) (Hp.enterT (B:=CS g l junk) I hg) Tryz.func96 I I I ?_
  refine zA (zB (wP I (wP I (wP I (Aa (zE (zB (wP I (wP I (wP I ?_))))))))))
  refine Gn (k:= .u64) (kt:= .i64) (by kernel_rfl) (by kernel_rfl) I I I I ?_
  refine Ah 10 (.int .u64 (l.length:Nat)) I (congrArg (Value.int .u64) (Qh hn)) ?_
  refine Be (capt:=[]) I I I I I I (by kernel_rfl) (fun W _=>GF l.length (by omega) W) ?_
  refine wP I ?_
  refine E6 (X:=Unit) (val:=fun _=> .tuple #[]) (Φ:=fun _=>True) (capt:=[]) 1 (B:=CS g l junk) (L1:=[]) (L2:=[]) (b:=g) (ob:= .cells (nS l++junk).toArray 25 (0,0)) (fun _=>CS g (Bd l) junk) (g':=fun _=>g) (o':=fun _=> .cells (nS (Bd l)++junk).toArray 25 (0,0))
   rfl rfl rfl rfl rfl rfl (by kernel_rfl) rfl rfl (fun _ _=>rfl) (fun W1 hp=>M1 cf hcf W1 g cap l junk _ hn (hp.own.cell 1 _ rfl (g, .cells (nS l++junk).toArray 25 (0,0)) (List.mem_cons_self ..)).1 (fun W2 hk=>hf W2 ((K4 hg ⟨_,List.mem_cons_self ..⟩ hp).trans hk)) hz) (fun _ _=> ?_)
  refine Aa ?_
  refine HI (X:=Unit) (val:=fun _=> .tuple #[]) (Φ:=fun _=>True) (nb:=fun _=>[Cg (AB W g),CS g (Bd l) junk]) (fn:=Tryz.f96) tH I () I O fun W1 hp=> ?_
  exact(hp.pick (l:=[Cg (AB W g),CS g (Bd l) junk]) [0,1] (by decide) I).own
 refine key.mono ?_
 rintro e W' ⟨x,he,_,hb,hn'⟩
 exact⟨x,he,O,GX hg I hb hn'⟩
-- BOXES 3
abbrev cs (l:List (List UInt8)):List Value:=l.map Go.Proofs.encStr
theorem Mb {l:List (List UInt8)} {j:Nat} (h:j<l.length) (junk:List Value):(cs l++junk)[j]? =some (Go.Proofs.encStr l.toArray[j]!):=by
 rw[List.getElem?_append_left (by simpa using h),List.getElem?_map,List.getElem?_eq_getElem h,getElem!_pos l.toArray j (by simpa using h)];simp
theorem O2 {W:World} {g:Nat} {zs:List (List UInt8)} {junk:List Value} {ty:TypeId} (h:W.heap[g]? =some (.cells (cs zs++junk).toArray ty (0,0))):Sort.Holds Go.Proofs.encStr W g 0 zs.toArray:=fun j hj=>by
 have hj':j<zs.length:=by simpa using hj
 have h1:=Mb hj' junk
 constructor
 ·simp only[World.cell?,h,Nat.zero_add]
  rw[List.getElem?_toArray];exact h1
 ·simp[World.frozen?,h]
theorem Lw {zs zs':List (List UInt8)} (hl:zs'.length=zs.length) (junk:List Value):Sort.putCells Go.Proofs.encStr 0 zs'.toArray (cs zs++junk).toArray=(cs zs'++junk).toArray:=by
 apply Array.ext_getElem?
 intro k
 simp only[Sort.putCells,Array.getElem?_mapIdx,List.getElem?_toArray,List.size_toArray,Nat.zero_add,Nat.sub_zero,Nat.zero_le,true_and]
 by_cases hk:k<zs.length
 ·rw[Mb hk,Mb (show k<zs'.length by omega),Option.map_some,if_pos (by omega)]
 ·rw[List.getElem?_append_right (by simp;omega),List.getElem?_append_right (by simp;omega)]
  simp only[List.length_map,hl]
  cases junk[k-zs.length]? with
  |none=>rfl
  |some y=>rw[Option.map_some,if_neg (by omega)]
theorem Mh {W:World} {g:Nat} {zs zs':List (List UInt8)} {junk:List Value} {ty:TypeId} (h:W.heap[g]? =some (.cells (cs zs++junk).toArray ty (0,0))) (hl:zs'.length=zs.length) (n:Nat):
  Ju W (Sort.putRow Go.Proofs.encStr (Sort.ahead W n) g 0 zs'.toArray) g g (.cells (cs zs'++junk).toArray ty (0,0)):=by
 have hlt:g<W.heap.size:=(Array.getElem?_eq_some_iff.1 h).1
 have hs: ∀x,x<W.heap.size→(Sort.putRow Go.Proofs.encStr (Sort.ahead W n) g 0 zs'.toArray).heap[x]? =(W.heap.modify g (Sort.onCells (Sort.putCells Go.Proofs.encStr 0 zs'.toArray)))[x]? :=fun x hx=>rfl
 refine⟨I,I,I, ?_, ?_, .inl I,fun x hx hlt'=> ?_⟩
 ·show W.heap.size≤(W.heap.modify g _).size
  simp
 ·rw[hs g hlt,Array.getElem?_modify,if_pos rfl,h,Option.map_some]
  show some (Obj.cells (Sort.putCells _ _ _ _) _ _)=_
  rw[Lw hl]
 ·rw[hs x hlt',Array.getElem?_modify,if_neg (fun e=>hx e.symm)]
theorem JD (l:List Rat):(AM l).length≤l.length:=by
 fun_induction AM l with
 |case1=>exact Nat.le_refl _
 |case2 x=>exact Nat.le_refl _
 |case3 x l ih=>simp only[List.length_cons] at ih⊢;omega
 |case4 x y l h ih=>simp only[List.length_cons] at ih⊢;omega
theorem Q2 (l:List Rat):cs (l.map Ac)=nS l:=by simp[nS,cs]
abbrev IP (l:List Rat) (junk:List Value):List Value:=cs (List.replicate (l.length-(AM l).length) [])++junk
theorem Lq {W:World} {g cap:Nat} {l:List Rat} {junk:List Value} {ty:TypeId} (h:W.heap[g]? =some (.cells (nS l++junk).toArray ty (0,0))) (hn:l.length≤9223372036854775807) (hcap:l.length≤cap):
  Calls Tryz.prog 97 #[.slice (some ⟨g,0,none⟩) l.length cap] W fun e W'=> ∃x:Unit,e= .returned ((fun _=> .slice (some ⟨g,0,none⟩) (AM l).length cap) x)∧True∧
   Ju W W' g ((fun _=>g) x) ((fun _=> .cells (nS (AM l)++IP l junk).toArray ty (0,0)) x):=by
 have hl:=JD l
 rw[←Q2] at h
 have h1:=Go.Proofs.AnyG.slices_Compact_string (P:=Tryz.prog) (ρ:=Tryz.laysN44_ren) Tryz.laysN44 g 0 cap (l.map Ac) W (O2 h) (by rw[List.length_map];exact hn) (by rw[List.length_map];exact hcap)
 rw[Kb,List.length_map,List.length_map] at h1
 refine h1.mono ?_
 rintro e W' ⟨rfl,n,rfl⟩
 refine⟨(),I,O, ?_⟩
 have h2:=Mh (zs':=(AM l).map Ac++List.replicate (l.length-(AM l).length) []) h (by rw[List.length_append,List.length_replicate,List.length_map,List.length_map];omega) n
 have e:cs ((AM l).map Ac++List.replicate (l.length-(AM l).length) [])++junk=nS (AM l)++IP l junk:=by
  rw[←Q2, ←List.append_assoc];congr 1;exact List.map_append
 rw[e] at h2
 exact h2
theorem L7 (cf:Nat) (W:World) (p:Option Addr) (cap:Nat):Ad Tryz.prog 96 #[.slice p 0 cap, .func (.func cf) #[] #[]] W (fun _:Unit=> .tuple #[]) (fun _=>True) (fun _=>[]):=by
 refine Ab (args:=[.slice p 0 cap, .func (.func cf) #[] #[]]) Tryz.func96 I I I ?_
 refine zA (zB (wP I (wP I (wP I (Aa (zE (zB (wP I (wP I (wP I ?_))))))))))
 refine Gn (k:= .u64) (kt:= .i64) (by kernel_rfl) (by kernel_rfl) I I I I ?_
 refine Ah 10 (.int .u64 ((0:Nat):Int)) I I ?_
 refine Be (capt:=[]) I I I I I I (by kernel_rfl) (fun W _=>GF 0 (by omega) W) ?_
 refine wP I ?_
 refine Be (capt:=[]) I I I I I I (by kernel_rfl) (fun W _=>MP cf W p cap _) ?_
 exact Aa (HI (X:=Unit) (val:=fun _=> .tuple #[]) (Φ:=fun _=>True) (nb:=fun _=>[]) (fn:=Tryz.f96) tH I () I O fun W _=>As.nil _ _)
theorem L8 (W:World) (p:Option Addr) (cap:Nat):Ad Tryz.prog 97 #[.slice p 0 cap] W (fun _:Unit=> .slice p 0 cap) (fun _=>True) (fun _=>[]):=by
 refine Ab (args:=[.slice p 0 cap]) Tryz.func97 I I I ?_
 refine zA (zB (wP I (Aa (zE (zA (zA (zB (wP I (wP I (wP I (Aa (zE (zR I ?_)))))))))))))
 exact zA (zB (wP I (wP I (Aa (zE (zO (zP (wR1 I I I))))))))
theorem Hc {α:Type} {l:List α} {k:Nat} {x:α} (h:l[k]? =some x):l.set k x=l:=by
 obtain⟨h1,rfl⟩:=List.getElem?_eq_some_iff.1 h
 exact List.set_getElem_self h1
section
variable {r:Option Nat} {n:Nat} {W0:World} {N:Nat} {D:List Deferred} {ops:List Oper} {Q:Exit→Act→World→Prop} {o:Oper} {rest:List Oper} {env:Env} {bxs:List Bx}
theorem OR (k:Nat) (cf:Nat) (hcf:Lx cf) (hv0:AV W0) (ht0:A3 W0) {c:Call} {f:Operand} {d:Nat} {V:Vec} {l:List Rat} {len:Nat}
  (hg:Ar ops N env o=some true) (hd:o.dst=some d) (ho:o.op= .call c) (hc:c.callee= .value f) (hf:evO N env f=some (.func (.func 96) #[] #[])) (ha:B4 (evO N env) c.args.toList=some [V.val len, .func (.func cf) #[] #[]])
  (hk:nth bxs k=some (V.bx 25 (nS l))) (hlen:len=l.length) (hV:V.OK 1 len (nS l)) (hn:l.length≤12) (hz: ∀p∈l, ∀q∈l,Sz2 p q)
  (h:WL r n Tryz.prog N D ops Q rest ((d, .tuple #[])::env) (Hp W0 (bxs.set k (V.bx 25 (nS (Bd l)))))):WL r n Tryz.prog N D ops Q (o::rest) env (Hp W0 bxs):=by
 subst hlen
 obtain⟨p,cap,junk⟩:=V
 cases p with
 |none=>
  have hz0:=hV.nil rfl
  have e:bxs.set k ((⟨none,cap,junk⟩:Vec).bx 25 (nS (Bd l)))=bxs:=by
   have h1:bxs[k]? =some ((⟨none,cap,junk⟩:Vec).bx 25 (nS l)):=by rw[←AT];exact hk
   exact Hc h1
  rw[e] at h
  refine Be (capt:=[]) hg hd ho hc hf ha (by kernel_rfl) (fun W _=> ?_) h
  exact L7 cf W none 0
 |some g=>
  have hk':bxs[k]? =some (CS g l junk):=by rw[←AT];exact hk
  refine E6 (X:=Unit) (val:=fun _=> .tuple #[]) (Φ:=fun _=>True) (capt:=[]) k (B:=CS g l junk) (L1:=[]) (L2:=[]) (b:=g) (ob:= .cells (nS l++junk).toArray 25 (0,0)) (fun _=>CS g (Bd l) junk) (g':=fun _=>g) (o':=fun _=> .cells (nS (Bd l)++junk).toArray 25 (0,0))
   hg hd ho hc hf ha (by kernel_rfl) hk rfl (fun _ _=>rfl) (fun W hp=> ?_) (fun _ _=>h)
  have hcell:=hp.own.cell k _ hk' (g, .cells (nS l++junk).toArray 25 (0,0)) (List.mem_cons_self ..)
  exact Ki cf hcf W g cap l junk hn hcell.1 (fun W' hK=>⟨hv0.below (hK.below hp.below hcell.2),ht0.below (hK.below hp.below hcell.2)⟩) hz
theorem Pp (k:Nat) {c:Call} {f:Operand} {d:Nat} {V:Vec} {l:List Rat} {len:Nat}
  (hg:Ar ops N env o=some true) (hd:o.dst=some d) (ho:o.op= .call c) (hc:c.callee= .value f) (hf:evO N env f=some (.func (.func 97) #[] #[])) (ha:B4 (evO N env) c.args.toList=some [V.val len])
  (hk:nth bxs k=some (V.bx 25 (nS l))) (hlen:len=l.length) (hV:V.OK 1 len (nS l)) (hn:l.length≤9223372036854775807)
  (h: ∀V':Vec,V'.OK 1 (AM l).length (nS (AM l))→WL r n Tryz.prog N D ops Q rest ((d,V'.val (AM l).length)::env) (Hp W0 (bxs.set k (V'.bx 25 (nS (AM l)))))):WL r n Tryz.prog N D ops Q (o::rest) env (Hp W0 bxs):=by
 subst hlen
 have hl:=JD l
 obtain⟨p,cap,junk⟩:=V
 cases p with
 |none=>
  have hz0:=hV.nil rfl
  have hl0:l=[]:=List.length_eq_zero_iff.1 hz0
  subst hl0
  have h:=h ⟨none,cap,junk⟩ ⟨by rw[Hh];rfl,fun _=>by rw[Hh];rfl,fun h=>absurd rfl h⟩
  have e:bxs.set k ((⟨none,cap,junk⟩:Vec).bx 25 (nS (AM [])))=bxs:=by
   have h1:bxs[k]? =some ((⟨none,cap,junk⟩:Vec).bx 25 (nS [])):=by rw[←AT];exact hk
   exact Hc h1
  rw[e] at h
  refine Be (capt:=[]) hg hd ho hc hf ha (by kernel_rfl) (fun W _=> ?_) h
  exact L8 W none 0
 |some g=>
  obtain⟨c1,c2,c3⟩:=hV.cap (by simp)
  have c1:l.length≤cap:=c1
  have c2:cap≤maxLen:=c2
  have hk':bxs[k]? =some (CS g l junk):=by rw[←AT];exact hk
  have h:=h ⟨some g,cap,IP l junk⟩ ⟨by simp[nS],fun h=>by simp at h,fun _=>⟨by show(AM l).length≤cap;omega,c2,by
   show(nS (AM l)).length+(IP l junk).length=cap*1
   simp only[nS,IP,cs,List.length_append,List.length_map,List.length_replicate] at c3⊢
   have c3:l.length+junk.length=cap*1:=c3
   omega⟩⟩
  refine E6 (X:=Unit) (val:=fun _=> .slice (some ⟨g,0,none⟩) (AM l).length cap) (Φ:=fun _=>True) (capt:=[]) k (B:=CS g l junk) (L1:=[]) (L2:=[]) (b:=g) (ob:= .cells (nS l++junk).toArray 25 (0,0)) (fun _=>⟨g,25,nS (AM l)++IP l junk,true,none⟩) (g':=fun _=>g) (o':=fun _=> .cells (nS (AM l)++IP l junk).toArray 25 (0,0))
   hg hd ho hc hf ha (by kernel_rfl) hk rfl (fun _ _=>rfl) (fun W hp=> ?_) (fun _ _=>h)
  exact Lq (hp.own.cell k _ hk' (g, .cells (nS l++junk).toArray 25 (0,0)) (List.mem_cons_self ..)).1 hn c1
end
-- BOXES 6
theorem QE:Lx 76:=⟨by kernel_rfl,fun p q W h hv ht=>B0 p q h W hv ht⟩
def fl (f g:FrP) (k:Nat):List Rat:=((AL f g).take k).filter (FQ f g)
theorem O5 (f g:FrP) (k:Nat):(fl f g k).length≤5:=by
 have h1:=List.length_filter_le (FQ f g) ((AL f g).take k)
 have h2:=NO f g
 rw[List.length_take] at h1
 unfold fl;omega
theorem Qp (f g:FrP) {k:Nat} (hk:k<(AL f g).length):fl f g (k+1)=if FQ f g ((AL f g).getD k 0)=true then fl f g k++[(AL f g).getD k 0] else fl f g k:=by
 have e:(AL f g).getD k 0=(AL f g)[k]:=by rw[List.getD_eq_getElem?_getD,List.getElem?_eq_getElem hk];rfl
 rw[e,fl,List.take_add_one,List.getElem?_eq_getElem hk,List.filter_append]
 show _++List.filter _ [_]=_
 rw[List.filter_cons,List.filter_nil]
 split
 ·rfl
 ·rw[List.append_nil];rfl
theorem OW {f g:FrP} {k:Nat} {t:Rat} (h:t∈fl f g k):t∈AL f g:=List.mem_of_mem_take (List.mem_filter.1 h).1
theorem Kh (f g:FrP) (hf:f.OK) (hg:g.OK) (hax:f.ax=g.ax) (hz:OI f g) (hs: ∀p∈AL f g, ∀q∈AL f g,Sz2 p q)
  (a b k:Nat) (ha:szQ f.sp a) (hb:szQ f.st b) (ha':szQ g.sp a) (hb':szQ g.st b) (hk: ∀t∈AL f g,szQ t k) (hk1:a+b+k+9≤300) (hk2:k+36+1≤300) (W:World) (hv:AV W) (ht:A3 W):
  Ad Tryz.prog 43 #[frV f,frV g] W (fun V:Vec=> .tuple #[V.val (eqL f g).length, .int .i64 0]) (fun V=>V.OK 1 (eqL f g).length (nS (eqL f g))) (fun V=>[V.bx 25 (nS (eqL f g))]):=by
 refine Ab (args:=[frV f,frV g]) Tryz.func43 I I I ?_
 refine zA (zB ?_)
 (refine At rfl rfl rfl rfl ?_;intro)
 (refine At rfl rfl rfl rfl ?_;intro)
 refine wP I (wP I (Aa ?_))
 rename_i b2 b3
 refine zE (zA (zA (zB (wB 0 I I I (wC I I (fun W hp=>CG f hf W (hv.hp hp) (ht.hp hp)) (wP I (wP I (wB 1 I I I (wC I I (fun W hp=>CG g hg W (hv.hp hp) (ht.hp hp)) (wP I (wP I (Aa (zE ?_)))))))))))))
 refine zS I (zI (zE (zA (zA (zB (wP I (wB 0 I I I (wP I (wB 1 I I I ?_)))))))))
 refine Fe Tryz.underlying4 I I I I I I ?_
 refine wU 24 false I (by rw[hax];simp) (Aa (zE (zS I (zI (zE (zA (zB ?_)))))))
 (refine Af Tryz.hZ rfl rfl rfl rfl ?_;intro)
 refine Aa ?_
 rename_i b6
 refine zE (zA (zA (zB (wB 0 I I I (wB 1 I I I ?_)))))
 refine wD (X:=Nat×Nat) I I (fun W _=>Ja f g W) ?_
 rintro⟨c1,c2⟩ _
 refine Ge ?_
 refine Aa (zE (zH ?_))
 refine JO (X:=Nat×Vec) (fun x=>[frB b2 f,frB b3 g,⟨b6,31,[x.2.val (fl f g x.1).length],true,none⟩,frB c1 f,frB c2 g,x.2.bx 25 (nS (fl f g x.1))])
  (fun j x=>x.1=j∧x.2.OK 1 (fl f g x.1).length (nS (fl f g x.1))) (fun _ _=>False) (0,Vec.empty) rfl (by kernel_rfl) (Oi f g hf hg hz c1 c2) (fun _=>rfl)
  ⟨rfl,Vec.OK.empty 1⟩ [] rfl (fun k x W _ hp=>⟨A0.of_bx hp 3 rfl rfl,A0.of_bx hp 4 rfl rfl,hv.hp hp,ht.hp hp⟩) ?_ ?_ (fun _ _ _ _ _ h=>h.elim)
 ·rintro j' ⟨j,V⟩ d L rec hj ⟨e1,hV⟩ hrec
  obtain rfl:j=j':=e1
  have hV:V.OK 1 (fl f g j).length (nS (fl f g j)):=hV
  have hn:=O5 f g (j+1)
  have hfl:=Qp f g hj
  have htm:(AL f g).getD j 0∈AL f g:=by rw[List.getD_eq_getElem?_getD,List.getElem?_eq_getElem hj];exact List.getElem_mem hj
  obtain⟨t,hte⟩: ∃t,t=(AL f g).getD j 0:=⟨_,rfl⟩
  have henc:Mf (AL f g) j=[str (Ac t)]:=by rw[hte]
  rw[←hte] at hfl htm
  rw[henc]
  have zt:=hk t htm
  refine zB (wP I (Aa ?_))
  refine E4 7 hrec I ?_
  refine BO (zA (zB (wB 0 I I I (wP I (wC I I (fun W hp=>El f hf t k zt hk2 W (hv.hp hp) (ht.hp hp)) ?_)))))
  iterate 5 refine wP I ?_
  refine Aa (zE (zA (zB (wB 1 I I I (wP I (wC I I (fun W hp=>El g hg t k zt hk2 W (hv.hp hp) (ht.hp hp)) ?_))))))
  iterate 5 refine wP I ?_
  refine Aa (Av (An ?_))
  refine Au (X:=Unit) (fun _=>[(2,Aw b2),(3,Aw b3),(6,Aw b6),(7,str (Ac t)),(57, .bool (FQ f g t))]) (fun _=>[frB b2 f,frB b3 g,⟨b6,31,[V.val (fl f g j).length],true,none⟩,frB c1 f,frB c2 g,V.bx 25 (nS (fl f g j)),CM d,BD L rec .busy none]) (fun _=>True) ?_ ?_
  ·refine zU (qB 0 I I I (qP I (qC I I (fun W hp=>CW f hf t a b k ha hb zt hk1 W (hv.hp hp) (ht.hp hp)) (qB 1 I I I (qP I (qC I I (fun W hp=>CW g hg t a b k ha' hb' zt hk1 W (hv.hp hp) (ht.hp hp)) (qP I ?_)))))))
   by_cases h1:f.at t=g.at t
   ·refine qU 47 true I ((A6 _ _).trans (dT (CH.2 h1))) (qP I (qP I (qP I (qP I ?_))))
    by_cases h2:f.velB t=g.velB t
    ·refine qU 51 false I (by show(!_)=false;rw[A6,dT (CH.2 h2)];rfl) (qP I (qP I (qP I (qP I ?_))))
     by_cases h3:f.velA t=g.velA t
     ·have e:FQ f g t=false:=by simp[FQ,h2,h3]
      exact qU 55 false I (by show(!_)=false;rw[A6,dT (CH.2 h3)];rfl) (qP I (qP I (A9 (Aa (Ae () O ⟨I,I,I,I,by rw[e];rfl,O⟩ [] I)))))
     ·have e:FQ f g t=true:=by simp[FQ,h1,h3]
      exact qU 55 true I (by show(!_)=true;rw[A6,dF fun e=>h3 (CH.1 e)];rfl) (qP I (qP I (A9 (Aa (Ae () O ⟨I,I,I,I,by rw[e];rfl,O⟩ [] I)))))
    ·have e:FQ f g t=true:=by simp[FQ,h1,h2]
     refine qU 51 true I (by show(!_)=true;rw[A6,dF fun e=>h2 (CH.1 e)];rfl) (qP I ?_)
     iterate 3 refine FM I I ?_
     exact qP I (qP I (A9 (Aa (Ae () O ⟨I,I,I,I,by rw[e];rfl,O⟩ [] I))))
   ·have e:FQ f g t=false:=by simp[FQ,h1]
    refine qU 47 false I ((A6 _ _).trans (dF fun e=>h1 (CH.1 e))) (qP I ?_)
    iterate 8 refine FM I I ?_
    exact qP I (A9 (Aa (Ae () O ⟨I,I,I,I,by rw[e];rfl,O⟩ [] I)))
  ·intro _ _
   refine Aj I (fun hc=> ?_) (fun hc=> ?_)
   ·have hc:FQ f g t=true:=hc
    rw[if_pos hc] at hfl
    refine zB (wB 2 I I I (wP I ?_))
    (refine Az Tryz.hZ tH rfl rfl rfl rfl rfl rfl rfl rfl rfl rfl rfl ?_;intro)
    refine C5 (V:=V) (len:=(fl f g j).length) (xs:=nS (fl f g j)) 5 8 Tryz.vec31 (fl f g (j+1)).length (nS (fl f g (j+1))) I I I I I I I I I I I hV I I (by rw[hfl];simp) (by rw[hfl];simp[nS];rfl) (by simp only[maxLen];omega) (by omega) I ?_
    intro gV cV jV hV1
    exact wS 2 I I I (Aa (zN (Du 7 (j+1,⟨some gV,cV,jV⟩) hrec I ⟨I,hV1⟩ [_] I)))
   ·have hc:FQ f g t=false:=hc
    rw[if_neg (by rw[hc];decide)] at hfl
    exact zI (zN (Du 7 (j+1,V) hrec I ⟨I,by show V.OK 1 (fl f g (j+1)).length (nS (fl f g (j+1)));rw[hfl];exact hV⟩ [] (by show _=[frB b2 f,frB b3 g,(⟨b6,31,[V.val (fl f g (j+1)).length],true,none⟩:Bx),frB c1 f,frB c2 g,V.bx 25 (nS (fl f g (j+1))),CM d,BD L rec .ready none]++[];rw[hfl];rfl)))
 ·rintro⟨j,V⟩ d L rec ⟨e1,hV⟩
  obtain rfl:j=(AL f g).length:=e1
  have hV:V.OK 1 (fl f g (AL f g).length).length (nS (fl f g (AL f g).length)):=hV
  have hn:=O5 f g (AL f g).length
  have hsl:=JF (fl f g (AL f g).length)
  have heq:eqL f g=AM (Bd (fl f g (AL f g).length)):=by rw[eqL,fl,List.take_length]
  refine zN (zE (zA (zB (wB 2 I I I ?_))))
  refine OR 5 76 QE hv ht (V:=V) (l:=fl f g (AL f g).length) (len:=(fl f g (AL f g).length).length) I I I I I I I I hV (by omega) (fun p hp q hq=>hs p (OW hp) q (OW hq)) ?_
  refine Aa (zE (zA (zB (wB 2 I I I ?_))))
  refine Pp 5 (V:=V) (l:=Bd (fl f g (AL f g).length)) (len:=(fl f g (AL f g).length).length) I I I I I I I hsl.symm ⟨by rw[←hsl];simp[nS],hV.nil,fun h=>by
   have h2:=hV.cap h
   refine⟨h2.1,h2.2.1, ?_⟩
   have h3:=h2.2.2
   rw[List.length_map] at h3⊢
   rw[hsl]
   exact h3⟩ (by omega) ?_
  intro V2 hV2
  rw[←heq] at hV2⊢
  refine wP I (wP I (Aa (zE (zO ?_))))
  refine EH 6 I ?_
  exact AA tH I (.tmp I) (.tmp I) V2 I hV2 fun W hp=>As.of_hp1 hp 5 I
-- BOXES 4
structure FrP.Sm (f:FrP):Prop where
 ok:f.OK
 sp:szQ f.sp 1
 st:szQ f.st 3
theorem FrP.Sm.vz {f:FrP} (h:f.Sm):szQ f.vel 2:=h.ok.hdz.mul h.sp
theorem La {f g:FrP} (hf:f.Sm) (hg:g.Sm):OI f g∧ ∀t∈AL f g,szQ t 28:=by
 have zg:szQ (CR f g) 11:=hg.ok.posz.sub hf.ok.posz
 have zm1:=hf.vz.mul hf.st
 have zm2:=hg.vz.mul hg.st
 have zs:=zm1.sub zm2
 have za:=zg.add zs
 have zw:=hf.vz.sub hg.vz
 have w0:f.vel≠g.vel→(f.vel-g.vel).num≠0:=fun h=>EW (by grind)
 refine⟨⟨fun _=>sz2 zg hf.vz (by decide),fun h=>sz2 hf.st (zg.div hf.vz (EW h)) (by decide),fun _=>sz2 zg hg.vz (by decide),fun h=>sz2 hg.st (zg.div hg.vz (EW h)) (by decide),
  sz2 hf.vz hf.st (by decide),sz2 hg.vz hg.st (by decide),sz2 zm1 zm2 (by decide),sz2 zg zs (by decide),sz2 hf.vz hg.vz (by decide),fun _=>sz2 za zw (by decide)⟩,fun t ht=> ?_⟩
 rcases Oc.1 ht with h|h|⟨h0,h⟩|⟨h0,h⟩|⟨h0,h⟩<;>rw[h]
 ·exact hf.st.mono (by decide)
 ·exact hg.st.mono (by decide)
 ·exact(hf.st.add (zg.div hf.vz (EW h0))).mono (by decide)
 ·exact(hg.st.sub (zg.div hg.vz (EW h0))).mono (by decide)
 ·exact(za.div zw (w0 h0)).mono (by decide)
theorem Jw (f g:FrP) (hf:f.Sm) (hg:g.Sm) (hax:f.ax=g.ax) (W:World) (hv:AV W) (ht:A3 W):
  Ad Tryz.prog 43 #[frV f,frV g] W (fun V:Vec=> .tuple #[V.val (eqL f g).length, .int .i64 0]) (fun V=>V.OK 1 (eqL f g).length (nS (eqL f g))) (fun V=>[V.bx 25 (nS (eqL f g))]):=by
 obtain⟨hz,hm⟩:=La hf hg
 exact Kh f g hf.ok hg.ok hax hz (fun p hp q hq=>sz2 (hm p hp) (hm q hq) (by decide)) 1 3 28 hf.sp hf.st hg.sp hg.st hm (by decide) (by decide) W hv ht
-- BOXES 4
def FrP.gets (f:FrP) (x:Rat):Bool:=decide (f.sp≠0)&&decide (0≤f.way x)
def FrP.level (f:FrP) (x:Rat):Value:=if f.gets x=true then .tuple #[str (Ac (f.st+f.way x/f.sp)), .int .i64 0] else .tuple #[str [], .int .i64 6]
theorem KR (p:Rat) (hz:Sz2 p 0) (W:World) (hv:AV W) (ht:A3 W):Ad Tryz.prog 76 #[str (Ac p),str [48]] W (fun _:Unit=> .int .i64 (GR p 0)) (fun _=>True) (fun _=>[]):=by
 have h:=B0 p 0 hz W hv ht
 rwa [DA] at h
theorem GK (f:FrP) (h:f.OK) (x:Rat) (a b k:Nat) (ha:szQ f.sp a) (hb:szQ f.st b) (hz:szQ x k) (hk:k≤36) (hk2:a+b+k+9≤300) (W:World) (hv:AV W) (ht:A3 W):
  Ad Tryz.prog 30 #[frV f,str (Ac x)] W (fun _:Unit=>f.level x) (fun _=>True) (fun _=>[]):=by
 have z1:=sz2 hz h.posz (by omega)
 have z2:=hz.sub h.posz
 have z3:=sz2 h.hdz z2 (by omega)
 have z4:szQ (f.way x) (1+(k+5+1)):=h.hdz.mul z2
 have z0:szQ (0:Rat) 1:=HM (z:=0) (by decide) (by decide)
 have z5:=sz2 z4 z0 (by omega)
 have z6:=sz2 z4 ha (by omega)
 refine Ab (args:=[frV f,str (Ac x)]) Tryz.func30 I I I ?_
 refine zA (zB ?_)
 (refine At rfl rfl rfl rfl ?_;intro)
 refine wP I (wP I (Aa ?_))
 rename_i b2
 refine zE (zA (zA (zB (wB 0 I I I (wP I ?_)))))
 refine Az Tryz.hZ tH I I I I I I I I I I I fun bS=> ?_
 refine wC I I (fun W hp=>EN f h x (hz.mono hk) bS W (hv.hp hp) (ht.hp hp) (A0.of_bx hp 1 I I)) (wP I (Aa (zE (zA (zB (wP I (wP I (Aa (zE (zS I (zI (zE (zA ?_)))))))))))))
 refine zU (qP I (qB 0 I I I (qC I I (fun W hp=>Bf f.hd h.hd64 W (ht.hp hp)) (qP I (qP I (qB 0 I I I (qC I I (fun W hp=>Bf f.pos h.pos64 W (ht.hp hp)) (qC I I (fun W hp=>BP x (f.pos:Rat) z1 W (hv.hp hp) (ht.hp hp)) (qC I I (fun W hp=>Cy (f.hd:Rat) (x-(f.pos:Rat)) z3 W (hv.hp hp) (ht.hp hp)) (qP I (A9 (Aa (zE ?_)))))))))))))
 refine zA (zA (zB (wP I (wB 0 I I I (wP I ?_)))))
 by_cases c1:f.sp=0
 ·have e:f.level x= .tuple #[str [], .int .i64 6]:=if_neg (by simp[FrP.gets,c1])
  refine wU 26 true I ((A6 _ _).trans (dT (by rw[c1,DA]))) (wP I ?_)
  iterate 3 refine Ag I I ?_
  exact wP I (Aa (zE (zR I (zA (zB (wP I (wP I (Aa (zE (zO (zP (wR2 I I e.symm))))))))))))
 ·refine wU 26 false I ((A6 _ _).trans ((DO f.sp).trans (dF c1))) (wP I (wP I (wC I I (fun W hp=>KR (f.way x) z5 W (hv.hp hp) (ht.hp hp)) (wP I (wU 30 (decide (f.way x<0)) I (Dj (f.way x) 0) ?_)))))
  by_cases c2:f.way x<0
  ·have e:f.level x= .tuple #[str [], .int .i64 6]:=if_neg (by simp[FrP.gets,Rat.not_le.2 c2])
   exact wU 30 true I (dT c2) (wP I (Aa (zE (zR I (zA (zB (wP I (wP I (Aa (zE (zO (zP (wR2 I I e.symm)))))))))))))
  ·have e:f.level x= .tuple #[str (Ac (f.st+f.way x/f.sp)), .int .i64 0]:=if_pos (by simp[FrP.gets,c1,Rat.not_lt.1 c2])
   have z7:=z4.div ha (EW c1)
   have z8:=sz2 hb z7 (by omega)
   refine wU 30 false I (dF c2) (wP I (Aa (zE (zS I (zI (zE (zA (zU (qP I (qB 0 I I I (qP I (qP I (qB 0 I I I ?_)))))))))))))
   exact qC I I (fun W hp=>DY (f.way x) f.sp z6 (EW c1) W (hv.hp hp) (ht.hp hp)) (qC I I (fun W hp=>EK f.st (f.way x/f.sp) z8 W (hv.hp hp) (ht.hp hp)) (qP I (qP I (A9 (Aa (zE (zO (wR2 I I e.symm))))))))
-- BOXES 5
abbrev ptV (x y:Rat):Value:= .agg #[str (Ac x),str (Ac y)]
theorem Jy (f:FrP) (h:f.OK) (p q:Rat) (hp:szQ p 36) (hq:szQ q 36) (b:Nat) (W:World) (hv:AV W) (ht:A3 W) (hrow:A0 W b 0 [str (Ac p),str (Ac q)]):
  Ad Tryz.prog 69 #[frV f, .slice (some ⟨b,0,none⟩) 2 2] W (fun _:Unit=> .int .i64 0) (fun _=>True) (fun _=>[]):=by
 refine Ab (args:=[frV f, .slice (some ⟨b,0,none⟩) 2 2]) Tryz.func69 I I I ?_
 refine zA (zB ?_)
 (refine At rfl rfl rfl rfl ?_;intro)
 refine wP I (Aa ?_)
 rename_i b2
 refine zE (zA (zA (zB (wB 0 I I I (wC I I (fun W hp=>CG f h W (hv.hp hp) (ht.hp hp)) (wP I (Aa (zE (zS I (zI (zE (zA (zA ?_)))))))))))))
 refine zB (wP I (wP I (wP I (Aa (Av ?_)))))
 refine Au (X:=Unit) (fun _=>[(4, .int .i64 0)]) (fun _=>[]) (fun _=>True) ?_ ?_
 ·refine BO ?_
  refine A5 (X:=Nat) (fun i=>[(4, .int .i64 0),(11, .slice (some ⟨b,0,none⟩) 2 2),(12, .int .i64 2),(13, .int .i64 (i:Nat))]) (fun _=>[]) (fun i=>i≤2) (fun i=>2-i) 0 (Nat.zero_le _) ⟨I,I,I,I,O⟩ _ I ?_
  intro i hi
  have hi:i=0∨i=1∨i=2:=by have:i≤2:=hi;omega
  rcases hi with rfl|rfl|rfl
  ·refine zA (zB (wP I (Aa (zE (zA (zR I (zI (zE (zA (zH (zA (zB ?_))))))))))))
   refine wJ ?_
   refine wL 0 I I (fun W hp=>hrow.hp hp) I (wP I (Aa (zE (zA (zB (wP I (wC I I (fun W h=>Cn p hp W (hv.hp h) (ht.hp h)) (wP I (Aa (zE (zA (zB (wP I (wP I ?_))))))))))))))
   exact Aa (zE (zS I (zI (zN (zE (zB (wP I (wP I (Aa (Ax 1 (by decide) (by decide) ⟨I,I,I,I,O⟩ [] I))))))))))
  ·refine zA (zB (wP I (Aa (zE (zA (zR I (zI (zE (zA (zH (zA (zB ?_))))))))))))
   refine wJ ?_
   refine wL 1 I I (fun W hp=>hrow.hp hp) I (wP I (Aa (zE (zA (zB (wP I (wC I I (fun W h=>Cn q hq W (hv.hp h) (ht.hp h)) (wP I (Aa (zE (zA (zB (wP I (wP I ?_))))))))))))))
   exact Aa (zE (zS I (zI (zN (zE (zB (wP I (wP I (Aa (Ax 2 (by decide) (by decide) ⟨I,I,I,I,O⟩ [] I))))))))))
  ·exact zA (zB (wP I (Aa (zE (zA (zS I (zJ (zK (zK (zL (Ae () O ⟨I,O⟩ _ I)))))))))))
 ·intro _ _
  exact zA (zB (wP I (Aa (zE (zO (wR1 I I I))))))
theorem Li (f:FrP) (h:f.OK) (x y:Rat) (hx:szQ x 36) (hy:szQ y 36) (W:World) (hv:AV W) (ht:A3 W):
  Ad Tryz.prog 34 #[frV f,ptV x y] W (fun _:Unit=> .tuple #[str (Ac (f.way (if f.ax then x else y))), .int .i64 0]) (fun _=>True) (fun _=>[]):=by
 obtain⟨u,hu⟩: ∃u,u=(if f.ax then x else y):=⟨_,rfl⟩
 have zu:szQ u 36:=by rw[hu];split<;>assumption
 have z1:=sz2 zu h.posz (by decide)
 have z2:=zu.sub h.posz
 have z3:=sz2 h.hdz z2 (by decide)
 rw[←hu]
 refine Ab (args:=[frV f,ptV x y]) Tryz.func34 I I I ?_
 refine zA (zB ?_)
 (refine At rfl rfl rfl rfl ?_;intro)
 (refine At rfl rfl rfl rfl ?_;intro)
 refine wP I (wP I (Aa ?_))
 rename_i b2 b3
 refine zE (zA (zA (zB (wB 0 I I I (wP I (wB 1 I I I (wP I (wB 1 I I I ?_))))))))
 refine Az Tryz.hZ tH I I I I I I I I I I I fun bS=> ?_
 refine wC I I (fun W hp=>Jy f h x y hx hy bS W (hv.hp hp) (ht.hp hp) (A0.of_bx hp 2 I I)) (wP I (Aa (zE (zA (zB (wP I (wP I (Aa (zE (zS I (zI (zE (zA ?_)))))))))))))
 refine zB (wP I (wB 1 I I I (wP I (Aa (zE (zA (zA (zB (wP I (wB 0 I I I (Aa (Av ?_))))))))))))
 try refine An ?_
 refine Au (X:=Unit) (fun _=>[(2,Aw b2),(7,str (Ac u))]) (fun _=>[frB b2 f,⟨b3,50,(ptV x y).cells.toList,true,none⟩]) (fun _=>True) ?_ ?_
 ·refine Aj I (fun hax=> ?_) (fun hax=> ?_)
  ·have hax:f.ax=true:=hax
   exact zB (wP I (wB 1 I I I (wP I (Aa (Ae () O ⟨I,by rw[hu,if_pos hax];rfl,O⟩ [_] I)))))
  ·have hax:f.ax=false:=hax
   exact zI (Ae () O ⟨I,by rw[hu,if_neg (by rw[hax];decide)];rfl,O⟩ [_] I)
 intro _ _
 refine zA (zU (qP I (qB 0 I I I (qC I I (fun W hp=>Bf f.hd h.hd64 W (ht.hp hp)) (qP I (qP I (qB 0 I I I (qC I I (fun W hp=>Bf f.pos h.pos64 W (ht.hp hp)) (qC I I (fun W hp=>BP u (f.pos:Rat) z1 W (hv.hp hp) (ht.hp hp)) (qC I I (fun W hp=>Cy (f.hd:Rat) (u-(f.pos:Rat)) z3 W (hv.hp hp) (ht.hp hp)) (qP I (qP I (A9 ?_)))))))))))))
 exact Aa (zE (zO (wR2 I I I)))
-- BOXES 4
-- CODE2
def Fu (f:FrW) (a c:List UInt8):Int:=if fcE f≠0 then 1 else if B5 a≠0 then B5 a else B5 c
abbrev ptW (a c:List UInt8):Value:= .agg #[str a,str c]
theorem DR (f:FrW) (l1:f.sp.length≤4000000000) (l2:f.st.length≤4000000000) (a:List UInt8) (hl:a.length≤4000000000) (b:Nat) (W:World) (hv:AV W) (ht:A3 W) (hrow:A0 W b 0 [str a]):
  Ad Tryz.prog 69 #[fwV f, .slice (some ⟨b,0,none⟩) 1 1] W (fun _:Unit=> .int .i64 (stE f a)) (fun _=>True) (fun _=>[]):=by
 refine Ab (args:=[fwV f, .slice (some ⟨b,0,none⟩) 1 1]) Tryz.func69 I I I ?_
 refine zA (zB ?_)
 (refine At rfl rfl rfl rfl ?_;intro)
 refine wP I (Aa ?_)
 rename_i b2
 refine zE (zA (zA (zB (wB 0 I I I (wC I I (fun W1 hp=>Db f l1 l2 W1 (hv.hp hp) (ht.hp hp)) (wP I ?_))))))
 by_cases hf:fcE f=0
 rotate_left
 ·exact wU 10 true I (bne_iff_ne.2 hf) (Aa (zE (zR I (zA (zB (wP I (Aa (zE (zO (zP (wR1 I I (by unfold stE;rw[if_pos hf]))))))))))))
 have hres:stE f a=B5 a:=by unfold stE;rw[if_neg (fun h=>h hf)]
 rw[hres]
 refine wU 10 false I (bne_eq_false_iff_eq.2 hf) (Aa (zE (zS I (zI (zE (zA (zA (zB (wP I (wP I (wP I (Aa (zE ?_)))))))))))))
 refine zH ?_
 refine A5 (X:=Nat) (fun i=>[(11, .slice (some ⟨b,0,none⟩) 1 1),(12, .int .i64 1),(13, .int .i64 (i:Nat))]) (fun _=>[]) (fun i=>i≤1∧(0<i→B5 a=0)) (fun i=>1-i) 0 ⟨Nat.zero_le _,fun h=>absurd h (by decide)⟩ ⟨I,I,I,O⟩ _ I ?_
 rintro i hi
 obtain⟨hi,h1⟩:=hi
 have hi:i=0∨i=1:=by have:i≤1:=hi;omega
 rcases hi with rfl|rfl
 ·refine zA (zB (wP I (Aa (zE (zA (zR I (zI (zE (zA (zH (zA (zB ?_))))))))))))
  refine wJ ?_
  refine wL 0 I I (fun W1 hp=>hrow.hp hp) I (wP I (Aa (zE (zA (zB (wP I (wC I I (fun W1 hp=>BX a hl W1 (hv.hp hp) (ht.hp hp)) (wP I (Aa (zE (zA (zB (wP I (wP I ?_))))))))))))))
  by_cases he:B5 a=0
  rotate_left
  ·refine wU 20 true I (bne_iff_ne.2 he) (Aa (zE (zR I (zA (zB (wP I (wP I (Aa (zE (zO (zQ (zP (zP ?_)))))))))))))
   exact zQ (zP (wR1 I I (I)))
  exact wU 20 false I (bne_eq_false_iff_eq.2 he) (Aa (zE (zS I (zI (zN (zE (zB (wP I (wP I (Aa (Ax 1 ⟨by decide,fun _=>he⟩ (by decide) ⟨I,I,I,O⟩ [] I)))))))))))
 ·refine zA (zB (wP I (Aa (zE (zA (zS I (zJ (zK (zK (zL (zE (zA (zB ?_)))))))))))))
  exact wP I (Aa (zE (zO (wR1 I I (by rw[h1 (by decide)])))))
theorem I7 (f:FrW) (l1:f.sp.length≤4000000000) (l2:f.st.length≤4000000000) (a c:List UInt8) (hl:a.length≤4000000000) (hl2:c.length≤4000000000) (b:Nat) (W:World) (hv:AV W) (ht:A3 W) (hrow:A0 W b 0 [str a,str c]):
  Ad Tryz.prog 69 #[fwV f, .slice (some ⟨b,0,none⟩) 2 2] W (fun _:Unit=> .int .i64 (Fu f a c)) (fun _=>True) (fun _=>[]):=by
 refine Ab (args:=[fwV f, .slice (some ⟨b,0,none⟩) 2 2]) Tryz.func69 I I I ?_
 refine zA (zB ?_)
 (refine At rfl rfl rfl rfl ?_;intro)
 refine wP I (Aa ?_)
 rename_i b2
 refine zE (zA (zA (zB (wB 0 I I I (wC I I (fun W1 hp=>Db f l1 l2 W1 (hv.hp hp) (ht.hp hp)) (wP I ?_))))))
 by_cases hf:fcE f=0
 rotate_left
 ·exact wU 10 true I (bne_iff_ne.2 hf) (Aa (zE (zR I (zA (zB (wP I (Aa (zE (zO (zP (wR1 I I (by unfold Fu;rw[if_pos hf]))))))))))))
 have hres:Fu f a c=if B5 a≠0 then B5 a else B5 c:=by unfold Fu;rw[if_neg (fun h=>h hf)]
 rw[hres]
 refine wU 10 false I (bne_eq_false_iff_eq.2 hf) (Aa (zE (zS I (zI (zE (zA (zA (zB (wP I (wP I (wP I (Aa (zE ?_)))))))))))))
 refine zH ?_
 refine A5 (X:=Nat) (fun i=>[(11, .slice (some ⟨b,0,none⟩) 2 2),(12, .int .i64 2),(13, .int .i64 (i:Nat))]) (fun _=>[]) (fun i=>i≤2∧(0<i→B5 a=0)∧(1<i→B5 c=0)) (fun i=>2-i) 0 ⟨Nat.zero_le _,fun h=>absurd h (by decide),fun h=>absurd h (by decide)⟩ ⟨I,I,I,O⟩ _ I ?_
 rintro i hi
 obtain⟨hi,h1,h2⟩:=hi
 have hi:i=0∨i=1∨i=2:=by have:i≤2:=hi;omega
 rcases hi with rfl|rfl|rfl
 ·refine zA (zB (wP I (Aa (zE (zA (zR I (zI (zE (zA (zH (zA (zB ?_))))))))))))
  refine wJ ?_
  refine wL 0 I I (fun W1 hp=>hrow.hp hp) I (wP I (Aa (zE (zA (zB (wP I (wC I I (fun W1 hp=>BX a hl W1 (hv.hp hp) (ht.hp hp)) (wP I (Aa (zE (zA (zB (wP I (wP I ?_))))))))))))))
  by_cases he:B5 a=0
  rotate_left
  ·refine wU 20 true I (bne_iff_ne.2 he) (Aa (zE (zR I (zA (zB (wP I (wP I (Aa (zE (zO (zQ (zP (zP ?_)))))))))))))
   exact zQ (zP (wR1 I I (by rw[if_pos he])))
  exact wU 20 false I (bne_eq_false_iff_eq.2 he) (Aa (zE (zS I (zI (zN (zE (zB (wP I (wP I (Aa (Ax 1 ⟨by decide,fun _=>he,fun h=>absurd h (by decide)⟩ (by decide) ⟨I,I,I,O⟩ [] I)))))))))))
 ·refine zA (zB (wP I (Aa (zE (zA (zR I (zI (zE (zA (zH (zA (zB ?_))))))))))))
  refine wJ ?_
  refine wL 1 I I (fun W1 hp=>hrow.hp hp) I (wP I (Aa (zE (zA (zB (wP I (wC I I (fun W1 hp=>BX c hl2 W1 (hv.hp hp) (ht.hp hp)) (wP I (Aa (zE (zA (zB (wP I (wP I ?_))))))))))))))
  by_cases he:B5 c=0
  rotate_left
  ·refine wU 20 true I (bne_iff_ne.2 he) (Aa (zE (zR I (zA (zB (wP I (wP I (Aa (zE (zO (zQ (zP (zP ?_)))))))))))))
   exact zQ (zP (wR1 I I (by rw[if_neg (fun h=>h (h1 (by decide)))])))
  exact wU 20 false I (bne_eq_false_iff_eq.2 he) (Aa (zE (zS I (zI (zN (zE (zB (wP I (wP I (Aa (Ax 2 ⟨by decide,fun _=>h1 (by decide),fun _=>he⟩ (by decide) ⟨I,I,I,O⟩ [] I)))))))))))
 ·refine zA (zB (wP I (Aa (zE (zA (zS I (zJ (zK (zK (zL (zE (zA (zB ?_)))))))))))))
  exact wP I (Aa (zE (zO (wR1 I I (by rw[if_neg (fun h=>h (h1 (by decide))),h2 (by decide)])))))
theorem Pl (f:FrW) (l1:f.sp.length≤4000000000) (l2:f.st.length≤4000000000) (a:List UInt8) (hl:a.length≤4000000000) (he:stE f a≠0) (W:World) (hv:AV W) (ht:A3 W):
  Ad Tryz.prog 28 #[fwV f,str a] W (fun _:Unit=> .tuple #[str [], .int .i64 (stE f a)]) (fun _=>True) (fun _=>[]):=by
 refine Ab (args:=[fwV f,str a]) Tryz.func28 I I I ?_
 refine zA (zB ?_)
 (refine At rfl rfl rfl rfl ?_;intro)
 refine wP I (wP I (Aa (zE (zA (zA (zB (wB 0 I I I (wP I ?_))))))))
 refine Az Tryz.hZ tH I I I I I I I I I I I fun bS=> ?_
 refine wC I I (fun W1 hp=>DR f l1 l2 a hl bS W1 (hv.hp hp) (ht.hp hp) (A0.of_bx hp 1 I I)) (wP I (Aa (zE (zA (zB (wP I (wP I (wU 12 true I (bne_iff_ne.2 he) (Aa (zE (zR I (zA (zB ?_)))))))))))))
 exact wP I (wP I (wP I (Aa (zE (zO (zP (wR2 I I I)))))))
theorem Mq (f:FrW) (l1:f.sp.length≤4000000000) (l2:f.st.length≤4000000000) (a:List UInt8) (hl:a.length≤4000000000) (he:stE f a≠0) (W:World) (hv:AV W) (ht:A3 W):
  Ad Tryz.prog 30 #[fwV f,str a] W (fun _:Unit=> .tuple #[str [], .int .i64 (stE f a)]) (fun _=>True) (fun _=>[]):=by
 refine Ab (args:=[fwV f,str a]) Tryz.func30 I I I ?_
 refine zA (zB ?_)
 (refine At rfl rfl rfl rfl ?_;intro)
 refine wP I (wP I (Aa (zE (zA (zA (zB (wB 0 I I I (wP I ?_))))))))
 refine Az Tryz.hZ tH I I I I I I I I I I I fun bS=> ?_
 refine wC I I (fun W1 hp=>DR f l1 l2 a hl bS W1 (hv.hp hp) (ht.hp hp) (A0.of_bx hp 1 I I)) (wP I (Aa (zE (zA (zB (wP I (wP I (wU 13 true I (bne_iff_ne.2 he) (Aa (zE (zR I (zA (zB ?_)))))))))))))
 exact wP I (wP I (wP I (Aa (zE (zO (zP (wR2 I I I)))))))
theorem Ms (f:FrW) (l1:f.sp.length≤4000000000) (l2:f.st.length≤4000000000) (a:List UInt8) (hl:a.length≤4000000000) (he:stE f a≠0) (W:World) (hv:AV W) (ht:A3 W):
  Ad Tryz.prog 32 #[fwV f,str a] W (fun _:Unit=> .tuple #[str [], .int .i64 (stE f a)]) (fun _=>True) (fun _=>[]):=by
 refine Ab (args:=[fwV f,str a]) Tryz.func32 I I I ?_
 refine zA (zB ?_)
 (refine At rfl rfl rfl rfl ?_;intro)
 refine wP I (wP I (Aa (zE (zA (zA (zB (wB 0 I I I (wP I ?_))))))))
 refine Az Tryz.hZ tH I I I I I I I I I I I fun bS=> ?_
 refine wC I I (fun W1 hp=>DR f l1 l2 a hl bS W1 (hv.hp hp) (ht.hp hp) (A0.of_bx hp 1 I I)) (wP I (Aa (zE (zA (zB (wP I (wP I (wU 12 true I (bne_iff_ne.2 he) (Aa (zE (zR I (zA (zB ?_)))))))))))))
 exact wP I (wP I (wP I (Aa (zE (zO (zP (wR2 I I I)))))))
theorem Pu (f:FrW) (l1:f.sp.length≤4000000000) (l2:f.st.length≤4000000000) (a:List UInt8) (hl:a.length≤4000000000) (he:stE f a≠0) (W:World) (ht:A3 W):
  Ad Tryz.prog 29 #[fwV f,str a] W (fun _:Unit=> .tuple #[str [], .int .i64 (stE f a)]) (fun _=>True) (fun _=>[]):=by
 refine Ab (args:=[fwV f,str a]) Tryz.func29 I I I ?_
 refine zA (zB ?_)
 (refine At rfl rfl rfl rfl ?_;intro)
 refine wP I (wP I (Aa (zE (zA (zA (zB (wB 0 I I I (wP I (wC I I (fun W1 hp=>Dd f l1 l2 a hl W1 (ht.hp hp)) (wP I (Aa (zE (zA ?_)))))))))))))
 refine zB (wP I (wP I (wU 11 true I (bne_iff_ne.2 he) (Aa (zE (zR I (zA (zB (wP I (wP I (wP I (Aa (zE ?_)))))))))))))
 exact zO (zP (wR2 I I I))
theorem MV (f:FrW) (l1:f.sp.length≤4000000000) (l2:f.st.length≤4000000000) (a:List UInt8) (hl:a.length≤4000000000) (he:stE f a≠0) (W:World) (ht:A3 W):
  Ad Tryz.prog 31 #[fwV f,str a] W (fun _:Unit=> .tuple #[str [], .int .i64 (stE f a)]) (fun _=>True) (fun _=>[]):=by
 refine Ab (args:=[fwV f,str a]) Tryz.func31 I I I ?_
 refine zA (zB ?_)
 (refine At rfl rfl rfl rfl ?_;intro)
 refine wP I (wP I (Aa (zE (zA (zA (zB (wB 0 I I I (wP I (wC I I (fun W1 hp=>Dd f l1 l2 a hl W1 (ht.hp hp)) (wP I (Aa (zE (zA ?_)))))))))))))
 refine zB (wP I (wP I (wU 12 true I (bne_iff_ne.2 he) (Aa (zE (zR I (zA (zB (wP I (wP I (wP I (Aa (zE ?_)))))))))))))
 exact zO (zP (wR2 I I I))
theorem MQ (f:FrW) (l1:f.sp.length≤4000000000) (l2:f.st.length≤4000000000) (a:List UInt8) (hl:a.length≤4000000000) (he:stE f a≠0) (W:World) (ht:A3 W):
  Ad Tryz.prog 33 #[fwV f,str a] W (fun _:Unit=> .tuple #[str [], .int .i64 (stE f a)]) (fun _=>True) (fun _=>[]):=by
 refine Ab (args:=[fwV f,str a]) Tryz.func33 I I I ?_
 refine zA (zB ?_)
 (refine At rfl rfl rfl rfl ?_;intro)
 refine wP I (wP I (Aa (zE (zA (zA (zB (wB 0 I I I (wP I (wC I I (fun W1 hp=>Dd f l1 l2 a hl W1 (ht.hp hp)) (wP I (Aa (zE (zA ?_)))))))))))))
 refine zB (wP I (wP I (wU 11 true I (bne_iff_ne.2 he) (Aa (zE (zR I (zA (zB (wP I (wP I (wP I (Aa (zE ?_)))))))))))))
 exact zO (zP (wR2 I I I))
theorem NB (f:FrW) (l1:f.sp.length≤4000000000) (l2:f.st.length≤4000000000) (a c:List UInt8) (hl:a.length≤4000000000) (hl2:c.length≤4000000000) (he:Fu f a c≠0) (W:World) (hv:AV W) (ht:A3 W):
  Ad Tryz.prog 34 #[fwV f,ptW a c] W (fun _:Unit=> .tuple #[str [], .int .i64 (Fu f a c)]) (fun _=>True) (fun _=>[]):=by
 refine Ab (args:=[fwV f,ptW a c]) Tryz.func34 I I I ?_
 refine zA (zB ?_)
 (refine At rfl rfl rfl rfl ?_;intro)
 (refine At rfl rfl rfl rfl ?_;intro)
 refine wP I (wP I (Aa (zE (zA (zA (zB (wB 0 I I I (wP I (wB 1 I I I (wP I (wB 1 I I I ?_)))))))))))
 refine Az Tryz.hZ tH I I I I I I I I I I I fun bS=> ?_
 refine wC I I (fun W1 hp=>I7 f l1 l2 a c hl hl2 bS W1 (hv.hp hp) (ht.hp hp) (A0.of_bx hp 2 I I)) (wP I (Aa (zE (zA (zB (wP I (wP I (wU 16 true I (bne_iff_ne.2 he) (Aa (zE (zR I (zA (zB ?_)))))))))))))
 exact wP I (wP I (wP I (Aa (zE (zO (zP (wR2 I I I)))))))
theorem ND (f:FrW) (l1:f.sp.length≤4000000000) (l2:f.st.length≤4000000000) (a c:List UInt8) (hl:a.length≤4000000000) (hl2:c.length≤4000000000) (he:Fu f a c≠0) (W:World) (ht:A3 W):
  Ad Tryz.prog 35 #[fwV f,ptW a c] W (fun _:Unit=> .tuple #[str [], .int .i64 (Fu f a c)]) (fun _=>True) (fun _=>[]):=by
 refine Ab (args:=[fwV f,ptW a c]) Tryz.func35 I I I ?_
 refine zA (zB ?_)
 (refine At rfl rfl rfl rfl ?_;intro)
 (refine At rfl rfl rfl rfl ?_;intro)
 refine wP I (wP I (Aa (zE (zA (zA (zB (wB 0 I I I (wP I (wB 1 I I I (wC I I (fun W1 hp=>Dd f l1 l2 a hl W1 (ht.hp hp)) (wP I (Aa (zE ?_)))))))))))))
 refine zA (zB (wP I (wP I ?_)))
 by_cases h1:stE f a=0
 rotate_left
 ·have e:Fu f a c=stE f a:=by
   by_cases hf:fcE f=0
   ·have a1:Fu f a c=if B5 a≠0 then B5 a else B5 c:=by unfold Fu;rw[if_neg (fun h=>h hf)]
    have a2:stE f a=B5 a:=by unfold stE;rw[if_neg (fun h=>h hf)]
    rw[a2] at h1
    rw[a1,a2,if_pos h1]
   ·unfold Fu stE
    rw[if_pos hf,if_pos hf]
  exact wU 13 true I (bne_iff_ne.2 h1) (Aa (zE (zR I (zA (zB (wP I (wP I (wP I (Aa (zE (zO (zP (wR2 I I (by rw[e]))))))))))))))
 have e:Fu f a c=B5 c:=by
  unfold stE at h1
  unfold Fu
  by_cases hf:fcE f=0
  ·rw[if_neg (fun h=>h hf)] at h1
   rw[if_neg (fun h=>h hf),if_neg (fun h=>h h1)]
  ·rw[if_pos hf] at h1;exact absurd h1 (by decide)
 rw[e] at he⊢
 refine wU 13 false I (bne_eq_false_iff_eq.2 h1) (Aa (zE (zS I (zI (zE (zA (zA (zB (wP I (wB 1 I I I (wC I I (fun W1 hp=>CZ c hl2 W1 (ht.hp hp)) (wP I (Aa ?_)))))))))))))
 refine zE (zA (zB (wP I (wP I (wU 19 true I (bne_iff_ne.2 he) (Aa (zE (zR I (zA (zB (wP I (wP I (wP I ?_)))))))))))))
 exact Aa (zE (zO (zP (wR2 I I I))))
def Ro (e:Int):Value:= .tuple #[.agg #[str [],str [],str []], .int .i64 e]
theorem MU (f:FrW) (l1:f.sp.length≤4000000000) (l2:f.st.length≤4000000000) (he:fcE f≠0) (W:World) (hv:AV W) (ht:A3 W):
  Ad Tryz.prog 36 #[fwV f] W (fun _:Unit=>Ro 1) (fun _=>True) (fun _=>[]):=by
 refine Ab (args:=[fwV f]) Tryz.func36 I I I ?_
 refine zA (zB ?_)
 (refine At rfl rfl rfl rfl ?_;intro)
 (refine Af Tryz.hZ rfl rfl rfl rfl ?_;intro)
 refine wP I (Aa (zE (zA (zA (zB (wB 0 I I I (wC I I (fun W1 hp=>Db f l1 l2 W1 (hv.hp hp) (ht.hp hp)) (wP I (wU 8 true I (bne_iff_ne.2 he) (Aa (zE (zR I (zA ?_)))))))))))))
 refine zB ?_
 refine Al Tryz.hZ tH I I I I I I I I ?_
 exact wS 1 I I I (wP I (Aa (zE (zO (zP (AA tH I (.cell 1 I I I I I) (.tmp I) () I O fun W _=>As.nil _ _))))))
theorem Mi (f:FrW) (l1:f.sp.length≤4000000000) (l2:f.st.length≤4000000000) (he:fcE f≠0) (W:World) (ht:A3 W):
  Ad Tryz.prog 37 #[fwV f] W (fun _:Unit=>Ro 1) (fun _=>True) (fun _=>[]):=by
 refine Ab (args:=[fwV f]) Tryz.func37 I I I ?_
 refine zA (zB ?_)
 (refine At rfl rfl rfl rfl ?_;intro)
 (refine Af Tryz.hZ rfl rfl rfl rfl ?_;intro)
 refine wP I (Aa (zE (zA (zA (zB (wB 0 I I I (wC I I (fun W1 hp=>DE f l1 l2 W1 (ht.hp hp)) (wP I (wU 8 true I (bne_iff_ne.2 he) (Aa (zE (zR I (zA ?_)))))))))))))
 refine zB ?_
 refine Al Tryz.hZ tH I I I I I I I I ?_
 exact wS 1 I I I (wP I (Aa (zE (zO (zP (AA tH I (.cell 1 I I I I I) (.tmp I) () I O fun W _=>As.nil _ _))))))
theorem QH {f:FrP} (h:f.OK) (x:Rat):f.way x=if f.hd<0 then(f.pos:Rat)-x else x-(f.pos:Rat):=by
 unfold FrP.way
 rcases h.hd with e|e
 ·rw[e,if_neg (by decide),show((1:Int):Rat)=1 from rfl];grind
 ·rw[e,if_pos (by decide),show((-1:Int):Rat)= -1 from rfl];grind
theorem Er (f:FrP) (h:f.OK) (x:Rat) (hx:szQ x 36) (W:World) (ht:A3 W):
  Ad Tryz.prog 79 #[frV f,str (Ac x)] W (fun _:Unit=>str (Ac (f.way x))) (fun _=>True) (fun _=>[]):=by
 have e:=QH h x
 refine Ab (args:=[frV f,str (Ac x)]) Tryz.func79 I I I ?_
 refine zA (zB ?_)
 (refine At rfl rfl rfl rfl ?_;intro)
 refine wP I (Aa (zE (zA (zA (zB (wP I (wB 0 I I I (wP I (Aa (zE ?_))))))))))
 refine Aj I (fun hh=> ?_) (fun hh=> ?_)
 ·have hh:f.hd<0:=of_decide_eq_true hh
  rw[if_pos hh] at e
  exact zA (zB (wP I (wB 0 I I I (wC I I (fun W1 hp=>CU f.pos h.posN W1 (ht.hp hp)) (wP I (wC I I (fun W1 hp=>DJ (f.pos:Rat) x (sz2 h.posz hx (by decide)) W1 (ht.hp hp)) (wP I (Aa (zE (zO (zP (wR1 I I (by rw[e])))))))))))))
 ·have hh: ¬f.hd<0:=of_decide_eq_false hh
  rw[if_neg hh] at e
  exact zI (zE (zA (zB (wP I (wP I (wB 0 I I I (wC I I (fun W1 hp=>CU f.pos h.posN W1 (ht.hp hp)) (wC I I (fun W1 hp=>DJ x (f.pos:Rat) (sz2 hx h.posz (by decide)) W1 (ht.hp hp)) (wP I (Aa (zE (zO (wR1 I I (by rw[e]))))))))))))))
theorem GS (f:FrP) (h:f.OK) (x:Rat) (hz:szQ x 36) (W:World) (ht:A3 W):
  Ad Tryz.prog 31 #[frV f,str (Ac x)] W (fun _:Unit=>f.level x) (fun _=>True) (fun _=>[]):=by
 have hl:=AS (hz.ok (by decide))
 have z4:szQ (f.way x) (1+(36+5+1)):=h.hdz.mul (hz.sub h.posz)
 have z0:szQ (0:Rat) 1:=HM (z:=0) (by decide) (by decide)
 have e0:Ac (0:Rat)=[48]:=Ck.2 rfl
 refine Ab (args:=[frV f,str (Ac x)]) Tryz.func31 I I I ?_
 refine zA (zB ?_)
 (refine At rfl rfl rfl rfl ?_;intro)
 refine wP I (wP I (Aa (zE (zA (zA (zB (wB 0 I I I (wP I (wC I I (fun W1 hp=>(D3 f h (Ac x) (by omega) W1 (ht.hp hp)).cast (v':= .int .i64 0) (by rw[F3 hz])) (wP I (Aa (zE (zA ?_)))))))))))))
 refine zB (wP I (wP I (Aa (zE (zS I (zI (zE (zA (zB (wB 0 I I I (wP I (wC I I (fun W1 hp=>Er f h x hz W1 (ht.hp hp)) (wP I ?_)))))))))))))
 refine Aa (zE (zA (zA (zB (wP I (wB 0 I I I (wP I ?_)))))))
 by_cases c1:f.sp=0
 ·have e:f.level x= .tuple #[str [], .int .i64 6]:=if_neg (by simp[FrP.gets,c1])
  refine wU 19 true I ((A6 _ _).trans ((DO f.sp).trans (dT c1))) (wP I ?_)
  iterate 3 refine Ag I I ?_
  exact wP I (Aa (zE (zR I (zA (zB (wP I (wP I (Aa (zE (zO (zP (wR2 I I e.symm))))))))))))
 refine wU 19 false I ((A6 _ _).trans ((DO f.sp).trans (dF c1))) (wP I (wP I ?_))
 refine wC I I (fun W1 hp=>(by
  have h1:=DD (f.way x) 0 (sz2 z4 z0 (by decide)) W1 (ht.hp hp)
  rw[e0] at h1
  exact h1)) ?_
 refine wP I ?_
 by_cases c2:f.way x<0
 ·have e:f.level x= .tuple #[str [], .int .i64 6]:=if_neg (by simp[FrP.gets,Rat.not_le.2 c2])
  exact wU 23 true I ((Dj (f.way x) 0).trans (dT c2)) (wP I (Aa (zE (zR I (zA (zB (wP I (wP I (Aa (zE (zO (zP (wR2 I I e.symm)))))))))))))
 ·have e:f.level x= .tuple #[str (Ac (f.st+f.way x/f.sp)), .int .i64 0]:=if_pos (by simp[FrP.gets,c1,Rat.not_lt.1 c2])
  have z7:=z4.div h.sp (EW c1)
  refine wU 23 false I ((Dj (f.way x) 0).trans (dF c2)) (wP I (Aa (zE (zS I (zI (zE (zA (zU (qP I (qB 0 I I I (qP I (qP I (qB 0 I I I ?_)))))))))))))
  exact qC I I (fun W1 hp=>Ih (f.way x) f.sp (sz2 z4 h.sp (by decide)) (EW c1) W1 (ht.hp hp)) (qC I I (fun W1 hp=>Ji f.st (f.way x/f.sp) (sz2 h.st z7 (by decide)) W1 (ht.hp hp)) (qP I (qP I (A9 (Aa (zE (zO (wR2 I I e.symm))))))))
theorem Ly (f:FrP) (h:f.OK) (x y:Rat) (hx:szQ x 36) (hy:szQ y 36) (W:World) (ht:A3 W):
  Ad Tryz.prog 35 #[frV f,ptV x y] W (fun _:Unit=> .tuple #[str (Ac (f.way (if f.ax then x else y))), .int .i64 0]) (fun _=>True) (fun _=>[]):=by
 have hl:=AS (hx.ok (by decide))
 have hl2:=AS (hy.ok (by decide))
 refine Ab (args:=[frV f,ptV x y]) Tryz.func35 I I I ?_
 refine zA (zB ?_)
 (refine At rfl rfl rfl rfl ?_;intro)
 (refine At rfl rfl rfl rfl ?_;intro)
 refine wP I (wP I (Aa (zE (zA (zA (zB (wB 0 I I I (wP I (wB 1 I I I (wC I I (fun W1 hp=>(D3 f h (Ac x) (by omega) W1 (ht.hp hp)).cast (v':= .int .i64 0) (by rw[F3 hx])) (wP I (Aa (zE ?_)))))))))))))
 refine zA (zB (wP I (wP I (Aa (zE (zS I (zI (zE (zA (zA (zB (wP I (wB 1 I I I ?_)))))))))))))
 refine wC I I (fun W1 hp=>(CZ (Ac y) (by omega) W1 (ht.hp hp)).cast (v':= .int .i64 0) (by rw[F3 hy])) (wP I (Aa (zE (zA (zB (wP I (wP I (Aa (zE (zS I (zI (zE (zA (zA ?_))))))))))))))
 refine zB (wP I (wB 0 I I I (Aa (zE ?_))))
 refine Aj I (fun hax=> ?_) (fun hax=> ?_)
 ·have hax:f.ax=true:=hax
  exact zA (zB (wB 0 I I I (wP I (wB 1 I I I (wC I I (fun W1 hp=>Er f h x hx W1 (ht.hp hp)) (wP I (wP I (Aa (zE (zO (zP (wR2 I I (by rw[if_pos hax])))))))))))))
 ·have hax:f.ax=false:=hax
  exact zI (zE (zA (zB (wB 0 I I I (wP I (wB 1 I I I (wC I I (fun W1 hp=>Er f h y hy W1 (ht.hp hp)) (wP I (wP I (Aa (zE (zO (wR2 I I (by rw[if_neg (by rw[hax];decide)]))))))))))))))
theorem Kf (f:FrP) (h:f.OK) (W:World) (ht:A3 W):
  Ad Tryz.prog 37 #[frV f] W (fun _:Unit=>f.plane) (fun _=>True) (fun _=>[]):=by
 have z1:=sz2 h.hdz h.sp (by decide)
 refine Ab (args:=[frV f]) Tryz.func37 I I I ?_
 refine zA (zB ?_)
 (refine At rfl rfl rfl rfl ?_;intro)
 (refine Af Tryz.hZ rfl rfl rfl rfl ?_;intro)
 refine wP I (Aa (zE (zA (zA (zB (wB 0 I I I (wC I I (fun W1 hp=>FW f h W1 (ht.hp hp)) (wP I (Aa (zE (zS I (zI (zE ?_)))))))))))))
 refine zA (zA (zB (wP I (wB 0 I I I (wP I ?_)))))
 by_cases h0:f.sp.num=0
 ·refine wU 12 true I ((A6 _ [48]).trans (dT (Ck.2 h0))) (Aa (zE (zR I (zA (zB ?_)))))
  refine Al Tryz.hZ tH I I I I I I I I ?_
  exact wS 1 I I I (wP I (Aa (zE (zO (zP (AA tH I (.cell 1 I I I I I) (.tmp I) () (by rw[FrP.plane,if_pos h0];rfl) O fun W _=>As.nil _ _))))))
 have z2:=h.hdz.div h.sp h0
 have z3:=sz2 z2 h.posz (by decide)
 have z4:=z2.mul h.posz
 have z5:=sz2 h.st z4 (by decide)
 have hval:f.plane= .tuple #[if f.ax then .agg #[str (Ac f.slope),str [48],str (Ac f.base)] else .agg #[str [48],str (Ac f.slope),str (Ac f.base)], .int .i64 0]:=if_neg h0
 refine wU 12 false I ((A6 _ [48]).trans (dF fun e=>h0 (Ck.1 e))) (Aa (zE (zS I (zI (zE (zA (zU (qP I (qB 0 I I I (qC I I (fun W1 hp=>CU f.hd h.hdN W1 (ht.hp hp)) (qP I (qB 0 I I I (qC I I (fun W1 hp=>Ih (f.hd:Rat) f.sp z1 h0 W1 (ht.hp hp)) ?_)))))))))))))
 refine qP I (A9 (Aa (zE (zA (zU (qP I (qB 0 I I I (qP I (qP I (qB 0 I I I (qC I I (fun W1 hp=>CU f.pos h.posN W1 (ht.hp hp)) (qC I I (fun W1 hp=>IK f.slope (f.pos:Rat) z3 W1 (ht.hp hp)) (qC I I (fun W1 hp=>DJ f.st (f.slope*(f.pos:Rat)) z5 W1 (ht.hp hp)) ?_)))))))))))))
 refine qP I (A9 (Aa (zE (zA (zA (zB (wP I (wB 0 I I I (Aa (zE ?_))))))))))
 refine Aj I (fun hax=> ?_) (fun hax=> ?_)
 ·have hax:f.ax=true:=hax
  refine zA (zB (wP I (wP I ?_)))
  refine Al Tryz.hZ tH I I I I I I I I ?_
  exact wS 1 I I I (wP I (Aa (zE (zO (zP (AA tH I (.cell 1 I I I I I) (.tmp I) () (by rw[hval,if_pos hax];rfl) O fun W _=>As.nil _ _))))))
 ·have hax:f.ax=false:=hax
  refine zI (zE (zA (zB (wP I (wP I ?_)))))
  refine Al Tryz.hZ tH I I I I I I I I ?_
  exact wS 1 I I I (wP I (Aa (zE (zO (AA tH I (.cell 1 I I I I I) (.tmp I) () (by rw[hval,if_neg (by rw[hax];decide)];rfl) O fun W _=>As.nil _ _)))))
-- BOXES 4
-- CODE2
theorem PE (f:FrW) (l1:f.sp.length≤4000000000) (l2:f.st.length≤4000000000) (a:List UInt8) (hl:a.length≤4000000000): ∃(r:List UInt8) (e:Int), ∀W,AV W→A3 W→
  Ad Tryz.prog 28 #[fwV f,str a] W (fun _:Unit=> .tuple #[str r, .int .i64 e]) (fun _=>True) (fun _=>[])∧Ad Tryz.prog 29 #[fwV f,str a] W (fun _:Unit=> .tuple #[str r, .int .i64 e]) (fun _=>True) (fun _=>[]):=by
 by_cases he:stE f a=0
 ·obtain⟨g,t,hg,ht,rfl,rfl⟩:=Gz he
  exact⟨Ac (g.at t),0,fun W hv hb=>⟨Gc g hg t ht W hv hb,HF g hg t ht W hb⟩⟩
 ·exact⟨[],stE f a,fun W hv hb=>⟨Pl f l1 l2 a hl he W hv hb,Pu f l1 l2 a hl he W hb⟩⟩
theorem NF (f:FrW) (l1:f.sp.length≤4000000000) (l2:f.st.length≤4000000000) (a:List UInt8) (hl:a.length≤4000000000): ∃(r:List UInt8) (e:Int), ∀W,AV W→A3 W→
  Ad Tryz.prog 32 #[fwV f,str a] W (fun _:Unit=> .tuple #[str r, .int .i64 e]) (fun _=>True) (fun _=>[])∧Ad Tryz.prog 33 #[fwV f,str a] W (fun _:Unit=> .tuple #[str r, .int .i64 e]) (fun _=>True) (fun _=>[]):=by
 by_cases he:stE f a=0
 ·obtain⟨g,t,hg,ht,rfl,rfl⟩:=Gz he
  exact⟨Ac (PD g t),0,fun W hv hb=>⟨Kr g hg t ht W hv hb,Kx g hg t ht W hb⟩⟩
 ·exact⟨[],stE f a,fun W hv hb=>⟨Ms f l1 l2 a hl he W hv hb,MQ f l1 l2 a hl he W hb⟩⟩
theorem NL (f:FrW) (l1:f.sp.length≤4000000000) (l2:f.st.length≤4000000000) (a:List UInt8) (hl:a.length≤4000000000): ∃(r:List UInt8) (e:Int), ∀W,AV W→A3 W→
  Ad Tryz.prog 30 #[fwV f,str a] W (fun _:Unit=> .tuple #[str r, .int .i64 e]) (fun _=>True) (fun _=>[])∧Ad Tryz.prog 31 #[fwV f,str a] W (fun _:Unit=> .tuple #[str r, .int .i64 e]) (fun _=>True) (fun _=>[]):=by
 by_cases he:stE f a=0
 ·obtain⟨g,t,hg,ht,rfl,rfl⟩:=Gz he
  by_cases hx:g.gets t=true
  ·have e:g.level t= .tuple #[str (Ac (g.st+g.way t/g.sp)), .int .i64 0]:=if_pos hx
   exact⟨_,_,fun W hv hb=>⟨(GK g hg t 36 36 36 hg.sp hg.st ht (Nat.le_refl _) (by decide) W hv hb).cast e,(GS g hg t ht W hb).cast e⟩⟩
  ·have e:g.level t= .tuple #[str [], .int .i64 6]:=if_neg hx
   exact⟨_,_,fun W hv hb=>⟨(GK g hg t 36 36 36 hg.sp hg.st ht (Nat.le_refl _) (by decide) W hv hb).cast e,(GS g hg t ht W hb).cast e⟩⟩
 ·exact⟨[],stE f a,fun W hv hb=>⟨Mq f l1 l2 a hl he W hv hb,MV f l1 l2 a hl he W hb⟩⟩
theorem O3 (f:FrW) (l1:f.sp.length≤4000000000) (l2:f.st.length≤4000000000) (a c:List UInt8) (hl:a.length≤4000000000) (hl2:c.length≤4000000000): ∃(r:List UInt8) (e:Int), ∀W,AV W→A3 W→
  Ad Tryz.prog 34 #[fwV f,ptW a c] W (fun _:Unit=> .tuple #[str r, .int .i64 e]) (fun _=>True) (fun _=>[])∧Ad Tryz.prog 35 #[fwV f,ptW a c] W (fun _:Unit=> .tuple #[str r, .int .i64 e]) (fun _=>True) (fun _=>[]):=by
 by_cases he:Fu f a c=0
 ·have h1:stE f a=0∧B5 c=0:=by
   unfold Fu at he
   unfold stE
   by_cases hf:fcE f=0
   ·rw[if_neg (fun h=>h hf)] at he⊢
    by_cases ha:B5 a=0
    ·rw[if_neg (fun h=>h ha)] at he;exact⟨ha,he⟩
    ·rw[if_pos ha] at he;exact absurd he ha
   ·rw[if_pos hf] at he;exact absurd he (by decide)
  obtain⟨g,t,hg,ht,rfl,rfl⟩:=Gz h1.1
  obtain⟨u,hu,rfl⟩:=JN h1.2
  exact⟨_,0,fun W hv hb=>⟨Li g hg t u ht hu W hv hb,Ly g hg t u ht hu W hb⟩⟩
 ·exact⟨[],Fu f a c,fun W hv hb=>⟨NB f l1 l2 a c hl hl2 he W hv hb,ND f l1 l2 a c hl hl2 he W hb⟩⟩
theorem NS (f:FrW) (l1:f.sp.length≤4000000000) (l2:f.st.length≤4000000000): ∃(x y z:List UInt8) (e:Int), ∀W,AV W→A3 W→
  Ad Tryz.prog 36 #[fwV f] W (fun _:Unit=> .tuple #[.agg #[str x,str y,str z], .int .i64 e]) (fun _=>True) (fun _=>[])∧Ad Tryz.prog 37 #[fwV f] W (fun _:Unit=> .tuple #[.agg #[str x,str y,str z], .int .i64 e]) (fun _=>True) (fun _=>[]):=by
 by_cases he:fcE f=0
 ·obtain⟨g,hg,rfl⟩:=Lv he
  have e: ∃(x y z:List UInt8) (e:Int),g.plane= .tuple #[.agg #[str x,str y,str z], .int .i64 e]:=by
   unfold FrP.plane
   split
   ·exact⟨_,_,_,_,I⟩
   ·cases g.ax
    ·exact⟨_,_,_,_,I⟩
    ·exact⟨_,_,_,_,I⟩
  obtain⟨x,y,z,e,h⟩:=e
  exact⟨x,y,z,e,fun W hv hb=>⟨(G6 g hg W hv hb).cast h,(Kf g hg W hb).cast h⟩⟩
 ·exact⟨[],[],[],1,fun W hv hb=>⟨MU f l1 l2 he W hv hb,Mi f l1 l2 he W hb⟩⟩
def Qc (f:FrW):Bool:=decide (30<f.sp.length)||decide (30<f.st.length)
theorem Kl (f:FrW) (W:World):Ad Tryz.prog 26 #[fwV f] W (fun _:Unit=> .bool (Qc f)) (fun _=>True) (fun _=>[]):=by
 refine Ab (args:=[fwV f]) Tryz.func26 I I I ?_
 refine zA (zB ?_)
 (refine At rfl rfl rfl rfl ?_;intro)
 refine wP I (Aa (zE (zA (zB (wP I (wB 0 I I I (wP I ?_)))))))
 refine Ah 5 (.int .i64 (f.sp.length:Nat)) I (congrArg (fun n:Nat=>Value.int .i64 (n:Int)) (Ap _)) ?_
 refine wP I ?_
 by_cases h1:30<f.sp.length
 ·refine wU 6 true I (dT (by omega)) (wP I ?_)
  iterate 4 refine Ag I I ?_
  exact wP I (wP I (Aa (zE (zO (wR1 I I (by unfold Qc;rw[dT h1];rfl))))))
 ·refine wU 6 false I (dF (by omega)) (wP I (wP I (wB 0 I I I (wP I ?_))))
  refine Ah 10 (.int .i64 (f.st.length:Nat)) I (congrArg (fun n:Nat=>Value.int .i64 (n:Int)) (Ap _)) ?_
  exact wP I (wU 11 (decide (30<f.st.length)) I (decide_eq_decide.2 (by omega)) (wP I (wP I (Aa (zE (zO (wR1 I I (by unfold Qc;rw[dF h1];rfl))))))))
-- BOXES 4
def awF:FrP:=⟨false,10, -1,q2 2 1,q2 3 1⟩
def awG:FrP:=⟨false,0,1,q2 1 2,q2 0 1⟩
theorem K0:awF.Sm:=by
 have h1:szQ awF.sp 1:=⟨by decide,by decide⟩
 have h2:szQ awF.st 3:=⟨by decide,by decide⟩
 exact⟨⟨by decide,by decide, .inr I,h1.mono (by decide),h2.mono (by decide),by decide⟩,h1,h2⟩
theorem Q8:awG.Sm:=by
 have h1:szQ awG.sp 1:=⟨by decide,by decide⟩
 have h2:szQ awG.st 3:=⟨by decide,by decide⟩
 exact⟨⟨by decide,by decide, .inl I,h1.mono (by decide),h2.mono (by decide),by decide⟩,h1,h2⟩
theorem N2:frV awF= .agg #[.bool false, .int .i64 10, .int .i64 (-1),str [50],str [51]]:=by
 show Value.agg #[.bool false, .int .i64 10, .int .i64 (-1),str (Ac (q2 2 1)),str (Ac (q2 3 1))]=_
 rw[ns2,ns3]
theorem Rd:frV awG= .agg #[.bool false, .int .i64 0, .int .i64 1,str [49,47,50],str [48]]:=by
 show Value.agg #[.bool false, .int .i64 0, .int .i64 1,str (Ac (q2 1 2)),str (Ac (q2 0 1))]=_
 rw[Ru,ns0]
theorem Rf (W:World) (hv:AV W) (ht:A3 W):Ad Tryz.prog 28 #[.agg #[.bool false, .int .i64 10, .int .i64 (-1),str [50],str [51]],str [49]] W (fun _:Unit=> .tuple #[str [49,48], .int .i64 0]) (fun _=>True) (fun _=>[]):=by
 have h:=Gc awF K0.ok (q2 1 1) ⟨by decide,by decide⟩ W hv ht
 rw[N2,ns1,show awF.at (q2 1 1)=q2 10 1 by decide+kernel,R7] at h
 exact h
theorem Rp (W:World) (hv:AV W) (ht:A3 W):Ad Tryz.prog 28 #[.agg #[.bool false, .int .i64 10, .int .i64 (-1),str [50],str [51]],str [53]] W (fun _:Unit=> .tuple #[str [54], .int .i64 0]) (fun _=>True) (fun _=>[]):=by
 have h:=Gc awF K0.ok (q2 5 1) ⟨by decide,by decide⟩ W hv ht
 rw[N2,ns5,show awF.at (q2 5 1)=q2 6 1 by decide+kernel,ns6] at h
 exact h
theorem QU (W:World) (hv:AV W) (ht:A3 W):Ad Tryz.prog 36 #[.agg #[.bool false, .int .i64 10, .int .i64 (-1),str [50],str [51]]] W (fun _:Unit=> .tuple #[.agg #[str [48],str [45,49,47,50],str [56]], .int .i64 0]) (fun _=>True) (fun _=>[]):=by
 have h:=G6 awF K0.ok W hv ht
 have e:awF.plane= .tuple #[.agg #[str [48],str [45,49,47,50],str [56]], .int .i64 0]:=by
  rw[FrP.plane,if_neg (by decide),show awF.ax=false from rfl,show awF.slope=q2 (-1) 2 by decide+kernel,show awF.base=q2 8 1 by decide+kernel,Ra,ns8];rfl
 rw[N2,e] at h
 exact h
theorem QA:eqL awF awG=[q2 32 5]:=by
 have h:(AL awF awG).filter (FQ awF awG)=[q2 32 5]:=by decide+kernel
 rw[eqL,h]
 show AM [q2 32 5]=_
 rw[AM]
theorem Rn (W:World) (hv:AV W) (ht:A3 W):Ad Tryz.prog 43 #[.agg #[.bool false, .int .i64 10, .int .i64 (-1),str [50],str [51]], .agg #[.bool false, .int .i64 0, .int .i64 1,str [49,47,50],str [48]]] W
  (fun V:Vec=> .tuple #[V.val 1, .int .i64 0]) (fun V=>V.OK 1 1 (nS [q2 32 5])) (fun V=>[V.bx 25 (nS [q2 32 5])]):=by
 have h:=Jw awF awG K0 Q8 rfl W hv ht
 rw[N2,Rd,QA] at h
 exact h
theorem Rq (W:World) (g b cap:Nat) (h1:A0 W g 0 (nS [q2 32 5])) (h2:A0 W b 0 [str [51,50,47,53]]):
  Ad Tryz.prog 13 #[.slice (some ⟨g,0,none⟩) 1 cap, .slice (some ⟨b,0,none⟩) 1 1] W (fun _:Unit=> .bool true) (fun _=>True) (fun _=>[]):=by
 have h:=KH W (some ⟨g,0,none⟩) (some ⟨b,0,none⟩) cap 1 [Ac (q2 32 5)] [[51,50,47,53]] (.inr ⟨g,0,rfl,h1⟩) (.inr ⟨b,0,rfl,h2⟩) (by decide) (by decide)
 rw[Rk,dT rfl] at h
 exact h
theorem ON (a b:List UInt8) (h:a=b):(((⟨a.toArray⟩:ByteArray).toList==(⟨b.toArray⟩:ByteArray).toList))=true:=(A6 a b).trans (dT h)
theorem LI (W:World) (a b c a' b' c':List UInt8):(binOp .eql 57 (.agg #[str a,str b,str c]) (.agg #[str a',str b',str c'])).run Tryz.prog W= .ok (.bool (decide (a=a'∧b=b'∧c=c'))) W:=by
 rw[run_eql_struct,run_equalIn_agg W 9999 57 _ _ (by kernel_rfl) (by kernel_rfl)]
 have hf : ∃ f1 f2 f3 : Field, (Tryz.prog.fieldsOf 57).toList = [f1, f2, f3] ∧ (f1.name ≠ "_" ∧ f1.type = 25 ∧ f1.offset = 0) ∧ (f2.name ≠ "_" ∧ f2.type = 25 ∧ f2.offset = 1) ∧ (f3.name ≠ "_" ∧ f3.type = 25 ∧ f3.offset = 2) := by
  unfold Program.fieldsOf;rw[Tryz.underlying57]
  exact⟨_,_,_,I,⟨by decide,I,I⟩,⟨by decide,I,I⟩,⟨by decide,I,I⟩⟩
 obtain⟨f1,f2,f3,hf,⟨n1,t1,o1⟩,⟨n2,t2,o2⟩,⟨n3,t3,o3⟩⟩:=hf
 rw[hf]
 have e: ∀(x y:List UInt8) W,(Op.equalIn 9999 25 (str x) (str y)).run Tryz.prog W= .ok (decide (x=y)) W:=fun x y W=>by
  rw[run_equalIn_string W 9998 25 _ _ Tryz.underlying25,A6]
 by_cases h1:a=a'<;>by_cases h2:b=b'<;>by_cases h3:c=c'<;>simp[Op.eqFields,part,Tryz.isAgg25,e,h1,h2,h3,n1,n2,n3,t1,t2,t3,o1,o2,o3]
section
variable {r:Option Nat} {n:Nat} {N:Nat} {D:List Deferred} {ops:List Oper} {Q:Exit→Act→World→Prop} {o:Oper} {rest:List Oper} {env:Env} {A:World→Prop}
theorem PX (a b c a' b' c':List UInt8) {d:Nat} {u:TypeId} {x y:Operand} (hg:Ar ops N env o=some true) (hd:o.dst=some d) (ho:o.op= .binOp .eql 57 x y u)
  (hx:evO N env x=some (.agg #[str a,str b,str c])) (hy:evO N env y=some (.agg #[str a',str b',str c']))
  (h:WL r n Tryz.prog N D ops Q rest ((d, .bool (decide (a=a'∧b=b'∧c=c')))::env) A):WL r n Tryz.prog N D ops Q (o::rest) env A:=
 Cl hg hd (fun c e=>by rw[ho] at e;cases e) (fun _ W hρ _=>by
  have hm:Tryz.prog.eqGuardType Tryz.prog.depth 57=false:=by kernel_rfl
  simp[execOp,ho,hρ _ _ hx,hρ _ _ hy,run_eqGuard_agg W .eql 57 x y _ _ hm,LI]) h
end
theorem Gw (W:World) (hv:AV W) (ht:A3 W):Ad Tryz.prog 27 #[] W (fun _:Unit=> .bool true) (fun _=>True) (fun _=>[]):=by
 refine Ab (args:=[]) Tryz.func27 I I I ?_
 refine zA (zB (wP I (Aa (zE (zA (zB ?_))))))
 refine Al Tryz.hZ tH I I I I I I I I ?_
 (refine Af Tryz.hZ rfl rfl rfl rfl ?_;intro)
 refine wS 0 I I I (Aa ?_)
 rename_i b1
 refine zE (zA (zB (wB 0 I I I (wC I I (fun W hp=>Rf W (hv.hp hp) (ht.hp hp)) ?_))))
 iterate 5 refine wP I ?_
 refine Aa (zE (zA (zB (wB 0 I I I (wC I I (fun W hp=>Rp W (hv.hp hp) (ht.hp hp)) ?_)))))
 iterate 5 refine wP I ?_
 refine Aa (zE (zA (zB (wB 0 I I I (wC I I (fun W hp=>QU W (hv.hp hp) (ht.hp hp)) (wP I (wP I (wP I ?_))))))))
 (refine Af Tryz.hZ rfl rfl rfl rfl ?_;intro)
 refine wS 1 I I I (wP I (Aa ?_))
 rename_i b6
 refine zE (zA (zB (wB 0 I I I ?_)))
 refine Al Tryz.hZ tH I I I I I I I I ?_
 refine wD (X:=Vec) I I (fun W hp=>Rn W (hv.hp hp) (ht.hp hp)) ?_
 intro V hV
 iterate 5 refine wP I ?_
 refine Aa (zE (zA (zB ?_)))
 iterate 9 refine wP I ?_
 refine wU 40 true I (ON _ _ I) (wP I (wP I (wP I (wP I (wU 44 true I (ON _ _ I) (wP I (wP I (wB 1 I I I ?_))))))))
 refine Al Tryz.hZ tH I I I I I I I I ?_
 refine PX [48] [45,49,47,50] [56] [48] [45,49,47,50] [56] I I I I I ?_
 refine wU 49 true I (dT ⟨I,I,I⟩) (wP I (wP I (wP I ?_)))
 (refine Az Tryz.hZ tH rfl rfl rfl rfl rfl rfl rfl rfl rfl rfl rfl ?_;intro)
 rename_i b7
 obtain⟨p,cap,junk⟩:=V
 cases p with
 |none=>exact absurd (hV.nil rfl) (by decide)
 |some g=>
  refine Ah 52 (.slice (some ⟨g,0,none⟩) 1 cap) I I ?_
  exact wC I I (fun W hp=>Rq W g b7 cap (IG hp 2 (A:=[]) (C:=junk) I I I) (A0.of_bx hp 3 I I)) (wP I (wP I (Aa (zE (zO (wR1 I I I))))))
-- BOXES 5
section
variable {r:Option Nat} {n:Nat} {P:Program} {W0:World} {N:Nat} {D:List Deferred} {ops:List Oper} {Q:Exit→Act→World→Prop} {o:Oper} {rest:List Oper} {env:Env} {bxs:List Bx} {A:World→Prop}
theorem Ok {d:Nat} {t e:TypeId} {m:Nat} {parts:Array (Nat×Operand)} {vs:List (Nat×Value)} (z:Value) {c:List Value} (ht:P.underlying t=some (.array m e)) (hz: ∀W,(zeroValue t).run P W= .ok z W) (hs: ∀W,(Go.sizeOf e).run P W= .ok 1 W)
  (hg:Ar ops N env o=some true) (hd:o.dst=some d) (ho:o.op= .build t parts) (hp:CP (evO N env) parts.toList=some vs) (hc:Ez (Hj 1) z.cells.toList vs=some c)
  (h:WL r n P N D ops Q rest ((d, .agg c.toArray)::env) A):WL r n P N D ops Q (o::rest) env A:=
 Cl hg hd (fun c e=>by rw[ho] at e;cases e) (fun ρ W hρ _=>by
  have hparts:(parts.map fun(i,x)=>(i,ρ x)).toList=vs:=by rw[←Dq hρ hp];simp
  have hfill:=HV hc
  simp only[Array.toArray_toList] at hfill
  have hfill':Instr.fill (fun i=>some (i*1,1)) z.cells (parts.map fun(i,x)=>(i,ρ x)).toList=some c.toArray:=by rw[hparts];exact hfill
  simp only[execOp,ho,Instr.build,Sem.run_bind,hz,Result.andThen_ok,run_underlying ht,hs,Sem.run_pure]
  rw[hfill']
  simp) h
end
section
variable {r:Option Nat} {n:Nat} {P:Program} {N:Nat} {D:List Deferred} {ops:List Oper} {Q:Exit→Act→World→Prop} {o:Oper} {rest:List Oper} {env:Env} {A A2:World→Prop} {R:Act→World→Prop}
theorem Kq {ρ:Operand→Value} {t e:TypeId} {m:Nat} {x y:Operand} {k:IntKind} {b off:Nat} {z:Int} (ht:P.underlying t=some (.array m e)) (hs: ∀W,(Go.sizeOf e).run P W= .ok 1 W) (ho:o.op= .indexAddr t x y)
  (hx:ρ x= .pointer (some ⟨b,off,none⟩)) (hy:ρ y= .int k z) (h0:0≤z∧z<m) (W:World):(execOp ρ o).run P W= .ok (.value (.pointer (some ⟨b,off+z.toNat*1,none⟩))) W:=by
 simp[execOp,ho,hx,hy,Instr.indexAt,Instr.sureAddr,asIntOf,run_underlying ht,hs,h0.1,h0.2,Addr.add_none]
theorem C4 {d:Nat} {t e:TypeId} {m:Nat} {x y:Operand} {k:IntKind} {b off:Nat} {z:Int} (ht:P.underlying t=some (.array m e)) (hs: ∀W,(Go.sizeOf e).run P W= .ok 1 W) (hg:Ar ops N env o=some true) (hd:o.dst=some d) (ho:o.op= .indexAddr t x y)
  (hx:evO N env x=some (.pointer (some ⟨b,off,none⟩))) (hy:evO N env y=some (.int k z)) (h0:0≤z∧z<m)
  (h:WL r n P N D ops Q rest ((d, .pointer (some ⟨b,off+z.toNat*1,none⟩))::env) A):WL r n P N D ops Q (o::rest) env A:=
 Cl hg hd (fun c e=>by rw[ho] at e;cases e) (fun _ W hρ _=>Kq ht hs ho (hρ _ _ hx) (hρ _ _ hy) h0 W) h
end
-- BOXES 8
-- CODE2
section
variable {N:Nat} {D:List Deferred} {ops:List Oper} {o:Oper} {rest:List Oper} {env:Env} {A A2:World→Prop} {R:Act→World→Prop}
theorem PW (a b c a' b' c':List UInt8) {d:Nat} {u:TypeId} {x y:Operand} (hg:Ar ops N env o=some true) (hd:o.dst=some d) (ho:o.op= .binOp .eql 57 x y u)
  (hx:evO N env x=some (.agg #[str a,str b,str c])) (hy:evO N env y=some (.agg #[str a',str b',str c']))
  (h:WQ Tryz.prog N D ops A2 R rest ((d, .bool (decide (a=a'∧b=b'∧c=c')))::env) A):WQ Tryz.prog N D ops A2 R (o::rest) env A:=
 DM hg hd (fun c e=>by rw[ho] at e;cases e) (fun _ W hρ _=>by
  have hm:Tryz.prog.eqGuardType Tryz.prog.depth 57=false:=by kernel_rfl
  simp[execOp,ho,hρ _ _ hx,hρ _ _ hy,run_eqGuard_agg W .eql 57 x y _ _ hm,LI]) h
end
abbrev fnV (n:Nat):Value:= .func (.func n) #[] #[]
theorem K2 (f:FrW) (l1:f.sp.length≤4000000000) (l2:f.st.length≤4000000000) (a c d:List UInt8) (hl:a.length≤4000000000) (hc:c.length≤4000000000) (hd:d.length≤4000000000) (W:World) (hv:AV W) (ht:A3 W):
  Ad Tryz.prog 5 #[fwV f,str a,ptW c d] W (fun _:Unit=> .bool true) (fun _=>True) (fun _=>[]):=by
 obtain⟨r1,e1,hP⟩:=PE f l1 l2 a hl
 obtain⟨r2,e2,hL⟩:=NL f l1 l2 a hl
 obtain⟨r3,e3,hS⟩:=NF f l1 l2 a hl
 obtain⟨r4,e4,hD⟩:=O3 f l1 l2 c d hc hd
 obtain⟨px,py,pz,e5,hPl⟩:=NS f l1 l2
 refine Ab (args:=[fwV f,str a,ptW c d]) Tryz.func5 I I I ?_
 refine zA (zB ?_)
 (refine At rfl rfl rfl rfl ?_;intro)
 (refine At rfl rfl rfl rfl ?_;intro)
 refine wP I (Aa ?_)
 rename_i b3 b5
 refine Av (An (An ?_))
 refine Au (X:=Bool) (fun b=>[(1,str a),(3,Aw b3),(5,Aw b5),(39, .bool b)]) (fun _=>[fwX b3 f,⟨b5,50,[str c,str d],true,none⟩]) (fun _=>True) ?_ ?_
 ·refine zB (wB 0 I I I (wC I I (fun W1 _=>Kl f W1) ?_))
  cases hG:Qc f with
  |true=>
   refine wP I ?_
   iterate 3 refine Ag I I ?_
   refine wP I (wP I ?_)
   iterate 4 refine Ag I I ?_
   refine wP I (wP I ?_)
   iterate 4 refine Ag I I ?_
   exact wP I (Aa (Ae true O ⟨I,I,I,I,O⟩ [] I))
  |false=>
   refine wP I (wP I (wP I ?_))
   refine Ah 25 (.int .i64 (a.length:Nat)) I (congrArg (fun n:Nat=>Value.int .i64 (n:Int)) (Ap _)) ?_
   refine wP I ?_
   by_cases c1:30<a.length
   ·refine wU 26 true I (dT (by omega)) (wP I (wP I ?_))
    iterate 4 refine Ag I I ?_
    refine wP I (wP I ?_)
    iterate 4 refine Ag I I ?_
    exact wP I (Aa (Ae true O ⟨I,I,I,I,O⟩ [] I))
   refine wU 26 false I (dF (by omega)) (wP I (wP I (wP I (wB 1 I I I (wP I ?_)))))
   refine Ah 31 (.int .i64 (c.length:Nat)) I (congrArg (fun n:Nat=>Value.int .i64 (n:Int)) (Ap _)) ?_
   refine wP I ?_
   by_cases c2:30<c.length
   ·refine wU 32 true I (dT (by omega)) (wP I (wP I ?_))
    iterate 4 refine Ag I I ?_
    exact wP I (Aa (Ae true O ⟨I,I,I,I,O⟩ [] I))
   refine wU 32 false I (dF (by omega)) (wP I (wP I (wP I (wB 1 I I I (wP I ?_)))))
   refine Ah 37 (.int .i64 (d.length:Nat)) I (congrArg (fun n:Nat=>Value.int .i64 (n:Int)) (Ap _)) ?_
   exact wP I (wU 38 (decide (30<d.length)) I (decide_eq_decide.2 (by omega)) (wP I (Aa (Ae (decide (30<d.length)) O ⟨I,I,I,I,O⟩ [] I))))
 intro bg _
 refine Aj I (fun hg=> ?_) (fun hg=> ?_)
 ·exact zA (zB (wC I I (fun W1 hp=>Gw W1 (hv.hp hp) (ht.hp hp)) (wP I (Aa (zE (zO (zP (wR1 I I (I)))))))))
 refine zI (zE (zA (zA (zB ?_))))
 iterate 3 refine Ok (.agg #[.nilFunc, .nilFunc]) Tryz.underlying53 (fun W=>by kernel_rfl) Tryz.sizeOf52 I I I I I ?_
 refine Hr (.agg #[.nilFunc, .nilFunc]) tH I I I I I (fun W=>by kernel_rfl) I I (by rfl) (by rfl) I fun b44=> ?_
 refine wP I (wP I (Aa (zE (zH ?_))))
 refine A5 (X:=Nat) (fun i=>[(1,str a),(3,Aw b3),(5,Aw b5),(44, .slice (some ⟨b44,0,none⟩) 3 3),(45, .int .i64 3),(46, .int .i64 (i:Nat))])
  (fun _=>[fwX b3 f,⟨b5,50,[str c,str d],true,none⟩,⟨b44,53,[fnV 28,fnV 29,fnV 30,fnV 31,fnV 32,fnV 33],true,none⟩]) (fun i=>i≤3) (fun i=>3-i) 0 (Nat.zero_le _) ⟨rfl,rfl,rfl,rfl,rfl,rfl,trivial⟩ [] rfl ?_
 intro i hi
 have hi:i=0∨i=1∨i=2∨i=3:=by have:i≤3:=hi;omega
 rcases hi with rfl|rfl|rfl|rfl
 ·refine zA (zB (wP I (Aa (zE (zA (zR I (zI (zE (zA (zH (zA (zB ?_))))))))))))
  refine wJ ?_
  refine wB 2 I I I ?_
  refine Hb (z:= .agg #[.nilFunc, .nilFunc]) I I I (fun W=>by kernel_rfl) fun b8=> ?_
  refine wS 3 I I I (Aa (zE (zA (zB ?_))))
  refine C4 Tryz.underlying53 Tryz.sizeOf52 I I I I I ⟨by decide,by decide⟩ ?_
  refine wB 3 I I I (wB 0 I I I (wP I ?_))
  refine Be (capt:=[]) I I I I I I (by kernel_rfl) (fun W1 hp=>(hP W1 (hv.hp hp) (ht.hp hp)).1) ?_
  iterate 5 refine wP I ?_
  refine Aa (zE (zA (zB ?_)))
  refine C4 Tryz.underlying53 Tryz.sizeOf52 I I I I I ⟨by decide,by decide⟩ ?_
  refine wB 3 I I I (wB 0 I I I (wP I ?_))
  refine Be (capt:=[]) I I I I I I (by kernel_rfl) (fun W1 hp=>(hP W1 (hv.hp hp) (ht.hp hp)).2) ?_
  iterate 5 refine wP I ?_
  refine Aa (zE (zA (zB (wP I (wP I (wP I (wU 68 false I (by show(!_)=false;rw[A6,dT I];rfl) (wP I (wP I (wP I (wP I (wU 72 false I (bne_self_eq_false e1) (wP I ?_)))))))))))))
  exact Aa (zE (zS I (zI (zN (zE (zB (wP I (wP I (Aa (Ax 1 (by decide) (by decide) ⟨I,I,I,I,I,I,O⟩ [_] I))))))))))
 ·refine zA (zB (wP I (Aa (zE (zA (zR I (zI (zE (zA (zH (zA (zB ?_))))))))))))
  refine wJ ?_
  refine wB 2 I I I ?_
  refine Hb (z:= .agg #[.nilFunc, .nilFunc]) I I I (fun W=>by kernel_rfl) fun b8=> ?_
  refine wS 3 I I I (Aa (zE (zA (zB ?_))))
  refine C4 Tryz.underlying53 Tryz.sizeOf52 I I I I I ⟨by decide,by decide⟩ ?_
  refine wB 3 I I I (wB 0 I I I (wP I ?_))
  refine Be (capt:=[]) I I I I I I (by kernel_rfl) (fun W1 hp=>(hL W1 (hv.hp hp) (ht.hp hp)).1) ?_
  iterate 5 refine wP I ?_
  refine Aa (zE (zA (zB ?_)))
  refine C4 Tryz.underlying53 Tryz.sizeOf52 I I I I I ⟨by decide,by decide⟩ ?_
  refine wB 3 I I I (wB 0 I I I (wP I ?_))
  refine Be (capt:=[]) I I I I I I (by kernel_rfl) (fun W1 hp=>(hL W1 (hv.hp hp) (ht.hp hp)).2) ?_
  iterate 5 refine wP I ?_
  refine Aa (zE (zA (zB (wP I (wP I (wP I (wU 68 false I (by show(!_)=false;rw[A6,dT I];rfl) (wP I (wP I (wP I (wP I (wU 72 false I (bne_self_eq_false e2) (wP I ?_)))))))))))))
  exact Aa (zE (zS I (zI (zN (zE (zB (wP I (wP I (Aa (Ax 2 (by decide) (by decide) ⟨I,I,I,I,I,I,O⟩ [_] I))))))))))
 ·refine zA (zB (wP I (Aa (zE (zA (zR I (zI (zE (zA (zH (zA (zB ?_))))))))))))
  refine wJ ?_
  refine wB 2 I I I ?_
  refine Hb (z:= .agg #[.nilFunc, .nilFunc]) I I I (fun W=>by kernel_rfl) fun b8=> ?_
  refine wS 3 I I I (Aa (zE (zA (zB ?_))))
  refine C4 Tryz.underlying53 Tryz.sizeOf52 I I I I I ⟨by decide,by decide⟩ ?_
  refine wB 3 I I I (wB 0 I I I (wP I ?_))
  refine Be (capt:=[]) I I I I I I (by kernel_rfl) (fun W1 hp=>(hS W1 (hv.hp hp) (ht.hp hp)).1) ?_
  iterate 5 refine wP I ?_
  refine Aa (zE (zA (zB ?_)))
  refine C4 Tryz.underlying53 Tryz.sizeOf52 I I I I I ⟨by decide,by decide⟩ ?_
  refine wB 3 I I I (wB 0 I I I (wP I ?_))
  refine Be (capt:=[]) I I I I I I (by kernel_rfl) (fun W1 hp=>(hS W1 (hv.hp hp) (ht.hp hp)).2) ?_
  iterate 5 refine wP I ?_
  refine Aa (zE (zA (zB (wP I (wP I (wP I (wU 68 false I (by show(!_)=false;rw[A6,dT I];rfl) (wP I (wP I (wP I (wP I (wU 72 false I (bne_self_eq_false e3) (wP I ?_)))))))))))))
  exact Aa (zE (zS I (zI (zN (zE (zB (wP I (wP I (Aa (Ax 3 (by decide) (by decide) ⟨I,I,I,I,I,I,O⟩ [_] I))))))))))
 refine zA (zB (wP I (Aa (zE (zA (zS I (zJ (zK (zK (zL (zE (zA (zB ?_)))))))))))))
 refine wB 0 I I I (wB 1 I I I (wC I I (fun W1 hp=>(hD W1 (hv.hp hp) (ht.hp hp)).1) ?_))
 iterate 5 refine wP I ?_
 refine Aa (zE (zA (zB (wB 0 I I I (wB 1 I I I (wC I I (fun W1 hp=>(hD W1 (hv.hp hp) (ht.hp hp)).2) ?_))))))
 iterate 5 refine wP I ?_
 refine Aa (zE (zA (zB (wB 0 I I I (wC I I (fun W1 hp=>(hPl W1 (hv.hp hp) (ht.hp hp)).1) (wP I (wP I (wP I ?_))))))))
 (refine Af Tryz.hZ rfl rfl rfl rfl ?_;intro)
 refine wS 3 I I I (wP I (Aa (zE (zA (zB (wB 0 I I I (wC I I (fun W1 hp=>(hPl W1 (hv.hp hp) (ht.hp hp)).2) (wP I (wP I (wP I ?_))))))))))
 (refine Af Tryz.hZ rfl rfl rfl rfl ?_;intro)
 refine wS 4 I I I (wP I (Aa (zE (zA (zU (qB 0 I I I (qC I I (fun W1 hp=>Db f l1 l2 W1 (hv.hp hp) (ht.hp hp)) (qB 0 I I I (qC I I (fun W1 hp=>DE f l1 l2 W1 (ht.hp hp)) (qP I (qU 101 true I (beq_self_eq_true (fcE f)) (qP I (qP I (qP I (qP I ?_)))))))))))))))
 refine qU 105 true I (by rw[A6];exact dT I) ?_
 iterate 5 refine qP I ?_
 refine qU 110 true I (beq_self_eq_true e4) (qP I (qP I (qB 3 I I I (qB 4 I I I ?_))))
 refine PW px py pz px py pz I I I I I ?_
 refine qU 115 true I (dT ⟨I,I,I⟩) ?_
 iterate 5 refine qP I ?_
 exact qU 120 true I (beq_self_eq_true e5) (qP I (qP I (qC I I (fun W1 hp=>Gw W1 (hv.hp hp) (ht.hp hp)) (qP I (qP I (A9 (Aa (zE (zO (wR1 I I (I)))))))))))
end
section
open Go
noncomputable abbrev laidL:List (String×DataW Unit):=Rows.frontMovesRow.laid
end
section
open Go Go.RowKit Go.Am Go.ChangeShapes Go.WideShapes Go.Deep Go.ChangeAt
set_option maxRecDepth 100000
section
variable {H:Type} {enc:TypeId×Value→H} {w:World} {base:Nat} {spare:Nat→Bool} {held:Bool} {v:Value} {d:DataW H} {ps:List MemPlace}
end
theorem own:ownKnob Tryz.prog.godebug=none:=by kernel_rfl
theorem Kw:laidOutB Tryz.prog=true:=by kernel_rfl
theorem IJ:(laidL.all fun x=>x.2.handleName?.isNone)=true:=by kernel_rfl
theorem Lm {W:World} (h:laidMetH Tryz.prog laidL W):A3 W:=by
 rw[MakeChecks.laidMetH_plain _ _ _ IJ] at h
 exact Lib.tabIs_of_head (g:=3) (t:=322) (e:=194) (n:=20) (by kernel_rfl) (by kernel_rfl) (by kernel_rfl) (by kernel_rfl) (by kernel_rfl) (by kernel_rfl) h.tail.tail
theorem Q9 {W:World} (hS:W.ShapedOpen Tryz.prog):AV W:=
 cell_of_shapedOpen_int (g:=4) (t:=3) (zero:= #[.int .i64 0]) hS (of_decide_eq_true (by kernel_rfl)) (by kernel_rfl) rfl (by kernel_rfl) (by kernel_rfl) Tryz.underlying3
noncomputable def witW (os:Os):World:=World.laidAll Tryz.prog os laidL
theorem P9 (os:Os) (args:Array Value):laidMetH Tryz.prog laidL ((witW os).forCall (fun _ _=>0) ⟨#[],args,[]⟩).memory:=by
 rw[MakeChecks.laidMetH_plain _ _ _ IJ]
 exact laidMet_laidAll _ (by kernel_rfl) (by kernel_rfl)
theorem MB (os:Os) (args:Array Value):((witW os).forCall (fun _ _=>0) ⟨#[],args,[]⟩).Shaped Tryz.prog:=
 World.shaped_of_ZipB (by kernel_rfl) (by kernel_rfl)
theorem Qv {H:Type} {enc:TypeId×Value→H} (os:Os) {f:FuncId} {fn:Func} {s:OpenSpec} {conds:List PathCond} (args:Array Value)
  (hok:Input.okWideB Tryz.prog ((witW os).forCall (fun _ _=>0) ⟨#[],args,[]⟩) f ⟨#[],args,[]⟩=true)
  (hrow:s.preRow enc Tryz.prog fn conds false laidL ((witW os).forCall (fun _ _=>0) ⟨#[],args,[]⟩).memory args):
  ∃(w:World) (tape:Tape) (i:Input),w.os=os∧(w.forCall tape i).Shaped Tryz.prog∧i.vars=[]∧Input.okWide Tryz.prog (w.forCall tape i) .any w.heap.size f i∧
   s.preRow enc Tryz.prog fn conds false laidL (w.forCall tape i).memory i.args∧({}:Assume).holds Tryz.prog (lone (Frame.enter Tryz.prog f i.args .normal) [] (w.forCall tape i)):=
 ⟨witW os,fun _ _=>0,⟨#[],args,[]⟩,World.laidAll_os _ _ _,MB os args,(Input.okWide_of_okWideB (base:=0) hok).1,(Input.okWide_of_okWideB hok).2,hrow,by
  simp only[Assume.holds]
  exact⟨by simp,by simp,by simp,by simp,by simp,by simp⟩⟩
end
section
open Go Go.RowKit Go.Am Go.ChangeShapes Go.WideShapes Go.Deep
set_option maxRecDepth 10000
theorem Ry:Tryz.prog.cellsOf 48=5:=by kernel_rfl
theorem R5:Tryz.prog.cellsOf 50=2:=by kernel_rfl
theorem Rv:Tryz.prog.cellsOf 4=1:=by kernel_rfl
theorem Re:Tryz.prog.cellsOf 3=1:=by kernel_rfl
theorem Qx:Tryz.prog.cellsOf 25=1:=by kernel_rfl
section
variable {H:Type} {enc:TypeId×Value→H} {w:World} {base:Nat} {spare:Nat→Bool} {held:Bool} {v:Value} {d:DataW H} {ps:List MemPlace}
theorem HT {fuel:Nat} {u:Value} {x:DataW H×List MemPlace} (h:DataW.trod enc Tryz.prog w base spare held fuel 25 [u]=some x): ∃b:List UInt8,u=str b∧Rows.uptoBulk x.1=b.length+1:=by
 obtain⟨s,e,hx,_⟩:=DataW.trod_string Tryz.underlying25 h
 refine⟨s.data.toList, ?_, ?_⟩
 ·have:u= .string s:=by simpa using e
  rw[this]
 ·rw[hx];simp[Rows.uptoBulk]
theorem MG {r:Reach} {b0:Nat} (hv:Value.okWide Tryz.prog w r b0 48 v) (h:DataW.Trod enc Tryz.prog w base spare held 48 v d ps):
  ∃f:FrW,v=fwV f∧f.sp.length+f.st.length≤Rows.uptoBulk d:=by
 obtain⟨cs,rfl,hc⟩:=okWide_struct Tryz.underlying48 hv
 obtain⟨fuel,hf⟩:=h
 obtain⟨xs,m,rfl,hx,hl,hn,hg⟩:=DataW.trod_struct Tryz.underlying48 hf
 rw[Ry] at hc
 obtain⟨x0,x1,x2,x3,x4,rfl⟩: ∃x0 x1 x2 x3 x4,xs=[x0,x1,x2,x3,x4]:=by
  match xs,hn with
  |[a,b,c,d,e],_=>exact⟨a,b,c,d,e,rfl⟩
 obtain⟨l⟩:=cs
 match l,hc with
 |[v0,v1,v2,v3,v4],_=>
  have h0:DataW.trod enc Tryz.prog w base spare held m 4 (List.take (Tryz.prog.cellsOf 4) [v0,v1,v2,v3,v4])=some x0:=hg 0 _ rfl
  have h1:DataW.trod enc Tryz.prog w base spare held m 3 (List.take (Tryz.prog.cellsOf 3) [v1,v2,v3,v4])=some x1:=hg 1 _ rfl
  have h2:DataW.trod enc Tryz.prog w base spare held m 3 (List.take (Tryz.prog.cellsOf 3) [v2,v3,v4])=some x2:=hg 2 _ rfl
  have h3:DataW.trod enc Tryz.prog w base spare held m 25 (List.take (Tryz.prog.cellsOf 25) [v3,v4])=some x3:=hg 3 _ rfl
  have h4:DataW.trod enc Tryz.prog w base spare held m 25 (List.take (Tryz.prog.cellsOf 25) [v4])=some x4:=hg 4 _ rfl
  rw[Rv] at h0
  rw[Re] at h1 h2
  rw[Qx] at h3 h4
  obtain⟨a,e0,_⟩:=DataW.trod_bool Tryz.underlying4 h0
  obtain⟨b,e1,_⟩:=DataW.trod_int Tryz.underlying3 h1
  obtain⟨c,e2,_⟩:=DataW.trod_int Tryz.underlying3 h2
  obtain⟨s,rfl,k3⟩:=HT h3
  obtain⟨t,rfl,k4⟩:=HT h4
  have e0:v0= .bool a:=by simpa using e0
  have e1:v1= .int .i64 b:=by simpa using e1
  have e2:v2= .int .i64 c:=by simpa using e2
  subst e0 e1 e2
  refine⟨⟨a,b,c,s,t⟩,I, ?_⟩
  have hd:d= .agg [x0.1,x1.1,x2.1,x3.1,x4.1]:=(congrArg (·.1) hx)
  rw[hd]
  simp only[Rows.uptoBulk,Rows.uptoBulkAll,k3,k4]
  omega
theorem MD {r:Reach} {b0:Nat} (hv:Value.okWide Tryz.prog w r b0 50 v) (h:DataW.Trod enc Tryz.prog w base spare held 50 v d ps):
  ∃q:List UInt8×List UInt8,v= .agg #[str q.1,str q.2]∧q.1.length+q.2.length≤Rows.uptoBulk d:=by
 obtain⟨cs,rfl,hc⟩:=okWide_struct Tryz.underlying50 hv
 obtain⟨fuel,hf⟩:=h
 obtain⟨xs,m,rfl,hx,hl,hn,hg⟩:=DataW.trod_struct Tryz.underlying50 hf
 rw[R5] at hc
 obtain⟨x0,x1,rfl⟩: ∃x0 x1,xs=[x0,x1]:=by
  match xs,hn with
  |[a,b],_=>exact⟨a,b,rfl⟩
 obtain⟨l⟩:=cs
 match l,hc with
 |[v0,v1],_=>
  have h0:DataW.trod enc Tryz.prog w base spare held m 25 (List.take (Tryz.prog.cellsOf 25) [v0,v1])=some x0:=hg 0 _ rfl
  have h1:DataW.trod enc Tryz.prog w base spare held m 25 (List.take (Tryz.prog.cellsOf 25) [v1])=some x1:=hg 1 _ rfl
  rw[Qx] at h0 h1
  obtain⟨s,rfl,k3⟩:=HT h0
  obtain⟨t,rfl,k4⟩:=HT h1
  refine⟨(s,t),I, ?_⟩
  have hd:d= .agg [x0.1,x1.1]:=(congrArg (·.1) hx)
  rw[hd]
  simp only[Rows.uptoBulk,Rows.uptoBulkAll,k3,k4]
  omega
end
end
end Go.Proofs.YtmblgcglonikiaaGreatDoor
