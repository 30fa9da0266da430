/-
  Lemmas that the theorem convexHulls_upto_card needs (part 5 of 8).
-/
import Derived.Test.YthndmdimmgkpgaaGreatDoorCyd
import Derived.Shelf.Lays
import Derived.Shelf.SlLaysN
import Derived.Shelf.Small.Bits
import Derived.Laws.StructEq
set_option maxHeartbeats 64000000
namespace Go.Proofs.YthndmdimmgkpgaaGreatDoor
section
open Go Go.RowKit Go.Am Go.Lib
set_option maxRecDepth 10000
-- BOXES 2
-- CODE2
theorem T7 (a:List UInt8):cut a [47]=(if hasPrefix a [45]=true then 45::(cut (trimPrefix a [45]) [47]).1 else(cut (trimPrefix a [45]) [47]).1,(cut (trimPrefix a [45]) [47]).2):=by
 rw[Bt,Bb]
 by_cases h:a[0]? =some 45
 ·rw[if_pos h,if_pos (dT h)]
  obtain⟨t,rfl⟩: ∃t,a=45::t:=by
   cases a with
   |nil=>cases h
   |cons b t=>
    have e:b=45:=by simpa using h
    exact⟨t,by rw[e]⟩
  show cut (45::t) [47]=(45::(cut t [47]).1,(cut t [47]).2)
  rcases Ga 47 t with h1|⟨x,y,rfl,h1⟩
  ·rw[En h1,En (show(47:UInt8)∉45::t from fun h=>by
    rcases List.mem_cons.1 h with h|h
    ·cases h
    ·exact h1 h)]
  ·rw[F4 y h1,show 45::(x++47::y)=(45::x)++47::y from rfl,F4 y (show(47:UInt8)∉45::x from fun h=>by
    rcases List.mem_cons.1 h with h|h
    ·cases h
    ·exact h1 h)]
 ·rw[if_neg h,if_neg (by rw[dF h];decide)]
theorem Vi {a:List UInt8} {c:UInt8} (h:(cut a [47]).1[0]? =some c):a[0]? =some c:=by
 rcases Ga 47 a with h1|⟨x,y,rfl,h1⟩
 ·rwa [En h1] at h
 ·rw[F4 y h1] at h
  cases x with
  |nil=>cases h
  |cons b t=>exact h
theorem T1 {m:Bool} {n:List UInt8} (h:m=false→n[0]? ≠some 45):FY (if m=true then 45::n else n)=if dgB n=true∧ ¬(m=true∧n=[48]) then some (if m=true then -(AV n:Int) else AV n) else none:=by
 have hd:dgB n=true↔(ldn n=n.length∧n≠[]∧(1<n.length→n[0]? ≠some 48)):=by
  rw[Gb];exact⟨Kx,IW⟩
 have key: ∀(x:List UInt8),hasPrefix x [45]=m→trimPrefix x [45]=n→FY x=if dgB n=true∧ ¬(m=true∧n=[48]) then some (if m=true then -(AV n:Int) else AV n) else none:=fun x h1 h2=>by
  unfold FY
  rw[h1,h2]
  by_cases hc:dgB n=true∧ ¬(m=true∧n=[48])
  ·rw[if_pos hc]
   obtain⟨c1,c2,c3⟩:=hd.1 hc.1
   rw[if_pos ⟨c1,c2,c3,hc.2⟩]
  ·rw[if_neg hc,if_neg fun h4=>hc ⟨hd.2 ⟨h4.1,h4.2.1,h4.2.2.1⟩,h4.2.2.2⟩]
 cases m with
 |true=>
  refine key _ ?_ ?_
  ·rw[if_pos rfl,Bt];rfl
  ·rw[if_pos rfl,Bb];rfl
 |false=>
  have h0:=h rfl
  refine key _ ?_ ?_
  ·rw[if_neg (by decide),Bt,dF h0]
  ·rw[if_neg (by decide),Bb,if_neg h0]
def Mg (m:Bool) (n d:List UInt8) (sl:Bool):Bool:= !dgB n||(sl&&(!dgB d||decide (d=[48])||decide (d=[49])))||(m&&decide (n=[48]))
theorem Vf (a:List UInt8):frm a=if Mg (hasPrefix a [45]) (cut (trimPrefix a [45]) [47]).1 (cut (trimPrefix a [45]) [47]).2.1 (cut (trimPrefix a [45]) [47]).2.2=true then none
  else some (if hasPrefix a [45]=true then -(AV (cut (trimPrefix a [45]) [47]).1:Int) else AV (cut (trimPrefix a [45]) [47]).1,if (cut (trimPrefix a [45]) [47]).2.2=true then AV (cut (trimPrefix a [45]) [47]).2.1 else 1):=by
 have h1:=T7 a
 have h2:hasPrefix a [45]=false→(cut (trimPrefix a [45]) [47]).1[0]? ≠some 45:=fun hm hc=>by
  have h3:=Vi hc
  rw[Bt] at hm
  have hm:=of_decide_eq_false hm
  rw[Bb,if_neg hm] at h3
  exact hm h3
 have h3:=T1 h2
 unfold frm
 generalize hasPrefix a [45]=m at*
 generalize cut (trimPrefix a [45]) [47]=c at*
 obtain⟨n,d,sl⟩:=c
 rw[h1]
 simp only at h3⊢
 rw[h3]
 have hd:dgB d=true↔(ldn d=d.length∧d≠[]∧(1<d.length→d[0]? ≠some 48)):=by
  rw[Gb];exact⟨Kx,IW⟩
 by_cases hc:dgB n=true∧ ¬(m=true∧n=[48])
 ·rw[if_pos hc]
  have e1:Mg m n d sl=(sl&&(!dgB d||decide (d=[48])||decide (d=[49]))):=by
   unfold Mg
   rw[hc.1]
   have:(m&&decide (n=[48]))=false:=by
    by_cases hm:m=true
    ·rw[hm,dF fun h=>hc.2 ⟨hm,h⟩];rfl
    ·rw[show m=false by simpa using hm];rfl
   rw[this,Bool.or_false];rfl
  rw[e1]
  simp only
  cases sl with
  |false=>rfl
  |true=>
   simp only[Bool.true_eq_false,if_false,Bool.true_and,if_true]
   by_cases hk:dgB d=true∧d≠[48]∧d≠[49]
   ·obtain⟨k1,k2,k3⟩:=hd.1 hk.1
    have e0:(!dgB d||decide (d=[48])||decide (d=[49]))=false:=by rw[hk.1,dF hk.2.1,dF hk.2.2];rfl
    rw[if_pos ⟨k1,k2,k3,hk.2⟩,e0,if_neg (show¬(false=true) by decide)]
   ·rw[if_neg fun h4=>hk ⟨hd.2 ⟨h4.1,h4.2.1,h4.2.2.1⟩,h4.2.2.2⟩,if_pos]
    by_cases k1:dgB d=true
    ·by_cases k2:d=[48]
     ·rw[dT k2];simp
     ·by_cases k3:d=[49]
      ·rw[dT k3];simp
      ·exact absurd ⟨k1,k2,k3⟩ hk
    ·rw[show dgB d=false by simpa using k1];rfl
 ·rw[if_neg hc,if_pos]
  unfold Mg
  by_cases k1:dgB n=true
  ·by_cases k2:m=true
   ·by_cases k3:n=[48]
    ·rw[k2,dT k3];simp
    ·exact absurd ⟨k1,fun h=>k3 h.2⟩ hc
   ·exact absurd ⟨k1,fun h=>k2 h.1⟩ hc
  ·rw[show dgB n=false by simpa using k1];rfl
theorem Kw {n:List UInt8} (h:dgB n=true):n=decDigits (AV n):=Ob.1 (Gb.1 h)
theorem OT {n:List UInt8} (h:dgB n=true) (hl:n.length≤9):AV n<1000000000:=by
 have e:=Kw h
 rw[e] at hl
 exact Lj hl
theorem Gd (a:List UInt8) (ha:a.length<4611686018427387904) (W:World) (ht:Bc W):
  Ap Tryz.prog 31 #[str a] W (fun _:Unit=> .int .i64 (rdR a).2) (fun _=>True) (fun _=>[]):=by
 have hfr:=Vf a
 have hsv:Ps a=Ps a:=rfl
 have hcl:=Rt (trimPrefix a [45])
 have htl:(trimPrefix a [45]).length≤a.length:=by rw[Bb];split<;>simp
 have hmiss:(cut (trimPrefix a [45]) [47]).2.2=false→(cut (trimPrefix a [45]) [47]).2.1=[]:=fun h=>by
  rcases Ga 47 (trimPrefix a [45]) with h1|⟨x,y,e,h1⟩
  ·rw[En h1]
  ·rw[e,F4 y h1] at h;cases h
 conv at hsv=>rhs;unfold Ps
 generalize hasPrefix a [45]=m at*
 generalize cut (trimPrefix a [45]) [47]=c at*
 obtain⟨n,d,sl⟩:=c
 simp only at hfr hsv hcl hmiss
 refine Ae (args:=[str a]) Tryz.func31 I I I ?_
 refine zA (zB (wP I (Aa (zE (zA (zB (wP I (wC I I (fun W _=>(F2 a ha W).cast hsv) ?_))))))))
 iterate 9 refine wP I ?_
 refine Aa ?_
 obtain⟨P1,e1⟩: ∃b,dgB n=b:=⟨_,rfl⟩
 obtain⟨P2,e2⟩: ∃b,dgB d=b:=⟨_,rfl⟩
 obtain⟨P3,e3⟩: ∃b,decide (d=[48])=b:=⟨_,rfl⟩
 obtain⟨P4,e4⟩: ∃b,decide (d=[49])=b:=⟨_,rfl⟩
 obtain⟨P5,e5⟩: ∃b,decide (n=[48])=b:=⟨_,rfl⟩
 have hB:Mg m n d sl=(!P1||(sl&&(!P2||P3||P4))||(m&&P5)):=by unfold Mg;rw[e1,e2,e3,e4,e5]
 refine AT (Au (Au ?_))
 refine AM (X:=Unit) (fun _=>[(4,str n),(5,str d),(6, .bool sl),(41, .bool (Mg m n d sl))]) (fun _=>[]) (fun _=>True) ?_ ?_
 ·refine zB (wP I (wC I I (fun W _=>(GJ n (by omega) W).cast (v':= .bool P1) (by rw[e1])) (wP I (wP I ?_))))
  refine E5 19 I (fun h19=> ?_) (fun h19=> ?_)
  ·refine Aw I I ?_
   iterate 13 refine Aw I I ?_
   refine wP I (wP I ?_)
   iterate 5 refine Aw I I ?_
   exact wP I (Aa (At () tO ⟨I,I,I,congrArg (fun b=>some (Value.bool b)) (by rw[hB];simp_all),tO⟩ [] I))
  ·refine wP I (wP I ?_)
   refine E5 21 I (fun h21=> ?_) (fun h21=> ?_)
   ·refine wP I (wC I I (fun W _=>(GJ d (by omega) W).cast (v':= .bool P2) (by rw[e2])) (wP I (wP I ?_)))
    refine E5 25 I (fun h25=> ?_) (fun h25=> ?_)
    ·refine Aw I I ?_
     refine Aw I I ?_
     refine wP I (wP I ?_)
     iterate 2 refine Aw I I ?_
     refine wP I (wP I (wP I (wP I ?_)))
     iterate 5 refine Aw I I ?_
     exact wP I (Aa (At () tO ⟨I,I,I,congrArg (fun b=>some (Value.bool b)) (by rw[hB];simp_all),tO⟩ [] I))
    ·refine wP I (wP I (wU 27 P3 I ((B4 _ _).trans e3) (wP I (wP I ?_))))
     refine E5 29 I (fun h29=> ?_) (fun h29=> ?_)
     ·refine Aw I I ?_
      refine Aw I I ?_
      refine wP I (wP I (wP I (wP I ?_)))
      iterate 5 refine Aw I I ?_
      exact wP I (Aa (At () tO ⟨I,I,I,congrArg (fun b=>some (Value.bool b)) (by rw[hB];simp_all),tO⟩ [] I))
     ·refine wP I (wP I (wU 31 P4 I ((B4 _ _).trans e4) (wP I (wP I (wP I (wP I ?_))))))
      refine E5 35 I (fun h35=> ?_) (fun h35=> ?_)
      ·refine Aw I I ?_
       iterate 4 refine Aw I I ?_
       exact wP I (Aa (At () tO ⟨I,I,I,congrArg (fun b=>some (Value.bool b)) (by rw[hB];simp_all),tO⟩ [] I))
      ·refine wP I (wP I ?_)
       refine E5 37 I (fun h37=> ?_) (fun h37=> ?_)
       ·exact wP I (wP I (wU 39 P5 I ((B4 _ _).trans e5) (wP I (wP I (Aa (At () tO ⟨I,I,I,congrArg (fun b=>some (Value.bool b)) (by rw[hB];simp_all),tO⟩ [] I))))))
       ·refine Aw I I ?_
        refine Aw I I ?_
        exact wP I (wP I (Aa (At () tO ⟨I,I,I,congrArg (fun b=>some (Value.bool b)) (by rw[hB];simp_all),tO⟩ [] I)))
   ·refine Aw I I ?_
    iterate 10 refine Aw I I ?_
    iterate 5 refine wP I ?_
    refine E5 37 I (fun h37=> ?_) (fun h37=> ?_)
    ·exact wP I (wP I (wU 39 P5 I ((B4 _ _).trans e5) (wP I (wP I (Aa (At () tO ⟨I,I,I,congrArg (fun b=>some (Value.bool b)) (by rw[hB];simp_all),tO⟩ [] I))))))
    ·refine Aw I I ?_
     refine Aw I I ?_
     exact wP I (wP I (Aa (At () tO ⟨I,I,I,congrArg (fun b=>some (Value.bool b)) (by rw[hB];simp_all),tO⟩ [] I)))
 intro _ _
 refine AA I (fun hbad=> ?_) (fun hbad=> ?_)
 ·rw[if_pos hbad] at hfr
  exact zA (zB (wP I (Aa (zE (zO (zP (wR1 I I (by unfold rdR;rw[hfr]))))))))
 have hbad:Mg m n d sl=false:=hbad
 rw[if_neg (by rw[hbad];decide)] at hfr
 have hn:dgB n=true:=by
  cases h:dgB n with
  |true=>rfl
  |false=>unfold Mg at hbad;rw[h] at hbad;cases hbad
 have hdl:sl=true→dgB d=true:=fun hs=>by
  cases h:dgB d with
  |true=>rfl
  |false=>unfold Mg at hbad;rw[h,hs,hn] at hbad;cases hbad
 have hna:(if m=true then -(AV n:Int) else AV n).natAbs=AV n:=by split<;>omega
 have hne:=Kw hn
 have hlen1:n.length≤300↔AV n<Bk:=by
  conv=>lhs;rw[hne]
  exact G1
 have hlen2:d.length≤300↔(if sl=true then AV d else 1)<Bk:=by
  cases hs:sl with
  |true=>
   rw[if_pos rfl]
   conv=>lhs;rw[Kw (hdl hs)]
   exact G1
  |false=>
   rw[hmiss hs,if_neg (by decide)]
   exact⟨fun _=>G1.1 (by rw[F6];decide),fun _=>by decide⟩
 have hcode:(rdR a).2=if AV n<Bk∧(if sl=true then AV d else 1)<Bk then(if Nat.gcd (AV n) (if sl=true then AV d else 1)=1 then 0 else 11) else 4:=by
  unfold rdR
  rw[hfr]
  simp only[hna]
  generalize (if sl=true then AV d else 1)=k
  by_cases c1:AV n<Bk∧k<Bk
  ·rw[if_pos c1,if_pos c1]
   by_cases c2:Nat.gcd (AV n) k=1
   ·rw[if_pos c2,if_pos c2]
   ·rw[if_neg c2,if_neg c2]
  ·rw[if_neg c1,if_neg c1]
 refine zI (zE (Au (Au ?_)))
 refine AM (X:=Unit) (fun _=>[(4,str n),(5,str d),(6, .bool sl),(49, .bool (decide (¬(n.length≤300∧d.length≤300))))]) (fun _=>[]) (fun _=>True) ?_ ?_
 ·refine zB (wP I (wP I ?_))
  refine Al 43 (.int .i64 (n.length:Nat)) I (congrArg (fun n:Nat=>Value.int .i64 (n:Int)) (AH n)) ?_
  refine wP I ?_
  by_cases h1:n.length≤300
  ·refine wU 44 false I (dF (by omega)) (wP I (wP I (wP I ?_)))
   refine Al 47 (.int .i64 (d.length:Nat)) I (congrArg (fun n:Nat=>Value.int .i64 (n:Int)) (AH d)) ?_
   exact wP I (wU 48 (decide (¬(n.length≤300∧d.length≤300))) I (decide_eq_decide.2 (by show((d.length:Nat):Int)>300↔_;omega)) (wP I (Aa (At () tO ⟨I,I,I,I,tO⟩ [] I))))
  ·refine wU 44 true I (dT (by show((n.length:Nat):Int)>300;omega)) (wP I ?_)
   iterate 3 refine Aw I I ?_
   exact wP I (Aa (At () tO ⟨I,I,I,by rw[dT (show¬(n.length≤300∧d.length≤300) by omega)];rfl,tO⟩ [] I))
 intro _ _
 refine AA I (fun hlong=> ?_) (fun hlong=> ?_)
 ·have hlong:=of_decide_eq_true hlong
  exact zA (zB (wP I (Aa (zE (zO (zP (wR1 I I (by rw[hcode,if_neg fun h=>hlong ⟨hlen1.2 h.1,hlen2.2 h.2⟩]))))))))
 have hlong:n.length≤300∧d.length≤300:=Decidable.byContradiction fun h=>of_decide_eq_false hlong h
 rw[if_pos ⟨hlen1.1 hlong.1,hlen2.1 hlong.2⟩] at hcode
 refine zI (zE (zA (zA (zB (wP I (wP I (Aa ?_)))))))
 cases hs:sl with
 |false=>
  have hcode:(rdR a).2=0:=by rw[hcode,hs];exact if_pos (show Nat.gcd (AV n) 1=1 from Nat.gcd_one_right _)
  exact zE (zR I (zA (zB (wP I (Aa (zE (zO (zP (wR1 I I (by rw[hcode]))))))))))
 |true=>
  have hd:=hdl hs
  have hde:=Kw hd
  rw[hs,if_pos rfl] at hcode
  refine zE (zS I (zI (zE (Au (Au ?_)))))
  refine AM (X:=Unit) (fun _=>[(4,str n),(5,str d),(59, .bool (decide (n.length≤9∧d.length≤9)))]) (fun _=>[]) (fun _=>True) ?_ ?_
  ·refine zB (wP I (wP I ?_))
   refine Al 53 (.int .i64 (n.length:Nat)) I (congrArg (fun n:Nat=>Value.int .i64 (n:Int)) (AH n)) ?_
   refine wP I ?_
   by_cases h1:n.length≤9
   ·refine wU 54 true I (dT (by omega)) (wP I (wP I (wP I ?_)))
    refine Al 57 (.int .i64 (d.length:Nat)) I (congrArg (fun n:Nat=>Value.int .i64 (n:Int)) (AH d)) ?_
    exact wP I (wU 58 (decide (n.length≤9∧d.length≤9)) I (decide_eq_decide.2 (by omega)) (wP I (Aa (At () tO ⟨I,I,I,tO⟩ [] I))))
   ·refine wU 54 false I (dF (by omega)) (wP I ?_)
    iterate 3 refine Aw I I ?_
    exact wP I (Aa (At () tO ⟨I,I,by rw[dF (fun h:n.length≤9∧d.length≤9=>h1 h.1)];rfl,tO⟩ [] I))
  intro _ _
  refine AA I (fun h9=> ?_) (fun h9=> ?_)
  ·obtain⟨h9,h9'⟩:=of_decide_eq_true h9
   have l1:AV n<1000000000:=OT hn h9
   have l2:AV d<1000000000:=OT hd h9'
   refine zA (zA (zB (wP I (wC I I (fun W _=>Ec n (by omega) (Gb.1 hn).all W) (wP I (wC I I (fun W _=>Ec d (by omega) (Gb.1 hd).all W) (wC I I (fun W _=>OM (AV n) (AV d) (by omega) (by omega) W) (wP I ?_))))))))
   by_cases hg:Nat.gcd (AV n) (AV d)=1
   ·exact wU 65 false I (by rw[bne_eq_false_iff_eq];omega) (Aa (zE (zS I (zI (zE (zA (zB (wP I (Aa (zE (zO (zP (wR1 I I (by rw[hcode,if_pos hg]))))))))))))))
   ·exact wU 65 true I (by rw[bne_iff_ne];omega) (Aa (zE (zR I (zA (zB (wP I (Aa (zE (zO (zP (zP (wR1 I I (by rw[hcode,if_neg hg])))))))))))))
  ·have e1:n=itoa ((AV n:Nat):Int):=by rw[J1];exact hne
   have e2:d=itoa ((AV d:Nat):Int):=by rw[J1];exact hde
   refine zI (zE (zA (zA (zB (wP I (wP I ?_))))))
   refine wC I I (fun W1 hp=>by
    have h:=Qp ((AV n:Nat):Int) ((AV d:Nat):Int) (by rw[Int.natAbs_natCast, ←hne];exact hlong.1) (by rw[Int.natAbs_natCast, ←hde];exact hlong.2) W1 (ht.hp hp)
    rw[←e1, ←e2,Int.natAbs_natCast,Int.natAbs_natCast,J1] at h
    exact h) ?_
   iterate 5 refine wP I ?_
   refine Aa (zE (zA (zB (wP I (wP I ?_)))))
   by_cases hg:Nat.gcd (AV n) (AV d)=1
   ·exact wU 73 false I (by show(!_)=false;rw[B4,hg,F6];rfl) (Aa (zE (zS I (zI (zE (zA (zB (wP I (Aa (zE (zO (wR1 I I (by rw[hcode,if_pos hg])))))))))))))
   ·refine Al 73 (.bool true) I (congrArg Value.bool (by
     show(!_)=true
     rw[B4,dF fun h=>hg (by have:=congrArg AV h;rw[Cu] at this;exact this)];rfl)) ?_
    exact Aa (zE (zR I (zA (zB (wP I (Aa (zE (zO (zP (wR1 I I (by rw[hcode,if_neg hg])))))))))))
-- BOXES 1
-- CODE2
theorem MI (a b c d:Int) (ha:okN a) (hb:okN b) (hc:okN c) (hd:okN d) (hab:okN (a*b)) (hcd:okN (c*d)) (W:World) (ht:Bc W):
  Ap Tryz.prog 122 #[str (itoa a),str (itoa b),str (itoa c),str (itoa d)] W (fun _:Unit=> .tuple #[str (itoa (a*b)),str (itoa (c*d)), .int .i64 0]) (fun _=>True) (fun _=>[]):=by
 refine Ae (args:=[str (itoa a),str (itoa b),str (itoa c),str (itoa d)]) Tryz.func122 I I I ?_
 refine zA (zB (wP I (wP I (wP I (Aa (zE (zA (zB (wP I (wP I (wC I I (fun W1 hp=>LC a b ha.dd hb.dd hab.dd W1 (ht.hp hp)) ?_)))))))))))
 iterate 5 refine wP I ?_
 refine Aa (zE (zA (zA (zB (wP I (wP I (Aa (zE (zS I (zI (zE (zA (zB ?_)))))))))))))
 refine wP I (wP I (wC I I (fun W1 hp=>LC c d hc.dd hd.dd hcd.dd W1 (ht.hp hp)) ?_))
 iterate 5 refine wP I ?_
 refine Aa (zE (zA (zB ?_)))
 iterate 6 refine wP I ?_
 exact Aa (zE (zO (wR3 I I I)))
-- BOXES 1
-- CODE2
theorem Jg {q:Rat} (h:okQ q):(Af q).length≤1000:=by
 have:=Bm h
 omega
theorem Mp {q:Rat} (h:okQ q) (W:World) (ht:Bc W):Ap Tryz.prog 31 #[str (Af q)] W (fun _:Unit=> .int .i64 0) (fun _=>True) (fun _=>[]):=
 (Gd (Af q) (by have:=Jg h;omega) W ht).cast (by rw[MN h])
theorem LW {p q:Rat} (hp':okQ p) (hq:okQ q) (W:World) (ht:Bc W):Ap Tryz.prog 100 #[str (Af p),str (Af q)] W (fun _:Unit=> .int .i64 0) (fun _=>True) (fun _=>[]):=by
 refine Ae (args:=[str (Af p),str (Af q)]) Tryz.func100 I I I ?_
 refine zA (zB (wP I (Aa (zE (zA (zA (zB (wP I (wC I I (fun W1 hp=>Mp hp' W1 (ht.hp hp)) (wP I (Aa (zE (zA ?_)))))))))))))
 refine zB (wP I (wP I (Aa (zE (zS I (zI (zE (zA (zB (wP I (wC I I (fun W1 hp=>Mp hq W1 (ht.hp hp)) (wP I (Aa ?_)))))))))))))
 exact zE (zO (wR1 I I I))
def iN (q:Rat):Int:=if Ew q=true then q.num else 0
def iD (q:Rat):Int:=if Ew q=true then((q.den:Nat):Int) else 0
theorem JG {q:Rat} (h:okQ q):B7 Tryz.prog 120 [str (Af q)] (.tuple #[.int .i64 (iN q), .int .i64 (iD q), .bool (Ew q)]):=fun W=>
 (Q3 q (by have:=Jg h;omega) W).cast (by
  unfold iN iD
  cases Ew q<;>rfl)
theorem WV {x y:Int} (hx:x.natAbs<1000000000) (hy:y.natAbs<1000000000):(x*y).natAbs<1000000000000000000:=by
 rw[Int.natAbs_mul]
 have:=Nat.mul_lt_mul'' hx hy
 omega
theorem Pa {x y:Int} (hx:x.natAbs<1000000000) (hy:y.natAbs<1000000000):w64 (x*y)=x*y:=by
 have:=WV hx hy
 exact Ak (by omega) (by omega)
theorem WG {n:Nat} (h:n<1000000000):((n:Nat):Int).natAbs<1000000000:=by rw[Int.natAbs_natCast];exact h
def sh2 (p q:Rat):Bool:=Ew p&&Ew q
theorem Sa {p q:Rat} (h:sh2 p q=true):iN p=p.num∧iD p=(p.den:Nat)∧iN q=q.num∧iD q=(q.den:Nat)∧p.num.natAbs<1000000000∧p.den<1000000000∧q.num.natAbs<1000000000∧q.den<1000000000:=by
 obtain⟨h1,h2⟩:=Bool.and_eq_true_iff.1 h
 obtain⟨a1,a2⟩:=Jd h1
 obtain⟨b1,b2⟩:=Jd h2
 exact⟨if_pos h1,if_pos h1,if_pos h2,if_pos h2,a1,a2,b1,b2⟩
theorem ID {q:Rat} (h:okQ q):B7 Tryz.prog 121 [str (Af q)] (.tuple #[str (itoa q.num),str (itoa ((q.den:Nat):Int))]):=fun W=>
 (NZ q (Jg h) W).cast (by rw[J1])
theorem Gf (p q:Rat) (h:Sz2 p q) (W:World) (ht:Bc W):
  Ap Tryz.prog 56 #[str (Af p),str (Af q)] W (fun _:Unit=> .tuple #[.int .i64 (DN p q), .int .i64 0]) (fun _=>True) (fun _=>[]):=by
 have hpn:=p.den_pos
 have hqn:=q.den_pos
 rw[←Qy]
 obtain⟨x,hx⟩: ∃x,p.num*((q.den:Nat):Int)=x:=⟨_,rfl⟩
 obtain⟨y,hy⟩: ∃y,q.num*((p.den:Nat):Int)=y:=⟨_,rfl⟩
 rw[hx,hy]
 refine Ae (args:=[str (Af p),str (Af q)]) Tryz.func56 I I I ?_
 refine zA (zB (wP I (wP I (Aa (zE (zA (zA (zB (wP I (wP I (wC I I (fun W1 hp=>LW h.okp h.okq W1 (ht.hp hp)) (wP I (Aa ?_)))))))))))))
 refine zE (zA (zB (wP I (wP I (Aa (zE (zS I (zI (zE (zA (zB (wP I (wC I I (fun W _=>JG h.okp W) ?_)))))))))))))
 iterate 7 refine wP I ?_
 refine Aa (zE (zA (zB (wP I (wC I I (fun W _=>JG h.okq W) ?_)))))
 iterate 7 refine wP I ?_
 refine Aa (AT (Au (Au ?_)))
 refine AM (X:=Unit) (fun _=>[(0,str (Af p)),(1,str (Af q)),(7, .int .i64 (iN p)),(8, .int .i64 (iD p)),(10, .int .i64 (iN q)),(11, .int .i64 (iD q)),(41, .bool (sh2 p q))]) (fun _=>[]) (fun _=>True) ?_ ?_
 ·refine zB (wP I (wP I ?_))
  refine E5 39 I (fun h39=> ?_) (fun h39=> ?_)
  ·exact wP I (wP I (Aa (At () tO ⟨I,I,I,I,I,I,congrArg (fun b=>some (Value.bool b)) (by unfold sh2;simp_all),tO⟩ [] I)))
  ·refine Aw I I ?_
   exact wP I (Aa (At () tO ⟨I,I,I,I,I,I,congrArg (fun b=>some (Value.bool b)) (by unfold sh2;simp_all),tO⟩ [] I))
 intro _ _
 refine AA I (fun hs=> ?_) (fun hs=> ?_)
 ·obtain⟨e1,e2,e3,e4,l1,l2,l3,l4⟩:=Sa hs
  have w1:w64 (iN p*iD q)=x:=by rw[e1,e4, ←hx];exact Pa l1 (WG l4)
  have w2:w64 (iN q*iD p)=y:=by rw[e3,e2, ←hy];exact Pa l3 (WG l2)
  refine zA (zH (zA (zB (wP I (wP I (wP I (wV 45 x I w1 (wP I (wP I (wP I (wV 48 y I w2 (wP I ?_))))))))))))
  by_cases h1:x<y
  ·exact wU 49 true I (dT h1) (wP I (Aa (zE (zR I (zA (zB (wP I (wP I (Aa (zE (zO (zQ (zP (zP (wR2 I I (by rw[F7,if_pos h1]))))))))))))))))
  refine wU 49 false I (dF h1) (wP I (Aa (zE (zS I (zA (zB (wP I (wP I (wP I (wV 53 x I w1 (wP I (wP I (wP I ?_)))))))))))))
  refine wV 56 y I w2 (wP I ?_)
  by_cases h2:y<x
  ·exact wU 57 true I (dT h2) (wP I (Aa (zE (zR I (zA (zB (wP I (wP I (Aa (zE (zO (zQ (zP (zP (wR2 I I (by rw[F7,if_neg h1,if_neg (by omega)]))))))))))))))))
  refine wU 57 false I (dF h2) (wP I (Aa (zE (zS I (zI (zN (zE (zA (zB (wP I (wP I (Aa (zE ?_)))))))))))))
  exact zO (zP (wR2 I I (by rw[F7,if_neg h1,if_pos (by omega)])))
 ·refine zI (zE (zA (zB (wP I (wC I I (fun W _=>ID h.okp W) ?_)))))
  iterate 5 refine wP I ?_
  refine Aa (zE (zA (zB (wP I (wC I I (fun W _=>ID h.okq W) ?_)))))
  iterate 5 refine wP I ?_
  refine Aa (zE (zA (zB (wP I (wP I (wP I (wP I (wC I I (fun W1 hp=>(MI p.num (q.den:Nat) q.num (p.den:Nat) h.okp.1 h.okq.2 h.okq.1 h.okp.2 h.c1 h.c2 W1 (ht.hp hp)).cast (v':= .tuple #[str (itoa x),str (itoa y), .int .i64 0]) (by rw[hx,hy])) ?_))))))))
  iterate 7 refine wP I ?_
  refine Aa (zE (zA (zA (zB (wP I (wP I (Aa (zE (zS I (zI (zE (zA (zB ?_)))))))))))))
  exact wP I (wP I (wC I I (fun W1 hp=>Qb x y (by rw[←hx];exact h.c1.dd) (by rw[←hy];exact h.c2.dd) W1) (wP I (wP I (wP I (wP I (Aa (zE (zO (wR2 I I I))))))))))
-- BOXES 1
-- CODE2
def opV (ok:Prop) [Decidable ok] (r:Rat):Value:=if ok then .tuple #[str (Af r), .int .i64 0] else .tuple #[str [], .int .i64 4]
theorem KG {ok:Prop} [Decidable ok] {r:Rat} (h:ok):opV ok r= .tuple #[str (Af r), .int .i64 0]:=if_pos h
theorem Qt {ok:Prop} [Decidable ok] {r:Rat} (h: ¬ok):opV ok r= .tuple #[str [], .int .i64 4]:=if_neg h
instance (z:Int):Decidable (okN z):=inferInstanceAs (Decidable (z.natAbs<Bk))
def HI (p q:Rat):Prop:=okN (p.num*(q.den:Nat))∧okN (q.num*(p.den:Nat))∧okN ((p.den:Nat)*(q.den:Nat))∧okN (p.num*(q.den:Nat)+q.num*(p.den:Nat))
instance (p q:Rat):Decidable (HI p q):=inferInstanceAs (Decidable (_∧_∧_∧_))
-- BOXES 1
-- CODE2
def Gy (p q:Rat):Prop:=okN (p.num*q.num)∧okN ((p.den:Nat)*(q.den:Nat))
def BK (p q:Rat):Prop:=okN (p.num*(q.den:Nat))∧okN (q.num*(p.den:Nat))
instance (p q:Rat):Decidable (Gy p q):=inferInstanceAs (Decidable (_∧_))
instance (p q:Rat):Decidable (BK p q):=inferInstanceAs (Decidable (_∧_))
def cmV (p q:Rat):Value:=if BK p q then .tuple #[.int .i64 (DN p q), .int .i64 0] else .tuple #[.int .i64 0, .int .i64 4]
-- BOXES 5
theorem JV (p q:Rat) (hp:okQ p) (hq:okQ q) (h1: ¬okN (p.num*(q.den:Nat))) (W:World) (ht:Bc W):
  Ap Tryz.prog 110 #[Ct p,Ct q] W (fun _:Unit=> .tuple #[str [],str [], .int .i64 4]) (fun _=>True) (fun _=>[]):=by
 refine Ae (args:=[Ct p,Ct q]) Tryz.func110 I I I ?_
 refine zA (zB ?_)
 (refine AD rfl rfl rfl rfl ?_;intro)
 (refine AD rfl rfl rfl rfl ?_;intro)
 refine wP I (wP I (wP I (Aa (zE (zA (zB (wP I (wB 0 I I I (wP I (wB 1 I I I (wC I I (fun W h=>(BR p.num (q.den:Nat) hp.1 hq.2 W (ht.hp h)).cast (Ht h1)) ?_)))))))))))
 iterate 5 refine wP I ?_
 refine Aa (zE (zA (zA (zB (wP I (wP I (Aa (zE (zR I (zA (zB (wP I (wP I (wP I (wP I ?_)))))))))))))))
 exact Aa (zE (zO (zP (wR3 I I I))))
theorem JQ (p q:Rat) (hp:okQ p) (hq:okQ q) (h1:okN (p.num*(q.den:Nat))) (h2: ¬okN (q.num*(p.den:Nat))) (W:World) (ht:Bc W):
  Ap Tryz.prog 110 #[Ct p,Ct q] W (fun _:Unit=> .tuple #[str (itoa (p.num*(q.den:Nat))),str [], .int .i64 4]) (fun _=>True) (fun _=>[]):=by
 refine Ae (args:=[Ct p,Ct q]) Tryz.func110 I I I ?_
 refine zA (zB ?_)
 (refine AD rfl rfl rfl rfl ?_;intro)
 (refine AD rfl rfl rfl rfl ?_;intro)
 refine wP I (wP I (wP I (Aa (zE (zA (zB (wP I (wB 0 I I I (wP I (wB 1 I I I (wC I I (fun W h=>(BR p.num (q.den:Nat) hp.1 hq.2 W (ht.hp h)).cast (Fg h1)) ?_)))))))))))
 iterate 5 refine wP I ?_
 refine Aa (zE (zA (zA (zB (wP I (wP I (Aa (zE (zS I (zI (zE (zA (zB ?_)))))))))))))
 refine wP I (wB 1 I I I (wP I (wB 0 I I I (wC I I (fun W h=>(BR q.num (p.den:Nat) hq.1 hp.2 W (ht.hp h)).cast (Ht h2)) ?_))))
 iterate 5 refine wP I ?_
 refine Aa (zE (zA (zB ?_)))
 iterate 6 refine wP I ?_
 exact Aa (zE (zO (wR3 I I I)))
theorem Hh (p q:Rat) (hp:okQ p) (hq:okQ q) (h: ¬BK p q): ∃s, ∀(W:World) (_:Bc W),
  Ap Tryz.prog 110 #[Ct p,Ct q] W (fun _:Unit=> .tuple #[str s,str [], .int .i64 4]) (fun _=>True) (fun _=>[]):=by
 by_cases h1:okN (p.num*(q.den:Nat))
 ·exact⟨_,fun W ht=>JQ p q hp hq h1 (fun h2=>h ⟨h1,h2⟩) W ht⟩
 ·exact⟨_,fun W ht=>JV p q hp hq h1 W ht⟩
theorem MT (p q r:Rat) (b h:Nat) (z:Int) (hp:okQ p) (hq:okQ q) (hr:nrm z ((p.den:Nat)*(q.den:Nat))=r) (hE:Bd Tryz.prog h=true)
  (hop:BK p q→ ∀W,Bc W→Ap Tryz.prog h #[str (itoa (p.num*(q.den:Nat))),str (itoa (q.num*(p.den:Nat)))] W (fun _:Unit=>Jn z) (fun _=>True) (fun _=>[])) (W:World) (ht:Bc W) (hrow:Ar W b 0 [.func (.func h) #[] #[]]):
  Ap Tryz.prog 109 #[Ct p,Ct q,An b] W (fun _:Unit=>if BK p q∧okN z∧okN ((p.den:Nat)*(q.den:Nat)) then .tuple #[str (Af r), .int .i64 0] else .tuple #[str [], .int .i64 4]) (fun _=>True) (fun _=>[]):=by
 by_cases hx:BK p q
 ·by_cases hz:okN z
  ·by_cases hd:okN ((p.den:Nat)*(q.den:Nat))
   ·rw[if_pos ⟨hx,hz,hd⟩]
    exact(GR p q b h z hp hq hx.1 hx.2 hz hd hE (fun W2 h2=>(hop hx W2 h2).cast (Fg hz)) W ht hrow).cast (by rw[hr])
   ·rw[if_neg fun e=>hd e.2.2]
    refine Ae (args:=[Ct p,Ct q,An b]) Tryz.func109 I I I ?_
    refine zA (zB ?_)
    (refine AD rfl rfl rfl rfl ?_;intro)
    (refine AD rfl rfl rfl rfl ?_;intro)
    refine wP I (wP I (Aa (zE (zA (zB (wB 0 I I I (wB 1 I I I (wC I I (fun W h=>CE p q hp hq hx.1 hx.2 W (ht.hp h)) ?_))))))))
    iterate 7 refine wP I ?_
    refine Aa (zE (zA (zA (zB (wP I (wP I (Aa (zE (zS I (zI (zE (zA (zB ?_)))))))))))))
    refine wL 0 I I (fun W h=>hrow.hp h) I (wP I (wP I ?_))
    refine AW (capt:=[]) I I I I I I hE (fun W h=>(hop hx W (ht.hp h)).cast (Fg hz)) ?_
    iterate 5 refine wP I ?_
    refine Aa (zE (zA (zA (zB (wP I (wP I (Aa (zE (zS I (zI (zE (zA (zB ?_)))))))))))))
    refine wP I (wB 0 I I I (wP I (wB 1 I I I (wC I I (fun W h=>(BR (p.den:Nat) (q.den:Nat) hp.2 hq.2 W (ht.hp h)).cast (Ht hd)) ?_))))
    iterate 5 refine wP I ?_
    refine Aa (zE (zA (zA (zB (wP I (wP I (Aa (zE (zR I (zA (zB (wP I (wP I (wP I ?_))))))))))))))
    exact Aa (zE (zO (zP (wR2 I I I))))
  ·rw[if_neg fun e=>hz e.2.1]
   refine Ae (args:=[Ct p,Ct q,An b]) Tryz.func109 I I I ?_
   refine zA (zB ?_)
   (refine AD rfl rfl rfl rfl ?_;intro)
   (refine AD rfl rfl rfl rfl ?_;intro)
   refine wP I (wP I (Aa (zE (zA (zB (wB 0 I I I (wB 1 I I I (wC I I (fun W h=>CE p q hp hq hx.1 hx.2 W (ht.hp h)) ?_))))))))
   iterate 7 refine wP I ?_
   refine Aa (zE (zA (zA (zB (wP I (wP I (Aa (zE (zS I (zI (zE (zA (zB ?_)))))))))))))
   refine wL 0 I I (fun W h=>hrow.hp h) I (wP I (wP I ?_))
   refine AW (capt:=[]) I I I I I I hE (fun W h=>(hop hx W (ht.hp h)).cast (Ht hz)) ?_
   iterate 5 refine wP I ?_
   refine Aa (zE (zA (zA (zB (wP I (wP I (Aa (zE (zR I (zA (zB (wP I (wP I (wP I ?_))))))))))))))
   exact Aa (zE (zO (zP (wR2 I I I))))
 ·rw[if_neg fun e=>hx e.1]
  obtain⟨s,hs⟩:=Hh p q hp hq hx
  refine Ae (args:=[Ct p,Ct q,An b]) Tryz.func109 I I I ?_
  refine zA (zB ?_)
  (refine AD rfl rfl rfl rfl ?_;intro)
  (refine AD rfl rfl rfl rfl ?_;intro)
  refine wP I (wP I (Aa (zE (zA (zB (wB 0 I I I (wB 1 I I I (wC I I (fun W h=>hs W (ht.hp h)) ?_))))))))
  iterate 7 refine wP I ?_
  refine Aa (zE (zA (zA (zB (wP I (wP I (Aa (zE (zR I (zA (zB (wP I (wP I (wP I ?_))))))))))))))
  exact Aa (zE (zO (zP (wR2 I I I))))
theorem S6 {p q:Rat}:HI p q↔BK p q∧okN (p.num*(q.den:Nat)+q.num*(p.den:Nat))∧okN ((p.den:Nat)*(q.den:Nat)):=⟨fun h=>⟨⟨h.1,h.2.1⟩,h.2.2.2,h.2.2.1⟩,fun h=>⟨h.1.1,h.1.2,h.2.2,h.2.1⟩⟩
theorem DY {p q:Rat}:HI p (-q)↔BK p q∧okN (p.num*(q.den:Nat)-q.num*(p.den:Nat))∧okN ((p.den:Nat)*(q.den:Nat)):=by
 have e:(-q).num= -q.num:=rfl
 have d:(-q).den=q.den:=rfl
 unfold HI BK okN
 rw[e,d,Int.neg_mul,Int.natAbs_neg, ←Int.sub_eq_add_neg]
 exact⟨fun h=>⟨⟨h.1,h.2.1⟩,h.2.2.2,h.2.2.1⟩,fun h=>⟨h.1.1,h.1.2,h.2.2,h.2.1⟩⟩
theorem Vk {a ok:Prop} [Decidable a] [Decidable ok] (h:ok↔a) (r:Rat):(if a then Value.tuple #[str (Af r), .int .i64 0] else .tuple #[str [], .int .i64 4])=opV ok r:=by
 by_cases c:a
 ·rw[if_pos c,KG (h.2 c)]
 ·rw[if_neg c,Qt fun e=>c (h.1 e)]
theorem Ra (ok:Prop) [Decidable ok] (r:Rat): ∃s e,opV ok r= .tuple #[str s, .int .i64 e]:=by unfold opV;split<;>exact⟨_,_,rfl⟩
theorem PT {p q:Rat} (hs:smQ p∧smQ q):HI p q∧HI p (-q)∧Gy p q∧BK p q:=by
 have m1:=CK hs.1.1 (CD q hs.2)
 have m2:=CK hs.2.1 (CD p hs.1)
 have m3:=CK (CD p hs.1) (CD q hs.2)
 have m4:=CK hs.1.1 hs.2.1
 have k: ∀z:Int,z.natAbs<10^18→okN z:=fun z h=>ML (Nat.lt_trans h (by decide))
 have d1:BK p q:=⟨k _ (by omega),k _ (by omega)⟩
 exact⟨S6.2 ⟨d1,k _ (by omega),k _ (by omega)⟩,DY.2 ⟨d1,k _ (by omega),k _ (by omega)⟩,⟨k _ (by omega),k _ (by omega)⟩,d1⟩
theorem Pe (p q:Rat) (hkp:okQ p) (hkq:okQ q) (W0:World) (hv:BP W0) (ht:Bc W0):
  Ap Tryz.prog 126 #[str (Af p),str (Af q)] W0 (fun _:Unit=>opV (HI p (-q)) (p-q)) (fun _=>True) (fun _=>[]):=by
 obtain⟨rs,re,hr⟩:=Ra (HI p (-q)) (p-q)
 have hlp:=Bm hkp
 have hlq:=Bm hkq
 refine Ae (args:=[str (Af p),str (Af q)]) Tryz.func126 I I I ?_
 refine zA (zB (wP I (wP I (Aa (zE (zA (zA (zB (wP I (wP I ?_))))))))))
 have hquick: ∀W,Bc W→Ap Tryz.prog 48 #[str (Af p),str (Af q), .func (.func 178) #[] #[]] W (fun _:Unit=>if smQ p∧smQ q then .tuple #[str (Af (p-q)), .bool true] else .tuple #[str [], .bool false]) (fun _=>True) (fun _=>[]):=
  fun W ht=>D3 p q (p-q) (p.num*(q.den:Nat)-q.num*(p.den:Nat)) ((p.den:Nat)*(q.den:Nat)) _ (by kernel_rfl) (by omega) (by omega) (fun hp hq=>by
   have m1:=CK hp.1 (CD q hq)
   have m2:=CK hq.1 (CD p hp)
   have m3:=CK (CD p hp) (CD q hq)
   exact⟨LG _ _ _ _ hp.1 (CD p hp) hq.1 (CD q hq),Du,by omega,by omega,Hr p q⟩) W ht
 by_cases hs:smQ p∧smQ q
 ·refine wC I I (fun W h=>(hquick W (ht.hp h)).cast (if_pos hs)) ?_
  iterate 5 refine wP I ?_
  refine Aa (zE (zA (zB (wP I (Aa (zE (zR I (zA (zB (wP I (wP I (wP I (Aa ?_)))))))))))))
  exact zE (zO (zP (AR tH I (.tmp I) (.tmp I) () (KG (PT hs).2.1).symm tO fun W _=>A3.nil _ _)))
 ·refine wC I I (fun W h=>(hquick W (ht.hp h)).cast (if_neg hs)) ?_
  iterate 5 refine wP I ?_
  refine Aa (zE (zA (zB (wP I (Aa (zE (zS I (zI (zE (zA (zB (wP I (wP I ?_)))))))))))))
  refine wD (X:=Nat) I I (fun W _=>Fc 179 W) ?_
  intro b18 _
  exact wC I I (fun W hp=>D2 p q rs re 109 [An b18] hkp hkq W (hv.hp hp) (ht.hp hp) (by kernel_rfl) (fun W' hb=>(MT p q (p-q) b18 179 (p.num*(q.den:Nat)-q.num*(p.den:Nat)) hkp hkq (Hr p q) (by kernel_rfl) (fun hx W2 ht2=>L5 _ _ hx.1 hx.2 W2 ht2) W' ((ht.hp hp).below hb) ((Ar.of_bx hp 0 I I).below (Nat.le_refl _) hb)).cast ((Vk DY _).trans hr))) (wP I (wP I (wP I (wP I (Aa (zE (zO (wR2 I I hr.symm))))))))
theorem Ov (p q:Rat) (hp:okQ p) (hq:okQ q) (hno: ¬Gy p q) (W:World) (ht:Bc W):
  Ap Tryz.prog 136 #[Ct p,Ct q] W (fun _:Unit=> .tuple #[str [], .int .i64 4]) (fun _=>True) (fun _=>[]):=by
 refine Ae (args:=[Ct p,Ct q]) Tryz.func136 I I I ?_
 refine zA (zB ?_)
 (refine AD rfl rfl rfl rfl ?_;intro)
 (refine AD rfl rfl rfl rfl ?_;intro)
 refine wP I (wP I (Aa (zE (zA (zB (wP I (wB 0 I I I (wP I (wB 1 I I I ?_)))))))))
 by_cases hz:okN (p.num*q.num)
 ·refine wC I I (fun W h=>(BR p.num q.num hp.1 hq.1 W (ht.hp h)).cast (Fg hz)) ?_
  iterate 5 refine wP I ?_
  refine Aa (zE (zA (zA (zB (wP I (wP I (Aa (zE (zS I (zI (zE (zA (zB ?_)))))))))))))
  refine wP I (wB 0 I I I (wP I (wB 1 I I I (wC I I (fun W h=>(BR (p.den:Nat) (q.den:Nat) hp.2 hq.2 W (ht.hp h)).cast (Ht fun hd=>hno ⟨hz,hd⟩)) ?_))))
  iterate 5 refine wP I ?_
  refine Aa (zE (zA (zA (zB (wP I (wP I (Aa (zE (zR I (zA (zB (wP I (wP I (wP I ?_))))))))))))))
  exact Aa (zE (zO (zP (wR2 I I I))))
 ·refine wC I I (fun W h=>(BR p.num q.num hp.1 hq.1 W (ht.hp h)).cast (Ht hz)) ?_
  iterate 5 refine wP I ?_
  refine Aa (zE (zA (zA (zB (wP I (wP I (Aa (zE (zR I (zA (zB (wP I (wP I (wP I ?_))))))))))))))
  exact Aa (zE (zO (zP (wR2 I I I))))
theorem NU (p q:Rat) (hp:okQ p) (hq:okQ q) (W:World) (ht:Bc W):
  Ap Tryz.prog 136 #[Ct p,Ct q] W (fun _:Unit=>opV (Gy p q) (p*q)) (fun _=>True) (fun _=>[]):=by
 by_cases h:Gy p q
 ·exact(Lr p q hp hq h.1 h.2 W ht).cast (KG h).symm
 ·exact(Ov p q hp hq h W ht).cast (Qt h).symm
theorem Of (p q:Rat) (hkp:okQ p) (hkq:okQ q) (W0:World) (hv:BP W0) (ht:Bc W0):
  Ap Tryz.prog 72 #[str (Af p),str (Af q)] W0 (fun _:Unit=>opV (Gy p q) (p*q)) (fun _=>True) (fun _=>[]):=by
 obtain⟨rs,re,hr⟩:=Ra (Gy p q) (p*q)
 have hlp:=Bm hkp
 have hlq:=Bm hkq
 refine Ae (args:=[str (Af p),str (Af q)]) Tryz.func72 I I I ?_
 refine zA (zB (wP I (wP I (Aa (zE (zA (zA (zB (wP I (wP I ?_))))))))))
 have hquick: ∀W,Bc W→Ap Tryz.prog 48 #[str (Af p),str (Af q), .func (.func 135) #[] #[]] W (fun _:Unit=>if smQ p∧smQ q then .tuple #[str (Af (p*q)), .bool true] else .tuple #[str [], .bool false]) (fun _=>True) (fun _=>[]):=
  fun W ht=>D3 p q (p*q) (p.num*q.num) ((p.den:Nat)*(q.den:Nat)) _ (by kernel_rfl) (by omega) (by omega) (fun hp hq=>by
   have m1:=CK hp.1 hq.1
   have m3:=CK (CD p hp) (CD q hq)
   exact⟨KI _ _ _ _ hp.1 (CD p hp) hq.1 (CD q hq),Du,by omega,by omega,I4 p q⟩) W ht
 by_cases hs:smQ p∧smQ q
 ·refine wC I I (fun W h=>(hquick W (ht.hp h)).cast (if_pos hs)) ?_
  iterate 5 refine wP I ?_
  refine Aa (zE (zA (zB (wP I (Aa (zE (zR I (zA (zB (wP I (wP I (wP I (Aa ?_)))))))))))))
  exact zE (zO (zP (AR tH I (.tmp I) (.tmp I) () (KG (PT hs).2.2.1).symm tO fun W _=>A3.nil _ _)))
 ·refine wC I I (fun W h=>(hquick W (ht.hp h)).cast (if_neg hs)) ?_
  iterate 5 refine wP I ?_
  refine Aa (zE (zA (zB (wP I (Aa (zE (zS I (zI (zE (zA (zB (wP I (wP I ?_)))))))))))))
  exact wC I I (fun W hp=>D2 p q rs re 136 [] hkp hkq W (hv.hp hp) (ht.hp hp) (by kernel_rfl) (fun W' hb=>(NU p q hkp hkq W' ((ht.hp hp).below hb)).cast hr)) (wP I (wP I (wP I (wP I (Aa (zE (zO (wR2 I I hr.symm))))))))
-- BOXES 5
-- CODE2
def J4 (p q:Rat):Prop:=HI p (-q)
instance (p q:Rat):Decidable (J4 p q):=inferInstanceAs (Decidable (HI p (-q)))
-- BOXES 5
-- CODE2
theorem QM {z d:Int} (hd:d≠0) (hz:okN z) (hk:okN d):okQ (nrm z d):=(IG (k:=mxd) z hd hz hk).ok (by decide)
theorem Sc {p q:Rat} (h:J4 p q):okQ (p-q):=by
 rw[←Hr]
 have h':=DY.1 h
 exact QM Du h'.2.1 h'.2.2
theorem Se {p q:Rat} (h:Gy p q):okQ (p*q):=by
 rw[←I4]
 exact QM Du h.1 h.2
def okP (p:Ah):Prop:=okQ p.1∧okQ p.2
-- BOXES 5
-- CODE2
def Gz (a:List UInt8):Bool:=(decide (12<a.length)&&decide (a.length<299))||decide (604<a.length)
theorem IS (a:List UInt8) (W:World):Ap Tryz.prog 125 #[str a] W (fun _:Unit=> .bool (Gz a)) (fun _=>True) (fun _=>[]):=by
 refine Ae (args:=[str a]) Tryz.func125 I I I ?_
 refine zA (zB (wP I (Aa (zE (zA (zB (wP I (wP I ?_))))))))
 refine Al 4 (.int .i64 (a.length:Nat)) I (congrArg (fun n:Nat=>Value.int .i64 (n:Int)) (AH _)) ?_
 refine wP I ?_
 by_cases h1:12<a.length
 ·refine wU 5 true I (dT (by omega)) (wP I (wP I (wP I ?_)))
  refine Al 8 (.int .i64 (a.length:Nat)) I (congrArg (fun n:Nat=>Value.int .i64 (n:Int)) (AH _)) ?_
  refine wP I ?_
  by_cases h2:a.length<299
  ·refine wU 9 true I (dT (by omega)) (wP I (wP I ?_))
   iterate 3 refine Aw I I ?_
   exact wP I (wP I (Aa (zE (zO (wR1 I I (by unfold Gz;rw[dT h1,dT h2];rfl))))))
  ·refine wU 9 false I (dF (by omega)) (wP I (wP I (wP I (wP I ?_))))
   refine Al 13 (.int .i64 (a.length:Nat)) I (congrArg (fun n:Nat=>Value.int .i64 (n:Int)) (AH _)) ?_
   exact wP I (wU 14 (decide (604<a.length)) I (decide_eq_decide.2 (by omega)) (wP I (wP I (Aa (zE (zO (wR1 I I (by unfold Gz;rw[dT h1,dF h2];rfl))))))))
 ·refine wU 5 false I (dF (by omega)) (wP I ?_)
  iterate 3 refine Aw I I ?_
  refine wP I (wP I (wP I (wP I ?_)))
  refine Al 13 (.int .i64 (a.length:Nat)) I (congrArg (fun n:Nat=>Value.int .i64 (n:Int)) (AH _)) ?_
  exact wP I (wU 14 (decide (604<a.length)) I (decide_eq_decide.2 (by omega)) (wP I (wP I (Aa (zE (zO (wR1 I I (by unfold Gz;rw[dF h1];rfl))))))))
abbrev PtS:=List UInt8×List UInt8
def GN (W:World) (p:Option Addr) (l:List PtS):Prop:=l=[]∨ ∃b off,p=some ⟨b,off,none⟩∧ ∀i (hi:i<l.length),Ar W b (off+i*2) [str l[i].1,str l[i].2]
theorem GN.hp {W0 W:World} {bxs:List Bx} {p:Option Addr} {l:List PtS} (h:GN W0 p l) (hp:Hp W0 bxs W):GN W p l:=by
 rcases h with h|⟨b,off,e,h⟩
 ·exact Or.inl h
 ·exact Or.inr ⟨b,off,e,fun i hi=>(h i hi).hp hp⟩
def JW (x:PtS):Bool:=Gz x.1||Gz x.2
def HC (l:List PtS):Bool:=l.any JW||decide (8<l.length)
theorem LX (W:World) (p:Option Addr) (cap:Nat) (l:List PtS) (hA:GN W p l) (hn:l.length<4611686018427387904):Ap Tryz.prog 58 #[slv p l.length cap] W (fun _:Unit=> .bool (HC l)) (fun _=>True) (fun _=>[]):=by
 refine Ae (args:=[slv p l.length cap]) Tryz.func58 I I I ?_
 refine zA (zB (wP I (Aa (zE (zA (zA (zB (wP I (Aa (zE (zH ?_)))))))))))
 refine A9 (X:=Nat) (fun i=>[(0,slv p l.length cap),(3, .int .i64 (i:Nat))]) (fun _=>[]) (fun i=>i≤l.length∧ ∀j (hj:j<l.length),j<i→JW l[j]=false) (fun i=>l.length-i) 0 ⟨Nat.zero_le _,fun j _ h=>by omega⟩ ⟨I,I,tO⟩ [] I ?_
 rintro i ⟨hi,hno⟩
 have hi:i≤l.length:=hi
 refine zA (zA (zB (wP I (wP I (wP I (wP I ?_))))))
 by_cases hlt:i<l.length
 ·refine wU 7 true I (dT (by omega)) (Aa (zE (zR I (zI (zE (zA (zH (zA (zB ?_)))))))))
  obtain⟨b,off,rfl,hrow⟩: ∃b off,p=some ⟨b,off,none⟩∧ ∀i (hi:i<l.length),Ar W b (off+i*2) [str l[i].1,str l[i].2]:=by
   rcases hA with h|h
   ·rw[h] at hlt;exact absurd hlt (by simp)
   ·exact h
  have hr:=hrow i hlt
  obtain⟨x,hx⟩: ∃x,l[i]=x:=⟨_,rfl⟩
  rw[hx] at hr
  refine wP I (wP I ?_)
  refine wJ ?_
  refine wP I (wL 0 I I (fun W1 hp=>hr.hp hp) I (wC I I (fun W1 _=>IS x.1 W1) ?_))
  have next:Gz x.1=false→Gz x.2=false→ ∀j (hj:j<l.length),j<i+1→JW l[j]=false:=by
   intro h1 h2 j hj hji
   rcases Nat.lt_or_ge j i with q|q
   ·exact hno j hj q
   ·obtain rfl:j=i:=by omega
    rw[hx,JW,h1,h2];rfl
  cases h1:Gz x.1 with
  |true=>
   refine wP I ?_
   iterate 6 refine Aw I I ?_
   refine wP I (Aa (zE (zR I (zA (zB (wP I (Aa (zE (zO (zQ (zP (zP (zQ ?_)))))))))))))
   refine zP ?_
   exact A8 tH I (.tmp I) () (by
    have:l.any JW=true:=List.any_eq_true.2 ⟨l[i],List.getElem_mem _,by rw[hx,JW,h1];rfl⟩
    rw[HC,this];rfl) trivial fun W _=>A3.nil _ _
  |false=>
   refine wP I (wP I (wP I ?_))
   refine wJ ?_
   refine wP I (wL 1 I I (fun W1 hp=>hr.hp hp) I (wC I I (fun W1 _=>IS x.2 W1) ?_))
   cases h2:Gz x.2 with
   |true=>
    refine wP I (Aa (zE (zR I (zA (zB (wP I (Aa (zE (zO (zQ (zP (zP (zQ ?_)))))))))))))
    refine zP ?_
    exact A8 tH I (.tmp I) () (by
     have:l.any JW=true:=List.any_eq_true.2 ⟨l[i],List.getElem_mem _,by rw[hx,JW,h1,h2];rfl⟩
     rw[HC,this];rfl) trivial fun W _=>A3.nil _ _
   |false=>
    exact wP I (Aa (zE (zS I (zI (zN (zE (zB (wP I (wP I (wV 9 ((i+1:Nat):Int) I (Av (by omega)) (wP I (Aa (A0 (i+1) ⟨hlt,next h1 h2⟩ (by show l.length-(i+1)<l.length-i;omega) ⟨I,I,tO⟩ [] I)))))))))))))
 ·refine wU 7 false I (dF (by omega)) (Aa (zE (zS I (zJ (zK (zK (zL (zE (zA (zB (wP I (wP I (wP I ?_)))))))))))))
  refine wU 26 (decide (8<l.length)) I (decide_eq_decide.2 (by omega)) (wP I (Aa (zE (zO ?_))))
  exact A8 tH I (.tmp I) () (by
   have:l.any JW=false:=by
    rw[List.any_eq_false]
    intro x hx
    obtain⟨j,hj,rfl⟩:=List.getElem_of_mem hx
    rw[hno j hj (by omega)];decide
   rw[HC,this];rfl) trivial fun W _=>A3.nil _ _
-- BOXES 5
-- CODE2
def I1:List PtS→Int
 |[]=>0
 |x::l=>if (rdR x.1).2≠0 then(rdR x.1).2 else if (rdR x.2).2≠0 then(rdR x.2).2 else I1 l
theorem Si {l:List PtS} {i:Nat} (h:i<l.length):I1 (l.drop i)=if (rdR l[i].1).2≠0 then(rdR l[i].1).2 else if (rdR l[i].2).2≠0 then(rdR l[i].2).2 else I1 (l.drop (i+1)):=by
 rw[List.drop_eq_getElem_cons h]
 rfl
-- BOXES 4
-- CODE2
section
variable {P:Program} {N:Nat} {D:List Deferred} {ops:List Oper} {o:Oper} {rest:List Oper} {env:Env} {A A2:World→Prop} {R:Act→World→Prop}
theorem RG (k:Nat) {d:Nat} {t e:TypeId} {m:Nat} {parts:Array (Nat×Operand)} {vs:List (Nat×Value)} (z:Value) {c:List Value} (ht:P.underlying t=some (.array m e)) (hz: ∀W,(zeroValue t).run P W= .ok z W) (hs: ∀W,(Go.sizeOf e).run P W= .ok k W)
  (hg:A6 ops N env o=some true) (hd:o.dst=some d) (ho:o.op= .build t parts) (hp:DE (evO N env) parts.toList=some vs) (hc:FX (Jz k) z.cells.toList vs=some c)
  (h:WQ P N D ops A2 R rest ((d, .agg c.toArray)::env) A):WQ P N D ops A2 R (o::rest) env A:=
 C4 hg hd (fun c e=>by rw[ho] at e;cases e) (fun ρ W hρ _=>by
  have hparts:(parts.map fun(i,x)=>(i,ρ x)).toList=vs:=by rw[←Ej hρ hp];simp
  have hfill:=Ko hc
  simp only[Array.toArray_toList] at hfill
  have hfill':Instr.fill (fun i=>some (i*k,k)) z.cells (parts.map fun(i,x)=>(i,ρ x)).toList=some c.toArray:=by rw[hparts];exact hfill
  simp only[execOp,ho,Instr.build,Sem.run_bind,hz,Result.andThen_ok,run_underlying ht,hs,Sem.run_pure]
  rw[hfill']
  simp) h
end
section
variable {r:Option Nat} {n:Nat} {P:Program} {N:Nat} {D:List Deferred} {ops:List Oper} {Q:Exit→Act→World→Prop} {o:Oper} {rest:List Oper} {env:Env} {A A2:World→Prop} {R:Act→World→Prop}
theorem HD {ρ:Operand→Value} {t e:TypeId} {m c:Nat} {x y:Operand} {k:IntKind} {b off:Nat} {z:Int} (ht:P.underlying t=some (.array m e)) (hs: ∀W,(Go.sizeOf e).run P W= .ok c W) (ho:o.op= .indexAddr t x y)
  (hx:ρ x= .pointer (some ⟨b,off,none⟩)) (hy:ρ y= .int k z) (h0:0≤z∧z<m) (W:World):(execOp ρ o).run P W= .ok (.value (.pointer (some ⟨b,off+z.toNat*c,none⟩))) W:=by
 simp[execOp,ho,hx,hy,Instr.indexAt,Instr.sureAddr,asIntOf,run_underlying ht,hs,h0.1,h0.2,Addr.add_none]
theorem EC {d:Nat} {t e:TypeId} {m c:Nat} {x y:Operand} {k:IntKind} {b off:Nat} {z:Int} (ht:P.underlying t=some (.array m e)) (hs: ∀W,(Go.sizeOf e).run P W= .ok c W) (hg:A6 ops N env o=some true) (hd:o.dst=some d) (ho:o.op= .indexAddr t x y)
  (hx:evO N env x=some (.pointer (some ⟨b,off,none⟩))) (hy:evO N env y=some (.int k z)) (h0:0≤z∧z<m)
  (h:WL r n P N D ops Q rest ((d, .pointer (some ⟨b,off+z.toNat*c,none⟩))::env) A):WL r n P N D ops Q (o::rest) env A:=
 CA hg hd (fun c e=>by rw[ho] at e;cases e) (fun _ W hρ _=>HD ht hs ho (hρ _ _ hx) (hρ _ _ hy) h0 W) h
theorem By {d:Nat} {t e:TypeId} {m c:Nat} {x y:Operand} {k:IntKind} {b off:Nat} {z:Int} (ht:P.underlying t=some (.array m e)) (hs: ∀W,(Go.sizeOf e).run P W= .ok c W) (hg:A6 ops N env o=some true) (hd:o.dst=some d) (ho:o.op= .indexAddr t x y)
  (hx:evO N env x=some (.pointer (some ⟨b,off,none⟩))) (hy:evO N env y=some (.int k z)) (h0:0≤z∧z<m)
  (h:WQ P N D ops A2 R rest ((d, .pointer (some ⟨b,off+z.toNat*c,none⟩))::env) A):WQ P N D ops A2 R (o::rest) env A:=
 C4 hg hd (fun c e=>by rw[ho] at e;cases e) (fun _ W hρ _=>HD ht hs ho (hρ _ _ hx) (hρ _ _ hy) h0 W) h
end
def BU (W:World) (p:Option Addr) (l:List Ah):Prop:=l=[]∨ ∃b off,p=some ⟨b,off,none⟩∧ ∀i (hi:i<l.length),Ar W b (off+i*2) [str (Af l[i].1),str (Af l[i].2)]
theorem BU.below {W W':World} {p:Option Addr} {l:List Ah} {n:Nat} (h:BU W p l) (hn:W.heap.size≤n) (hb:Below n W W'):BU W' p l:=by
 rcases h with h|⟨b,off,h1,h2⟩
 ·exact .inl h
 ·exact .inr ⟨b,off,h1,fun i hi=>(h2 i hi).below hn hb⟩
theorem BU.hp {W0 W:World} {bxs:List Bx} {p:Option Addr} {l:List Ah} (h:BU W0 p l) (hp:Hp W0 bxs W):BU W p l:=h.below (Nat.le_refl _) hp.below
theorem BU.at_ {W:World} {p:Option Addr} {l:List Ah} (h:BU W p l) {i:Nat} (hi:i<l.length): ∃g off,p=some ⟨g,off,none⟩∧ ∀k (hk:k<l.length),Ar W g (off+k*2) [str (Af l[k].1),str (Af l[k].2)]:=by
 rcases h with h|⟨g,off,e,h⟩
 ·rw[h] at hi;exact absurd hi (Nat.not_lt_zero _)
 ·exact⟨g,off,e,h⟩
abbrev ptS (q:Ah):PtS:=(Af q.1,Af q.2)
theorem GN.p {W:World} {p:Option Addr} {l:List Ah} (h:GN W p (l.map ptS)):BU W p l:=by
 rcases h with e|⟨g,off,e,hr⟩
 ·exact .inl (List.map_eq_nil_iff.1 e)
 ·refine .inr ⟨g,off,e,fun i hi=> ?_⟩
  have:=hr i (by rw[List.length_map];exact hi)
  rwa [List.getElem_map] at this
structure Uu (b:Nat) (p:Option Addr) (cap:Nat) (l:List Ah) (W:World):Prop where
 var:Ar W b 0 [slv p l.length cap]
 pts:BU W p l
abbrev sdV (p q:Ah):Value:= .agg #[str (Af p.1),str (Af p.2),str (Af q.1),str (Af q.2)]
abbrev Ws (l:List Ah) (k:Nat):List Value:=[.int .i64 (k:Nat),sdV (Ac l k) (Ac l (k+1))]
theorem D8 (p:Option Addr) (n cap:Nat) (W:World):Ap Tryz.prog 44 #[slv p n cap] W (fun b:Nat=> .func (.func 103) #[] #[An b]) (fun _=>True) (fun b=>[⟨b,22,[slv p n cap],true,none⟩]):=by
 refine Ae (args:=[slv p n cap]) Tryz.func44 I I I ?_
 refine zA (zB ?_)
 (refine AD rfl rfl rfl rfl ?_;intro)
 refine wP I (Aa ?_)
 rename_i b
 exact zE (zA (zB (wP I (wP I (Aa (zE (zO (A8 tH I (.tmp I) b I tO fun W1 hp=>A3.of_hp hp))))))))
abbrev Mb (b:Nat) (q:Ah):List (Nat×Obj):=[(b, .cells (cvV q).cells 35 (0,0))]
theorem Ei (l:List Ah) (b1:Nat) (p:Option Addr) (cap:Nat) (hn:l.length<1099511627776):Og Tryz.prog 103 [An b1] l.length (Ws l) (fun _=>Uu b1 p cap l):=by
 refine⟨fun y J Jx hN hB hA hU hY W hJ=> ?_⟩
 have hdr: ∀k L W,J k L W→J k L { W with drawn:=W.drawn+1 }:=fun k L W h=>hB k L W _ h ⟨rfl,rfl,rfl,Nat.le_refl _,fun _ _=>rfl⟩
 have hp0:=(hN _ _ W hJ).1.pts
 refine Ea (args:=[.func (.yield y) #[] #[],An b1]) (J0:=J 0 []) (Jm:=fun W=> ∃L,J l.length L W) Tryz.func103 I I I hJ ?_
 refine zA (zB (wL 0 I I (fun W hp=>(hN _ _ W hp).1.var) I (wP I (wP I (Aa (zE (zH ?_)))))))
 refine DI (X:=Nat×List (Nat×Obj)) (fun s=>[(0, .func (.yield y) #[] #[]),(1,An b1),(5,slv p l.length cap),(6, .int .i64 (l.length:Nat)),(7, .int .i64 (s.1:Nat))]) (fun s W=>J s.1 s.2 W)
  (fun s=>s.1≤l.length) (fun s=>l.length-s.1) (0,[]) (Nat.zero_le _) ⟨rfl,rfl,rfl,rfl,rfl,trivial⟩ (fun W hp=>hp) ?_
 rintro⟨i,L⟩ hi
 have hi:i≤l.length:=hi
 refine zA (zB (wP I ?_))
 by_cases hlt:i<l.length
 rotate_left
 ·refine wU 8 false I (dF (by omega)) (Aa (zE (zA (zS I (zJ (zK (zK (zL ?_))))))))
  exact Hv I fun W hp=>⟨L,by
   have e:i=l.length:=by omega
   have hp:J i L W:=hp
   rw[e] at hp
   exact hp⟩
 refine wU 8 true I (dT (by omega)) (Aa (zE (zA (zR I (zI (zE (zA (zH (zA (zB ?_))))))))))
 have hn0:0<l.length:=by omega
 have l2:(i+1)%l.length<l.length:=Nat.mod_lt _ hn0
 obtain⟨g,off,hpe,hrow⟩: ∃g off,p=some ⟨g,off,none⟩∧ ∀W k L,J k L W→ ∀j,j<l.length→Ar W g (off+j*2) [str (Af (Ac l j).1),str (Af (Ac l j).2)]:=by
  obtain⟨g,off,e,_⟩:=hp0.at_ hlt
  refine⟨g,off,e,fun W1 k L1 h1 j hj=> ?_⟩
  obtain⟨g',off',e',h2⟩:=(hN _ _ W1 h1).1.pts.at_ hj
  rw[e] at e'
  cases e'
  rw[AF hj]
  exact h2 j hj
 subst hpe
 have hz:(l.length:Int)≠0:=by omega
 have e2:(w64 ((i:Int)+1)).tmod (l.length:Int)=(((i+1)%l.length:Nat):Int):=by
  rw[Ak (x:=(i:Int)+1) (by omega) (by omega)]
  rfl
 refine wP I ?_
 refine wJ ?_
 refine wL 0 I I (fun W hp=>hrow W _ _ hp i hlt) I ?_
 refine Mn (fun b W=>J i [(b, .cells (Value.agg #[str [],str []]).cells 35 (0,0))] W) I I I (Tryz.hZ.get I) (fun W W' b hp hb hl ho=>hA _ _ W W' b _ hp hb hl ho) fun b=> ?_
 refine wP I ?_
 refine Mk (cs:=[str [],str []]) (ty:=35) (fun W=>J i (Mb b (Ac l i)) W) tH I I I I I I (fun W hp=>(hN _ _ W hp).2 (b,_) (List.mem_cons_self ..)) I I I (fun W W' hp hu=>hU _ _ _ _ W W' hp hu) ?_
 refine Aa (zE (Au ?_))
 refine Rz 12 (hdr _ _) Tryz.mixed (by kernel_rfl) I ?_
 refine qP I (qP I (qL 0 I I (fun W hp=>show Ar W b 0 (cvV (Ac l i)).cells.toList from Ar.of_block ((hN _ _ W hp).2 (b,_) (List.mem_cons_self ..))) I (qL 0 I I (fun W hp=>(hN _ _ W hp).1.var) I (qP I (qP I (qL 0 I I (fun W hp=>(hN _ _ W hp).1.var) I (qP I ?_)))))))
 refine Ex I I I I I hz ?_
 refine qV 20 (((i+1)%l.length:Nat):Int) I e2 ?_
 refine qJ ?_
 refine qL 0 I I (fun W hp=>hrow W _ _ hp ((i+1)%l.length) l2) I ?_
 refine RG 2 (.agg #[str [],str [],str [],str []]) Tryz.underlying66 (fun W=>by kernel_rfl) Tryz.sizeOf35 I I I I I ?_
 refine AJ ?_
 have hYk: ∀W,J i (Mb b (Ac l i)) W→YieldAt (Fw none) 0 Tryz.prog y (Ws l i).toArray W fun e W'=>(e= .returned (.bool true)∧J (i+1) (Mb b (Ac l i)) W')∨(e= .returned (.bool false)∧Jx W'):=fun W h=>hY _ _ W hlt h
 unfold Ws at hYk
 rw[←EH l (i+1)] at hYk
 refine FQ (A1:=fun W=>J (i+1) (Mb b (Ac l i)) W) (A2:=Jx) I I I I I I hYk ?_ ?_
 rotate_left
 ·exact wP I (Aa (zE (zR I (zO (zQ (zP (zP (zQ (CZ I (fun W h=>h))))))))))
 exact wP I (Aa (zE (zS I (zI (zN (zE (zB (wP I (wV 26 ((i+1:Nat):Int) I (Av (by omega)) (wP I (Aa (DO (i+1,Mb b (Ac l i)) hlt (by show l.length-(i+1)<l.length-i;omega) ⟨I,I,I,I,I,tO⟩ (fun W hp=>hp)))))))))))))
theorem LK (W:World) (p:Option Addr) (cap:Nat) (l:List PtS) (hA:GN W p l) (hn:l.length<4611686018427387904) (hs: ∀x∈l,x.1.length≤4000000000∧x.2.length≤4000000000) (hv:BP W) (ht:Bc W):
  Ap Tryz.prog 54 #[slv p l.length cap] W (fun _:Unit=> .int .i64 (I1 l)) (fun _=>True) (fun _=>[]):=by
 refine Ae (args:=[slv p l.length cap]) Tryz.func54 I I I ?_
 refine zA (zB (wP I (Aa (zE (zA (zA (zB (wP I (wP I (wP I (Aa (zE (zH ?_)))))))))))))
 refine A9 (X:=Nat) (fun i=>[(2, .int .i64 0),(8,slv p l.length cap),(9, .int .i64 (l.length:Nat)),(10, .int .i64 (i:Nat))]) (fun _=>[]) (fun i=>i≤l.length∧I1 l=I1 (l.drop i)) (fun i=>l.length-i) 0 ⟨Nat.zero_le _,I⟩ ⟨I,I,I,I,tO⟩ [] I ?_
 rintro i ⟨hi,he⟩
 have hi:i≤l.length:=hi
 have he:I1 l=I1 (l.drop i):=he
 refine zA (zB (wP I ?_))
 by_cases hlt:i<l.length
 rotate_left
 ·refine wU 11 false I (dF (by omega)) (Aa (zE (zA (zS I (zJ (zK (zK (zL (zE (zA (zB (wP I (Aa ?_)))))))))))))
  exact zE (zO (wR1 I I (by rw[he,List.drop_of_length_le (by omega)];rfl)))
 refine wU 11 true I (dT (by omega)) (Aa (zE (zA (zR I (zI (zE (zA (zH (zA (zB ?_))))))))))
 obtain⟨b,off,rfl,hrow⟩: ∃b off,p=some ⟨b,off,none⟩∧ ∀i (hi:i<l.length),Ar W b (off+i*2) [str l[i].1,str l[i].2]:=by
  rcases hA with h|h
  ·rw[h] at hlt;exact absurd hlt (by simp)
  ·exact h
 have hr:=hrow i hlt
 have hz:=hs l[i] (List.getElem_mem _)
 rw[Si hlt] at he
 obtain⟨⟨x,y⟩,hx⟩: ∃x,x=l[i]:=⟨_,rfl⟩
 rw[←hx] at hr hz he
 simp only at hr hz he
 refine wJ ?_
 refine wL 0 I I (fun W1 hp=>hr.hp hp) I ?_
 (refine Ao Tryz.hZ rfl rfl rfl rfl ?_;intro)
 refine wS 0 I I I (Aa (zE (zA (zB (wP I (wB 0 I I I (wP I (wB 0 I I I ?_))))))))
 refine AO Tryz.hZ tH I I I I I I I I I I I fun bS=> ?_
 refine wP I (wP I (Aa ?_))
 rename_i b4
 refine zE (zH ?_)
 refine A9 (X:=Nat) (fun k=>[(2, .int .i64 0),(8,slv (some ⟨b,off,none⟩) l.length cap),(9, .int .i64 (l.length:Nat)),(10, .int .i64 (i:Nat)),(18,slv (some ⟨bS,0,none⟩) 2 2),(19, .int .i64 2),(20, .int .i64 (k:Nat))]) (fun _=>[⟨b4,35,[str x,str y],true,none⟩,⟨bS,23,[str x,str y],true,none⟩]) (fun k=>k=0∨k=1∧(rdR x).2=0∨k=2∧(rdR x).2=0∧(rdR y).2=0) (fun k=>2-k) 0 (Or.inl I) ⟨I,I,I,I,I,I,I,tO⟩ [] I ?_
 rintro k (rfl|⟨rfl,h1⟩|⟨rfl,h1,h2⟩)
 ·refine zA (zB (wP I (Aa (zE (zA (zR I (zI (zE (zA (zH (zA (zB (wI I I (by decide) (by decide) ?_)))))))))))))
  refine wB 1 I I I (wP I (Aa (zE (zA (zB (wP I (wC I I (fun W1 hp=>Gj x hz.1 W1 (hv.hp hp) (ht.hp hp)) (wP I (Aa (zE (zA (zB (wP I (wP I ?_))))))))))))))
  by_cases h1:(rdR x).2=0
  rotate_left
  ·refine wU 27 true I (bne_iff_ne.2 h1) (Aa (zE (zR I (zA (zB (wP I (wP I (Aa (zE (zO (zQ (zP (zP ?_)))))))))))))
   refine zQ (zQ (zP (zP (zQ (zP ?_)))))
   rw[if_pos h1] at he
   exact wR1 I I (by rw[he])
  exact wU 27 false I (bne_eq_false_iff_eq.2 h1) (Aa (zE (zS I (zI (zN (zE (zB (wP I (wP I (Aa (A0 1 (Or.inr (Or.inl ⟨I,h1⟩)) (by decide) ⟨I,I,I,I,I,I,I,tO⟩ [] I)))))))))))
 ·rw[if_neg (fun h=>h h1)] at he
  refine zA (zB (wP I (Aa (zE (zA (zR I (zI (zE (zA (zH (zA (zB (wI I I (by decide) (by decide) ?_)))))))))))))
  refine wB 1 I I I (wP I (Aa (zE (zA (zB (wP I (wC I I (fun W1 hp=>Gj y hz.2 W1 (hv.hp hp) (ht.hp hp)) (wP I (Aa (zE (zA (zB (wP I (wP I ?_))))))))))))))
  by_cases h2:(rdR y).2=0
  rotate_left
  ·refine wU 27 true I (bne_iff_ne.2 h2) (Aa (zE (zR I (zA (zB (wP I (wP I (Aa (zE (zO (zQ (zP (zP ?_)))))))))))))
   refine zQ (zQ (zP (zP (zQ (zP ?_)))))
   rw[if_pos h2] at he
   exact wR1 I I (by rw[he])
  exact wU 27 false I (bne_eq_false_iff_eq.2 h2) (Aa (zE (zS I (zI (zN (zE (zB (wP I (wP I (Aa (A0 2 (Or.inr (Or.inr ⟨I,h1,h2⟩)) (by decide) ⟨I,I,I,I,I,I,I,tO⟩ [] I)))))))))))
 ·rw[if_neg (fun h=>h h1),if_neg (fun h=>h h2)] at he
  refine zA (zB (wP I (Aa (zE (zA (zS I (zJ (zK (zK (zL (zN (zE (zB ?_)))))))))))))
  exact wP I (wV 30 ((i+1:Nat):Int) I (Av (by omega)) (wP I (Aa (A0 (i+1) ⟨hlt,he⟩ (by show l.length-(i+1)<l.length-i;omega) ⟨I,I,I,I,tO⟩ [_,_] I))))
-- BOXES 12
-- CODE2
def H3 (k:Nat) (l:List Ah):Prop:= ∀p∈l,szQ p.1 k∧szQ p.2 k
theorem H3.at_ {k:Nat} {l:List Ah} (h:H3 k l) (h0:0<l.length) (i:Nat):szQ (Ac l i).1 k∧szQ (Ac l i).2 k:=h _ (AK h0 i)
theorem QP {p q r:Ah} {k:Nat} (hp:szQ p.1 k∧szQ p.2 k) (hq:szQ q.1 k∧szQ q.2 k) (hr:szQ r.1 k∧szQ r.2 k) (hk:k≤36):Wb p q r:=by
 have a:=hq.1.sub hp.1
 have b:=hr.2.sub hp.2
 have c:=hq.2.sub hp.2
 have d:=hr.1.sub hp.1
 exact⟨sz2 hq.1 hp.1 (by omega),sz2 hr.2 hp.2 (by omega),sz2 hq.2 hp.2 (by omega),sz2 hr.1 hp.1 (by omega),sz2 a b (by omega),sz2 c d (by omega),sz2 (a.mul b) (c.mul d) (by omega)⟩
theorem Wh {x y:Rat} (h:y<x):DN x y=1:=by
 have h1:=Pq x y
 rw[dT h] at h1
 have h2:=of_decide_eq_true h1
 rcases EZ x y with e|e|e<;>omega
theorem Uw {p q r:Ah} (h:0<AG p q r):QB p q r=1:=Wh (by unfold AG at h;grind)
theorem Tg {l:List Ah} (h:Df l) {k i:Nat} (hk:k<l.length) (hi:i<l.length) (h1:i≠k) (h2:i≠(k+1)%l.length):QB (Ac l k) (Ac l (k+1)) (Ac l i)=1:=by
 refine Uw (Cg.sideS h hk hi h1 ?_ ?_)
 ·intro e
  rw[e,Nat.mod_eq_of_lt (by omega)] at h2
  exact h2 I
 ·rintro⟨e,e2⟩
  rw[e,e2,Nat.mod_self] at h2
  exact h2 I
theorem B2 {W0 W:World} {bxs:List Bx} (hp:Hp W0 bxs W) (k:Nat) {c:Nat} (h:bxs[k]? =some ⟨c,61,[.int .i64 0],true,none⟩):C3 W c:=
 (hp.own.cell k _ h (c,_) (List.mem_cons_self ..)).1
theorem BU.b {W:World} {p:Option Addr} {l:List Ah} (h:BU W p l):GN W p (l.map ptS):=by
 rcases h with e|⟨g,off,e,hr⟩
 ·exact .inl (by rw[e];rfl)
 ·refine .inr ⟨g,off,e,fun i hi=> ?_⟩
  rw[List.getElem_map]
  exact hr i (by rw[List.length_map] at hi;exact hi)
theorem Rc: ∀ {l:List Ah},(∀p∈l,okQ p.1∧okQ p.2)→I1 (l.map ptS)=0
 |[],_=>rfl
 |p::l,h=>by
  obtain⟨h1,h2⟩:=h p (List.mem_cons_self ..)
  show(if (rdR (Af p.1)).2≠0 then _ else if (rdR (Af p.2)).2≠0 then _ else I1 (l.map ptS))=0
  rw[MN h1,MN h2,if_neg (fun h=>h rfl),if_neg (fun h=>h rfl)]
  exact Rc fun q hq=>h q (List.mem_cons_of_mem _ hq)
theorem G0 (W:World) (p:Option Addr) (cap:Nat) (l:List Ah) (hA:BU W p l) (hn:l.length≤100000) (hk: ∀p∈l,okQ p.1∧okQ p.2) (hv:BP W) (ht:Bc W):
  Ap Tryz.prog 54 #[slv p l.length cap] W (fun _:Unit=> .int .i64 0) (fun _=>True) (fun _=>[]):=by
 have h:=LK W p cap (l.map ptS) hA.b (by rw[List.length_map];omega) (fun x hx=>by
  obtain⟨q,hq,rfl⟩:=List.mem_map.1 hx
  have h1:=Bm (hk q hq).1
  have h2:=Bm (hk q hq).2
  show(Af q.1).length≤_∧(Af q.2).length≤_
  omega) hv ht
 rwa [Rc hk,List.length_map] at h
theorem Io (l:List Ah) (hP:Df l) (h3:3≤l.length) (hn:l.length≤4096) (hs:H3 36 l) (p:Option Addr) (cap:Nat) (W:World) (hA:BU W p l) (hv:BP W) (ht:Bc W):
  Ap Tryz.prog 18 #[slv p l.length cap] W (fun _:Unit=> .int .i64 0) (fun _=>True) (fun _=>[]):=by
 have hn0:0<l.length:=by omega
 have hz:(l.length:Int)≠0:=by omega
 refine Ae (args:=[slv p l.length cap]) Tryz.func18 I I I ?_
 refine zA (zB ?_)
 (refine AD rfl rfl rfl rfl ?_;intro)
 (refine Ao Tryz.hZ rfl rfl rfl rfl ?_;intro)
 refine Aa ?_
 rename_i b1 b2
 refine zE (zA (zH (zA (zB (wB 0 I I I (wP I (wP I (wU 13 false I (dF (by omega)) (wP I (Aa (zE (zS I (zA ?_)))))))))))))
 refine zB (wB 0 I I I (wP I (wP I (wU 17 false I (dF (by omega)) (wP I (Aa (zE (zS I (zI (zN (zE (zA (zA ?_)))))))))))))
 refine zB (wB 0 I I I (wC I I (fun W1 hp=>G0 W1 p cap l (hA.hp hp) (by omega) (fun q hq=>⟨(hs q hq).1.ok (by decide),(hs q hq).2.ok (by decide)⟩) (hv.hp hp) (ht.hp hp)) (wP I (Aa (zE (zA (zB (wP I (wP I (Aa (zE (zS I (zI ?_)))))))))))))
 refine zE (zA (zB ?_))
 refine AC Tryz.hZ tH I I I I I I I I ?_
 (refine AD rfl rfl rfl rfl ?_;intro)
 (refine Ao Tryz.hZ rfl rfl rfl rfl ?_;intro)
 (refine Ao Tryz.hZ rfl rfl rfl rfl ?_;intro)
 refine wS 3 I I I (wS 4 I I I (Aa ?_))
 rename_i bC b4 b5
 refine zE (zA (zA (zB (wB 0 I I I ?_))))
 refine wD (X:=Nat) I I (fun W1 _=>D8 p l.length cap W1) ?_
 intro bp _
 refine Aa (zE (zH ?_))
 refine EJ (X:=Unit) (fun _=>[⟨b1,22,[slv p l.length cap],true,none⟩,⟨b2,27,[.int .i64 0],true,none⟩,⟨bC,61,[.int .i64 0],true,none⟩,⟨b4,59,[An bC],true,none⟩,⟨b5,4,[.bool false],true,none⟩,⟨bp,22,[slv p l.length cap],true,none⟩])
  (fun _ _=>True) (fun _ _=>False) () rfl (by kernel_rfl) (Ei l bp p cap (by omega)) (fun _=>rfl)
  trivial [] rfl (fun k x W1 _ hp=>⟨Ar.of_bx hp 5 rfl rfl,hA.hp hp⟩) ?_ ?_ (fun _ _ _ _ _ h=>h.elim)
 ·rintro k ⟨⟩ d l' rec L hk _ hrec
  have hk:k<l.length:=hk
  refine zA (zB (wP I (Aa (zE (zB ?_)))))
  (refine Ao Tryz.hZ rfl rfl rfl rfl ?_;intro)
  refine wS 9 I I I (Aa ?_)
  rename_i b7
  refine CQ 8 hrec I ?_
  refine Cc (zA (zB (wB 1 I I I (wP I (wP I (Aa (zE (zH ?_))))))))
  refine A9 (X:=Nat) (fun i=>[(1,An b1),(2,An b2),(4,An b4),(5,An b5),(6, .int .i64 (k:Nat)),(7,An b7),(29,slv p l.length cap),(30, .int .i64 (l.length:Nat)),(31, .int .i64 (i:Nat))])
   (fun _=>[Ax L,⟨b1,22,[slv p l.length cap],true,none⟩,⟨b2,27,[.int .i64 0],true,none⟩,⟨bC,61,[.int .i64 0],true,none⟩,⟨b4,59,[An bC],true,none⟩,⟨b5,4,[.bool false],true,none⟩,⟨bp,22,[slv p l.length cap],true,none⟩,B8 d,Bj l' rec .busy none,⟨b7,66,(sdV (Ac l k) (Ac l (k+1))).cells.toList,true,none⟩])
   (fun i=>i≤l.length) (fun i=>l.length-i) 0 (Nat.zero_le _) ⟨rfl,rfl,rfl,rfl,rfl,rfl,rfl,rfl,rfl,trivial⟩ [] rfl ?_
  intro i hi
  have hi:i≤l.length:=hi
  refine zA (zB (wP I ?_))
  by_cases hlt:i<l.length
  rotate_left
  ·exact wU 32 false I (dF (by omega)) (Aa (zE (zA (zS I (zJ (zK (zK (zL (zN (Co 8 () hrec I tO [_] I))))))))))
  refine wU 32 true I (dT (by omega)) (Aa (zE (zA (zR I (zI (zE (zA (zH (zA (zB ?_))))))))))
  obtain⟨g,off,hpe,hrow⟩:=hA.at_ hlt
  have hrow:=hrow i hlt
  rw[←AF hlt] at hrow
  subst hpe
  refine wP I ?_
  refine wJ ?_
  refine wL 0 I I (fun W1 hp=>hrow.hp hp) I ?_
  (refine Ao Tryz.hZ rfl rfl rfl rfl ?_;intro)
  refine wP I (wS 10 I I I (Aa ?_))
  rename_i b9
  refine zE (zA (zA (zB (wP I (wP I (wP I ?_))))))
  by_cases h1:i=k
  ·refine wU 38 false I (bne_eq_false_iff_eq.2 (by omega)) (wP I ?_)
   iterate 7 refine Aw I I ?_
   refine wP I (wP I ?_)
   iterate 8 refine Aw I I ?_
   refine wP I (Aa (zE (zS I (zI (zE (zA (zB (wB 4 I I I ?_))))))))
   refine AP I I I I ?_
   exact wP I (wB 3 I I I (wP I (Aa (zE (zS I (zI (zN (zE (zB (wP I (wV 67 ((i+1:Nat):Int) I (Av (by omega)) (wP I (Aa (A0 (i+1) hlt (by show l.length-(i+1)<l.length-i;omega) ⟨I,I,I,I,I,I,I,I,I,tO⟩ [_] I))))))))))))))
  refine wU 38 true I (bne_iff_ne.2 (by omega)) (wP I (wP I (wP I (wP I (wV 42 ((k+1:Nat):Int) I (Av (by omega)) (wB 1 I I I (wP I ?_)))))))
  refine Gk I I I I I hz ?_
  refine wV 45 (((k+1)%l.length:Nat):Int) I I (wP I ?_)
  by_cases h2:i=(k+1)%l.length
  ·refine wU 46 false I (bne_eq_false_iff_eq.2 (by omega)) (wP I (wP I ?_))
   iterate 8 refine Aw I I ?_
   refine wP I (Aa (zE (zS I (zI (zE (zA (zB (wB 4 I I I ?_))))))))
   refine AP I I I I ?_
   exact wP I (wB 3 I I I (wP I (Aa (zE (zS I (zI (zN (zE (zB (wP I (wV 67 ((i+1:Nat):Int) I (Av (by omega)) (wP I (Aa (A0 (i+1) hlt (by show l.length-(i+1)<l.length-i;omega) ⟨I,I,I,I,I,I,I,I,I,tO⟩ [_] I))))))))))))))
  refine wU 46 true I (bne_iff_ne.2 (by omega)) (wP I (wP I (wB 4 I I I ?_)))
  refine EC Tryz.underlying66 Tryz.sizeOf35 I I I I I ⟨by decide,by decide⟩ ?_
  refine wB 9 I I I ?_
  refine EC Tryz.underlying66 Tryz.sizeOf35 I I I I I ⟨by decide,by decide⟩ ?_
  refine wB 9 I I I (wB 10 I I I (wC I I (fun W1 hp=>(OD bC (Ac l k) (Ac l (k+1)) (Ac l i) (QP (hs.at_ hn0 _) (hs.at_ hn0 _) (hs.at_ hn0 _) (by decide)) W1 (B2 hp 3 I) (hv.hp hp) (ht.hp hp)).cast (v':= .int .i64 1) (by rw[Tg hP hk hlt h1 h2])) (wP I (wP I (Aa (zE (zS I (zI (zE (zA (zB (wB 4 I I I ?_))))))))))))
  refine AP I I I I ?_
  exact wP I (wB 3 I I I (wP I (Aa (zE (zS I (zI (zN (zE (zB (wP I (wV 67 ((i+1:Nat):Int) I (Av (by omega)) (wP I (Aa (A0 (i+1) hlt (by show l.length-(i+1)<l.length-i;omega) ⟨I,I,I,I,I,I,I,I,I,tO⟩ [_] I))))))))))))))
 ·rintro⟨⟩ d l' rec _
  refine zN (zE (zA (zA (zB (wB 4 I I I (Aa (zE (zS I (zI (zE (zA (zB (wS 1 I I I ?_)))))))))))))
  refine Aa (zE (zO ?_))
  refine CJ 6 I ?_
  exact A8 tH I (.cell 1 I I I I I) () I tO fun W _=>A3.nil _ _
-- BOXES 6
-- CODE2
structure GG (W:World) (p:Option Addr) (l:List Ah):Prop where
 poly:Df l
 n3:3≤l.length
 n:l.length≤4096
 sz:H3 36 l
 m:BU W p l
 v:BP W
 t:Bc W
theorem GG.hp {W0 W:World} {bxs:List Bx} {p:Option Addr} {l:List Ah} (h:GG W0 p l) (hp:Hp W0 bxs W):GG W p l:=⟨h.poly,h.n3,h.n,h.sz,h.m.hp hp,h.v.hp hp,h.t.hp hp⟩
theorem GG.chk {W:World} {p:Option Addr} {l:List Ah} (h:GG W p l) (cap:Nat):Ap Tryz.prog 18 #[slv p l.length cap] W (fun _:Unit=> .int .i64 0) (fun _=>True) (fun _=>[]):=
 Io l h.poly h.n3 h.n h.sz p cap W h.m h.v h.t
theorem H8 (l:List Ah) (p:Option Addr) (cap:Nat) (W:World) (h:GG W p l):
  Ap Tryz.prog 41 #[slv p l.length cap, .slice none 0 0] W (fun _:Unit=> .int .i64 0) (fun _=>True) (fun _=>[]):=by
 refine Ae (args:=[slv p l.length cap, .slice none 0 0]) Tryz.func41 I I I ?_
 refine zA (zB (wP I (Aa (zE (zA (zA (zB (wP I (wC I I (fun W1 hp=>(h.hp hp).chk cap) (wP I (Aa (zE (zS I ?_)))))))))))))
 refine zI (zE (zA (zA (zB (wP I (wP I (wP I (Aa (zE (zH ?_))))))))))
 refine A9 (X:=Unit) (fun _=>[(1, .slice none 0 0),(4, .int .i64 0),(12, .int .i64 0),(13, .int .i64 0)]) (fun _=>[]) (fun _=>True) (fun _=>0) () tO ⟨I,I,I,I,tO⟩ [] I ?_
 intro _ _
 refine zA (zB (wP I (Aa (zE (zA (zS I (zJ (zK (zK (zL (zE (zA (zA ?_)))))))))))))
 refine zB (wP I (wP I (wP I (wP I ?_))))
 iterate 4 refine Aw I I ?_
 refine wP I (wP I ?_)
 iterate 4 refine Aw I I ?_
 exact wP I (Aa (zE (zS I (zI (zE (zA (zB (wP I (Aa (zE (zO (wR1 I I I))))))))))))
theorem H6 (l:List Ah) (p:Option Addr) (cap:Nat) (a b d:Rat) (ha:okQ a) (hb:okQ b) (hd:okQ d) (h0:a≠0∨b≠0) (g cp:Nat) (W:World) (h:GG W p l) (hrow:Ar W g 0 [str (Af a),str (Af b),str (Af d)]):
  Ap Tryz.prog 41 #[slv p l.length cap,slv (some ⟨g,0,none⟩) 3 cp] W (fun _:Unit=> .int .i64 0) (fun _=>True) (fun _=>[]):=by
 have hv:=h.v
 have ht:=h.t
 have hS:Hk W (some ⟨g,0,none⟩) [Af a,Af b,Af d]:= .inr ⟨g,0,rfl,hrow⟩
 have hok: ∀x∈[Af a,Af b,Af d],x.length≤4000000000∧(rdR x).2=0:=fun x hx=>by
  have one: ∀ {q:Rat},okQ q→(Af q).length≤4000000000∧(rdR (Af q)).2=0:=fun {q} hq=>by
   have:=Bm hq
   exact⟨by omega,by rw[MN hq]⟩
  rcases List.mem_cons.1 hx with rfl|hx
  ·exact one ha
  ·rcases List.mem_cons.1 hx with rfl|hx
   ·exact one hb
   ·obtain rfl:=List.mem_singleton.1 hx;exact one hd
 refine Ae (args:=[slv p l.length cap,slv (some ⟨g,0,none⟩) 3 cp]) Tryz.func41 I I I ?_
 refine zA (zB (wP I (Aa (zE (zA (zA (zB (wP I (wC I I (fun W1 hp=>(h.hp hp).chk cap) (wP I (Aa (zE (zS I ?_)))))))))))))
 refine zI (zE (zA (zA (zB (wP I (wP I (wP I (Aa (zE (zH ?_))))))))))
 refine A9 (X:=Nat) (fun i=>[(1,slv (some ⟨g,0,none⟩) 3 cp),(4, .int .i64 0),(11,slv (some ⟨g,0,none⟩) 3 cp),(12, .int .i64 3),(13, .int .i64 (i:Nat))]) (fun _=>[]) (fun i=>i≤3) (fun i=>3-i) 0 (Nat.zero_le _) ⟨I,I,I,I,I,tO⟩ [] I ?_
 intro i hi
 have hi:i≤3:=hi
 refine zA (zB (wP I ?_))
 by_cases hlt:i<3
 ·refine wU 14 true I (dT (by omega)) (Aa (zE (zA (zR I (zI (zE (zA (zH (zA (zB ?_))))))))))
  obtain⟨g',off,hpe,hr⟩:=hS.row (i:=i) hlt
  have hr:=hr i hlt
  obtain⟨x,hx⟩: ∃x,x=[Af a,Af b,Af d][i]'hlt:=⟨_,rfl⟩
  obtain⟨hl,hE⟩:=hok x (hx▸List.getElem_mem hlt)
  rw[←hx] at hr
  cases hpe
  refine wJ ?_
  refine wL 0 I I (fun W1 hp=>hr.hp hp) I (wP I (Aa (zE (zA (zB (wP I (wC I I (fun W1 hp=>(Gj x hl W1 (hv.hp hp) (ht.hp hp)).cast (v':= .int .i64 0) (by rw[hE])) (wP I (Aa (zE (zA (zB (wP I (wP I ?_))))))))))))))
  exact Aa (zE (zS I (zI (zN (zE (zB (wP I (wV 22 ((i+1:Nat):Int) I (Av (by omega)) (wP I (Aa (A0 (i+1) hlt (by show 3-(i+1)<3-i;omega) ⟨I,I,I,I,I,tO⟩ [] I)))))))))))
 refine wU 14 false I (dF (by omega)) (Aa (zE (zA (zS I (zJ (zK (zK (zL (zE (zA (zA (zB ?_))))))))))))
 have r0:Ar W g (0+0*1) [str (Af a)]:=⟨hrow.lt,fun k u hu=>by
  cases k with
  |zero=>simp at hu;exact hrow.get 0 u (by simpa using hu)
  |succ k=>simp at hu⟩
 have r1:Ar W g (0+1*1) [str (Af b)]:=⟨hrow.lt,fun k u hu=>by
  cases k with
  |zero=>simp at hu;exact hrow.get 1 u (by simpa using hu)
  |succ k=>simp at hu⟩
 iterate 5 refine wP I ?_
 refine wI I I (by decide) (by decide) (wL 0 I I (fun W1 hp=>r0.hp hp) I (wP I ?_))
 by_cases ha0:a=0
 ·have hb0:b≠0:=by rcases h0 with h0|h0;exact absurd ha0 h0;exact h0
  refine wU 30 true I ((B4 _ _).trans ((K7 a).trans (dT ha0))) (wP I (wP I (wP I (wI I I (by decide) (by decide) (wL 0 I I (fun W1 hp=>r1.hp hp) I (wP I (wU 36 false I ((B4 _ _).trans ((K7 b).trans (dF hb0))) (wP I (Aa (zE (zS I (zI (zE ?_)))))))))))))
  exact zA (zB (wP I (Aa (zE (zO (wR1 I I I))))))
 ·refine wU 30 false I ((B4 _ _).trans ((K7 a).trans (dF ha0))) (wP I (wP I ?_))
  iterate 4 refine Aw I I ?_
  exact wP I (Aa (zE (zS I (zI (zE (zA (zB (wP I (Aa (zE (zO (wR1 I I I))))))))))))
structure Wt (f:Bs) (q:Ah):Prop where
 m1:Sz2 f.a q.1
 m2:Sz2 f.b q.2
 s:Sz2 (f.a*q.1) (f.b*q.2)
 d:Sz2 (f.a*q.1+f.b*q.2) f.c
structure IZ (b4 b5 b6 b7 c:Nat) (f:Bs) (W:World):Prop where
 r4:Ar W b4 0 [An c]
 r5:Ar W b5 0 [str (Af f.a)]
 r6:Ar W b6 0 [str (Af f.b)]
 r7:Ar W b7 0 [str (Af f.c)]
 k:C3 W c
 v:BP W
 t:Bc W
theorem C3.below {W W':World} {c n:Nat} (h:C3 W c) (hn:W.heap.size≤n) (hb:Below n W W'):C3 W' c:=
 (hb.block c (Nat.lt_of_lt_of_le (Array.getElem?_eq_some_iff.1 h).1 hn)).trans h
theorem IZ.below {b4 b5 b6 b7 c:Nat} {f:Bs} {W W':World} (h:IZ b4 b5 b6 b7 c f W) (hb:Below W.heap.size W W'):IZ b4 b5 b6 b7 c f W':=
 ⟨h.r4.below (Nat.le_refl _) hb,h.r5.below (Nat.le_refl _) hb,h.r6.below (Nat.le_refl _) hb,h.r7.below (Nat.le_refl _) hb,h.k.below (Nat.le_refl _) hb,h.v.below hb,h.t.below hb⟩
theorem IZ.hp {b4 b5 b6 b7 c:Nat} {f:Bs} {W0 W:World} {bxs:List Bx} (h:IZ b4 b5 b6 b7 c f W0) (hp:Hp W0 bxs W):IZ b4 b5 b6 b7 c f W:=h.below hp.below
theorem EB (c:Nat) (f:Bs) (W:World):Ap Tryz.prog 67 #[An c,str (Af f.a),str (Af f.b),str (Af f.c)] W
  (fun x:Nat×Nat×Nat×Nat=> .func (.func 132) #[] #[An x.1,An x.2.1,An x.2.2.1,An x.2.2.2]) (fun _=>True)
  (fun x=>[⟨x.1,59,[An c],true,none⟩,⟨x.2.1,23,[str (Af f.a)],true,none⟩,⟨x.2.2.1,23,[str (Af f.b)],true,none⟩,⟨x.2.2.2,23,[str (Af f.c)],true,none⟩]):=by
 refine Ae (args:=[An c,str (Af f.a),str (Af f.b),str (Af f.c)]) Tryz.func67 I I I ?_
 refine zA (zB ?_)
 (refine AD rfl rfl rfl rfl ?_;intro)
 (refine AD rfl rfl rfl rfl ?_;intro)
 (refine AD rfl rfl rfl rfl ?_;intro)
 (refine AD rfl rfl rfl rfl ?_;intro)
 refine wP I (Aa ?_)
 rename_i b4 b5 b6 b7
 exact zE (zA (zB (wP I (wP I (Aa (zE (zO (A8 tH I (.tmp I) (b4,b5,b6,b7) I tO fun W1 hp=>A3.of_hp hp))))))))
theorem CF (b4 b5 b6 b7 c:Nat) (f:Bs) (q:Ah) (hz:Wt f q) (W:World) (hL:IZ b4 b5 b6 b7 c f W):
  Ap Tryz.prog 132 #[cvV q,An b4,An b5,An b6,An b7] W (fun _:Unit=>str (Af (f.at q))) (fun _=>True) (fun _=>[]):=by
 refine Ae (args:=[cvV q,An b4,An b5,An b6,An b7]) Tryz.func132 I I I ?_
 refine zA (zB ?_)
 (refine AD rfl rfl rfl rfl ?_;intro)
 refine wP I (Aa (zE (zA (zU (qL 0 I I (fun W1 hp=>(hL.hp hp).r4) I (qL 0 I I (fun W1 hp=>(hL.hp hp).r5) I (qP I (qB 0 I I I (qC I I (fun W1 hp=>Ca c f.a q.1 hz.m1 W1 (hL.hp hp).k (hL.hp hp).v (hL.hp hp).t) (qL 0 I I (fun W1 hp=>(hL.hp hp).r4) I (qL 0 I I (fun W1 hp=>(hL.hp hp).r6) I (qP I (qB 0 I I I ?_)))))))))))))
 refine qC I I (fun W1 hp=>Ca c f.b q.2 hz.m2 W1 (hL.hp hp).k (hL.hp hp).v (hL.hp hp).t) (qP I (qP I (AJ (Aa (zE (zA (zU (qL 0 I I (fun W1 hp=>(hL.hp hp).r4) I (qL 0 I I (fun W1 hp=>(hL.hp hp).r4) I (qP I (qP I (qC I I (fun W1 hp=>C7 c (f.a*q.1) (f.b*q.2) hz.s W1 (hL.hp hp).k (hL.hp hp).v (hL.hp hp).t) (qL 0 I I (fun W1 hp=>(hL.hp hp).r7) I ?_)))))))))))))
 exact qC I I (fun W1 hp=>C9 c (f.a*q.1+f.b*q.2) f.c hz.d W1 (hL.hp hp).k (hL.hp hp).v (hL.hp hp).t) (qP I (AJ (Aa (zE (zO (wR1 I I I))))))
abbrev vsC (l:List Rat):List Value:=l.map fun q=>str (Af q)
theorem UQ (a b:List Rat):vsC (a++b)=vsC a++vsC b:=List.map_append
theorem CH (l:List Ah) (F:Ah→Rat) (g:Nat) (capt:List Value) (hE:Bd Tryz.prog g=true) (hn:l.length≤4096) (p:Option Addr) (cap:Nat) (W:World) (hA:BU W p l)
  (hg: ∀q∈l, ∀W1,Below W.heap.size W W1→Ap Tryz.prog g ([cvV q]++capt).toArray W1 (fun _:Unit=>str (Af (F q))) (fun _=>True) (fun _=>[])):
  Ap Tryz.prog 66 #[slv p l.length cap, .func (.func g) #[] capt.toArray] W (fun V:Vec=>V.val l.length) (fun V=>V.OK 1 l.length (vsC (l.map F))) (fun V=>[V.bx 23 (vsC (l.map F))]):=by
 refine Ae (args:=[slv p l.length cap, .func (.func g) #[] capt.toArray]) Tryz.func66 I I I ?_
 refine zA (zB (wP I (Aa (zE (zA (zB (wP I (Aa (zE (zA (zA (zB (wP I (wP I (wP I ?_)))))))))))))))
 refine Aa (zE (zH ?_))
 refine Fj ?_
 refine A9 (X:=Nat×Vec) (fun s=>[(1, .func (.func g) #[] capt.toArray),(5,s.2.val s.1),(8,slv p l.length cap),(9, .int .i64 (l.length:Nat)),(10, .int .i64 (s.1:Nat))])
  (fun s=>[s.2.bx 23 (vsC ((l.take s.1).map F))]) (fun s=>s.1≤l.length∧s.2.OK 1 s.1 (vsC ((l.take s.1).map F))) (fun s=>l.length-s.1) (0,Vec.empty) ⟨Nat.zero_le _,Vec.OK.empty 1⟩ ⟨rfl,rfl,rfl,rfl,rfl,trivial⟩ [] rfl ?_
 rintro⟨i,V⟩ ⟨hi,hV⟩
 have hi:i≤l.length:=hi
 have hV:V.OK 1 i (vsC ((l.take i).map F)):=hV
 refine zA (zB (wP I ?_))
 by_cases hlt:i<l.length
 ·refine wU 11 true I (dT (by omega)) (Aa (zE (zA (zR I (zI (zE (zA (zH (zA (zB ?_))))))))))
  obtain⟨gp,off,hpe,hrow⟩:=hA.at_ hlt
  have hrow:=hrow i hlt
  have hq:=hg l[i] (List.getElem_mem hlt)
  have hsu:(l.take (i+1)).map F=(l.take i).map F++[F l[i]]:=by
   rw[List.take_add_one,List.getElem?_eq_getElem hlt,List.map_append];rfl
  obtain⟨q,hqe⟩: ∃q,q=l[i]:=⟨_,rfl⟩
  rw[←hqe] at hrow hq hsu
  subst hpe
  refine wJ ?_
  refine wL 0 I I (fun W1 hp=>hrow.hp hp) I ?_
  (refine Ao Tryz.hZ rfl rfl rfl rfl ?_;intro)
  refine wS 1 I I I (Aa (zE (zB (wP I (wP I (wB 1 I I I ?_))))))
  refine AW (capt:=capt) I I I I I I hE (fun W1 hp=>hq W1 hp.below) ?_
  refine AO Tryz.hZ tH I I I I I I I I I I I fun bS=> ?_
  refine BJ (V:=V) (len:=i) (xs:=vsC ((l.take i).map F)) 0 2 Tryz.vec87 (i+1) (vsC ((l.take (i+1)).map F)) I I I I I I I I I I I hV I I I (by rw[hsu,UQ];rfl) (by simp only[maxLen];omega) (by omega) I ?_
  intro gV cV jV hV1
  exact wP I (Aa (zN (zE (zB (wP I (wV 20 ((i+1:Nat):Int) I (Av (by omega)) (wP I (Aa (A0 (i+1,⟨some gV,cV,jV⟩) ⟨hlt,hV1⟩ (by show l.length-(i+1)<l.length-i;omega) ⟨I,I,I,I,I,tO⟩ _ I)))))))))
 have e:i=l.length:=by omega
 subst e
 have et:l.take l.length=l:=List.take_of_length_le (Nat.le_refl _)
 rw[et] at hV
 refine wU 11 false I (dF (by omega)) (Aa (zE (zA (zS I (zJ (zK (zK (zL (zE (zA (zB (wP I (wP I ?_)))))))))))))
 refine Aa (zE (zO ?_))
 exact A8 tH I (.tmp I) V I hV fun W1 hp=>by
  have hp:Hp W [V.bx 23 (vsC ((l.take l.length).map F))] W1:=hp
  rw[et] at hp
  exact A3.of_hp hp
end
end Go.Proofs.YthndmdimmgkpgaaGreatDoor
namespace Go.Proofs
open Go.Shelf
def Tryz.lays125_ren:Go.Shelf.Ren:=⟨fun|125=>134|128=>189|129=>190|n=>n,fun|3=>3|4=>4|5=>5|9=>9|46=>148|51=>196|53=>198|n=>n,fun n=>n⟩
theorem Tryz.lays125:Go.Proofs.Lays.n125 Tryz.prog Tryz.lays125_ren:= {
 mixed:=by kernel_rfl
 f125:=Tryz.func134.trans (congrArg some (by kernel_rfl))
 f128:=Tryz.func189.trans (congrArg some (by kernel_rfl))
 f129:=Tryz.func190.trans (congrArg some (by kernel_rfl))
 t3:=Tryz.underlying3
 a3:=Tryz.isAgg3
 z3:=Tryz.sizeOf3
 v3:=Tryz.zeroValue3
 t4:=Tryz.underlying4
 a4:=Tryz.isAgg4
 z4:=Tryz.sizeOf4
 v4:=Tryz.zeroValue4
 t5:=Tryz.underlying5
 a5:=Tryz.isAgg5
 z5:=Tryz.sizeOf5
 v5:=Tryz.zeroValue5
 t9:=Tryz.underlying9
 a9:=Tryz.isAgg9
 z9:=Tryz.sizeOf9
 v9:=Tryz.zeroValue9
 t46:=Tryz.underlying148
 a46:=Tryz.isAgg148
 z46:=Tryz.sizeOf148
 v46:=Tryz.zeroValue148
 t51:=Tryz.underlying196
 a51:=Tryz.isAgg196
 z51:=Tryz.sizeOf196
 v51:=Tryz.zeroValue196
 t53:=Tryz.underlying198
 a53:=Tryz.isAgg198
 z53:=Tryz.sizeOf198
 v53:=Tryz.zeroValue198 }
end Go.Proofs
namespace Go.Proofs.YthndmdimmgkpgaaGreatDoor
section
open Go Go.RowKit Go.Am Go.Lib
set_option maxRecDepth 10000
-- BOXES 3
structure CC (W W':World) (g:Nat):Prop where
 os:W'.os=W.os
 tape:W'.tape=W.tape
 output:W'.output=W.output
 size:W.heap.size≤W'.heap.size
 at_: ∀x,x≠g→x<W.heap.size→W'.heap[x]? =W.heap[x]?
theorem BV {W W':World} {g:Nat} {B:Bx} {o:Obj} (hg:W.heap[g]? =some o) (hB: ∃o',(g,o')∈B.blk) (hp:Hp (AE W) [Ax (Ai W g),B] W'):CC W W' g:=by
 have c0: ∀p∈Ai W g,W'.heap[p.1]? =some p.2:=fun p hq=>(hp.own.cell 0 _ rfl p hq).1
 have old: ∀x,x≠g→x<W.heap.size→W'.heap[x]? =W.heap[x]? :=fun x hx hlt=>by
  have h1:W.heap[x]? =some W.heap[x]:=Array.getElem?_eq_getElem hlt
  rw[h1]
  exact c0 (x,W.heap[x]) (CW.2 ⟨hx,h1⟩)
 refine⟨hp.below.os,hp.below.tape,hp.below.output, ?_,old⟩
 have hlt:=(Array.getElem?_eq_some_iff.1 hg).1
 by_cases e:W.heap.size-1=g
 ·obtain⟨o',ho⟩:=hB
  have:=(Array.getElem?_eq_some_iff.1 (hp.own.cell 1 B rfl _ ho).1).1
  have h2:g<W'.heap.size:=this
  omega
 ·have h1:=old (W.heap.size-1) e (by omega)
  rw[Array.getElem?_eq_getElem (show W.heap.size-1<W.heap.size by omega)] at h1
  have:=(Array.getElem?_eq_some_iff.1 h1).1
  omega
theorem CC.trans {W W1 W2:World} {g:Nat} (h:CC W W1 g) (h':CC W1 W2 g):CC W W2 g:=
 ⟨h'.os.trans h.os,h'.tape.trans h.tape,h'.output.trans h.output,Nat.le_trans h.size h'.size,fun x hx hlt=>(h'.at_ x hx (Nat.lt_of_lt_of_le hlt h.size)).trans (h.at_ x hx hlt)⟩
theorem CC.below {W0 W W':World} {g:Nat} (hk:CC W W' g) (hb:Below W0.heap.size W0 W) (hg:W0.heap.size≤g):Below W0.heap.size W0 W':=
 ⟨hk.os.trans hb.os,hk.tape.trans hb.tape,hk.output.trans hb.output,Nat.le_trans hb.size hk.size,fun i hi=>(hk.at_ i (by omega) (Nat.lt_of_lt_of_le hi hb.size)).trans (hb.block i hi)⟩
theorem Ig {W0 W:World} {bxs:List Bx} (hp:Hp W0 bxs W) (k:Nat) {g:Nat} {e:TypeId} {xs A B C:List Value} {off:Nat} (hk:nth bxs k=some ⟨g,e,xs,true,none⟩) (hxs:xs=A++(B++C)) (hoff:off=A.length):Ar W g off B:=by
 have h:=Ar.of_bx hp k hk rfl
 refine⟨h.lt,fun m u hu=> ?_⟩
 have:=h.get (A.length+m) u (by
  show xs[A.length+m]? =some u
  rw[hxs,List.getElem?_append_right (by omega),Nat.add_sub_cancel_left,List.getElem?_append_left (List.getElem?_eq_some_iff.1 hu).1]
  exact hu)
 rw[Nat.zero_add, ←hoff] at this
 exact this
theorem W5 {r:Option Nat} {n:Nat} {P:Program} {W0:World} {N:Nat} {D:List Deferred} {c:Code} {Q:Exit→Act→World→Prop} {env:Env} {bxs bxs':List Bx} (e:bxs=bxs') (h:WC r n P N D c Q env (Hp W0 bxs')):WC r n P N D c Q env (Hp W0 bxs):=e▸h
section
variable {r:Option Nat} {n:Nat} {P:Program} {N:Nat} {D:List Deferred} {ops:List Oper} {Q:Exit→Act→World→Prop} {o:Oper} {rest:List Oper} {env:Env} {A:World→Prop}
theorem K8 {W:World} {t ty e:TypeId} {size bytes:Nat} {z:Value} (hty:VecTy P t e size bytes z) {b:Option Addr} {k c c':Nat} (hk:k≤c):
  (Builtin.append_ #[t,t] ty #[.slice b k c, .slice none 0 c']).run P W= .ok (.slice b k c) W:=by
 obtain⟨i,hi,hz,hsz,hby⟩:=hty.hi
 have hs:(Go.sizeOf e).run P W= .ok i.size W:=by simp[sizeOf,typeInfo,hi]
 cases b<;>simp[Builtin.append_,run_underlying hty.ht,hs,hk,Builtin.lenOf,Builtin.firstCells,storeCells]
theorem IM {d:Nat} {t e:TypeId} {size bytes:Nat} {z:Value} (hty:VecTy P t e size bytes z) {c:Call} {s x:Operand} {b:Option Addr} {k cp cp':Nat}
  (hg:A6 ops N env o=some true) (hd:o.dst=some d) (ho:o.op= .call c) (hc:c.callee= .builtin .append) (ha:c.args= #[s,x]) (hat:c.argTypes= #[t,t])
  (hs:evO N env s=some (.slice b k cp)) (hx:evO N env x=some (.slice none 0 cp')) (hk:k≤cp)
  (h:WL r n P N D ops Q rest ((d, .slice b k cp)::env) A):WL r n P N D ops Q (o::rest) env A:= .mk fun act W h2 h3 hp=>by
 refine BH hg h2 (fun c e=>by rw[ho] at e;cases e) ?_
 have hr:=K8 (P:=P) (W:=W) (ty:=o.type) hty (b:=b) (c':=cp') hk
 have e1:c.args.map (ov env act).eval= #[.slice b k cp, .slice none 0 cp']:=by rw[ha];simp[AL h2 _ _ hs,AL h2 _ _ hx]
 have:(execOp (ov env act).eval o).run P W= .ok (.value (.slice b k cp)) W:=by
  simp only[execOp,ho,resolve,hc,invoke,builtin,e1,hat,Sem.run_bind,Sem.run_pure,Result.andThen_ok,hr]
 rw[this]
 simp only[Oper.uponIn,hd]
 exact h.out act W h2 h3 hp
end
def VM (V:Vec):Option Addr:=V.p.map fun g=>⟨g,0,none⟩
def Vv (V:Vec):Nat:=match V.p with
 |none=>0
 |some _=>V.cap
theorem Kv {V:Vec} {size n:Nat} {xs:List Value} (h:V.OK size n xs):V.val n= .slice (VM V) n (Vv V):=by
 obtain⟨p,cap,junk⟩:=V
 cases p with
 |none=>rw[h.nil rfl];rfl
 |some g=>rfl
theorem TR {V:Vec} {size n:Nat} {xs:List Value} (h:V.OK size n xs):n≤Vv V:=by
 obtain⟨p,cap,junk⟩:=V
 cases p with
 |none=>rw[h.nil rfl];exact Nat.le_refl _
 |some g=>exact(h.cap (by simp)).1
def Le (W:World) (p:Option Addr) (cs:List Value):Prop:=cs=[]∨ ∃b off,p=some ⟨b,off,none⟩∧Ar W b off cs
theorem Le.none {W:World} {l:List Value} (h:Le W none l):l=[]:=by
 rcases h with h|⟨b,off,e,_⟩
 ·exact h
 ·cases e
-- BOXES 3
def T2p (n0 n1:Nat):Nat→Nat
 |0=>0
 |1=>n0
 |_=>n0+n1
def C2p (c0 c1:List Value):Nat→List Value
 |0=>[]
 |1=>c0
 |_=>c0++c1
theorem N0 (W:World) (m:Nat) (hm:m≤1000000):Ap Tryz.prog 138 #[.slice none 0 0, .int .i64 (m:Nat)] W (fun V:Vec=>V.val 0) (fun V=>V.OK 2 0 []∧(0<m→V.p≠none)) (fun V=>[V.bx 35 []]):=by
 refine Ae (args:=[.slice none 0 0, .int .i64 (m:Nat)]) Tryz.func138 I I I ?_
 refine zA (zB (wP I (Aa (zE (zA (zA (zB (wP I (wP I (Aa (zE (zS I (zI ?_)))))))))))))
 refine zE (zA (zA (zB ?_)))
 iterate 8 refine wP I ?_
 refine Aa (zE (zA (zB (wP I (wP I (Aa (zE ?_)))))))
 have e14:w64 ((m:Int)-w64 (0-0))=m:=by
  have:w64 (0-0)=0:=rfl
  rw[this];exact(Ak (by omega) (by omega)).trans (by omega)
 refine Bf 16 _ I (show Value.bool (decide (w64 ((m:Int)-w64 (0-0))>0))= .bool (decide (0<m)) by rw[e14];congr 1;simp) ?_
 refine AA I (fun h=> ?_) (fun h=> ?_)
 ·have h:0<m:=by simpa using h
  refine zB (wP I (wP I (wP I ?_)))
  refine Cs 0 tH I I I I I I I I (Nat.le_refl _) ?_
  refine wP I ?_
  refine L3 Tryz.vec22 (ku:= .i64) (by kernel_rfl) m I I I I I I I I e14 h (by simp only[maxLen];omega) (by omega) ?_
  intro V hV hp hj
  refine wP I (wP I ?_)
  obtain⟨p,cap,junk⟩:=V
  cases p with
  |none=>exact absurd rfl hp
  |some g=>
  refine Cs (a:=some ⟨g,0,none⟩) (len:=m) (cap:=cap) 0 tH I I I I I I I I (Nat.zero_le _) ?_
  refine wP I (Aa (zE (zA (zB (wP I (wP I (Aa (zE (zO ?_)))))))))
  obtain⟨h1,h2,h3⟩:=hV.cap (by simp)
  refine A8 tH rfl (.tmp rfl) (⟨some g,cap,BQ [.string ⟨#[]⟩, .string ⟨#[]⟩] m++junk⟩:Vec) rfl ⟨⟨rfl,(fun h=>by cases h),fun _=>⟨Nat.zero_le _,h2, ?_⟩⟩,fun _=>by simp⟩ fun W hp=>A3.of_hp1 hp 0 rfl
  show 0+(BQ _ m++junk).length=cap*2
  rw[List.length_append,Nat.zero_add]
  exact h3
 ·have h:m=0:=by simp at h;omega
  subst h
  exact zI (zE (zA (zB (wP rfl (wP rfl (Aa (zE (zO (A8 tH rfl (.tmp rfl) Vec.empty rfl ⟨Vec.OK.empty 2,fun h=>absurd h (Nat.lt_irrefl _)⟩ fun W hp=>Own.one (fun p hp=>by cases hp) List.nodup_nil)))))))))
theorem EN (W:World) (b cap:Nat) (p0 p1:Option Addr) (n0 n1 k0 k1:Nat) (c0 c1:List Value) (hrow:Ar W b 0 [.slice p0 n0 k0, .slice p1 n1 k1]) (h0:Le W p0 c0) (h1:Le W p1 c1) (l0:c0.length=n0*2) (l1:c1.length=n1*2)
  (o0: ∀u∈c0,u.oneCell'=true) (o1: ∀u∈c1,u.oneCell'=true) (b0:n0≤100000) (b1:n1≤100000):
  Ap Tryz.prog 77 #[.slice (some ⟨b,0,none⟩) 2 cap] W (fun V:Vec=>V.val (n0+n1)) (fun V=>V.OK 2 (n0+n1) (c0++c1)) (fun V=>[V.bx 35 (c0++c1)]):=by
 refine Ae (args:=[.slice (some ⟨b,0,none⟩) 2 cap]) Tryz.func77 I I I ?_
 refine zA (zB (wP I (Aa (zE (zA (zB (wP I (Aa (zE (zA (zA (zB (wP I (wP I (wP I ?_)))))))))))))))
 refine Aa (zE (zH ?_))
 refine A9 (X:=Nat) (fun k=>[(0, .slice (some ⟨b,0,none⟩) 2 cap),(3, .int .i64 (T2p n0 n1 k:Nat)),(9, .slice (some ⟨b,0,none⟩) 2 cap),(10, .int .i64 2),(11, .int .i64 (k:Nat))]) (fun _=>[])
  (fun k=>k≤2) (fun k=>2-k) 0 (Nat.zero_le _) ⟨rfl,rfl,rfl,rfl,rfl,trivial⟩ [] rfl ?_
 intro i hi
 have hi:i=0∨i=1∨i=2:=by have:i≤2:=hi;omega
 rcases hi with rfl|rfl|rfl
 ·refine zA (zB (wP I (Aa (zE (zA (zR I (zI (zE (zA (zH (zA (zB ?_))))))))))))
  refine wJ ?_
  refine wL 0 I I (fun W hp=>hrow.hp hp) I (wP I (Aa (zE (zA (zB (wP I (wP I (wP I (wP I (wV 18 (T2p n0 n1 1:Nat) I (show w64 ((T2p n0 n1 0:Nat)+(n0:Nat))=(T2p n0 n1 1:Nat) by have hT0:T2p n0 n1 0=0:=I;have hT1:T2p n0 n1 1=n0:=I;rw[Ak (by omega) (by omega)];omega) (wP I (Aa (zE ?_)))))))))))))
  exact zA (zB (wP I (wP I (Aa (zE (zS I (zI (zN (zE (zB (wP I (wP I (Aa (A0 1 (by decide) (by decide) ⟨I,I,I,I,I,tO⟩ [] I))))))))))))))
 ·refine zA (zB (wP I (Aa (zE (zA (zR I (zI (zE (zA (zH (zA (zB ?_))))))))))))
  refine wJ ?_
  refine wL 1 I I (fun W hp=>hrow.hp hp) I (wP I (Aa (zE (zA (zB (wP I (wP I (wP I (wP I (wV 18 (T2p n0 n1 2:Nat) I (show w64 ((T2p n0 n1 1:Nat)+(n1:Nat))=(T2p n0 n1 2:Nat) by have hT0:T2p n0 n1 1=n0:=I;have hT1:T2p n0 n1 2=n0+n1:=I;rw[Ak (by omega) (by omega)];omega) (wP I (Aa (zE ?_)))))))))))))
  exact zA (zB (wP I (wP I (Aa (zE (zS I (zI (zN (zE (zB (wP I (wP I (Aa (A0 2 (by decide) (by decide) ⟨I,I,I,I,I,tO⟩ [] I))))))))))))))
 refine zA (zB (wP I (Aa (zE (zA (zS I (zJ (zK (zK (zL (zE (zA (zB ?_)))))))))))))
 refine wP I ?_
 refine wD (X:=Vec) I I (fun W _=>N0 W (n0+n1) (by omega)) ?_
 rintro V0 ⟨hV0,hV0p⟩
 refine wP I (Aa (zE (zA (zA (zB (wP I (wP I (wP I (Aa (zE (zH ?_)))))))))))
 refine A9 (X:=Nat×Vec) (fun x=>[(6,x.2.val (T2p n0 n1 x.1)),(25, .slice (some ⟨b,0,none⟩) 2 cap),(26, .int .i64 2),(27, .int .i64 (x.1:Nat))]) (fun x=>[x.2.bx 35 (C2p c0 c1 x.1)])
  (fun x=>x.1≤2∧x.2.OK 2 (T2p n0 n1 x.1) (C2p c0 c1 x.1)) (fun x=>2-x.1) (0,V0) ⟨Nat.zero_le _,hV0⟩ ⟨rfl,rfl,rfl,rfl,trivial⟩ [] rfl ?_
 rintro⟨i,V⟩ ⟨hi,hV⟩
 have hi:i=0∨i=1∨i=2:=by have:i≤2:=hi;omega
 rcases hi with rfl|rfl|rfl
 ·have hV:V.OK 2 (T2p n0 n1 0) (C2p c0 c1 0):=hV
  have hT0:T2p n0 n1 0=0:=rfl
  have hT1:T2p n0 n1 1=n0:=rfl
  refine zA (zB (wP I (Aa (zE (zA (zR I (zI (zE (zA (zH (zA (zB ?_))))))))))))
  refine wJ ?_
  refine wL 0 I I (fun W hp=>hrow.hp hp) I (wP I (Aa (zE (zB (wP I (wP I ?_))))))
  cases p0 with
  |none=>
   have hc:=h0.none
   have hn0:n0=0:=by rw[hc,List.length_nil] at l0;omega
   refine Al 31 (.slice (VM V) (T2p n0 n1 0) (Vv V)) I (Kv hV) ?_
   refine Al 32 (.slice none 0 k0) I (by rw[hn0]) ?_
   refine IM Tryz.vec22 I I I I I I I I (TR hV) ?_
   refine Al 33 (V.val (T2p n0 n1 0)) I (Kv hV).symm ?_
   have eT:T2p n0 n1 0=T2p n0 n1 1:=by omega
   have eC:C2p c0 c1 0=C2p c0 c1 1:=by show[]=c0;rw[hc]
   rw[eT,eC] at hV
   rw[eT,eC]
   exact wP I (Aa (zN (zE (zB (wP I (wP I (Aa (A0 (1,V) ⟨by show 1≤2;decide,hV⟩ (by show 2-1<2-0;decide) ⟨I,I,I,I,tO⟩ [] I))))))))
  |some a=>
   refine EG (len:=T2p n0 n1 0) (V:=V) 0 Tryz.vec22 I I I I I I I I I hV l0 (fun W hp j u hj=> ?_) o0 (by simp only[maxLen];omega) (by omega) ?_
   ·obtain⟨ab,ao,asp⟩:=a
    rcases h0 with h|⟨b',off',e,h⟩
    ·rw[h] at hj;simp at hj
    ·cases e
     rw[Addr.add_none]
     exact(h.hp hp).get j u hj
   intro V' hV' _
   have eT:T2p n0 n1 0+n0=T2p n0 n1 1:=by omega
   have eC:C2p c0 c1 0++c0=C2p c0 c1 1:=rfl
   rw[eT,eC] at hV'
   rw[eT,eC]
   exact wP I (Aa (zN (zE (zB (wP I (wP I (Aa (A0 (1,V') ⟨by show 1≤2;decide,hV'⟩ (by show 2-1<2-0;decide) ⟨I,I,I,I,tO⟩ [] I))))))))
 ·have hV:V.OK 2 (T2p n0 n1 1) (C2p c0 c1 1):=hV
  have hT0:T2p n0 n1 1=n0:=rfl
  have hT1:T2p n0 n1 2=n0+n1:=rfl
  refine zA (zB (wP I (Aa (zE (zA (zR I (zI (zE (zA (zH (zA (zB ?_))))))))))))
  refine wJ ?_
  refine wL 1 I I (fun W hp=>hrow.hp hp) I (wP I (Aa (zE (zB (wP I (wP I ?_))))))
  cases p1 with
  |none=>
   have hc:=h1.none
   have hn0:n1=0:=by rw[hc,List.length_nil] at l1;omega
   refine Al 31 (.slice (VM V) (T2p n0 n1 1) (Vv V)) I (Kv hV) ?_
   refine Al 32 (.slice none 0 k1) I (by rw[hn0]) ?_
   refine IM Tryz.vec22 I I I I I I I I (TR hV) ?_
   refine Al 33 (V.val (T2p n0 n1 1)) I (Kv hV).symm ?_
   have eT:T2p n0 n1 1=T2p n0 n1 2:=by omega
   have eC:C2p c0 c1 1=C2p c0 c1 2:=by show c0=c0++c1;rw[hc];simp
   rw[eT,eC] at hV
   rw[eT,eC]
   exact wP I (Aa (zN (zE (zB (wP I (wP I (Aa (A0 (2,V) ⟨by show 2≤2;decide,hV⟩ (by show 2-2<2-1;decide) ⟨I,I,I,I,tO⟩ [] I))))))))
  |some a=>
   refine EG (len:=T2p n0 n1 1) (V:=V) 0 Tryz.vec22 I I I I I I I I I hV l1 (fun W hp j u hj=> ?_) o1 (by simp only[maxLen];omega) (by omega) ?_
   ·obtain⟨ab,ao,asp⟩:=a
    rcases h1 with h|⟨b',off',e,h⟩
    ·rw[h] at hj;simp at hj
    ·cases e
     rw[Addr.add_none]
     exact(h.hp hp).get j u hj
   intro V' hV' _
   have eT:T2p n0 n1 1+n1=T2p n0 n1 2:=by omega
   have eC:C2p c0 c1 1++c1=C2p c0 c1 2:=rfl
   rw[eT,eC] at hV'
   rw[eT,eC]
   exact wP I (Aa (zN (zE (zB (wP I (wP I (Aa (A0 (2,V') ⟨by show 2≤2;decide,hV'⟩ (by show 2-2<2-1;decide) ⟨I,I,I,I,tO⟩ [] I))))))))
 refine zA (zB (wP I (Aa (zE (zA (zS I (zJ (zK (zK (zL (zE (zA (zB ?_)))))))))))))
 exact wP I (wP I (Aa (zE (zO (A8 tH I (.tmp I) V I hV fun W hp=>A3.of_hp1 hp 0 I)))))
-- BOXES 6
-- CODE2
structure VF (p q:Ah) (u v:Rat):Prop where
 s:Sz2 u v
 d:Sz2 u (u-v)
 nz:(u-v).num≠0
 x1:Sz2 q.1 p.1
 x2:Sz2 (u/(u-v)) (q.1-p.1)
 x3:Sz2 p.1 (u/(u-v)*(q.1-p.1))
 y1:Sz2 q.2 p.2
 y2:Sz2 (u/(u-v)) (q.2-p.2)
 y3:Sz2 p.2 (u/(u-v)*(q.2-p.2))
theorem KY (c:Nat) (p q:Ah) (u v:Rat) (hz:VF p q u v) (W:World) (hc:C3 W c) (hv:BP W) (ht:Bc W):
  Ap Tryz.prog 69 #[An c,cvV p,cvV q,str (Af u),str (Af v)] W (fun _:Unit=>cvV (FE (u/(u-v)) p q)) (fun _=>True) (fun _=>[]):=by
 refine Ae (args:=[An c,cvV p,cvV q,str (Af u),str (Af v)]) Tryz.func69 I I I ?_
 refine zA (zB ?_)
 (refine AD rfl rfl rfl rfl ?_;intro)
 (refine AD rfl rfl rfl rfl ?_;intro)
 (refine Ao Tryz.hZ rfl rfl rfl rfl ?_;intro)
 refine Aa (zE (zA (zB ?_)))
 iterate 5 refine wP I ?_
 refine wC I I (fun W hp=>C9 c u v hz.s W (hc.hp hp) (hv.hp hp) (ht.hp hp)) (wC I I (fun W hp=>Gg c u (u-v) hz.d hz.nz W (hc.hp hp) (hv.hp hp) (ht.hp hp)) (wP I (Aa (zE (zA (zU (qP I (qP I (qB 0 I I I (qP I (qP I (qP I (qP I ?_)))))))))))))
 refine qB 1 I I I (qP I (qB 0 I I I (qC I I (fun W hp=>C9 c q.1 p.1 hz.x1 W (hc.hp hp) (hv.hp hp) (ht.hp hp)) (qC I I (fun W hp=>Ca c (u/(u-v)) (q.1-p.1) hz.x2 W (hc.hp hp) (hv.hp hp) (ht.hp hp)) (qC I I (fun W hp=>C7 c p.1 (u/(u-v)*(q.1-p.1)) hz.x3 W (hc.hp hp) (hv.hp hp) (ht.hp hp)) (qP I (AJ (Aa (zE (zA (zU (qP I (qP I ?_)))))))))))))
 refine qB 0 I I I (qP I (qP I (qP I (qP I (qB 1 I I I (qP I (qB 0 I I I (qC I I (fun W hp=>C9 c q.2 p.2 hz.y1 W (hc.hp hp) (hv.hp hp) (ht.hp hp)) (qC I I (fun W hp=>Ca c (u/(u-v)) (q.2-p.2) hz.y2 W (hc.hp hp) (hv.hp hp) (ht.hp hp)) (qC I I (fun W hp=>C7 c p.2 (u/(u-v)*(q.2-p.2)) hz.y3 W (hc.hp hp) (hv.hp hp) (ht.hp hp)) (qP I (AJ (Aa ?_)))))))))))))
 refine zE (zA (zB (wP I (wP I ?_))))
 refine AC Tryz.hZ tH I I I I I I I I ?_
 exact wS 2 I I I (Aa (zE (zO (A8 tH I (.cell 2 I I I I I) () I tO fun W _=>A3.nil _ _))))
theorem Nr (q:Rat):decide (E7 q<0)=decide (q<0):=by
 refine decide_eq_decide.2 ?_
 have h:q.num<0↔q<0:=by rw[←Rat.not_le, ←Rat.num_nonneg];omega
 rw[←h]
 unfold E7
 split
 ·omega
 ·split<;>omega
theorem MM (q:Rat) (W:World):Ap Tryz.prog 98 #[str (Af q)] W (fun _:Unit=> .bool (decide (q<0))) (fun _=>True) (fun _=>[]):=by
 refine Ae (args:=[str (Af q)]) Tryz.func98 I I I ?_
 refine zA (zB (wP I (Aa (zE (zA (zB (wP I (wC I I (fun W hp=>El q W) (wP I (wU 5 (decide (q<0)) I (Nr q) (wP I (Aa (zE ?_)))))))))))))
 exact zO (wR1 I I I)
theorem RT {α:Type} {p:α→Bool} {l:List α} {i:Nat} (hi:i<l.length):(l.drop i).any p=(p l[i]||(l.drop (i+1)).any p):=by
 rw[List.drop_eq_getElem_cons hi,List.any_cons]
theorem Me (g:Nat) (hE:Bd Tryz.prog g=true) (F:Rat→Bool) (hg: ∀q W,Ap Tryz.prog g #[str (Af q)] W (fun _:Unit=> .bool (F q)) (fun _=>True) (fun _=>[])) (l:List Rat) (hn:l.length≤100000) (p:Option Addr) (cap:Nat) (W:World) (hS:Hk W p (l.map Af)):
  Ap Tryz.prog 147 #[slv p l.length cap, .func (.func g) #[] #[]] W (fun z:Int=> .int .i64 z) (fun z=>0≤z↔l.any F=true) (fun _=>[]):=by
 refine Ae (args:=[slv p l.length cap, .func (.func g) #[] #[]]) Tryz.func147 I I I ?_
 refine zA (zB (wP I (Aa (zE (zA (zA (zB (wP I (wP I (wP I (Aa (zE (zH ?_)))))))))))))
 refine A9 (X:=Nat) (fun i=>[(0,slv p l.length cap),(1, .func (.func g) #[] #[]),(6,slv p l.length cap),(7, .int .i64 (l.length:Nat)),(8, .int .i64 (i:Nat))]) (fun _=>[]) (fun i=>i≤l.length∧l.any F=(l.drop i).any F) (fun i=>l.length-i) 0 ⟨Nat.zero_le _,by rw[List.drop_zero]⟩ ⟨I,I,I,I,I,tO⟩ [] I ?_
 intro i hi
 obtain⟨hi,hA⟩:i≤l.length∧l.any F=(l.drop i).any F:=hi
 refine zA (zB (wP I ?_))
 by_cases hlt:i<l.length
 rotate_left
 ·refine wU 9 false I (dF (by omega)) (Aa (zE (zA (zS I (zJ (zK (zK (zL (zE (zA (zB (wP I (Aa ?_)))))))))))))
  refine zE (zO ?_)
  rw[List.drop_of_length_le (by omega)] at hA
  exact A8 tH I (.tmp I) (-1:Int) I (by rw[hA];exact⟨fun h=>absurd h (by decide),fun h=>absurd (show false=true from h) (by decide)⟩) fun W _=>A3.nil _ _
 refine wU 9 true I (dT (by omega)) (Aa (zE (zA (zR I (zI (zE (zA (zH (zA (zB ?_))))))))))
 obtain⟨b,off,rfl,hrow⟩:=hS.row (i:=i) (by rw[List.length_map];exact hlt)
 have hr:=hrow i (by rw[List.length_map];exact hlt)
 rw[List.getElem_map] at hr
 rw[RT hlt] at hA
 obtain⟨q,hq⟩: ∃q,q=l[i]:=⟨_,rfl⟩
 rw[←hq] at hr hA
 refine wP I (wP I (Aa (zE (zA (zB (wP I (wP I (wP I ?_))))))))
 refine wJ ?_
 refine wL 0 I I (fun W1 hp=>hr.hp hp) I ?_
 refine AW (capt:=[]) I I I I I I hE (fun W1 _=>hg q W1) ?_
 refine Aa (zE ?_)
 refine AA I (fun hc=> ?_) (fun hc=> ?_)
 ·have hc:F q=true:=hc
  exact zA (zB (wP I (wP I (Aa (zE (zO (zQ (zP (zP (zQ (zP (A8 tH I (.tmp I) ((i:Nat):Int) I ⟨fun _=>by rw[hA,hc];rfl,fun _=>by omega⟩ fun W _=>A3.nil _ _))))))))))))
 ·have hc:F q=false:=hc
  rw[hc,Bool.false_or] at hA
  exact zI (zN (zE (zB (wP I (wV 18 ((i+1:Nat):Int) I (Av (by omega)) (wP I (Aa (A0 (i+1) ⟨hlt,hA⟩ (by show l.length-(i+1)<l.length-i;omega) ⟨I,I,I,I,I,tO⟩ [] I))))))))
theorem Je (g:Nat) (hE:Bd Tryz.prog g=true) (F:Rat→Bool) (hg: ∀q W,Ap Tryz.prog g #[str (Af q)] W (fun _:Unit=> .bool (F q)) (fun _=>True) (fun _=>[])) (l:List Rat) (hn:l.length≤100000) (p:Option Addr) (cap:Nat) (W:World) (hS:Hk W p (l.map Af)):
  Ap Tryz.prog 97 #[slv p l.length cap, .func (.func g) #[] #[]] W (fun _:Unit=> .bool (l.any F)) (fun _=>True) (fun _=>[]):=by
 refine Ae (args:=[slv p l.length cap, .func (.func g) #[] #[]]) Tryz.func97 I I I ?_
 refine zA (zB (wP I (Aa (zE (zA (zB (wP I (wP I ?_))))))))
 refine wD (X:=Int) I I (fun W1 hp=>Me g hE F hg l hn p cap W1 (hS.hp hp)) ?_
 intro z hz
 have hz:0≤z↔l.any F=true:=hz
 refine wP I ?_
 refine Al 8 (.bool (l.any F)) I (congrArg Value.bool (by
  cases h:l.any F with
  |true=>exact dT (hz.2 h)
  |false=>exact dF fun h2=>by rw[hz.1 h2] at h;cases h)) ?_
 exact wP I (Aa (zE (zO (wR1 I I I))))
theorem Ro (p q:Rat):(p<q∧DN p q= -1)∨(p=q∧DN p q=0)∨(q<p∧DN p q=1):=by
 have h1:=Oq p q
 have h2:=Pq p q
 rcases EZ p q with e|e|e<;>rw[e] at h1 h2⊢
 ·exact .inl ⟨of_decide_eq_true h1.symm,I⟩
 ·refine .inr (.inl ⟨?_,I⟩)
  have a:=of_decide_eq_false h1.symm
  have b:=of_decide_eq_false h2.symm
  exact Rat.le_antisymm (Rat.not_lt.1 b) (Rat.not_lt.1 a)
 ·exact .inr (.inr ⟨of_decide_eq_true h2.symm,I⟩)
theorem Dj (p q:Ah):decide (GP p q<0)=Be p q:=by
 unfold GP Be
 have h1:=Ro p.1 q.1
 have h2:=Ro p.2 q.2
 rcases h1 with⟨a,e⟩|⟨a,e⟩|⟨a,e⟩
 ·rw[e,if_neg (by decide),dT a];rfl
 ·rw[e,if_pos rfl,Oq,dF (show¬p.1<q.1 by grind),dT a,Bool.false_or,Bool.true_and]
 ·rw[e,if_neg (by decide),dF (show¬p.1<q.1 by grind),dF (show¬p.1=q.1 by grind)];rfl
abbrev ptC (l:List Ah):List Value:=l.flatMap fun q=>[str (Af q.1),str (Af q.2)]
theorem BM (a b:List Ah):ptC (a++b)=ptC a++ptC b:=List.flatMap_append
theorem AS (l:List Ah):(ptC l).length=l.length*2:=by
 induction l with
 |nil=>rfl
 |cons p l ih=>show(ptC l).length+1+1=(l.length+1)*2;rw[ih];omega
theorem Fs (l:List Ah): ∀u∈ptC l,u.oneCell'=true:=fun u hu=>by
 obtain⟨q,_,h⟩:=List.mem_flatMap.1 hu
 rcases List.mem_cons.1 h with rfl|h
 ·rfl
 ·obtain rfl:=List.mem_singleton.1 h;rfl
theorem Cm {W:World} {g off:Nat} {a b:List Value} (h:Ar W g off (a++b)):Ar W g off a:=⟨h.lt,fun k u hu=>h.get k u (by rw[List.getElem?_append_left (List.getElem?_eq_some_iff.1 hu).1];exact hu)⟩
theorem Ho {W:World} {g off:Nat} {a b:List Value} (h:Ar W g off (a++b)):Ar W g (off+a.length) b:=⟨h.lt,fun k u hu=>by
 have:=h.get (a.length+k) u (by rw[List.getElem?_append_right (by omega),Nat.add_sub_cancel_left];exact hu)
 rwa [←Nat.add_assoc] at this⟩
theorem SZ {l:List Ah} {i:Nat} (hi:i<l.length):ptC l=ptC (l.take i)++([str (Af l[i].1),str (Af l[i].2)]++ptC (l.drop (i+1))):=by
 conv=>lhs;rw[←List.take_append_drop i l,List.drop_eq_getElem_cons hi,BM]
 rfl
theorem BU.of_row {W:World} {g off:Nat} {l:List Ah} {junk:List Value} (h:Ar W g off (ptC l++junk)):BU W (some ⟨g,off,none⟩) l:= .inr ⟨g,off,rfl,fun i hi=>by
 have h1:=Cm h
 rw[SZ hi] at h1
 have h2:=Cm (Ho h1)
 rwa [AS,List.length_take,Nat.min_eq_left (Nat.le_of_lt hi)] at h2⟩
theorem N7 (c:Nat) (l:List Ah) (k:Nat) (hk:k≤149) (hs:H3 k l) (h0:0<l.length) (hn:l.length≤100000) (g cap:Nat) (hcap:l.length≤cap) (W:World) (hrow:Ar W g 0 (ptC l)) (hc:C3 W c) (hv:BP W) (ht:Bc W):
  Ap Tryz.prog 99 #[An c,slv (some ⟨g,0,none⟩) l.length cap] W (fun V:Vec=>V.val l.length) (fun V=>V.OK 2 l.length (ptC (CS l))) (fun V=>[V.bx 35 (ptC (CS l))]):=by
 have hrow':Ar W g 0 (ptC l++[]):=by rw[List.append_nil];exact hrow
 have hA:=BU.of_row hrow'
 have hr: ∀i,i<l.length→Ar W g (0+i*2) [str (Af (Ac l i).1),str (Af (Ac l i).2)]:=fun i hi=>by
  obtain⟨g',off',e,h⟩:=hA.at_ hi
  cases e
  rw[AF hi]
  exact h i hi
 have hlst: ∀i,i≤l.length→Cr l i<l.length:=fun i hi=>by
  rcases(JH l i).1 with e|e<;>omega
 refine Ae (args:=[An c,slv (some ⟨g,0,none⟩) l.length cap]) Tryz.func99 I I I ?_
 refine zA (zB (wP I (Aa (zE (zA (zB (wP I (Aa (zE (zA (zA (zB (wP I ?_)))))))))))))
 refine Aa (zE (zH ?_))
 have e1:Cr l 1=0:=by show(if Be (Ac l 0) (Ac l 0)=true then 0 else 0)=0;split<;>rfl
 refine A9 (X:=Nat) (fun i=>[(0,An c),(1,slv (some ⟨g,0,none⟩) l.length cap),(5, .int .i64 (Cr l i:Nat)),(6, .int .i64 (i:Nat))]) (fun _=>[]) (fun i=>1≤i∧i≤l.length) (fun i=>l.length-i) 1 ⟨Nat.le_refl _,h0⟩ ⟨I,I,congrArg (fun n:Nat=>some (Value.int .i64 (n:Int))) e1.symm,I,tO⟩ [] I ?_
 intro i hi
 obtain⟨hi1,hi⟩:1≤i∧i≤l.length:=hi
 have hls:=hlst i hi
 refine zA (zA (zB (wP I (wP I (wP I (wP I ?_))))))
 by_cases hlt:i<l.length
 ·refine wU 10 true I (dT (by omega)) (Aa (zE (zR I (zI (zE (zA (zH (zA (zU ?_)))))))))
  have hsu:Cr l (i+1)=if Be (Ac l i) (Ac l (Cr l i))=true then i else Cr l i:=rfl
  have zi:=hs.at_ h0 i
  have zj:=hs.at_ h0 (Cr l i)
  refine qP I (qP I (qP I ?_))
  refine qJ ?_
  refine qL 0 I I (fun W1 hp=>(hr i hlt).hp hp) I (qP I (qP I ?_))
  refine qJ ?_
  refine qL 0 I I (fun W1 hp=>(hr (Cr l i) hls).hp hp) I (qC I I (fun W1 hp=>JE c (Ac l i) (Ac l (Cr l i)) (sz2 zi.1 zj.1 (by omega)) (sz2 zi.2 zj.2 (by omega)) W1 (hc.hp hp) (hv.hp hp) (ht.hp hp)) (qP I (qU 23 (Be (Ac l i) (Ac l (Cr l i))) I (Dj _ _) (AJ (Aa (zE ?_))))))
  refine AA I (fun hc2=> ?_) (fun hc2=> ?_)
  ·have hc2:Be (Ac l i) (Ac l (Cr l i))=true:=hc2
   rw[if_pos hc2] at hsu
   exact zB (wP I (wP I (Aa (zN (zE (zB (wP I (wP I (wV 12 ((i+1:Nat):Int) I (Av (by omega)) (wP I (Aa (A0 (i+1) ⟨by omega,hlt⟩ (by show l.length-(i+1)<l.length-i;omega) ⟨I,I,congrArg (fun n:Nat=>some (Value.int .i64 (n:Int))) hsu.symm,I,tO⟩ [] I))))))))))))
  ·have hc2:Be (Ac l i) (Ac l (Cr l i))=false:=hc2
   rw[hc2,if_neg (by decide)] at hsu
   exact zI (zN (zE (zB (wP I (wP I (wV 12 ((i+1:Nat):Int) I (Av (by omega)) (wP I (Aa (A0 (i+1) ⟨by omega,hlt⟩ (by show l.length-(i+1)<l.length-i;omega) ⟨I,I,congrArg (fun n:Nat=>some (Value.int .i64 (n:Int))) hsu.symm,I,tO⟩ [] I)))))))))
 have e:i=l.length:=by omega
 subst e
 obtain⟨m,hm⟩: ∃m,m=Cr l l.length:=⟨_,rfl⟩
 rw[←hm] at hls
 rw[←hm]
 have hB:CS l=l.drop m++l.take m:=by rw[hm];rfl
 have hBC:ptC (CS l)=ptC (l.drop m)++ptC (l.take m):=by rw[hB,BM]
 have hl1:(l.drop m).length=l.length-m:=List.length_drop
 have hl2:(l.take m).length=m:=by rw[List.length_take];omega
 have hsplit:ptC l=ptC (l.take m)++ptC (l.drop m):=by rw[←BM,List.take_append_drop]
 have ra:Ar W g 0 (ptC (l.take m)):=by rw[hsplit] at hrow;exact Cm hrow
 have rb:Ar W g (m*2) (ptC (l.drop m)):=by
  rw[hsplit] at hrow
  have:=Ho hrow
  rwa [AS,hl2,Nat.zero_add] at this
 refine wU 10 false I (dF (by omega)) (Aa (zE (zS I (zJ (zK (zK (zL (zE (Au ?_)))))))))
 refine AU (X:= { V:Vec//V.OK 2 l.length (ptC (CS l)) }) [true,true,false,true,true,false,false,false,false] (fun V=>[(4,V.1.val l.length)]) (fun V=>[V.1.bx 35 (ptC (CS l))])
  5 [] Tryz.mixed (by kernel_rfl) ?_ ?_
 ·refine qP I (qP I (qP I (qP I (B6 (wX ?_)))))
  refine RS.cons ?_ (RS.cons ?_ (RS.nil))
  ·refine Fb m tH I I I I I I I I (by omega) (by omega) ?_;refine Al 27 (.slice (some ⟨g,m*2,none⟩) (l.length-m) (cap-m)) I (by rw[if_neg (by omega),Nat.zero_add]) ?_
   refine Aa (Ab (wX (wZ ?_)))
   refine Cs m tH I I I I I I I I (by omega) ?_
   refine Aa (Ab (wX (wZ ?_)))
   refine AO Tryz.hZ tH I I I I I I I I I I I fun bL1=> ?_
   refine Aa (Ab (wX (wZ ?_)))
   refine wD (X:=Vec) rfl rfl (fun W1 hp=>EN W1 bL1 2 (some ⟨g,m*2,none⟩) (some ⟨g,0,none⟩) (l.length-m) m (cap-m) cap (ptC (l.drop m)) (ptC (l.take m)) (Ar.of_bx hp 0 rfl rfl) (.inr ⟨g,m*2,rfl,rb.hp hp⟩) (.inr ⟨g,0,rfl,ra.hp hp⟩) (by rw[AS,hl1]) (by rw[AS,hl2]) (Fs _) (Fs _) (by omega) (by omega)) ?_;intro V1 hV1;refine Al 32 (V1.val l.length) rfl (by rw[show l.length-m+m=l.length by omega]) ?_
   refine Aa (Ab (wX (wZ (wP I (Aa (Ab ?_))))))
   rw[show l.length-m+m=l.length by omega, ←hBC] at hV1;rw[←hBC];first|refine AI rfl (by((repeat (first|refine AN.same ?_|refine AN.off rfl ?_));exact trivial)) ?_|refine Aj rfl (by kernel_rfl) ?_
   exact Ag ⟨V1,hV1⟩ ⟨I,tO⟩ [1] (by decide) I
  ·refine Cs m tH I I I I I I I I (by omega) ?_
   refine Aa (Ab (wX (wZ ?_)))
   refine Fb m tH I I I I I I I I (by omega) (by omega) ?_;refine Al 27 (.slice (some ⟨g,m*2,none⟩) (l.length-m) (cap-m)) I (by rw[if_neg (by omega),Nat.zero_add]) ?_
   refine Aa (Ab (wX (wZ ?_)))
   refine AO Tryz.hZ tH I I I I I I I I I I I fun bL1=> ?_
   refine Aa (Ab (wX (wZ ?_)))
   refine wD (X:=Vec) rfl rfl (fun W1 hp=>EN W1 bL1 2 (some ⟨g,m*2,none⟩) (some ⟨g,0,none⟩) (l.length-m) m (cap-m) cap (ptC (l.drop m)) (ptC (l.take m)) (Ar.of_bx hp 0 rfl rfl) (.inr ⟨g,m*2,rfl,rb.hp hp⟩) (.inr ⟨g,0,rfl,ra.hp hp⟩) (by rw[AS,hl1]) (by rw[AS,hl2]) (Fs _) (Fs _) (by omega) (by omega)) ?_;intro V1 hV1;refine Al 32 (V1.val l.length) rfl (by rw[show l.length-m+m=l.length by omega]) ?_
   refine Aa (Ab (wX (wZ (wP I (Aa (Ab ?_))))))
   rw[show l.length-m+m=l.length by omega, ←hBC] at hV1;rw[←hBC];first|refine AI rfl (by((repeat (first|refine AN.same ?_|refine AN.off rfl ?_));exact trivial)) ?_|refine Aj rfl (by kernel_rfl) ?_
   exact Ag ⟨V1,hV1⟩ ⟨I,tO⟩ [1] (by decide) I
 rintro⟨V,hV⟩
 exact zE (zO (A8 tH I (.tmp I) V I hV fun W1 hp=>A3.of_hp hp))
-- BOXES 12
-- CODE2
theorem NJ (q:Rat):decide (E7 q≤0)=decide (q≤0):=by
 refine decide_eq_decide.2 ?_
 have h:0<q.num↔0<q:=by
  have h1:0≤q.num↔0≤q:=Rat.num_nonneg
  have h2:q.num=0↔q=0:=Rat.num_eq_zero
  constructor
  ·intro h
   exact Rat.lt_of_le_of_ne (h1.1 (by omega)) (fun e=>by rw[←e] at h;exact absurd h (by decide))
  ·intro h
   have a:=h1.2 (Rat.le_of_lt h)
   have b:q.num≠0:=fun e=>by rw[h2.1 e] at h;exact Rat.lt_irrefl h
   omega
 rw[←Rat.not_lt, ←h]
 unfold E7
 split
 ·omega
 ·split<;>omega
theorem Ir (q:Rat):E7 q= -1∨E7 q=0∨E7 q=1:=by
 unfold E7
 split
 ·exact .inr (.inl I)
 ·split
  ·exact .inl I
  ·exact .inr (.inr I)
theorem QQ (u v:Rat):decide (w64 (E7 u*E7 v)<0)=decide (u*v<0):=by
 have hu:=Nr u
 have hu2:=NJ u
 have hv:=Nr v
 have hv2:=NJ v
 rw[decide_eq_decide] at hu hu2 hv hv2
 rw[decide_eq_decide,HF]
 have hw:w64 (E7 u*E7 v)=E7 u*E7 v:=by
  rcases Ir u with a|a|a<;>rcases Ir v with b|b|b<;>rw[a,b]<;>rfl
 rw[hw]
 rw[show 0<v↔ ¬v≤0 from Rat.not_le.symm,show 0<u↔ ¬u≤0 from Rat.not_le.symm, ←hu, ←hu2, ←hv, ←hv2]
 rcases Ir u with a|a|a<;>rcases Ir v with b|b|b<;>rw[a,b]<;>decide
theorem QH {W0 W:World} {bxs:List Bx} (hp:Hp W0 bxs W) (k:Nat) {g:Nat} {l:List Rat} {junk:List Value} {i:Nat} (hk:nth bxs k=some ⟨g,23,vsC l++junk,true,none⟩) (hi:i<l.length):Ar W g (0+i*1) [str (Af l[i])]:=by
 have h:=Cm (Ar.of_bx hp k hk rfl)
 refine⟨h.lt,fun m u hu=> ?_⟩
 cases m with
 |zero=>
  obtain rfl:str (Af l[i])=u:=by simpa using hu
  have:=h.get i (str (Af l[i])) (by rw[List.getElem?_map,List.getElem?_eq_getElem hi];rfl)
  rw[Nat.zero_add,Nat.mul_one,Nat.add_zero]
  rwa [Nat.zero_add] at this
 |succ m=>simp at hu
structure ClZ (f:Bs) (l:List Ah):Prop where
 v: ∀q∈l,Wt f q
 c: ∀i,i<l.length→f.at (Ac l i)*f.at (Ac l (i+1))<0→VF (Ac l i) (Ac l (i+1)) (f.at (Ac l i)) (f.at (Ac l (i+1)))
 o:H3 149 (Cv f l)
def DR (f:Bs) (l:List Ah) (k:Nat):List Ah:=(Dd (Ac l) k f).map (Gw (Ac l))
def F8 (f:Bs) (l:List Ah) (k:Nat):List Ah:=DR f l k++(if f.at (Ac l k)≤0 then[Ac l k] else[])
theorem Js (f:Bs) (l:List Ah) (k:Nat):DR f l (k+1)=F8 f l k++(if f.at (Ac l k)*f.at (Ac l (k+1))<0 then[FE (f.at (Ac l k)/(f.at (Ac l k)-f.at (Ac l (k+1)))) (Ac l k) (Ac l (k+1))] else[]):=by
 unfold DR F8
 rw[N2,MR,List.append_assoc]
 rfl
theorem GM (f:Bs) (l:List Ah): ∀k,(DR f l k).length≤2*k
 |0=>Nat.le_refl _
 |k+1=>by
  have ih:=GM f l k
  rw[Js]
  unfold F8
  rw[List.length_append,List.length_append]
  have a:(if f.at (Ac l k)≤0 then[Ac l k] else[]).length≤1:=by split<;>simp
  have b:(if f.at (Ac l k)*f.at (Ac l (k+1))<0 then[FE (f.at (Ac l k)/(f.at (Ac l k)-f.at (Ac l (k+1)))) (Ac l k) (Ac l (k+1))] else[]).length≤1:=by split<;>simp
  omega
theorem TG (f:Bs) (l:List Ah) (k:Nat):(F8 f l k).length≤2*k+1:=by
 unfold F8
 have:=GM f l k
 rw[List.length_append]
 have a:(if f.at (Ac l k)≤0 then[Ac l k] else[]).length≤1:=by split<;>simp
 omega
theorem UH (f:Bs) (l:List Ah):(l.map f.at).any (fun q=>decide (q<0))=Jf f l:=by
 unfold Jf
 rw[List.any_map];rfl
abbrev ckB (b c:Nat):Bx:=⟨b,59,[An c],true,none⟩
abbrev lsB (b:Nat) (v:Value):Bx:=⟨b,22,[v],true,none⟩
abbrev nmB (b:Nat) (v:Value):Bx:=⟨b,87,[v],true,none⟩
theorem Pd (c:Nat) (f:Bs) (l:List Ah) (hz:ClZ f l) (hP:Df l) (h3:3≤l.length) (hn:l.length≤4096) (p:Option Addr) (cap:Nat) (W:World) (hA:BU W p l) (hc:C3 W c) (hv:BP W) (ht:Bc W):
  Ap Tryz.prog 42 #[An c,slv p l.length cap,str (Af f.a),str (Af f.b),str (Af f.c)] W (fun V:Vec=>V.val (Do f l).length) (fun V=>V.OK 2 (Do f l).length (ptC (Do f l))) (fun V=>[V.bx 35 (ptC (Do f l))]):=by
 have hn0:0<l.length:=by omega
 have hzz:(l.length:Int)≠0:=by omega
 have hvl:(l.map f.at).length=l.length:=List.length_map _
 refine Ae (args:=[An c,slv p l.length cap,str (Af f.a),str (Af f.b),str (Af f.c)]) Tryz.func42 I I I ?_
 refine zA (zB ?_)
 (refine AD rfl rfl rfl rfl ?_;intro)
 (refine AD rfl rfl rfl rfl ?_;intro)
 refine wP I (Aa ?_)
 rename_i b5 b6
 refine zE (Au ?_)
 refine AU (X:= { s:Nat×Vec//s.2.OK 1 l.length (vsC (l.map f.at)) }) [true,true,true,true,true,false,false,false,false] (fun s=>[(5,An b5),(6,An b6),(11,An s.1.1)]) (fun s=>[ckB b5 c,lsB b6 (slv p l.length cap),nmB s.1.1 (s.1.2.val l.length),s.1.2.bx 23 (vsC (l.map f.at))])
  4 [ckB b5 c,lsB b6 (slv p l.length cap)] Tryz.mixed (by kernel_rfl) ?_ ?_
 ·refine qB 1 I I I (qB 0 I I I (qP I (qP I (qP I (B6 (wX ?_))))))
  refine RS.cons ?_ (RS.cons ?_ (RS.nil))
  ·refine wD (X:=Nat×Nat×Nat×Nat) rfl rfl (fun W1 _=>EB c f W1) ?_;rintro⟨v4,v5,v6,v7⟩ _
   refine Aa (Ab (wX ?_))
   refine RS.cons ?_ (RS.cons ?_ (RS.nil))
   ·refine wD (X:=Vec) rfl rfl (fun W1 hp=>CH l f.at 132 [An v4,An v5,An v6,An v7] (by kernel_rfl) hn p cap W1 (hA.hp hp) (fun q hq W2 hb=>CF v4 v5 v6 v7 c f q (hz.v q hq) W2 (IZ.below (by first|exact⟨Ar.of_bx hp 2 rfl rfl,Ar.of_bx hp 3 rfl rfl,Ar.of_bx hp 4 rfl rfl,Ar.of_bx hp 5 rfl rfl,hc.hp hp,hv.hp hp,ht.hp hp⟩|exact⟨Ar.of_bx hp 3 rfl rfl,Ar.of_bx hp 4 rfl rfl,Ar.of_bx hp 5 rfl rfl,Ar.of_bx hp 6 rfl rfl,hc.hp hp,hv.hp hp,ht.hp hp⟩) hb))) ?_;rintro⟨pV1,cV1,jV1⟩ hV1;obtain⟨gV1,rfl⟩: ∃g,pV1=some g:=Option.ne_none_iff_exists'.1 (fun e=>absurd (hV1.nil e) (by omega))
    refine Aa (Ab (wX (wZ ?_)))
    refine Ao Tryz.hZ rfl rfl rfl rfl ?_;intro b11
    refine Aa (Ab (wX (wZ (wS 7 I I I (Aa (Ab ?_))))))
    refine AI I (by((repeat (first|refine AN.same ?_|refine AN.off I ?_));exact tO)) ?_
    exact Ag (⟨(b11,⟨some gV1,cV1,jV1⟩),hV1⟩: { s:Nat×Vec//s.2.OK 1 l.length (vsC (l.map f.at)) }) ⟨I,I,I,tO⟩ [0,1,7,6] (by decide) I
   ·refine Ao Tryz.hZ rfl rfl rfl rfl ?_;intro b11
    refine Aa (Ab (wX (wZ ?_)))
    refine wD (X:=Vec) rfl rfl (fun W1 hp=>CH l f.at 132 [An v4,An v5,An v6,An v7] (by kernel_rfl) hn p cap W1 (hA.hp hp) (fun q hq W2 hb=>CF v4 v5 v6 v7 c f q (hz.v q hq) W2 (IZ.below (by first|exact⟨Ar.of_bx hp 2 rfl rfl,Ar.of_bx hp 3 rfl rfl,Ar.of_bx hp 4 rfl rfl,Ar.of_bx hp 5 rfl rfl,hc.hp hp,hv.hp hp,ht.hp hp⟩|exact⟨Ar.of_bx hp 3 rfl rfl,Ar.of_bx hp 4 rfl rfl,Ar.of_bx hp 5 rfl rfl,Ar.of_bx hp 6 rfl rfl,hc.hp hp,hv.hp hp,ht.hp hp⟩) hb))) ?_;rintro⟨pV1,cV1,jV1⟩ hV1;obtain⟨gV1,rfl⟩: ∃g,pV1=some g:=Option.ne_none_iff_exists'.1 (fun e=>absurd (hV1.nil e) (by omega))
    refine Aa (Ab (wX (wZ (wS 6 I I I (Aa (Ab ?_))))))
    refine AI I (by((repeat (first|refine AN.same ?_|refine AN.off I ?_));exact tO)) ?_
    exact Ag (⟨(b11,⟨some gV1,cV1,jV1⟩),hV1⟩: { s:Nat×Vec//s.2.OK 1 l.length (vsC (l.map f.at)) }) ⟨I,I,I,tO⟩ [0,1,6,7] (by decide) I
  ·refine Ao Tryz.hZ rfl rfl rfl rfl ?_;intro b11
   refine Aa (Ab (wX (wZ ?_)))
   refine wD (X:=Nat×Nat×Nat×Nat) rfl rfl (fun W1 _=>EB c f W1) ?_;rintro⟨v4,v5,v6,v7⟩ _
   refine Aa (Ab (wX (wZ ?_)))
   refine wD (X:=Vec) rfl rfl (fun W1 hp=>CH l f.at 132 [An v4,An v5,An v6,An v7] (by kernel_rfl) hn p cap W1 (hA.hp hp) (fun q hq W2 hb=>CF v4 v5 v6 v7 c f q (hz.v q hq) W2 (IZ.below (by first|exact⟨Ar.of_bx hp 2 rfl rfl,Ar.of_bx hp 3 rfl rfl,Ar.of_bx hp 4 rfl rfl,Ar.of_bx hp 5 rfl rfl,hc.hp hp,hv.hp hp,ht.hp hp⟩|exact⟨Ar.of_bx hp 3 rfl rfl,Ar.of_bx hp 4 rfl rfl,Ar.of_bx hp 5 rfl rfl,Ar.of_bx hp 6 rfl rfl,hc.hp hp,hv.hp hp,ht.hp hp⟩) hb))) ?_;rintro⟨pV1,cV1,jV1⟩ hV1;obtain⟨gV1,rfl⟩: ∃g,pV1=some g:=Option.ne_none_iff_exists'.1 (fun e=>absurd (hV1.nil e) (by omega))
   refine Aa (Ab (wX (wZ (wS 2 I I I (Aa (Ab ?_))))))
   refine AI I (by((repeat (first|refine AN.same ?_|refine AN.off I ?_));exact tO)) ?_
   exact Ag (⟨(b11,⟨some gV1,cV1,jV1⟩),hV1⟩: { s:Nat×Vec//s.2.OK 1 l.length (vsC (l.map f.at)) }) ⟨I,I,I,tO⟩ [0,1,2,7] (by decide) I
 rintro⟨⟨b11,⟨pV,cV,jV⟩⟩,hV⟩
 obtain⟨gV,rfl⟩: ∃g,pV=some g:=by
  cases pV with
  |none=>have:=hV.nil rfl;omega
  |some g=>exact⟨g,rfl⟩
 have hcapV:=(hV.cap (by simp)).1
 refine zE (zA (zA (zB (wB 0 I I I ?_))))
 refine AP I I I I ?_
 refine wP I (wL 0 I I (fun W1 hp=>(hc.hp hp).row) I (wP I (Aa (zE (zS I (zI (zE (zA (zB ?_)))))))))
 (refine Ao Tryz.hZ rfl rfl rfl rfl ?_;intro)
 refine Aa ?_
 rename_i b12
 refine zE (zA (zA (zB (wB 1 I I I ?_))))
 refine wD (X:=Nat) I I (fun W1 _=>D8 p l.length cap W1) ?_
 intro bp _
 refine Aa (zE (zH ?_))
 refine Fj ?_
 refine EJ (X:=Nat×Vec) (fun x=>[ckB b5 c,lsB b6 (slv p l.length cap),nmB b11 (.slice (some ⟨gV,0,none⟩) l.length cV),⟨gV,23,vsC (l.map f.at)++jV,true,none⟩,lsB b12 (x.2.val (DR f l x.1).length),lsB bp (slv p l.length cap),x.2.bx 35 (ptC (DR f l x.1))])
  (fun j x=>x.1=j∧x.2.OK 2 (DR f l x.1).length (ptC (DR f l x.1))) (fun _ _=>False) (0,Vec.empty) rfl (by kernel_rfl) (Ei l bp p cap (by omega)) (fun _=>rfl)
  ⟨rfl,Vec.OK.empty 2⟩ [] rfl (fun k x W1 _ hp=>⟨Ar.of_bx hp 5 rfl rfl,hA.hp hp⟩) ?_ ?_ (fun _ _ _ _ _ h=>h.elim)
 ·rintro k ⟨k',O⟩ d l' rec L hk ⟨e1,hO⟩ hrec
  obtain rfl:k'=k:=e1
  have hk:k'<l.length:=hk
  have hO:O.OK 2 (DR f l k').length (ptC (DR f l k')):=hO
  have hol:=GM f l k'
  have hml:=TG f l k'
  have hsl:=GM f l (k'+1)
  have hk2:(k'+1)%l.length<l.length:=Nat.mod_lt _ hn0
  have ev: ∀i (hi:i<l.length),(l.map f.at)[i]'(by rw[hvl];exact hi)=f.at (Ac l i):=fun i hi=>by rw[List.getElem_map,AF hi]
  have hr1: ∀ {W0 W1:World} {bxs:List Bx} (hp:Hp W0 bxs W1) (m:Nat) (hm:nth bxs m=some ⟨gV,23,vsC (l.map f.at)++jV,true,none⟩),Ar W1 gV (0+k'*1) [str (Af (f.at (Ac l k')))]:=fun hp m hm=>by
   have:=QH hp m hm (i:=k') (by rw[hvl];exact hk)
   rwa [ev k' hk] at this
  have hr2: ∀ {W0 W1:World} {bxs:List Bx} (hp:Hp W0 bxs W1) (m:Nat) (hm:nth bxs m=some ⟨gV,23,vsC (l.map f.at)++jV,true,none⟩),Ar W1 gV (0+((k'+1)%l.length)*1) [str (Af (f.at (Ac l (k'+1))))]:=fun hp m hm=>by
   have:=QH hp m hm (i:=(k'+1)%l.length) (by rw[hvl];exact hk2)
   rwa [ev _ hk2,EH] at this
  obtain⟨u,hu⟩: ∃u,u=f.at (Ac l k'):=⟨_,rfl⟩
  obtain⟨v,hvv⟩: ∃v,v=f.at (Ac l (k'+1)):=⟨_,rfl⟩
  have hsu:=Js f l k'
  have hmu:F8 f l k'=DR f l k'++(if u≤0 then[Ac l k'] else[]):=by rw[hu];rfl
  have hcz:=hz.c k' hk
  rw[←hu, ←hvv] at hsu hcz
  rw[←hu] at hr1
  rw[←hvv] at hr2
  refine zA (zB (wP I (Aa (zE (zB ?_)))))
  (refine Ao Tryz.hZ rfl rfl rfl rfl ?_;intro)
  refine wS 10 I I I (Aa ?_)
  rename_i b14
  refine CQ 9 hrec I ?_
  refine Cc (zA (zU (qB 3 I I I (qP I ?_))))
  refine qJ ?_
  refine qL 0 I I (fun W1 hp=>hr1 hp 4 I) I (qC I I (fun W1 _=>El u W1) (qB 3 I I I (qP I (qP I (qV 40 ((k'+1:Nat):Int) I (Av (by omega)) (qB 2 I I I (qP I ?_)))))))
  refine Ex I I I I I hzz ?_
  refine DJ 43 (.int .i64 (((k'+1)%l.length:Nat):Int)) I I ?_
  refine qJ ?_
  refine qL 0 I I (fun W1 hp=>hr2 hp 4 I) I (qC I I (fun W1 _=>El v W1) (qP I (qP I (AJ (Aa (zE (zA (zA (zB (wP I (wP I (wU 48 (decide (u≤0)) I (NJ u) (Aa ?_)))))))))))))
  refine AT ?_
  refine AM (X:=Vec) (fun _=>[(5,An b5),(6,An b6),(11,An b11),(12,An b12),(13, .int .i64 (k':Nat)),(14,An b14),(15, .int .i64 (E7 u)),(16, .int .i64 (E7 v))])
   (fun O=>[Ax L,ckB b5 c,lsB b6 (slv p l.length cap),nmB b11 (.slice (some ⟨gV,0,none⟩) l.length cV),⟨gV,23,vsC (l.map f.at)++jV,true,none⟩,lsB b12 (O.val (F8 f l k').length),lsB bp (slv p l.length cap),O.bx 35 (ptC (F8 f l k')),B8 d,Bj l' rec .busy none,⟨b14,66,(sdV (Ac l k') (Ac l (k'+1))).cells.toList,true,none⟩])
   (fun O=>O.OK 2 (F8 f l k').length (ptC (F8 f l k'))) ?_ ?_
  ·refine AA I (fun hc1=> ?_) (fun hc1=> ?_)
   ·rw[if_pos (of_decide_eq_true hc1)] at hmu
    have hlm:(DR f l k').length+1=(F8 f l k').length:=by rw[hmu,List.length_append];rfl
    refine zB (wB 5 I I I ?_)
    refine EC Tryz.underlying66 Tryz.sizeOf35 I I I I I ⟨by decide,by decide⟩ ?_
    refine wB 10 I I I ?_
    refine AO Tryz.hZ tH I I I I I I I I I I I fun bS=> ?_
    refine BJ (V:=O) (len:=(DR f l k').length) (xs:=ptC (DR f l k')) 7 11 Tryz.vec22 (F8 f l k').length (ptC (F8 f l k')) I I I I I I I I I I I hO I I hlm (by rw[hmu,BM];rfl) (by simp only[maxLen];omega) (by omega) I ?_
    intro gO cO jO hO1
    exact wS 5 I I I (Aa (At ⟨some gO,cO,jO⟩ hO1 ⟨I,I,I,I,I,I,I,I,tO⟩ [_] I))
   ·rw[if_neg (of_decide_eq_false hc1),List.append_nil] at hmu
    exact zI (At O (by rw[hmu];exact hO) ⟨I,I,I,I,I,I,I,I,tO⟩ [] (by rw[hmu];rfl))
  intro O1 hO1
  have hO1:O1.OK 2 (F8 f l k').length (ptC (F8 f l k')):=hO1
  refine zA (zB (wP I (wP I (wP I (wP I (wU 57 (decide (u*v<0)) I (QQ u v) (Aa (zE ?_))))))))
  refine AA I (fun hc2=> ?_) (fun hc2=> ?_)
  ·have hc2':u*v<0:=of_decide_eq_true hc2
   rw[if_pos hc2'] at hsu
   have hlm:(F8 f l k').length+1=(DR f l (k'+1)).length:=by rw[hsu,List.length_append];rfl
   refine AU (X:= { O:Vec//O.OK 2 (DR f l (k'+1)).length (ptC (DR f l (k'+1))) }) [true,true,true,true,true,true,true,true,true,true,true,true,true,true,true,true,true,true,true,false,false,false] (fun _=>[(5,An b5)])
    (fun O=>[Ax L,ckB b5 c,lsB b6 (slv p l.length cap),nmB b11 (.slice (some ⟨gV,0,none⟩) l.length cV),⟨gV,23,vsC (l.map f.at)++jV,true,none⟩,lsB b12 (O.1.val (DR f l (k'+1)).length),lsB bp (slv p l.length cap),O.1.bx 35 (ptC (DR f l (k'+1))),B8 d,Bj l' rec .busy none])
    3 [Ax L,ckB b5 c,lsB b6 (slv p l.length cap),nmB b11 (.slice (some ⟨gV,0,none⟩) l.length cV),⟨gV,23,vsC (l.map f.at)++jV,true,none⟩,lsB b12 (O1.val (F8 f l k').length),lsB bp (slv p l.length cap),O1.bx 35 (ptC (F8 f l k')),B8 d,Bj l' rec .busy none,⟨b14,66,(sdV (Ac l k') (Ac l (k'+1))).cells.toList,true,none⟩] Tryz.mixed (by kernel_rfl) ?_ ?_
   ·refine qB 5 I I I (qB 1 I I I ?_)
    refine By Tryz.underlying66 Tryz.sizeOf35 I I I I I ⟨by decide,by decide⟩ ?_
    refine qB 10 I I I ?_
    refine By Tryz.underlying66 Tryz.sizeOf35 I I I I I ⟨by decide,by decide⟩ ?_
    refine qB 10 I I I (qB 3 I I I (qP I ?_))
    refine qJ ?_
    refine qL 0 I I (fun W1 hp=>hr1 hp 4 I) I (qB 3 I I I (qP I (qP I (qV 70 ((k'+1:Nat):Int) I (Av (by omega)) (qB 2 I I I (qP I ?_))))))
    refine Ex I I I I I hzz ?_
    refine DJ 73 (.int .i64 (((k'+1)%l.length:Nat):Int)) I I ?_
    refine qJ ?_
    refine qL 0 I I (fun W1 hp=>hr2 hp 4 I) I (qC I I (fun W1 hp=>KY c (Ac l k') (Ac l (k'+1)) u v (hcz hc2') W1 (hc.hp hp) (hv.hp hp) (ht.hp hp)) (B6 (wX (wZ ?_))))
    refine AO Tryz.hZ tH I I I I I I I I I I I fun bS=> ?_
    refine Aa (Ab (wX (wZ ?_)))
    refine BJ (V:=O1) (len:=(F8 f l k').length) (xs:=ptC (F8 f l k')) 7 11 Tryz.vec22 (DR f l (k'+1)).length (ptC (DR f l (k'+1))) rfl rfl rfl rfl rfl rfl rfl rfl rfl rfl rfl hO1 rfl rfl hlm (by rw[hsu,BM];rfl) (by simp only[maxLen];omega) (by omega) rfl ?_;intro gO cO jO hO2
    refine Aa (Ab (wY (wZ (wS 5 I I I (Aa (Ab ?_))))))
    refine Aj I (by kernel_rfl) ?_
    exact Ag (⟨⟨some gO,cO,jO⟩,hO2⟩: { O:Vec//O.OK 2 (DR f l (k'+1)).length (ptC (DR f l (k'+1))) }) ⟨I,tO⟩ [0,1,2,3,4,5,6,7,8,9] (by decide) I
   rintro⟨O2,hO2⟩
   exact zN (Co 9 (k'+1,O2) hrec I ⟨I,hO2⟩ [] I)
  ·rw[if_neg (of_decide_eq_false hc2),List.append_nil] at hsu
   exact zI (zN (Co 9 (k'+1,O1) hrec I ⟨I,by show O1.OK 2 (DR f l (k'+1)).length (ptC (DR f l (k'+1)));rw[hsu];exact hO1⟩ [_] (by rw[hsu];rfl)))
 ·rintro⟨k',O⟩ d l' rec ⟨e1,hO⟩
  obtain rfl:k'=l.length:=e1
  have hO:O.OK 2 (Cv f l).length (ptC (Cv f l)):=hO
  have hoe:DR f l l.length=Cv f l:=rfl
  have hol:=GM f l l.length
  rw[hoe] at hol
  rw[hoe]
  refine zN (zE (zA (zA (zB (wB 0 I I I ?_)))))
  refine AP I I I I ?_
  refine wP I (wL 0 I I (fun W1 hp=>(hc.hp hp).row) I (wP I (wP I (wB 2 I I I ?_))))
  refine wC I I (fun W1 hp=>(by
   have h:=Je 98 (by kernel_rfl) (fun q=>decide (q<0)) MM (l.map f.at) (by rw[hvl];omega) (some ⟨gV,0,none⟩) cV W1 (.inr ⟨gV,0,rfl,by
    have:=Cm (Ar.of_bx hp 3 rfl rfl:Ar W1 gV 0 (vsC (l.map f.at)++jV))
    rw[List.map_map];exact this⟩)
   rwa [hvl,UH] at h)) ?_
  cases hneg:Jf f l with
  |false=>
   refine wP I (wP I (Aa (zE (zR I (zA (zB (wP I (Aa (zE (zO (zP ?_)))))))))))
   refine CJ 7 I ?_
   have e0:Do f l=[]:=by unfold Do;rw[hneg];rfl
   exact A8 tH I (.tmp I) Vec.empty (by rw[e0];rfl) (by rw[e0];exact Vec.OK.empty 2) fun W1 hp=>by
    rw[e0]
    exact Own.one (fun p hp=>by cases hp) List.nodup_nil
  |true=>
   have e0:Do f l=CS (Cv f l):=by unfold Do;rw[hneg];rfl
   have hlb:(CS (Cv f l)).length=(Cv f l).length:=Qc (Sj _)
   obtain⟨q,hq,hqn⟩:=Qk.1 hneg
   have hpos:0<(Cv f l).length:=by
    obtain⟨i,hi,e⟩:=Db hq
    have:=Vo hP hi (by rw[e];exact hqn)
    rw[Oi]
    omega
   obtain⟨pO,cO,jO⟩:=O
   obtain⟨gO,rfl⟩: ∃g,pO=some g:=Option.ne_none_iff_exists'.1 (fun e=>absurd (hO.nil e) (by omega))
   have hcO:=(hO.cap (by simp)).1
   refine wP I (wP I (Aa (zE (zS I (zI (zE (zA (zB (wB 0 I I I (wB 4 I I I ?_))))))))))
   refine wD (X:=Vec) I I (fun W1 hp=>N7 c (Cv f l) 149 (by decide) hz.o hpos (by omega) gO cO hcO W1 (Cm (Ar.of_bx hp 6 I I:Ar W1 gO 0 (ptC (Cv f l)++jO))) (hc.hp hp) (hv.hp hp) (ht.hp hp)) ?_
   intro V2 hV2
   have hV2:V2.OK 2 (Cv f l).length (ptC (CS (Cv f l))):=hV2
   refine wP I (Aa (zE (zO ?_)))
   refine CJ 7 I ?_
   exact A8 tH I (.tmp I) V2 (by rw[e0,hlb]) (by rw[e0,hlb];exact hV2) fun W1 hp=>by
    rw[e0]
    exact A3.of_hp (hp.pick (l:=[V2.bx 35 (ptC (CS (Cv f l)))]) [9] (by decide) I)
-- BOXES 12
-- CODE2
structure TZ (f:Bs):Prop where
 a:okQ f.a
 b:okQ f.b
 c:okQ f.c
 n:f.a≠0∨f.b≠0
theorem PB (f:Bs) (hf:TZ f) (l:List Ah) (hz:ClZ f l) (p:Option Addr) (cap:Nat) (W:World) (h:GG W p l):
  Ap Tryz.prog 12 #[slv p l.length cap,str (Af f.a),str (Af f.b),str (Af f.c)] W (fun V:Vec=> .tuple #[V.val (Do f l).length, .int .i64 0]) (fun V=>V.OK 2 (Do f l).length (ptC (Do f l))) (fun V=>[V.bx 35 (ptC (Do f l))]):=by
 refine Ae (args:=[slv p l.length cap,str (Af f.a),str (Af f.b),str (Af f.c)]) Tryz.func12 I I I ?_
 refine zA (zB (wP I (wP I (Aa (zE (zA (zA (zB (wP I (wP I (wP I (wP I ?_))))))))))))
 refine AO Tryz.hZ tH I I I I I I I I I I I fun bS=> ?_
 refine wC I I (fun W1 hp=>H6 l p cap f.a f.b f.c hf.a hf.b hf.c hf.n bS 3 W1 (h.hp hp) (Ar.of_bx hp 0 I I)) (wP I (Aa (zE (zA (zB (wP I (wP I (Aa (zE (zS I (zI (zE (zA ?_)))))))))))))
 refine zB ?_
 refine AC Tryz.hZ tH I I I I I I I I ?_
 (refine AD rfl rfl rfl rfl ?_;intro)
 refine wP I (Aa ?_)
 rename_i bC
 refine zE (zA (zB ?_))
 iterate 5 refine wP I ?_
 refine wD (X:=Vec) I I (fun W1 hp=>Pd bC f l hz h.poly h.n3 h.n p cap W1 (h.hp hp).m (B2 hp 1 I) (h.hp hp).v (h.hp hp).t) ?_
 intro V hV
 have hV:V.OK 2 (Do f l).length (ptC (Do f l)):=hV
 refine wP I (Aa (zE (zA (zA (zB (wP I ?_))))))
 refine AP I I I I ?_
 refine wP I (wB 1 I I I (wP I (Aa (zE (zS I (zI (zE (zA (zB (wP I (wP I (wP I (Aa ?_)))))))))))))
 exact zE (zO (AR tH I (.tmp I) (.tmp I) V I hV fun W1 hp=>A3.of_hp (hp.pick (l:=[V.bx 35 (ptC (Do f l))]) [2] (by decide) I)))
theorem MH : ∃ f1 f2 : Field, (Tryz.prog.fieldsOf 35).toList = [f1, f2] ∧ (f1.name ≠ "_" ∧ f1.type = 23 ∧ f1.offset = 0) ∧ (f2.name ≠ "_" ∧ f2.type = 23 ∧ f2.offset = 1) := by
 unfold Program.fieldsOf;rw[Tryz.underlying35]
 exact⟨_,_,I,⟨by decide,I,I⟩,⟨by decide,I,I⟩⟩
theorem Tn (W:World) (a b c d:List UInt8):(binOp .eql 35 (.agg #[str a,str b]) (.agg #[str c,str d])).run Tryz.prog W= .ok (.bool (decide (a=c∧b=d))) W:=by
 rw[run_eql_struct,run_equalIn_agg W 9999 35 _ _ (by kernel_rfl) (by kernel_rfl)]
 obtain⟨f1,f2,hf,⟨n1,t1,o1⟩,⟨n2,t2,o2⟩⟩:=MH
 rw[hf]
 have e: ∀(x y:List UInt8) W,(Op.equalIn 9999 23 (str x) (str y)).run Tryz.prog W= .ok (decide (x=y)) W:=fun x y W=>by
  rw[run_equalIn_string W 9998 23 _ _ Tryz.underlying23,B4]
 by_cases h1:a=c<;>by_cases h2:b=d<;>simp[Op.eqFields,part,Tryz.isAgg23,e,h1,h2,n1,n2,t1,t2,o1,o2]
theorem VP (W:World) (a b c d:List UInt8):(binOp .neq 35 (.agg #[str a,str b]) (.agg #[str c,str d])).run Tryz.prog W= .ok (.bool (!decide (a=c∧b=d))) W:=by
 rw[run_neq_struct,run_equalIn_agg W 9999 35 _ _ (by kernel_rfl) (by kernel_rfl)]
 obtain⟨f1,f2,hf,⟨n1,t1,o1⟩,⟨n2,t2,o2⟩⟩:=MH
 rw[hf]
 have e: ∀(x y:List UInt8) W,(Op.equalIn 9999 23 (str x) (str y)).run Tryz.prog W= .ok (decide (x=y)) W:=fun x y W=>by
  rw[run_equalIn_string W 9998 23 _ _ Tryz.underlying23,B4]
 by_cases h1:a=c<;>by_cases h2:b=d<;>simp[Op.eqFields,part,Tryz.isAgg23,e,h1,h2,n1,n2,t1,t2,o1,o2]
section
variable {r:Option Nat} {n:Nat} {N:Nat} {D:List Deferred} {ops:List Oper} {Q:Exit→Act→World→Prop} {o:Oper} {rest:List Oper} {env:Env} {A A2:World→Prop} {R:Act→World→Prop}
theorem AY (a b c d:List UInt8) {t:Nat} {u:TypeId} {x y:Operand} (hg:A6 ops N env o=some true) (hd:o.dst=some t) (ho:o.op= .binOp .eql 35 x y u)
  (hx:evO N env x=some (.agg #[str a,str b])) (hy:evO N env y=some (.agg #[str c,str d]))
  (h:WL r n Tryz.prog N D ops Q rest ((t, .bool (decide (a=c∧b=d)))::env) A):WL r n Tryz.prog N D ops Q (o::rest) env A:=
 CA hg hd (fun c e=>by rw[ho] at e;cases e) (fun _ W hρ _=>by
  have hm:Tryz.prog.eqGuardType Tryz.prog.depth 35=false:=by kernel_rfl
  simp[execOp,ho,hρ _ _ hx,hρ _ _ hy,run_eqGuard_agg W .eql 35 x y _ _ hm,Tn]) h
theorem R5 (a b c d:List UInt8) {t:Nat} {u:TypeId} {x y:Operand} (hg:A6 ops N env o=some true) (hd:o.dst=some t) (ho:o.op= .binOp .eql 35 x y u)
  (hx:evO N env x=some (.agg #[str a,str b])) (hy:evO N env y=some (.agg #[str c,str d]))
  (h:WQ Tryz.prog N D ops A2 R rest ((t, .bool (decide (a=c∧b=d)))::env) A):WQ Tryz.prog N D ops A2 R (o::rest) env A:=
 C4 hg hd (fun c e=>by rw[ho] at e;cases e) (fun _ W hρ _=>by
  have hm:Tryz.prog.eqGuardType Tryz.prog.depth 35=false:=by kernel_rfl
  simp[execOp,ho,hρ _ _ hx,hρ _ _ hy,run_eqGuard_agg W .eql 35 x y _ _ hm,Tn]) h
theorem QT (a b c d:List UInt8) {t:Nat} {u:TypeId} {x y:Operand} (hg:A6 ops N env o=some true) (hd:o.dst=some t) (ho:o.op= .binOp .neq 35 x y u)
  (hx:evO N env x=some (.agg #[str a,str b])) (hy:evO N env y=some (.agg #[str c,str d]))
  (h:WQ Tryz.prog N D ops A2 R rest ((t, .bool (!decide (a=c∧b=d)))::env) A):WQ Tryz.prog N D ops A2 R (o::rest) env A:=
 C4 hg hd (fun c e=>by rw[ho] at e;cases e) (fun _ W hρ _=>by
  have hm:Tryz.prog.eqGuardType Tryz.prog.depth 35=false:=by kernel_rfl
  simp[execOp,ho,hρ _ _ hx,hρ _ _ hy,run_eqGuard_agg W .neq 35 x y _ _ hm,VP]) h
end
theorem Gr (l:List Ah) (hn:l.length≤100000) (p q:Option Addr) (cap cap2:Nat) (W:World) (hA:BU W p l) (hB:BU W q l):
  Ap Tryz.prog 23 #[slv p l.length cap,slv q l.length cap2] W (fun _:Unit=> .bool true) (fun _=>True) (fun _=>[]):=by
 refine Ae (args:=[slv p l.length cap,slv q l.length cap2]) Tryz.func23 I I I ?_
 refine zA (zB (wP I (Aa (zE (zA (zA (zB ?_)))))))
 iterate 5 refine wP I ?_
 refine wU 10 false I (bne_eq_false_iff_eq.2 I) (Aa (zE (zS I (zI (zE (zA (zA (zB (wP I (wP I (wP I (Aa (zE ?_)))))))))))))
 refine zH ?_
 refine A9 (X:=Nat) (fun i=>[(0,slv p l.length cap),(1,slv q l.length cap2),(12, .int .i64 (l.length:Nat)),(13, .int .i64 (i:Nat))]) (fun _=>[]) (fun i=>i≤l.length) (fun i=>l.length-i) 0 (Nat.zero_le _) ⟨I,I,I,I,tO⟩ [] I ?_
 intro i hi
 have hi:i≤l.length:=hi
 refine zA (zB (wP I ?_))
 by_cases hlt:i<l.length
 ·refine wU 14 true I (dT (by omega)) (Aa (zE (zA (zR I (zI (zE (zA (zH (zA (zB ?_))))))))))
  obtain⟨g,off,e1,h1⟩:=hA.at_ hlt
  obtain⟨g2,off2,e2,h2⟩:=hB.at_ hlt
  have h1:=h1 i hlt
  have h2:=h2 i hlt
  obtain⟨x,hx⟩: ∃x,x=l[i]:=⟨_,rfl⟩
  rw[←hx] at h1 h2
  subst e1 e2
  refine wP I (wP I (Aa (zE (zA (zU (qP I (qP I ?_)))))))
  refine qJ ?_
  refine qL 0 I I (fun W1 hp=>h1.hp hp) I (qP I (qP I ?_))
  refine qJ ?_
  refine qL 0 I I (fun W1 hp=>h2.hp hp) I ?_
  refine QT (Af x.1) (Af x.2) (Af x.1) (Af x.2) I I I I I ?_
  exact qU 24 false I (by rw[dT ⟨I,I⟩];rfl) (AJ (Aa (zE (zS I (zI (zN (zE (zB (wP I (wV 25 ((i+1:Nat):Int) I (Av (by omega)) (wP I (Aa (A0 (i+1) hlt (by show l.length-(i+1)<l.length-i;omega) ⟨I,I,I,I,tO⟩ [] I)))))))))))))
 refine wU 14 false I (dF (by omega)) (Aa (zE (zA (zS I (zJ (zK (zK (zL (zE (zA (zB (wP I (Aa ?_)))))))))))))
 exact zE (zO (wR1 I I I))
-- BOXES 12
-- CODE2
theorem QG {N:Nat} {D:List Deferred} {Q:Exit→Act→World→Prop} {ex:Exit} {env:Env} {W0:World} {bxs bxs':List Bx} (e:bxs=bxs') (h:NE N D Q ex env (Hp W0 bxs')):NE N D Q ex env (Hp W0 bxs):=e▸h
theorem Vh:Af 2=[50]:=(congrArg Af (show(2:Rat)=q2 2 1 by decide+kernel)).trans ns2
theorem U0:Af 3=[51]:=(congrArg Af (show(3:Rat)=q2 3 1 by decide+kernel)).trans ns3
structure PW (p q:Ah):Prop where
 x:Sz2 p.1 q.2
 y:Sz2 q.1 p.2
 s:Sz2 (p.1*q.2) (q.1*p.2)
theorem JA (c:Nat) (p q:Ah) (hz:PW p q) (W:World) (hc:C3 W c) (hv:BP W) (ht:Bc W):
  Ap Tryz.prog 46 #[An c,sdV p q] W (fun _:Unit=>str (Af (EY p q))) (fun _=>True) (fun _=>[]):=by
 refine Ae (args:=[An c,sdV p q]) Tryz.func46 I I I ?_
 refine zA (zB ?_)
 (refine AD rfl rfl rfl rfl ?_;intro)
 refine wP I (Aa (zE (zA (zU (qP I ?_)))))
 refine By Tryz.underlying66 Tryz.sizeOf35 I I I I I ⟨by decide,by decide⟩ ?_
 refine qP I (qB 0 I I I ?_)
 refine By Tryz.underlying66 Tryz.sizeOf35 I I I I I ⟨by decide,by decide⟩ ?_
 refine qP I (qB 0 I I I (qC I I (fun W hp=>Ca c p.1 q.2 hz.x W (hc.hp hp) (hv.hp hp) (ht.hp hp)) (qP I ?_)))
 refine By Tryz.underlying66 Tryz.sizeOf35 I I I I I ⟨by decide,by decide⟩ ?_
 refine qP I (qB 0 I I I ?_)
 refine By Tryz.underlying66 Tryz.sizeOf35 I I I I I ⟨by decide,by decide⟩ ?_
 refine qP I (qB 0 I I I (qC I I (fun W hp=>Ca c q.1 p.2 hz.y W (hc.hp hp) (hv.hp hp) (ht.hp hp)) (qP I (qP I (AJ (Aa (zE (zA (zB (wP I (wP I (wP I (wC I I (fun W hp=>C9 c (p.1*q.2) (q.1*p.2) hz.s W (hc.hp hp) (hv.hp hp) (ht.hp hp)) ?_)))))))))))))
 exact wP I (Aa (zE (zO (wR1 I I I))))
def crK (l:List Ah) (k:Nat):Rat:=HR (fun i=>EY (Ac l i) (Ac l (i+1))) k
theorem Oo (l:List Ah) (k:Nat):crK l (k+1)=crK l k+EY (Ac l k) (Ac l (k+1)):=rfl
structure ArZ (l:List Ah):Prop where
 d: ∀i,i<l.length→PW (Ac l i) (Ac l (i+1))
 s: ∀i,i<l.length→Sz2 (crK l i) (EY (Ac l i) (Ac l (i+1)))
 h:Sz2 (C8 l) 2
abbrev caB (c:Nat):Bx:=⟨c,61,[.int .i64 0],true,none⟩
abbrev nuB (b:Nat) (q:Rat):Bx:=⟨b,23,[str (Af q)],true,none⟩
theorem Oj (l:List Ah) (hz:ArZ l) (p:Option Addr) (cap:Nat) (W:World) (h:GG W p l):
  Ap Tryz.prog 15 #[slv p l.length cap] W (fun _:Unit=> .tuple #[str (Af (C8 l/2)), .int .i64 0]) (fun _=>True) (fun _=>[]):=by
 have hn:=h.n
 refine Ae (args:=[slv p l.length cap]) Tryz.func15 I I I ?_
 refine zA (zB (wP I (wP I (Aa (zE (zA (zA (zB (wP I (wC I I (fun W1 hp=>H8 l p cap W1 (h.hp hp)) (wP I (Aa (zE ?_)))))))))))))
 refine zA (zB (wP I (wP I (Aa (zE (zS I (zI (zE (zA (zB ?_))))))))))
 refine AC Tryz.hZ tH I I I I I I I I ?_
 (refine AD rfl rfl rfl rfl ?_;intro)
 (refine Ao Tryz.hZ rfl rfl rfl rfl ?_;intro)
 (refine Ao Tryz.hZ rfl rfl rfl rfl ?_;intro)
 refine wS 1 I I I (wS 2 I I I (Aa ?_))
 rename_i bC b5 b6
 refine QG (bxs':=[caB bC,ckB b5 bC,nuB b6 (crK l 0)]) (by show _=[caB bC,ckB b5 bC,nuB b6 0];rw[nuB,EI];rfl) ?_
 refine zE (zA (zA (zB (wP I ?_))))
 refine wD (X:=Nat) I I (fun W1 _=>D8 p l.length cap W1) ?_
 intro bp _
 refine Aa (zE (zH ?_))
 refine EJ (X:=Nat) (fun k=>[caB bC,ckB b5 bC,nuB b6 (crK l k),lsB bp (slv p l.length cap)])
  (fun j x=>x=j) (fun _ _=>False) 0 rfl (by kernel_rfl) (Ei l bp p cap (by omega)) (fun _=>rfl)
  rfl [] rfl (fun k x W1 _ hp=>⟨Ar.of_bx hp 3 rfl rfl,(h.hp hp).m⟩) ?_ ?_ (fun _ _ _ _ _ h=>h.elim)
 ·rintro k k' d l' rec L hk e1 hrec
  obtain rfl:k'=k:=e1
  have hk:k'<l.length:=hk
  have hsu:=Oo l k'
  refine zB ?_
  (refine Ao Tryz.hZ rfl rfl rfl rfl ?_;intro)
  refine wS 7 I I I (Aa ?_)
  rename_i b8
  refine CQ 6 hrec I ?_
  refine Cc ?_
  refine AU (X:=Unit) [true,true,true,true,true,true,false] (fun _=>[(5,An b5)]) (fun _=>[Ax L,caB bC,ckB b5 bC,nuB b6 (crK l (k'+1)),lsB bp (slv p l.length cap),B8 d,Bj l' rec .busy none])
   1 [Ax L,caB bC,ckB b5 bC,nuB b6 (crK l k'),lsB bp (slv p l.length cap),B8 d,Bj l' rec .busy none,⟨b8,66,(sdV (Ac l k') (Ac l (k'+1))).cells.toList,true,none⟩] Tryz.mixed (by kernel_rfl) ?_ ?_
  ·refine qB 2 I I I (qB 3 I I I (qB 2 I I I (qB 7 I I I (qC I I (fun W1 hp=>JA bC (Ac l k') (Ac l (k'+1)) (hz.d k' hk) W1 (B2 hp 1 I) (h.hp hp).v (h.hp hp).t) (qC I I (fun W1 hp=>C7 bC (crK l k') (EY (Ac l k') (Ac l (k'+1))) (hz.s k' hk) W1 (B2 hp 1 I) (h.hp hp).v (h.hp hp).t) (B6 ?_))))))
   rw[←hsu]
   refine wX (wZ (wS 3 I I I (Aa (Ab ?_))))
   refine Aj I (by kernel_rfl) ?_
   exact Ag () ⟨I,tO⟩ [0,1,2,3,4,5,6] (by decide) I
  intro _
  exact zN (Co 6 (k'+1) hrec I I [] I)
 ·rintro k' d l' rec e1
  obtain rfl:k'=l.length:=e1
  refine zN (zE (zA (zA (zB (wB 1 I I I (wB 2 I I I (wC I I (fun W1 hp=>(by have:=Gg bC (C8 l) 2 hz.h (by decide) W1 (B2 hp 0 I) (h.hp hp).v (h.hp hp).t;rwa [Vh] at this)) (wP I (Aa (zE (zA (zB (wB 1 I I I ?_)))))))))))))
  refine AP I I I I ?_
  refine wP I (wB 0 I I I (wP I (Aa (zE (zR I (zA (zB (wP I (wP I (wP I (Aa (zE (zO ?_)))))))))))))
  refine zP ?_
  refine CJ 4 I ?_
  exact wR2 I I I
-- BOXES 12
-- CODE2
def moX (l:List Ah) (k:Nat):Rat:=HR (fun i=>((Ac l i).1+(Ac l (i+1)).1)*EY (Ac l i) (Ac l (i+1))) k
def moY (l:List Ah) (k:Nat):Rat:=HR (fun i=>((Ac l i).2+(Ac l (i+1)).2)*EY (Ac l i) (Ac l (i+1))) k
theorem T3 (l:List Ah) (k:Nat):moX l (k+1)=moX l k+((Ac l k).1+(Ac l (k+1)).1)*EY (Ac l k) (Ac l (k+1)):=rfl
theorem Uh (l:List Ah) (k:Nat):moY l (k+1)=moY l k+((Ac l k).2+(Ac l (k+1)).2)*EY (Ac l k) (Ac l (k+1)):=rfl
structure CeZ (l:List Ah):Prop where
 d: ∀i,i<l.length→PW (Ac l i) (Ac l (i+1))
 s: ∀i,i<l.length→Sz2 (crK l i) (EY (Ac l i) (Ac l (i+1)))
 x1: ∀i,i<l.length→Sz2 (Ac l i).1 (Ac l (i+1)).1
 x2: ∀i,i<l.length→Sz2 ((Ac l i).1+(Ac l (i+1)).1) (EY (Ac l i) (Ac l (i+1)))
 x3: ∀i,i<l.length→Sz2 (moX l i) (((Ac l i).1+(Ac l (i+1)).1)*EY (Ac l i) (Ac l (i+1)))
 y1: ∀i,i<l.length→Sz2 (Ac l i).2 (Ac l (i+1)).2
 y2: ∀i,i<l.length→Sz2 ((Ac l i).2+(Ac l (i+1)).2) (EY (Ac l i) (Ac l (i+1)))
 y3: ∀i,i<l.length→Sz2 (moY l i) (((Ac l i).2+(Ac l (i+1)).2)*EY (Ac l i) (Ac l (i+1)))
 m:Sz2 3 (C8 l)
 nz:(3*C8 l).num≠0
 dx:Sz2 (If l) (3*C8 l)
 dy:Sz2 (HS l) (3*C8 l)
abbrev ptB (b:Nat) (a c:List UInt8):Bx:=⟨b,35,[str a,str c],true,none⟩
theorem Mc (l:List Ah) (hz:CeZ l) (p:Option Addr) (cap:Nat) (W:World) (h:GG W p l):
  Ap Tryz.prog 35 #[slv p l.length cap] W (fun _:Unit=> .tuple #[.agg #[str (Af (If l/(3*C8 l))),str (Af (HS l/(3*C8 l)))], .int .i64 0]) (fun _=>True) (fun _=>[]):=by
 have hn:=h.n
 refine Ae (args:=[slv p l.length cap]) Tryz.func35 I I I ?_
 refine zA (zB ?_)
 (refine Ao Tryz.hZ rfl rfl rfl rfl ?_;intro)
 refine wP I (Aa ?_)
 rename_i b2
 refine zE (zA (zA (zB (wP I (wC I I (fun W1 hp=>H8 l p cap W1 (h.hp hp)) (wP I (Aa (zE (zA (zB (wP I (wP I (Aa ?_)))))))))))))
 refine zE (zS I (zI (zE (zA (zB ?_)))))
 refine AC Tryz.hZ tH I I I I I I I I ?_
 (refine AD rfl rfl rfl rfl ?_;intro)
 (refine Ao Tryz.hZ rfl rfl rfl rfl ?_;intro)
 refine wS 2 I I I (Aa ?_)
 rename_i bC b5
 refine zE (zA (zB ?_))
 (refine Ao Tryz.hZ rfl rfl rfl rfl ?_;intro)
 (refine Ao Tryz.hZ rfl rfl rfl rfl ?_;intro)
 (refine Ao Tryz.hZ rfl rfl rfl rfl ?_;intro)
 refine wS 3 I I I (wS 4 I I I (wS 5 I I I (Aa ?_)))
 rename_i b6 b7 b8
 refine QG (bxs':=[ptB b2 [] [],caB bC,ckB b5 bC,nuB b6 (moX l 0),nuB b7 (moY l 0),nuB b8 (crK l 0)]) (by show _=[ptB b2 [] [],caB bC,ckB b5 bC,nuB b6 0,nuB b7 0,nuB b8 0];rw[nuB,nuB,nuB,EI];rfl) ?_
 refine zE (zA (zA (zB (wP I ?_))))
 refine wD (X:=Nat) I I (fun W1 _=>D8 p l.length cap W1) ?_
 intro bp _
 refine Aa (zE (zH ?_))
 refine EJ (X:=Nat) (fun k=>[ptB b2 [] [],caB bC,ckB b5 bC,nuB b6 (moX l k),nuB b7 (moY l k),nuB b8 (crK l k),lsB bp (slv p l.length cap)])
  (fun j x=>x=j) (fun _ _=>False) 0 rfl (by kernel_rfl) (Ei l bp p cap (by omega)) (fun _=>rfl)
  rfl [] rfl (fun k x W1 _ hp=>⟨Ar.of_bx hp 6 rfl rfl,(h.hp hp).m⟩) ?_ ?_ (fun _ _ _ _ _ h=>h.elim)
 ·rintro k k' d l' rec L hk e1 hrec
  obtain rfl:k'=k:=e1
  have hk:k'<l.length:=hk
  have hsu:=Oo l k'
  have hsx:=T3 l k'
  have hsy:=Uh l k'
  refine zB ?_
  (refine Ao Tryz.hZ rfl rfl rfl rfl ?_;intro)
  refine wS 10 I I I (Aa ?_)
  rename_i b10
  refine CQ 9 hrec I ?_
  refine Cc (zA (zB (wB 3 I I I (wB 10 I I I (wC I I (fun W1 hp=>JA bC (Ac l k') (Ac l (k'+1)) (hz.d k' hk) W1 (B2 hp 2 I) (h.hp hp).v (h.hp hp).t) (wP I (Aa (zE (Au ?_)))))))))
  refine AU (X:=Unit) [true,true,true,true,true,true,true,true,true,true,true,true,true,true,false] (fun _=>[(5,An b5),(6,An b6),(7,An b7),(8,An b8),(10,An b10),(11,str (Af (EY (Ac l k') (Ac l (k'+1)))))]) (fun _=>[Ax L,ptB b2 [] [],caB bC,ckB b5 bC,nuB b6 (moX l (k'+1)),nuB b7 (moY l k'),nuB b8 (crK l k'),lsB bp (slv p l.length cap),B8 d,Bj l' rec .busy none,⟨b10,66,(sdV (Ac l k') (Ac l (k'+1))).cells.toList,true,none⟩])
   1 [Ax L,ptB b2 [] [],caB bC,ckB b5 bC,nuB b6 (moX l k'),nuB b7 (moY l k'),nuB b8 (crK l k'),lsB bp (slv p l.length cap),B8 d,Bj l' rec .busy none,⟨b10,66,(sdV (Ac l k') (Ac l (k'+1))).cells.toList,true,none⟩] Tryz.mixed (by kernel_rfl) ?_ ?_
  ·refine qB 3 I I I (qB 4 I I I (qB 3 I I I (qB 3 I I I ?_)))
   refine By Tryz.underlying66 Tryz.sizeOf35 I I I I I ⟨by decide,by decide⟩ ?_
   refine qP I (qB 10 I I I ?_)
   refine By Tryz.underlying66 Tryz.sizeOf35 I I I I I ⟨by decide,by decide⟩ ?_
   refine qP I (qB 10 I I I (qC I I (fun W1 hp=>C7 bC (Ac l k').1 (Ac l (k'+1)).1 (hz.x1 k' hk) W1 (B2 hp 2 I) (h.hp hp).v (h.hp hp).t) (qP I (qC I I (fun W1 hp=>Ca bC ((Ac l k').1+(Ac l (k'+1)).1) (EY (Ac l k') (Ac l (k'+1))) (hz.x2 k' hk) W1 (B2 hp 2 I) (h.hp hp).v (h.hp hp).t) (qC I I (fun W1 hp=>C7 bC (moX l k') _ (hz.x3 k' hk) W1 (B2 hp 2 I) (h.hp hp).v (h.hp hp).t) (B6 ?_))))))
   rw[←hsx]
   refine wX (wZ (wS 4 I I I (Aa (Ab ?_))))
   refine Aj I (by kernel_rfl) ?_
   exact Ag () ⟨I,I,I,I,I,I,tO⟩ [0,1,2,3,4,5,6,7,8,9,10] (by decide) I
  intro _
  refine zE (Au ?_)
  refine AU (X:=Unit) [true,true,true,true,true,true,true,true,true,true,true,true,true,true,false] (fun _=>[(5,An b5),(8,An b8),(11,str (Af (EY (Ac l k') (Ac l (k'+1)))))]) (fun _=>[Ax L,ptB b2 [] [],caB bC,ckB b5 bC,nuB b6 (moX l (k'+1)),nuB b7 (moY l (k'+1)),nuB b8 (crK l k'),lsB bp (slv p l.length cap),B8 d,Bj l' rec .busy none])
   1 [Ax L,ptB b2 [] [],caB bC,ckB b5 bC,nuB b6 (moX l (k'+1)),nuB b7 (moY l k'),nuB b8 (crK l k'),lsB bp (slv p l.length cap),B8 d,Bj l' rec .busy none,⟨b10,66,(sdV (Ac l k') (Ac l (k'+1))).cells.toList,true,none⟩] Tryz.mixed (by kernel_rfl) ?_ ?_
  ·refine qB 3 I I I (qB 5 I I I (qB 3 I I I (qB 3 I I I ?_)))
   refine By Tryz.underlying66 Tryz.sizeOf35 I I I I I ⟨by decide,by decide⟩ ?_
   refine qP I (qB 10 I I I ?_)
   refine By Tryz.underlying66 Tryz.sizeOf35 I I I I I ⟨by decide,by decide⟩ ?_
   refine qP I (qB 10 I I I (qC I I (fun W1 hp=>C7 bC (Ac l k').2 (Ac l (k'+1)).2 (hz.y1 k' hk) W1 (B2 hp 2 I) (h.hp hp).v (h.hp hp).t) (qP I (qC I I (fun W1 hp=>Ca bC ((Ac l k').2+(Ac l (k'+1)).2) (EY (Ac l k') (Ac l (k'+1))) (hz.y2 k' hk) W1 (B2 hp 2 I) (h.hp hp).v (h.hp hp).t) (qC I I (fun W1 hp=>C7 bC (moY l k') _ (hz.y3 k' hk) W1 (B2 hp 2 I) (h.hp hp).v (h.hp hp).t) (B6 ?_))))))
   rw[←hsy]
   refine wX (wZ (wS 5 I I I (Aa (Ab ?_))))
   refine Aj I (by kernel_rfl) ?_
   exact Ag () ⟨I,I,I,tO⟩ [0,1,2,3,4,5,6,7,8,9] (by decide) I
  intro _
  refine zE (zB (wB 3 I I I (wB 6 I I I (wP I (wC I I (fun W1 hp=>C7 bC (crK l k') (EY (Ac l k') (Ac l (k'+1))) (hz.s k' hk) W1 (B2 hp 2 I) (h.hp hp).v (h.hp hp).t) ?_)))))
  rw[←hsu]
  exact wS 6 I I I (Aa (zN (Co 9 (k'+1) hrec I I [] I)))
 ·rintro k' d l' rec e1
  obtain rfl:k'=l.length:=e1
  have ec:crK l l.length=C8 l:=rfl
  have ex:moX l l.length=If l:=rfl
  have ey:moY l l.length=HS l:=rfl
  rw[ec,ex,ey]
  refine zN (zE (zA (zB (wB 2 I I I (wB 5 I I I (wC I I (fun W1 hp=>(by have:=Ca bC 3 (C8 l) hz.m W1 (B2 hp 1 I) (h.hp hp).v (h.hp hp).t;rwa [U0] at this)) (wS 5 I I I (Aa (zE (Au ?_))))))))))
  refine AU (X:=Nat) [true,true,true,true,true,true,true,true,true,false,false] (fun b=>[(2,An b2),(5,An b5),(12,An b)]) (fun b=>[ptB b2 [] [],caB bC,ckB b5 bC,B8 d,ptB b (Af (If l/(3*C8 l))) (Af (HS l/(3*C8 l)))])
   2 [ptB b2 [] [],caB bC,ckB b5 bC,nuB b6 (If l),nuB b7 (HS l),nuB b8 (3*C8 l),lsB bp (slv p l.length cap),B8 d,Bj l' rec .exhausted none] Tryz.mixed (by kernel_rfl) ?_ ?_
  ·refine qB 2 I I I (qB 3 I I I (qB 5 I I I (qC I I (fun W1 hp=>Gg bC (If l) (3*C8 l) hz.dx hz.nz W1 (B2 hp 1 I) (h.hp hp).v (h.hp hp).t) (qB 2 I I I (qB 4 I I I (qB 5 I I I (qC I I (fun W1 hp=>Gg bC (HS l) (3*C8 l) hz.dy hz.nz W1 (B2 hp 1 I) (h.hp hp).v (h.hp hp).t) ?_)))))))
   refine Hz Tryz.hZ tH I I I I I I I I ?_
   refine B6 (wX (wZ ?_))
   refine Ao Tryz.hZ rfl rfl rfl rfl ?_;intro b
   refine Aa (Ab (wX (wZ (wS 9 I I I (Aa (Ab ?_))))))
   refine AI I (by((repeat (first|refine AN.same ?_|refine AN.off I ?_));exact tO)) ?_
   exact Ag b ⟨I,I,I,tO⟩ [0,1,2,7,9] (by decide) I
  intro b12
  refine zE (zA (zA (zB (wB 2 I I I ?_))))
  refine AP I I I I ?_
  refine wP I (wB 1 I I I (wP I (Aa (zE (zS I (zI (zE (zA (zB (wB 4 I I I (wS 0 I I I (wP I (Aa ?_)))))))))))))
  refine zE (zO ?_)
  refine CJ 3 I ?_
  exact AR tH I (.cell 0 I I I I I) (.tmp I) () I tO fun W _=>A3.nil _ _
-- BOXES 3
-- CODE2
section
variable {P:Program} {W0:World} {N:Nat} {D:List Deferred} {ops:List Oper} {o:Oper} {rest:List Oper} {env:Env} {bxs:List Bx} {A2:World→Prop} {R:Act→World→Prop}
theorem RK {ρ:Operand→Value} {c:Call} {f:Operand} {g:Nat} {first vs:List Value} {W:World} (ho:o.op= .call c) (hc:c.callee= .value f) (hf:ρ f= .func (.func g) first.toArray #[]) (ha:c.args.map ρ=vs.toArray) (hE:Bd P g=true):
  (execOp ρ o).run P W= .ok (.enter g (first++vs).toArray) W:=by
 simp only[execOp,ho,resolve,hc,hf,ha,Sem.run_bind,Deferred.ofValue,Sem.run_pure,Result.andThen_ok,invoke,Fz hE]
 simp
theorem CL {c:Call} {f:Operand} {g d:Nat} {first vs:List Value} {v:Value}
  (hg:A6 ops N env o=some true) (hd:o.dst=some d) (ho:o.op= .call c) (hc:c.callee= .value f) (hf:evO N env f=some (.func (.func g) first.toArray #[])) (ha:Cf (evO N env) c.args.toList=some vs) (hE:Bd P g=true)
  (hC: ∀W,Hp W0 bxs W→Ap P g (first++vs).toArray W (fun _:Unit=>v) (fun _=>True) (fun _=>[]))
  (h:WQ P N D ops A2 R rest ((d,v)::env) (Hp W0 bxs)):WQ P N D ops A2 R (o::rest) env (Hp W0 bxs):=
 Km hd (fun a W h1 _ hp=>by
  unfold OpS
  rw[D0 h1 hg,if_pos rfl]
  refine⟨fun c e=>(by rw[ho] at e;cases e), .inr ⟨g,_,RK ho hc (AL h1 _ _ hf) (E2 (AL h1) ha) hE,(hC W hp).out.mono ?_⟩⟩
  rintro e W' ⟨x,he,_,hb,_⟩
  exact⟨he,hp.grow hb,hb⟩) h
end
theorem HO (x:Nat) (h:x≤18446744073709551615) (W:World):Ap Tryz.prog 134 #[.int .u64 (x:Nat)] W (fun _:Unit=> .int .i64 (Lib.bitLen x)) (fun _=>True) (fun _=>[]):=by
 refine Ap.of1 ((Go.Proofs.Any.bits_Len (P:=Tryz.prog) (ρ:=Tryz.lays125_ren) { Tryz.lays125 with } (x:Int) W (by omega) (by omega)).mono ?_)
 rintro e w' ⟨rfl,rfl⟩
 exact⟨I,Below.refl _ _⟩
def DQ (x y:Ah):List Ah:=if Be y x=true then[y,x] else[x,y]
abbrev lsF (c:Nat):Value:= .func (.func 71) #[An c] #[]
abbrev A5 (g:Nat) (l:List Ah) (junk:List Value):Bx:=⟨g,35,ptC l++junk,true,none⟩
theorem Tz {W0 W:World} {bxs:List Bx} (hp:Hp W0 bxs W) (k:Nat) {g:Nat} {x y:Ah} {junk:List Value} (hk:nth bxs k=some (A5 g [x,y] junk)):Ar W g (0+0*2) [str (Af x.1),str (Af x.2)]:=
 Cm (a:=[str (Af x.1),str (Af x.2)]) (b:=[str (Af y.1),str (Af y.2)]++junk) (Ar.of_bx hp k hk rfl)
theorem TY {W0 W:World} {bxs:List Bx} (hp:Hp W0 bxs W) (k:Nat) {g:Nat} {x y:Ah} {junk:List Value} (hk:nth bxs k=some (A5 g [x,y] junk)):Ar W g (0+1*2) [str (Af y.1),str (Af y.2)]:=
 Cm (a:=[str (Af y.1),str (Af y.2)]) (b:=junk) (Ho (a:=[str (Af x.1),str (Af x.2)]) (b:=[str (Af y.1),str (Af y.2)]++junk) (Ar.of_bx hp k hk rfl))
structure SrN (c g:Nat) (x y:Ah) (W:World):Prop where
 k: ∀W',CC W W' g→C3 W' c∧BP W'∧Bc W'
 s1:Sz2 y.1 x.1
 s2:Sz2 y.2 x.2
theorem SrN.trans {c g:Nat} {x y:Ah} {W W':World} (h:SrN c g x y W) (hk:CC W W' g):SrN c g x y W':=⟨fun W2 h2=>h.k W2 (hk.trans h2),h.s1,h.s2⟩
theorem PK (c:Nat) (W:World) (g cap:Nat) (x y:Ah) (junk:List Value) (hg:W.heap[g]? =some (.cells (ptC [x,y]++junk).toArray 35 (0,0))) (h:SrN c g x y W):
  Calls Tryz.prog 181 #[.slice (some ⟨g,0,none⟩) 2 cap, .int .i64 0, .int .i64 2,lsF c] W fun e W'=> ∃x1:Unit,e= .returned ((fun _=> .tuple #[]) x1)∧True∧EE W W' g ((fun _=>g) x1) ((fun _=> .cells (ptC (DQ x y)++junk).toArray 35 (0,0)) x1):=by
 have key:Calls Tryz.prog 181 [.slice (some ⟨g,0,none⟩) 2 cap, .int .i64 0, .int .i64 2,lsF c].toArray W fun e W'=> ∃x1:Unit,e= .returned ((fun _=> .tuple #[]) x1)∧(fun _=>True) x1∧Below (AE W).heap.size (AE W) W'∧A3 (AE W) W' ((fun _=>[Ax (Ai W g),A5 g (DQ x y) junk]) x1):=by
  refine Ba (X:=Unit) (val:=fun _=> .tuple #[]) (Φ:=fun _=>True) (nb:=fun _=>[Ax (Ai W g),A5 g (DQ x y) junk]) (Hp.enterT (B:=A5 g [x,y] junk) I hg) Tryz.func181 I I I ?_
  refine zA (zB (wP I (wP I (wP I (Aa (zE (zH ?_)))))))
  refine A9 (X:=Bool) (fun b=>[(0, .slice (some ⟨g,0,none⟩) 2 cap),(1, .int .i64 0),(2, .int .i64 2),(3,lsF c),(8, .int .i64 (if b then 2 else 1))]) (fun b=>[Ax (Ai W g),A5 g (if b then DQ x y else[x,y]) junk]) (fun _=>True) (fun b=>if b then 0 else 1) false tO ⟨I,I,I,I,I,tO⟩ [] I ?_
  intro b _
  cases b with
  |true=>
   exact zA (zA (zB (wP I (wP I (wP I (Aa (zE (zS I (zJ (zK (zK (zL (Hy (X:=Unit) (val:=fun _=> .tuple #[]) (Φ:=fun _=>True) (nb:=fun _=>[Ax (Ai W g),A5 g (DQ x y) junk]) (fn:=Tryz.f181) tH I () I tO fun W1 hp=>(hp.pick (l:=[Ax (Ai W g),A5 g (DQ x y) junk]) [0,1] (by decide) I).own)))))))))))))
  |false=>
   refine zA (zA (zB (wP I (wP I (wP I (Aa (zE (zR I (zI (zE (zA (zH (zA ?_)))))))))))))
   refine zB (wP I (wP I (Aa (zE (zH ?_)))))
   refine A9 (X:=Bool) (fun b=>[(0, .slice (some ⟨g,0,none⟩) 2 cap),(1, .int .i64 0),(2, .int .i64 2),(3,lsF c),(8, .int .i64 1),(9, .int .i64 (if b then 0 else 1))]) (fun b=>[Ax (Ai W g),A5 g (if b then[y,x] else[x,y]) junk]) (fun b=>b=true→Be y x=true) (fun b=>if b then 0 else 1) false (fun h=>by cases h) ⟨rfl,rfl,rfl,rfl,rfl,rfl,trivial⟩ [] rfl ?_
   intro b hb
   cases b with
   |true=>
    have hlt:=hb rfl
    have e:DQ x y=[y,x]:=by unfold DQ;rw[if_pos hlt]
    refine zA (zA (zU (qP I (qP I (qP I (qP I ?_))))))
    iterate 12 refine C5 I I ?_
    refine qP I (AJ (Aa (zE (zS I (zJ (zK (zK (zL (zN (zE (zB (wP I (wP I (wP I ?_))))))))))))))
    exact Aa (A0 true tO (by decide) ⟨I,I,I,I,I,tO⟩ [] (by show _=[Ax (Ai W g),A5 g (DQ x y) junk];rw[e];rfl))
   |false=>
    refine zA (zA (zU ?_))
    iterate 7 refine qP I ?_
    refine qI I I (by decide) (by decide) (qL 0 I I (fun W1 hp=>TY hp 1 I) I (qP I (qP I (qP I (qI I I (by decide) (by decide) (qL 0 I I (fun W1 hp=>Tz hp 1 I) I ?_))))))
    refine CL (first:=[An c]) I I I I I I (by kernel_rfl) (fun W1 hp=>(by
     obtain⟨hc,hv,ht⟩:=h.k W1 (BV hg ⟨_,List.mem_cons_self ..⟩ hp)
     exact JE c y x h.s1 h.s2 W1 hc hv ht)) ?_
    refine qP I (qU 33 (Be y x) I (Dj y x) ?_)
    cases hlt:Be y x with
    |false=>
     have e:DQ x y=[x,y]:=by unfold DQ;rw[hlt];rfl
     refine qP I (AJ (Aa (zE (zS I (zJ (zK (zK (zL (zN (zE (zB (wP I (wP I (wP I ?_))))))))))))))
     exact Aa (A0 true tO (by decide) ⟨I,I,I,I,I,tO⟩ [] (by show _=[Ax (Ai W g),A5 g (DQ x y) junk];rw[e];rfl))
    |true=>
     refine qP I (AJ (Aa (zE (zR I (zI (zE (Au (Cc ?_))))))))
     repeat refine Au ?_
     refine AU (X:=Unit) [true,true,false,false,false,true,true,true,true,true,true,true,true,true,true,false,false,false] (fun _=>[(0, .slice (some ⟨g,0,none⟩) 2 cap),(1, .int .i64 0),(2, .int .i64 2),(3,lsF c),(8, .int .i64 1),(9, .int .i64 1)]) (fun _=>[Ax (Ai W g),A5 g [y,x] junk])
      6 [Ax (Ai W g),A5 g [x,y] junk] Tryz.mixed (by kernel_rfl) ?_ ?_
     ·refine qP I (qP I (qP I (qP I (qP I (qI I I (by decide) (by decide) (qL 0 I I (fun W1 hp=>Tz hp 1 I) I (qP I (qP I (qI I I (by decide) (by decide) (qL 0 I I (fun W1 hp=>TY hp 1 I) I (qI I I (by decide) (by decide) (B6 (wX ?_)))))))))))))
      refine RS.cons ?_ (RS.cons ?_ (RS.cons ?_ (RS.nil)))
      ·refine wP I (Aa (Ab (wX ?_)))
       refine RS.cons ?_ (RS.cons ?_ (RS.nil))
       ·refine wP I (Aa (Ab (wX ?_)))
        refine RS.cons ?_ (RS.cons ?_ (RS.nil))
        ·refine wP I (Aa (Ab (wX (wZ ?_))))
         refine Ad 1 (ptC [x,x]++junk) tH I I I I I I I I I I (by show 0+1*2+2≤(ptC [x,y]++junk).length;rw[List.length_append,AS];show 4≤4+_;omega) I ?_
         refine Aa (Ab (wY (wZ (wI I I (by decide) (by decide) (Aa (Ab (wY (wZ ?_))))))))
         refine Ad 1 (ptC [y,x]++junk) tH I I I I I I I I I I (by show 0+0*2+2≤(ptC [x,x]++junk).length;rw[List.length_append,AS];show 2≤4+_;omega) I ?_
         refine Aa (Ab ?_)
         refine Aj I (by kernel_rfl) ?_
         exact Ag () ⟨I,I,I,I,I,I,tO⟩ [0,1] (by decide) I
        ·refine Ad 1 (ptC [x,x]++junk) tH I I I I I I I I I I (by show 0+1*2+2≤(ptC [x,y]++junk).length;rw[List.length_append,AS];show 4≤4+_;omega) I ?_
         refine Aa (Ab (wY (wZ (wP I (Aa (Ab (wY (wZ (wI I I (by decide) (by decide) (Aa (Ab (wY (wZ ?_)))))))))))))
         refine Ad 1 (ptC [y,x]++junk) tH I I I I I I I I I I (by show 0+0*2+2≤(ptC [x,x]++junk).length;rw[List.length_append,AS];show 2≤4+_;omega) I ?_
         refine Aa (Ab ?_)
         refine Aj I (by kernel_rfl) ?_
         exact Ag () ⟨I,I,I,I,I,I,tO⟩ [0,1] (by decide) I
       ·refine Ad 1 (ptC [x,x]++junk) tH I I I I I I I I I I (by show 0+1*2+2≤(ptC [x,y]++junk).length;rw[List.length_append,AS];show 4≤4+_;omega) I ?_
        refine Aa (Ab (wY (wZ (wP I (Aa (Ab (wY (wZ (wP I (Aa (Ab (wY (wZ ?_)))))))))))))
        refine wI I I (by decide) (by decide) (Aa (Ab (wY (wZ ?_))))
        refine Ad 1 (ptC [y,x]++junk) tH I I I I I I I I I I (by show 0+0*2+2≤(ptC [x,x]++junk).length;rw[List.length_append,AS];show 2≤4+_;omega) I ?_
        refine Aa (Ab ?_)
        refine Aj I (by kernel_rfl) ?_
        exact Ag () ⟨I,I,I,I,I,I,tO⟩ [0,1] (by decide) I
      ·refine wP I (Aa (Ab (wX ?_)))
       refine RS.cons ?_ (RS.cons ?_ (RS.cons ?_ (RS.nil)))
       ·refine wP I (Aa (Ab (wX ?_)))
        refine RS.cons ?_ (RS.cons ?_ (RS.nil))
        ·refine wP I (Aa (Ab (wX (wZ ?_))))
         refine Ad 1 (ptC [x,x]++junk) tH I I I I I I I I I I (by show 0+1*2+2≤(ptC [x,y]++junk).length;rw[List.length_append,AS];show 4≤4+_;omega) I ?_
         refine Aa (Ab (wY (wZ (wI I I (by decide) (by decide) (Aa (Ab (wY (wZ ?_))))))))
         refine Ad 1 (ptC [y,x]++junk) tH I I I I I I I I I I (by show 0+0*2+2≤(ptC [x,x]++junk).length;rw[List.length_append,AS];show 2≤4+_;omega) I ?_
         refine Aa (Ab ?_)
         refine Aj I (by kernel_rfl) ?_
         exact Ag () ⟨I,I,I,I,I,I,tO⟩ [0,1] (by decide) I
        ·refine Ad 1 (ptC [x,x]++junk) tH I I I I I I I I I I (by show 0+1*2+2≤(ptC [x,y]++junk).length;rw[List.length_append,AS];show 4≤4+_;omega) I ?_
         refine Aa (Ab (wY (wZ (wP I (Aa (Ab (wY (wZ (wI I I (by decide) (by decide) (Aa (Ab (wY (wZ ?_)))))))))))))
         refine Ad 1 (ptC [y,x]++junk) tH I I I I I I I I I I (by show 0+0*2+2≤(ptC [x,x]++junk).length;rw[List.length_append,AS];show 2≤4+_;omega) I ?_
         refine Aa (Ab ?_)
         refine Aj I (by kernel_rfl) ?_
         exact Ag () ⟨I,I,I,I,I,I,tO⟩ [0,1] (by decide) I
       ·refine wP I (Aa (Ab (wX ?_)))
        refine RS.cons ?_ (RS.cons ?_ (RS.nil))
        ·refine wP I (Aa (Ab (wX (wZ ?_))))
         refine Ad 1 (ptC [x,x]++junk) tH I I I I I I I I I I (by show 0+1*2+2≤(ptC [x,y]++junk).length;rw[List.length_append,AS];show 4≤4+_;omega) I ?_
         refine Aa (Ab (wY (wZ (wI I I (by decide) (by decide) (Aa (Ab (wY (wZ ?_))))))))
         refine Ad 1 (ptC [y,x]++junk) tH I I I I I I I I I I (by show 0+0*2+2≤(ptC [x,x]++junk).length;rw[List.length_append,AS];show 2≤4+_;omega) I ?_
         refine Aa (Ab ?_)
         refine Aj I (by kernel_rfl) ?_
         exact Ag () ⟨I,I,I,I,I,I,tO⟩ [0,1] (by decide) I
        ·refine Ad 1 (ptC [x,x]++junk) tH I I I I I I I I I I (by show 0+1*2+2≤(ptC [x,y]++junk).length;rw[List.length_append,AS];show 4≤4+_;omega) I ?_
         refine Aa (Ab (wY (wZ (wP I (Aa (Ab (wY (wZ (wI I I (by decide) (by decide) (Aa (Ab (wY (wZ ?_)))))))))))))
         refine Ad 1 (ptC [y,x]++junk) tH I I I I I I I I I I (by show 0+0*2+2≤(ptC [x,x]++junk).length;rw[List.length_append,AS];show 2≤4+_;omega) I ?_
         refine Aa (Ab ?_)
         refine Aj I (by kernel_rfl) ?_
         exact Ag () ⟨I,I,I,I,I,I,tO⟩ [0,1] (by decide) I
       ·refine Ad 1 (ptC [x,x]++junk) tH I I I I I I I I I I (by show 0+1*2+2≤(ptC [x,y]++junk).length;rw[List.length_append,AS];show 4≤4+_;omega) I ?_
        refine Aa (Ab (wY ?_))
        refine RS.cons ?_ (RS.cons ?_ (RS.nil))
        ·refine wP I (Aa (Ab (wY (wZ (wP I (Aa (Ab (wY (wZ (wI I I (by decide) (by decide) (Aa (Ab (wY ?_)))))))))))))
         refine wZ ?_
         refine Ad 1 (ptC [y,x]++junk) tH I I I I I I I I I I (by show 0+0*2+2≤(ptC [x,x]++junk).length;rw[List.length_append,AS];show 2≤4+_;omega) I ?_
         refine Aa (Ab ?_)
         refine Aj I (by kernel_rfl) ?_
         exact Ag () ⟨I,I,I,I,I,I,tO⟩ [0,1] (by decide) I
        ·refine wP I (Aa (Ab (wY (wZ (wP I (Aa (Ab (wY (wZ (wI I I (by decide) (by decide) (Aa (Ab (wY ?_)))))))))))))
         refine wZ ?_
         refine Ad 1 (ptC [y,x]++junk) tH I I I I I I I I I I (by show 0+0*2+2≤(ptC [x,x]++junk).length;rw[List.length_append,AS];show 2≤4+_;omega) I ?_
         refine Aa (Ab ?_)
         refine Aj I (by kernel_rfl) ?_
         exact Ag () ⟨I,I,I,I,I,I,tO⟩ [0,1] (by decide) I
      ·refine Ad 1 (ptC [x,x]++junk) tH I I I I I I I I I I (by show 0+1*2+2≤(ptC [x,y]++junk).length;rw[List.length_append,AS];show 4≤4+_;omega) I ?_
       refine Aa (Ab (wY ?_))
       refine RS.cons ?_ (RS.cons ?_ (RS.nil))
       ·refine wP I (Aa (Ab (wY (wZ (wP I (Aa (Ab (wY (wZ (wP I (Aa (Ab (wY ?_)))))))))))))
        refine wZ (wI I I (by decide) (by decide) (Aa (Ab (wY (wZ ?_)))))
        refine Ad 1 (ptC [y,x]++junk) tH I I I I I I I I I I (by show 0+0*2+2≤(ptC [x,x]++junk).length;rw[List.length_append,AS];show 2≤4+_;omega) I ?_
        refine Aa (Ab ?_)
        refine Aj I (by kernel_rfl) ?_
        exact Ag () ⟨I,I,I,I,I,I,tO⟩ [0,1] (by decide) I
       ·refine wP I (Aa (Ab (wY ?_)))
        refine RS.cons ?_ (RS.cons ?_ (RS.nil))
        ·refine wP I (Aa (Ab (wY (wZ (wP I (Aa (Ab (wY (wZ (wI I I (by decide) (by decide) (Aa (Ab (wY ?_)))))))))))))
         refine wZ ?_
         refine Ad 1 (ptC [y,x]++junk) tH I I I I I I I I I I (by show 0+0*2+2≤(ptC [x,x]++junk).length;rw[List.length_append,AS];show 2≤4+_;omega) I ?_
         refine Aa (Ab ?_)
         refine Aj I (by kernel_rfl) ?_
         exact Ag () ⟨I,I,I,I,I,I,tO⟩ [0,1] (by decide) I
        ·refine wP I (Aa (Ab (wY (wZ (wP I (Aa (Ab (wY (wZ (wI I I (by decide) (by decide) (Aa (Ab (wY ?_)))))))))))))
         refine wZ ?_
         refine Ad 1 (ptC [y,x]++junk) tH I I I I I I I I I I (by show 0+0*2+2≤(ptC [x,x]++junk).length;rw[List.length_append,AS];show 2≤4+_;omega) I ?_
         refine Aa (Ab ?_)
         refine Aj I (by kernel_rfl) ?_
         exact Ag () ⟨I,I,I,I,I,I,tO⟩ [0,1] (by decide) I
     intro _
     exact zN (zE (zB (wP I (wP I (wP I (Aa (A0 true (fun _=>rfl) (by decide) ⟨I,I,I,I,I,I,tO⟩ [] I)))))))
 refine key.mono ?_
 rintro e W' ⟨x1,he,_,hb,hn'⟩
 exact⟨x1,he,tO,BL hg I hb hn'⟩
theorem Q8 (c:Nat) (W:World) (g cap:Nat) (x y:Ah) (junk:List Value) (z:Int) (hg:W.heap[g]? =some (.cells (ptC [x,y]++junk).toArray 35 (0,0))) (h:SrN c g x y W):
  Calls Tryz.prog 133 #[.slice (some ⟨g,0,none⟩) 2 cap, .int .i64 0, .int .i64 2, .int .i64 z,lsF c] W fun e W'=> ∃x1:Unit,e= .returned ((fun _=> .tuple #[]) x1)∧True∧EE W W' g ((fun _=>g) x1) ((fun _=> .cells (ptC (DQ x y)++junk).toArray 35 (0,0)) x1):=by
 have key:Calls Tryz.prog 133 [.slice (some ⟨g,0,none⟩) 2 cap, .int .i64 0, .int .i64 2, .int .i64 z,lsF c].toArray W fun e W'=> ∃x1:Unit,e= .returned ((fun _=> .tuple #[]) x1)∧(fun _=>True) x1∧Below (AE W).heap.size (AE W) W'∧A3 (AE W) W' ((fun _=>[Ax (Ai W g),A5 g (DQ x y) junk]) x1):=by
  refine Ba (X:=Unit) (val:=fun _=> .tuple #[]) (Φ:=fun _=>True) (nb:=fun _=>[Ax (Ai W g),A5 g (DQ x y) junk]) (Hp.enterT (B:=A5 g [x,y] junk) I hg) Tryz.func133 I I I ?_
  refine zA (zB (wP I (Aa (zE (zA (zB (wP I (Aa (zE (zH ?_))))))))))
  refine A9 (X:=Unit) (fun _=>[(0, .slice (some ⟨g,0,none⟩) 2 cap),(1, .int .i64 0),(2, .int .i64 2),(3, .int .i64 z),(4,lsF c)]) (fun _=>[Ax (Ai W g),A5 g [x,y] junk]) (fun _=>True) (fun _=>0) () tO ⟨I,I,I,I,I,tO⟩ [] I ?_
  intro _ _
  refine zH (zA (zB (wP I (wP I (wP I (wP I (Aa (zE (zA (zA (zB (wP I (wP I ?_)))))))))))))
  refine Aa (zE (zR I (zA (zB (wP I (wP I (wP I (wP I ?_))))))))
  refine Bn (X:=Unit) (val:=fun _=> .tuple #[]) (Φ:=fun _=>True) (capt:=[]) 1 (B:=A5 g [x,y] junk) (L1:=[]) (L2:=[]) (b:=g) (ob:= .cells (ptC [x,y]++junk).toArray 35 (0,0)) (fun _=>A5 g (DQ x y) junk) (g':=fun _=>g) (o':=fun _=> .cells (ptC (DQ x y)++junk).toArray 35 (0,0))
   rfl rfl rfl rfl rfl rfl (by kernel_rfl) rfl rfl (fun _ _=>rfl) (fun W1 hp=>PK c W1 g cap x y junk (hp.own.cell 1 _ rfl (g, .cells (ptC [x,y]++junk).toArray 35 (0,0)) (List.mem_cons_self ..)).1 (h.trans (BV hg ⟨_,List.mem_cons_self ..⟩ hp))) (fun _ _=> ?_)
  refine Aa (zE (zO (zP (zQ (zP (zQ ?_))))))
  refine Ku (X:=Unit) (val:=fun _=> .tuple #[]) (Φ:=fun _=>True) (nb:=fun _=>[Ax (Ai W g),A5 g (DQ x y) junk]) (fn:=Tryz.f133) tH I () I tO fun W1 hp=> ?_
  exact(hp.pick (l:=[Ax (Ai W g),A5 g (DQ x y) junk]) [0,1] (by decide) I).own
 refine key.mono ?_
 rintro e W' ⟨x1,he,_,hb,hn'⟩
 exact⟨x1,he,tO,BL hg I hb hn'⟩
theorem OJ (c:Nat) (W:World) (g cap:Nat) (x y:Ah) (junk:List Value) (hg:W.heap[g]? =some (.cells (ptC [x,y]++junk).toArray 35 (0,0))) (h:SrN c g x y W):
  Calls Tryz.prog 70 #[.slice (some ⟨g,0,none⟩) 2 cap,lsF c] W fun e W'=> ∃x1:Unit,e= .returned ((fun _=> .tuple #[]) x1)∧True∧EE W W' g ((fun _=>g) x1) ((fun _=> .cells (ptC (DQ x y)++junk).toArray 35 (0,0)) x1):=by
 have key:Calls Tryz.prog 70 [.slice (some ⟨g,0,none⟩) 2 cap,lsF c].toArray W fun e W'=> ∃x1:Unit,e= .returned ((fun _=> .tuple #[]) x1)∧(fun _=>True) x1∧Below (AE W).heap.size (AE W) W'∧A3 (AE W) W' ((fun _=>[Ax (Ai W g),A5 g (DQ x y) junk]) x1):=by
  refine Ba (X:=Unit) (val:=fun _=> .tuple #[]) (Φ:=fun _=>True) (nb:=fun _=>[Ax (Ai W g),A5 g (DQ x y) junk]) (Hp.enterT (B:=A5 g [x,y] junk) I hg) Tryz.func70 I I I ?_
  refine zA (zB (wP I (wP I (wP I (Aa (zE (zB (wP I (wP I (wP I ?_))))))))))
  refine F9 (k:= .u64) (kt:= .i64) (by kernel_rfl) (by kernel_rfl) I I I I ?_
  refine Al 10 (.int .u64 ((2:Nat):Int)) I I ?_
  refine AW (capt:=[]) I I I I I I (by kernel_rfl) (fun W _=>HO 2 (by decide) W) ?_
  refine wP I ?_
  refine Bn (X:=Unit) (val:=fun _=> .tuple #[]) (Φ:=fun _=>True) (capt:=[]) 1 (B:=A5 g [x,y] junk) (L1:=[]) (L2:=[]) (b:=g) (ob:= .cells (ptC [x,y]++junk).toArray 35 (0,0)) (fun _=>A5 g (DQ x y) junk) (g':=fun _=>g) (o':=fun _=> .cells (ptC (DQ x y)++junk).toArray 35 (0,0))
   rfl rfl rfl rfl rfl rfl (by kernel_rfl) rfl rfl (fun _ _=>rfl) (fun W1 hp=>Q8 c W1 g cap x y junk _ (hp.own.cell 1 _ rfl (g, .cells (ptC [x,y]++junk).toArray 35 (0,0)) (List.mem_cons_self ..)).1 (h.trans (BV hg ⟨_,List.mem_cons_self ..⟩ hp))) (fun _ _=> ?_)
  refine Aa ?_
  refine Hy (X:=Unit) (val:=fun _=> .tuple #[]) (Φ:=fun _=>True) (nb:=fun _=>[Ax (Ai W g),A5 g (DQ x y) junk]) (fn:=Tryz.f70) tH I () I tO fun W1 hp=> ?_
  exact(hp.pick (l:=[Ax (Ai W g),A5 g (DQ x y) junk]) [0,1] (by decide) I).own
 refine key.mono ?_
 rintro e W' ⟨x1,he,_,hb,hn'⟩
 exact⟨x1,he,tO,BL hg I hb hn'⟩
-- BOXES 3
-- CODE2
def G3 (x:Ah):List Ah→List Ah
 |[]=>[x]
 |y::l=>if Be x y=true then x::y::l else y::G3 x l
def BF (l:List Ah):List Ah:=l.foldl (fun s x=>G3 x s) []
theorem NW (x:Ah): ∀l,(G3 x l).length=l.length+1
 |[]=>rfl
 |y::l=>by
  unfold G3
  split
  ·rfl
  ·rw[List.length_cons,NW x l];rfl
theorem Lp {x y:Ah}: ∀ {l:List Ah},y∈G3 x l↔y=x∨y∈l
 |[]=>by simp[G3]
 |z::l=>by
  unfold G3
  split
  ·simp
  ·rw[List.mem_cons,Lp (l:=l),List.mem_cons]
   constructor
   ·rintro(h|h|h)
    ·exact .inr (.inl h)
    ·exact .inl h
    ·exact .inr (.inr h)
   ·rintro(h|h|h)
    ·exact .inr (.inl h)
    ·exact .inl h
    ·exact .inr (.inr h)
theorem GY {a b c:Ah} (h1: ¬A4 b a) (h2: ¬A4 c b): ¬A4 c a:=fun h=>by
 rcases Cy a b with d|d|d
 ·exact h2 (Et h d)
 ·subst d;exact h2 h
 ·exact h1 d
abbrev SrC (l:List Ah):Prop:=l.Pairwise fun a b=> ¬A4 b a
theorem P7 {x:Ah}: ∀ {l:List Ah},SrC l→SrC (G3 x l)
 |[],_=>List.pairwise_cons.2 ⟨fun _ h=>absurd h List.not_mem_nil,List.Pairwise.nil⟩
 |y::l,h=>by
  have⟨h1,h2⟩:=List.pairwise_cons.1 h
  unfold G3
  split
  ·rename_i c
   have c:=Br.1 c
   refine List.pairwise_cons.2 ⟨fun z hz=> ?_,h⟩
   rcases List.mem_cons.1 hz with rfl|hz
   ·exact Cb c
   ·exact GY (Cb c) (h1 z hz)
  ·rename_i c
   refine List.pairwise_cons.2 ⟨fun z hz=> ?_,P7 h2⟩
   rcases Lp.1 hz with rfl|hz
   ·exact fun d=>c (Br.2 d)
   ·exact h1 z hz
theorem Hw: ∀(l s:List Ah),SrC s→SrC (l.foldl (fun s x=>G3 x s) s)∧(l.foldl (fun s x=>G3 x s) s).length=s.length+l.length∧ ∀y,y∈l.foldl (fun s x=>G3 x s) s↔y∈s∨y∈l
 |[],s,h=>⟨h,rfl,fun y=>by simp⟩
 |x::l,s,h=>by
  obtain⟨a,b,c⟩:=Hw l (G3 x s) (P7 h)
  refine⟨a,by rw[List.foldl_cons,b,NW,List.length_cons];omega,fun y=> ?_⟩
  rw[List.foldl_cons,c,Lp,List.mem_cons]
  constructor
  ·rintro((h|h)|h)
   ·exact .inr (.inl h)
   ·exact .inl h
   ·exact .inr (.inr h)
  ·rintro(h|h|h)
   ·exact .inl (.inr h)
   ·exact .inl (.inl h)
   ·exact .inr h
theorem Es (l:List Ah):SrC (BF l):=(Hw l [] List.Pairwise.nil).1
theorem EW (l:List Ah):(BF l).length=l.length:=by
 have:=(Hw l [] List.Pairwise.nil).2.1
 rw[List.length_nil,Nat.zero_add] at this;exact this
theorem CP {l:List Ah} {y:Ah}:y∈BF l↔y∈l:=by
 have:=(Hw l [] List.Pairwise.nil).2.2 y
 exact this.trans (by simp)
theorem Sk (l:List Ah) {i:Nat} (hi:i<l.length):BF (l.take (i+1))=G3 l[i] (BF (l.take i)):=by
 rw[BF,List.take_add_one,List.getElem?_eq_getElem hi,List.foldl_append];rfl
theorem KM {x:Ah}: ∀(s:List Ah) (j:Nat),j≤s.length→(∀y∈s.take j, ¬A4 x y)→(∀y∈s.drop j,A4 x y)→G3 x s=s.take j++x::s.drop j
 |[],j,hj,_,_=>by
  obtain rfl:j=0:=by simpa using hj
  rfl
 |y::l,0,_,_,h2=>by
  unfold G3
  rw[if_pos (Br.2 (h2 y (List.mem_cons_self ..)))];rfl
 |y::l,j+1,hj,h1,h2=>by
  unfold G3
  rw[if_neg (fun c=>h1 y (by simp) (Br.1 c)),KM l j (by simpa using hj) (fun z hz=>h1 z (by simp[hz])) (fun z hz=>h2 z (by simpa using hz))]
  rfl
theorem Sq {x:Ah} {s:List Ah} {j:Nat} (hs:SrC s) (hj:j≤s.length) (h2: ∀y∈s.drop j,A4 x y) (h1: ∀(h:0<j), ¬A4 x s[j-1]):G3 x s=s.take j++x::s.drop j:=by
 refine KM s j hj (fun y hy=> ?_) h2
 obtain⟨k,hk,rfl⟩:=List.getElem_of_mem hy
 have hk':k<j:=by simp at hk;omega
 rw[List.getElem_take]
 have h3:=h1 (by omega)
 by_cases e:k=j-1
 ·subst e;exact h3
 ·exact GY (List.pairwise_iff_getElem.1 hs k (j-1) (by omega) (by omega) (by omega)) h3
theorem PH (l:List Ah):BF (l.take 1)++l.drop 1=l:=by
 cases l with
 |nil=>rfl
 |cons x l=>rfl
abbrev GS (c:Nat) (x y:Ah) (W:World):Prop:=Ap Tryz.prog 71 #[An c,cvV x,cvV y] W (fun _:Unit=> .int .i64 (GP x y)) (fun _=>True) (fun _=>[])
-- BOXES 3
-- CODE2
section
variable {r:Option Nat} {n:Nat} {P:Program} {W0:World} {N:Nat} {D:List Deferred} {ops:List Oper} {Q:Exit→Act→World→Prop} {o:Oper} {rest:List Oper} {env:Env} {bxs:List Bx}
theorem Un (k:Nat) {t e:TypeId} {z:Value} (ht:P.underlying t=some (.slice e)) (hz: ∀W,(zeroValue e).run P W= .ok z W) {c:Call} {x:Operand} {B:Bx} {off m cp:Nat}
  (hg:A6 ops N env o=some true) (hd:o.dst=none) (ho:o.op= .call c) (hc:c.callee= .builtin .clear) (ha:c.args= #[x]) (hat:c.argTypes= #[t])
  (hk:nth bxs k=some B) (hon:B.row=true) (hx:evO N env x=some (.slice (some ⟨B.b,off,none⟩) m cp)) (h1:CI (BQ z.cells.toList m)=true) (hfit:off+(BQ z.cells.toList m).length≤B.cells.length)
  (h:WL r n P N D ops Q rest env (Hp W0 (bxs.set k { B with cells:=B0 B.cells off (BQ z.cells.toList m) }))):WL r n P N D ops Q (o::rest) env (Hp W0 bxs):= .mk fun a W ha' hd' hp=>by
 rw[Bv] at hk
 refine BH hg ha' (fun c e=>by rw[ho] at e;cases e) ?_
 have h3:=(hp.at_ _ _ hk (Bx.row_on hon).1).1
 rw[(Bx.row_on hon).2] at h3
 obtain⟨W',hr,hu⟩:=EQ (P:=P) (o:=off) (BQ z.cells.toList m) 0 B.cells W h3 (by omega) h1
 have e1:c.args.map (ov env a).eval= #[.slice (some ⟨B.b,off,none⟩) m cp]:=by rw[ha];simp[AL ha' _ _ hx]
 have hrun:(Builtin.clear_ #[t] o.type #[.slice (some ⟨B.b,off,none⟩) m cp]).run P W= .ok (.tuple #[]) W':=by
  cases m with
  |zero=>
   have e0:BQ z.cells.toList 0=[]:=rfl
   rw[e0] at hr
   simp[storeCells] at hr
   simp[Builtin.clear_,run_underlying ht,hr]
  |succ m=>simp[Builtin.clear_,run_underlying ht,hz,FO,hr]
 have:(execOp (ov env a).eval o).run P W= .ok (.value (.tuple #[])) W':=by
  simp only[execOp,ho,resolve,hc,invoke,builtin,e1,hat,Sem.run_bind,Sem.run_pure,Result.andThen_ok,hrun]
 rw[this]
 simp only[Oper.uponIn,hd]
 rw[Nat.add_zero] at hu
 exact h.out a W' ha' hd' (hp.upd hk hon hu)
end
def DS (l:List Ah):Nat→List Ah
 |0=>[]
 |n+1=>if 0<n∧l[n]? =l[n-1]? then DS l n else DS l n++(l[n]?).toList
abbrev FU (l:List Ah):List Ah:=DS l l.length
theorem NO (l:List Ah): ∀n,(DS l n).length≤n
 |0=>Nat.le_refl _
 |n+1=>by
  have ih:=NO l n
  unfold DS
  split
  ·omega
  ·rw[List.length_append]
   have:(l[n]?).toList.length≤1:=by cases l[n]? <;>simp
   omega
theorem Ju {l:List Ah} {n:Nat} (h0:0<n) (h:l[n]? =l[n-1]?):DS l (n+1)=DS l n:=by
 show(if 0<n∧l[n]? =l[n-1]? then DS l n else _)=_
 rw[if_pos ⟨h0,h⟩]
theorem L6 {l:List Ah} {n:Nat} (hn:n<l.length) (h: ¬(0<n∧l[n]? =l[n-1]?)):DS l (n+1)=DS l n++[l[n]]:=by
 show(if 0<n∧l[n]? =l[n-1]? then _ else DS l n++(l[n]?).toList)=_
 rw[if_neg h,List.getElem?_eq_getElem hn];rfl
theorem OW (l:List Ah):DS l 1=l.take 1:=by
 cases l with
 |nil=>rfl
 |cons x l=>rfl
theorem Mq {l:List Ah} (hs:SrC l): ∀n,n≤l.length→(DS l n).Pairwise A4∧(∀x,x∈DS l n↔x∈l.take n)
 |0,_=>⟨List.Pairwise.nil,fun x=>by simp[DS]⟩
 |n+1,hn=>by
  obtain⟨a,b⟩:=Mq hs n (by omega)
  have hn':n<l.length:=hn
  have et:l.take (n+1)=l.take n++[l[n]]:=by rw[List.take_add_one,List.getElem?_eq_getElem hn'];rfl
  by_cases h:0<n∧l[n]? =l[n-1]?
  ·rw[Ju h.1 h.2]
   refine⟨a,fun x=> ?_⟩
   rw[b,et,List.mem_append,List.mem_singleton]
   refine⟨.inl,fun h2=> ?_⟩
   rcases h2 with h2|rfl
   ·exact h2
   ·have e:l[n]=l[n-1]'(by omega):=by
     have:=h.2
     rw[List.getElem?_eq_getElem hn',List.getElem?_eq_getElem (by omega)] at this
     exact Option.some.inj this
    rw[e]
    exact List.mem_iff_getElem.2 ⟨n-1,by rw[List.length_take];omega,by rw[List.getElem_take]⟩
  ·rw[L6 hn' h]
   refine⟨List.pairwise_append.2 ⟨a,List.pairwise_cons.2 ⟨fun _ h=>absurd h List.not_mem_nil,List.Pairwise.nil⟩,fun x hx y hy=> ?_⟩,fun x=> ?_⟩
   ·obtain rfl:=List.mem_singleton.1 hy
    obtain⟨i,hi,rfl⟩:=List.mem_iff_getElem.1 ((b x).1 hx)
    rw[List.length_take] at hi
    rw[List.getElem_take]
    have hp:=List.pairwise_iff_getElem.1 hs
    have h1:=hp i n (by omega) hn' (by omega)
    rcases Cy l[i] l[n] with d|d|d
    ·exact d
    ·exfalso
     refine h ⟨by omega, ?_⟩
     rw[List.getElem?_eq_getElem hn',List.getElem?_eq_getElem (show n-1<l.length by omega)]
     congr 1
     by_cases ei:i=n-1
     ·subst ei;exact d.symm
     ·have h2:=hp i (n-1) (by omega) (by omega) (by omega)
      have h3:=hp (n-1) n (by omega) hn' (by omega)
      rw[d] at h2
      rcases Cy l[n] (l[n-1]'(by omega)) with d2|d2|d2
      ·exact absurd d2 h3
      ·exact d2
      ·exact absurd d2 h2
    ·exact absurd d h1
   ·rw[et,List.mem_append,List.mem_append,b]
theorem FG {l:List Ah} (hs:SrC l):(FU l).Pairwise A4∧ ∀x,x∈FU l↔x∈l:=by
 have:=Mq hs l.length (Nat.le_refl _)
 rw[List.take_length] at this
 exact this
theorem NL {x y:Ah}:decide (Af x.1=Af y.1∧Af x.2=Af y.2)=decide (x=y):=decide_eq_decide.2 ⟨fun h=>Prod.ext (Lc.1 h.1) (Lc.1 h.2),fun h=>by rw[h];exact⟨rfl,rfl⟩⟩
theorem Jv {W0 W:World} {bxs:List Bx} (hp:Hp W0 bxs W) (k:Nat) {g:Nat} {l:List Ah} {junk:List Value} (hk:nth bxs k=some (A5 g l junk)) {i:Nat} (hi:i<l.length):Ar W g (0+i*2) [str (Af l[i].1),str (Af l[i].2)]:=by
 obtain⟨g',off',e,h⟩:=(BU.of_row (Ar.of_bx hp k hk rfl)).at_ hi
 cases e
 exact h i hi
theorem Rr: ∀m,CI (BQ (Value.agg #[str [],str []]).cells.toList m)=true
 |0=>rfl
 |m+1=>by
  have ih:=Rr m
  show CI (str []::str []::BQ _ m)=true
  exact ih
theorem R7 (m:Nat):(BQ (Value.agg #[str [],str []]).cells.toList m).length=m*2:=Eu _ m
theorem Ok (W:World) (g cap:Nat) (l:List Ah) (junk:List Value) (hn:l.length≤100000) (hcap:l.length≤cap) (hg:W.heap[g]? =some (.cells (ptC l++junk).toArray 35 (0,0))):
  Calls Tryz.prog 75 #[.slice (some ⟨g,0,none⟩) l.length cap] W fun e W'=> ∃x:List Value,e= .returned ((fun _=> .slice (some ⟨g,0,none⟩) (FU l).length cap) x)∧True∧EE W W' g ((fun _=>g) x) ((fun x=> .cells (ptC (FU l)++x).toArray 35 (0,0)) x):=by
 have key:Calls Tryz.prog 75 [.slice (some ⟨g,0,none⟩) l.length cap].toArray W fun e W'=> ∃x:List Value,e= .returned ((fun _=> .slice (some ⟨g,0,none⟩) (FU l).length cap) x)∧(fun _=>True) x∧Below (AE W).heap.size (AE W) W'∧A3 (AE W) W' ((fun x=>[Ax (Ai W g),A5 g (FU l) x]) x):=by
  refine Ba (X:=List Value) (val:=fun _=> .slice (some ⟨g,0,none⟩) (FU l).length cap) (Φ:=fun _=>True) (nb:=fun x=>[Ax (Ai W g),A5 g (FU l) x]) (Hp.enterT (B:=A5 g l junk) I hg) Tryz.func75 I I I ?_
  refine zA (zB (wP I (Aa (zE (zA (zA (zB (wP I (wP I (wP I ?_))))))))))
  by_cases hlt:l.length<2
  ·have e:FU l=l:=by
    rcases(show l.length=0∨l.length=1 by omega) with e|e
    ·rw[FU,e,List.length_eq_zero_iff.1 e];rfl
    ·rw[FU,e,OW,List.take_of_length_le (by omega)]
   refine wU 8 true I (dT (by omega)) (Aa (zE (zR I (zA (zB (wP I (wP I (Aa (zE (zO (zP ?_)))))))))))
   rw[e]
   exact A8 tH I (.tmp I) junk I tO fun W1 hp=>(hp.pick (l:=[Ax (Ai W g),A5 g l junk]) [0,1] (by decide) I).own
  refine wU 8 false I (dF (by omega)) (Aa (zE (zS I (zI (zE (zA (zA (zB (wP I (Aa (zE (zH ?_))))))))))))
  refine A9 (X:=Nat) (fun i=>[(0, .slice (some ⟨g,0,none⟩) l.length cap),(3, .int .i64 (i:Nat))]) (fun _=>[Ax (Ai W g),A5 g l junk]) (fun i=>1≤i∧i≤l.length∧DS l i=l.take i) (fun i=>l.length-i) 1 ⟨Nat.le_refl _,by omega,OW l⟩ ⟨I,I,tO⟩ [] I ?_
  rintro i ⟨hi1,hi2,hc⟩
  have hi1:1≤i:=hi1
  have hi2:i≤l.length:=hi2
  have hc:DS l i=l.take i:=hc
  refine zA (zA (zB (wP I (wP I (wP I (wP I ?_))))))
  by_cases hi:i<l.length
  rotate_left
  ·obtain rfl:i=l.length:=by omega
   have e:FU l=l:=by rw[FU,hc,List.take_length]
   refine wU 13 false I (dF (by omega)) (Aa (zE (zS I (zJ (zK (zK (zL (zE (zA (zB (wP I (wP I (Aa ?_)))))))))))))
   refine zE (zO ?_)
   rw[e]
   exact A8 tH I (.tmp I) junk I tO fun W1 hp=>(hp.pick (l:=[Ax (Ai W g),A5 g l junk]) [0,1] (by decide) I).own
  refine wU 13 true I (dT (by omega)) (Aa (zE (zR I (zI (zE (zA (zH (zA (zU ?_)))))))))
  have hm:i-1<l.length:=by omega
  obtain⟨x,hx⟩: ∃x,x=l[i]:=⟨_,rfl⟩
  obtain⟨y,hy⟩: ∃y,y=l[i-1]:=⟨_,rfl⟩
  have ex:l[i]? =some x:=by rw[List.getElem?_eq_getElem hi,hx]
  have ey:l[i-1]? =some y:=by rw[List.getElem?_eq_getElem hm,hy]
  have rx: ∀ {W1:World},Hp (AE W) [Ax (Ai W g),A5 g l junk] W1→Ar W1 g (0+i*2) [str (Af x.1),str (Af x.2)]:=fun hp=>by rw[hx];exact Jv hp 1 rfl hi
  have ry: ∀ {W1:World},Hp (AE W) [Ax (Ai W g),A5 g l junk] W1→Ar W1 g (0+(i-1)*2) [str (Af y.1),str (Af y.2)]:=fun hp=>by rw[hy];exact Jv hp 1 rfl hm
  refine qP I (qP I ?_)
  refine qJ ?_
  refine qL 0 I I (fun W1 hp=>rx hp) I (qP I (qP I (qP I (qV 22 ((i-1:Nat):Int) I (show w64 ((i:Int)-1)=_ by rw[Ak (by omega) (by omega)];omega) ?_))))
  refine qJ ?_
  refine qL 0 I I (fun W1 hp=>ry hp) I ?_
  refine R5 (Af x.1) (Af x.2) (Af y.1) (Af y.2) I I I I I ?_
  refine qU 25 (decide (x=y)) I NL (AJ (Aa (zE ?_)))
  refine AA I (fun hxy=> ?_) (fun hxy=> ?_)
  rotate_left
  ·have hne:x≠y:=of_decide_eq_false hxy
   refine zI (zN (zE (zB (wP I (wP I (wV 15 ((i+1:Nat):Int) I (Av (by omega)) (wP I (Aa ?_))))))))
   exact A0 (i+1) ⟨by omega,hi,by
    rw[L6 hi (fun h=>hne (by rw[ex,ey] at h;exact Option.some.inj h.2)),hc,List.take_add_one,List.getElem?_eq_getElem hi];rfl⟩ (by show l.length-(i+1)<l.length-i;omega) ⟨rfl,rfl,trivial⟩ [] rfl
  have hxe:x=y:=of_decide_eq_true hxy
  have hsame:DS l (i+1)=l.take i:=by rw[Ju (by omega) (by rw[ex,ey,hxe]),hc]
  refine zA (zB (wP I (wP I ?_)))
  refine Fb i tH I I I I I I I I (by omega) hcap ?_
  refine Al 28 (.slice (some ⟨g,0+i*2,none⟩) (l.length-i) (cap-i)) I (by rw[if_neg (by omega)]) ?_
  refine wP I (Aa (zE (zA (zA (zB (wP I (Aa (zE (zH ?_)))))))))
  refine A9 (X:=Nat) (fun k=>[(0, .slice (some ⟨g,0,none⟩) l.length cap),(3, .int .i64 ((DS l (i+k)).length:Nat)),(4, .slice (some ⟨g,0+i*2,none⟩) (l.length-i) (cap-i)),(5, .int .i64 (k:Nat))]) (fun k=>[Ax (Ai W g),A5 g (DS l (i+k)++l.drop (DS l (i+k)).length) junk])
   (fun k=>1≤k∧i+k≤l.length∧1≤(DS l (i+k)).length∧(DS l (i+k)).length+1≤i+k) (fun k=>l.length-i-k) 1 ⟨Nat.le_refl _,hi,by rw[hsame,List.length_take];omega,by rw[hsame,List.length_take];omega⟩ ⟨rfl,by rw[hsame,List.length_take,Nat.min_eq_left (by omega)];rfl,rfl,rfl,trivial⟩ [] (by rw[hsame,List.length_take,Nat.min_eq_left (by omega),List.take_append_drop];rfl) ?_
  rintro k ⟨hk1,hk2,hk3,hk4⟩
  have hk1:1≤k:=hk1
  have hk2:i+k≤l.length:=hk2
  have hk3:1≤(DS l (i+k)).length:=hk3
  have hk4:(DS l (i+k)).length+1≤i+k:=hk4
  obtain⟨C,hC⟩: ∃C,C=DS l (i+k):=⟨_,rfl⟩
  rw[←hC] at hk3 hk4
  rw[←hC]
  have hlen:(C++l.drop C.length).length=l.length:=by rw[List.length_append,List.length_drop];omega
  refine zA (zA (zB (wP I (wP I (wP I (wP I ?_))))))
  by_cases hlk:k<l.length-i
  ·refine wU 32 true I (dT (by omega)) (Aa (zE (zR I (zI (zE (zA (zH (zA (zU ?_)))))))))
   have old: ∀j (hj:j<l.length),C.length≤j→(C++l.drop C.length)[j]'(by rw[hlen];exact hj)=l[j]:=fun j hj h=>by
    rw[List.getElem_append_right h,List.getElem_drop]
    congr 1;omega
   have h1:i+k<l.length:=by omega
   have h2:i+k-1<l.length:=by omega
   obtain⟨u,hu⟩: ∃u,u=l[i+k]:=⟨_,rfl⟩
   obtain⟨v,hv⟩: ∃v,v=l[i+k-1]:=⟨_,rfl⟩
   have eu:l[i+k]? =some u:=by rw[List.getElem?_eq_getElem h1,hu]
   have ev:l[i+k-1]? =some v:=by rw[List.getElem?_eq_getElem h2,hv]
   have ru: ∀ {W1:World},Hp (AE W) [Ax (Ai W g),A5 g (C++l.drop C.length) junk] W1→Ar W1 g (0+i*2+k*2) [str (Af u.1),str (Af u.2)]:=fun hp=>by
    have:=Jv hp 1 rfl (i:=i+k) (by rw[hlen];exact h1)
    rw[old _ h1 (by omega), ←hu] at this
    rwa [show 0+i*2+k*2=0+(i+k)*2 by omega]
   have rv: ∀ {W1:World},Hp (AE W) [Ax (Ai W g),A5 g (C++l.drop C.length) junk] W1→Ar W1 g (0+i*2+(k-1)*2) [str (Af v.1),str (Af v.2)]:=fun hp=>by
    have:=Jv hp 1 rfl (i:=i+k-1) (by rw[hlen];exact h2)
    rw[old _ h2 (by omega), ←hv] at this
    rwa [show 0+i*2+(k-1)*2=0+(i+k-1)*2 by omega]
   refine qP I (qP I ?_)
   refine qJ ?_
   refine qL 0 I I (fun W1 hp=>ru hp) I (qP I (qP I (qP I (qV 41 ((k-1:Nat):Int) I (show w64 ((k:Int)-1)=_ by rw[Ak (by omega) (by omega)];omega) ?_))))
   refine qJ ?_
   refine qL 0 I I (fun W1 hp=>rv hp) I ?_
   refine QT (Af u.1) (Af u.2) (Af v.1) (Af v.2) I I I I I ?_
   refine DJ 44 (.bool (!decide (u=v))) I (congrArg (fun b=>Value.bool (!b)) NL) ?_
   refine AJ (Aa (zE ?_))
   refine AA I (fun huv=> ?_) (fun huv=> ?_)
   ·have hne:u≠v:=fun e=>by rw[e,dT rfl] at huv;cases huv
    have hnew:DS l (i+(k+1))=C++[u]:=by
     rw[show i+(k+1)=i+k+1 by omega,L6 h1 (fun h=>hne (by rw[eu,ev] at h;exact Option.some.inj h.2)), ←hC,hu]
    have hd:l.drop C.length=l[C.length]'(by omega)::l.drop (C.length+1):=List.drop_eq_getElem_cons (by omega)
    have hs1:B0 (ptC (C++l.drop C.length)++junk) (0+C.length*2) (cvV u).cells.toList=ptC (C++[u]++l.drop (C++[u]).length)++junk:=by
     rw[hd,BM,List.append_assoc,show 0+C.length*2=(ptC C).length+0 by rw[AS];omega,Dk]
     simp only[List.length_append,List.length_cons,List.length_nil,Nat.zero_add,BM,List.append_assoc]
     rfl
    have hs2:0+C.length*2+2≤(ptC (C++l.drop C.length)++junk).length:=by rw[List.length_append,AS,hlen];omega
    refine zA (zB (wP I (wP I (wP I (wP I ?_)))))
    refine wJ ?_
    refine wL 0 I I (fun W1 hp=>ru hp) I ?_
    refine wJ ?_
    refine Ad 1 _ tH I I I I I I I I I I hs2 hs1 ?_
    refine Aa (zE (zB (wP I (wP I (wV 53 ((C.length+1:Nat):Int) I (Av (by omega)) (wP I (Aa (zN (zE (zB (wP I (wP I (wV 34 ((k+1:Nat):Int) I (Av (by omega)) ?_)))))))))))))
    exact wP I (Aa (A0 (k+1) ⟨by omega,by omega,by rw[hnew,List.length_append];omega,by rw[hnew,List.length_append,List.length_singleton];omega⟩ (by show l.length-i-(k+1)<l.length-i-k;omega) ⟨I,by rw[hnew,List.length_append];rfl,I,I,tO⟩ [] (by rw[hnew];rfl)))
   ·have he:u=v:=by
     cases hd:decide (u=v) with
     |true=>exact of_decide_eq_true hd
     |false=>rw[hd] at huv;cases huv
    have hsm:DS l (i+(k+1))=C:=by rw[show i+(k+1)=i+k+1 by omega,Ju (by omega) (by rw[eu,ev,he]), ←hC]
    exact zI (zN (zE (zB (wP I (wP I (wV 34 ((k+1:Nat):Int) I (Av (by omega)) (wP I (Aa (A0 (k+1) ⟨by omega,by omega,by rw[hsm];exact hk3,by rw[hsm];omega⟩ (by show l.length-i-(k+1)<l.length-i-k;omega) ⟨I,by rw[hsm];rfl,I,I,tO⟩ [] (by rw[hsm];rfl))))))))))
  have ek:i+k=l.length:=by omega
  rw[ek] at hC
  have hCC:FU l=C:=hC.symm
  refine wU 32 false I (dF (by omega)) (Aa (zE (zS I (zJ (zK (zK (zL (zE (zA (zB ?_))))))))))
  have hd1:(ptC (l.drop C.length)).length=(l.length-C.length)*2:=by rw[AS,List.length_drop]
  refine wP I (wP I ?_)
  refine Fb C.length tH I I I I I I I I (by omega) hcap ?_
  refine Al 56 (.slice (some ⟨g,0+C.length*2,none⟩) (l.length-C.length) (cap-C.length)) I (by rw[if_neg (by omega)]) ?_
  refine Un 1 (e:=35) (z:= .agg #[str [],str []]) Tryz.underlying22 Tryz.zeroValue35 I I I I I I I I I (Rr _) (by rw[R7];show 0+C.length*2+_≤(ptC (C++l.drop C.length)++junk).length;rw[List.length_append,AS,hlen];omega) ?_
  refine Aa (zE (zA (zB (wP I (wP I ?_)))))
  refine Cs C.length tH I I I I I I I I (by omega) ?_
  refine wP I (Aa (zE (zO (zQ (zP (zP (zQ (zP ?_))))))))
  have hs3:B0 (ptC (C++l.drop C.length)++junk) (0+C.length*2) (BQ (Value.agg #[str [],str []]).cells.toList (l.length-C.length))=ptC C++(BQ (Value.agg #[str [],str []]).cells.toList (l.length-C.length)++junk):=by
   rw[BM,List.append_assoc,show 0+C.length*2=(ptC C).length by rw[AS];omega]
   exact QA (ptC C) (ptC (l.drop C.length)) junk _ (by rw[hd1,R7])
  rw[hCC]
  exact A8 tH I (.tmp I) (BQ (Value.agg #[str [],str []]).cells.toList (l.length-C.length)++junk) I tO fun W1 hp=>by
   rw[show[Ax (Ai W g),A5 g (C++l.drop C.length) junk].set 1 _=[Ax (Ai W g),(⟨g,35,B0 (ptC (C++l.drop C.length)++junk) (0+C.length*2) (BQ (Value.agg #[str [],str []]).cells.toList (l.length-C.length)),true,none⟩:Bx)] from rfl,hs3] at hp
   exact(hp.pick (l:=[Ax (Ai W g),A5 g C (BQ (Value.agg #[str [],str []]).cells.toList (l.length-C.length)++junk)]) [0,1] (by decide) I).own
 refine key.mono ?_
 rintro e W' ⟨x,he,_,hb,hn'⟩
 exact⟨x,he,tO,BL hg I hb hn'⟩
theorem BU.cells {W:World} {p:Option Addr} {l:List Ah} (h:BU W p l):Le W p (ptC l):=by
 rcases h with rfl|⟨b,off,e,h⟩
 ·exact .inl I
 ·by_cases h0:l=[]
  ·exact .inl (by rw[h0];rfl)
  refine .inr ⟨b,off,e, ?_⟩
  have hpos:0<l.length:=List.length_pos_iff.2 h0
  refine⟨(h 0 hpos).lt,fun m u hu=> ?_⟩
  have hm:m<l.length*2:=by rw[←AS];exact(List.getElem?_eq_some_iff.1 hu).1
  have hi:m/2<l.length:=by omega
  have hr:=h (m/2) hi
  have hd:=SZ hi
  rw[hd,List.getElem?_append_right (by rw[AS,List.length_take];omega),AS,List.length_take,Nat.min_eq_left (by omega),List.getElem?_append_left (by show _<2;omega)] at hu
  have:=hr.get (m-m/2*2) u hu
  rwa [show off+m/2*2+(m-m/2*2)=off+m by omega] at this
theorem HJ (W:World) (p:Option Addr) (cap:Nat) (l:List Ah) (hn:l.length≤100000) (hA:BU W p l) (hne:l≠[]):
  Ap Tryz.prog 27 #[slv p l.length cap] W (fun V:Vec=>V.val l.length) (fun V=>V.OK 2 l.length (ptC l)∧V.p≠none) (fun V=>[V.bx 35 (ptC l)]):=by
 have hc:=hA.cells
 obtain⟨b,off,rfl,hR⟩: ∃b off,p=some ⟨b,off,none⟩∧Ar W b off (ptC l):=by
  rcases hc with h|h
  ·exfalso
   have h2:l.length*2=0:=by rw[←AS,h];rfl
   exact hne (List.length_eq_zero_iff.1 (by omega))
  ·exact h
 refine Ae (args:=[slv (some ⟨b,off,none⟩) l.length cap]) Tryz.func27 I I I ?_
 refine zA (zB (wP I (Aa (zE (zA (zA (zB (wP I ?_))))))))
 refine TD tH I I I I I I I ?_
 refine zC (zE (zS I (zI (zE (zA (zB ?_))))))
 refine Ef tH I I I I I ?_
 intro g
 refine wP I ?_
 refine EG (len:=0) (V:=⟨some g,0,[]⟩) (xs:=[]) 0 Tryz.vec22 rfl rfl rfl rfl rfl rfl rfl rfl rfl ⟨rfl,(fun h=>by cases h),fun _=>⟨Nat.le_refl _,Nat.zero_le _,rfl⟩⟩ (AS l) (fun W hp j u hj=> ?_) (Fs _) (by simp only[maxLen];omega) (by omega) ?_
 ·rw[Addr.add_none]
  exact((hR.hp hp).get j u hj)
 intro V hV hp0
 refine wP I (Aa (zE (zO ?_)))
 have e0:0+l.length=l.length:=Nat.zero_add _
 rw[e0,List.nil_append] at hV
 exact A8 tH I (.tmp I) V (by rw[e0]) ⟨hV,fun h=>hne (List.length_eq_zero_iff.1 (hp0 h))⟩ fun W hp=>A3.of_hp1 hp 0 I
-- BOXES 3
-- CODE2
abbrev T9 (ix:Nat→Nat) (P:Nat→Ah) (k:Nat):List Value:=[.int .i64 (ix k:Nat),cvV (P k)]
theorem Qo (p:Option Addr) (n cap:Nat) (W:World):Ap Tryz.prog 78 #[slv p n cap] W (fun b:Nat=> .func (.func 139) #[] #[An b]) (fun _=>True) (fun b=>[⟨b,22,[slv p n cap],true,none⟩]):=by
 refine Ae (args:=[slv p n cap]) Tryz.func78 I I I ?_
 refine zA (zB ?_)
 (refine AD rfl rfl rfl rfl ?_;intro)
 refine wP I (Aa ?_)
 rename_i b
 exact zE (zA (zB (wP I (wP I (Aa (zE (zO (A8 tH I (.tmp I) b I tO fun W1 hp=>A3.of_hp hp))))))))
theorem O8 (p:Option Addr) (n cap:Nat) (W:World):Ap Tryz.prog 79 #[slv p n cap] W (fun b:Nat=> .func (.func 140) #[] #[An b]) (fun _=>True) (fun b=>[⟨b,22,[slv p n cap],true,none⟩]):=by
 refine Ae (args:=[slv p n cap]) Tryz.func79 I I I ?_
 refine zA (zB ?_)
 (refine AD rfl rfl rfl rfl ?_;intro)
 refine wP I (Aa ?_)
 rename_i b
 exact zE (zA (zB (wP I (wP I (Aa (zE (zO (A8 tH I (.tmp I) b I tO fun W1 hp=>A3.of_hp hp))))))))
theorem RZ (l:List Ah) (b1:Nat) (p:Option Addr) (cap:Nat) (hn:l.length<1099511627776):Og Tryz.prog 139 [An b1] l.length (T9 (fun k=>k) (Ac l)) (fun _=>Uu b1 p cap l):=by
 refine⟨fun y J Jx hN hB hA hU hY W hJ=> ?_⟩
 have hp0:=(hN _ _ W hJ).1.pts
 refine Ea (args:=[.func (.yield y) #[] #[],An b1]) (J0:=J 0 []) (Jm:=fun W=> ∃L,J l.length L W) Tryz.func139 I I I hJ ?_
 refine zA (zB (wL 0 I I (fun W hp=>(hN _ _ W hp).1.var) I (wP I (wP I (Aa (zE (zH ?_)))))))
 refine DI (X:=Nat×List (Nat×Obj)) (fun s=>[(0, .func (.yield y) #[] #[]),(1,An b1),(5,slv p l.length cap),(6, .int .i64 (l.length:Nat)),(7, .int .i64 (s.1:Nat))]) (fun s W=>J s.1 s.2 W)
  (fun s=>s.1≤l.length) (fun s=>l.length-s.1) (0,[]) (Nat.zero_le _) ⟨rfl,rfl,rfl,rfl,rfl,trivial⟩ (fun W hp=>hp) ?_
 rintro⟨i,L⟩ hi
 have hi:i≤l.length:=hi
 refine zA (zB (wP I ?_))
 by_cases hlt:i<l.length
 rotate_left
 ·refine wU 8 false I (dF (by omega)) (Aa (zE (zA (zS I (zJ (zK (zK (zL ?_))))))))
  exact Hv I fun W hp=>⟨L,by
   have e:i=l.length:=by omega
   have hp:J i L W:=hp
   rw[e] at hp
   exact hp⟩
 refine wU 8 true I (dT (by omega)) (Aa (zE (zA (zR I (zI (zE (zA (zH (zA (zB ?_))))))))))
 obtain⟨g,off,hpe,hrow⟩: ∃g off,p=some ⟨g,off,none⟩∧ ∀W k L,J k L W→ ∀j,j<l.length→Ar W g (off+j*2) [str (Af (Ac l j).1),str (Af (Ac l j).2)]:=by
  obtain⟨g,off,e,_⟩:=hp0.at_ hlt
  refine⟨g,off,e,fun W1 k L1 h1 j hj=> ?_⟩
  obtain⟨g',off',e',h2⟩:=(hN _ _ W1 h1).1.pts.at_ hj
  rw[e] at e'
  cases e'
  rw[AF hj]
  exact h2 j hj
 subst hpe
 refine wP I ?_
 refine wJ ?_
 refine wL 0 I I (fun W hp=>hrow W _ _ hp i hlt) I ?_
 refine Mn (fun b W=>J i [(b, .cells (Value.agg #[str [],str []]).cells 35 (0,0))] W) I I I (Tryz.hZ.get I) (fun W W' b hp hb hl ho=>hA _ _ W W' b _ hp hb hl ho) fun b=> ?_
 refine wP I ?_
 refine Mk (cs:=[str [],str []]) (ty:=35) (fun W=>J i (Mb b (Ac l i)) W) tH I I I I I I (fun W hp=>(hN _ _ W hp).2 (b,_) (List.mem_cons_self ..)) I I I (fun W W' hp hu=>hU _ _ _ _ W W' hp hu) ?_
 refine Aa (zE (zA (zB (wP I (wP I (wL 0 I I (fun W hp=>show Ar W b 0 (cvV (Ac l i)).cells.toList from Ar.of_block ((hN _ _ W hp).2 (b,_) (List.mem_cons_self ..))) I ?_))))))
 have hYk: ∀W,J i (Mb b (Ac l i)) W→YieldAt (Fw none) 0 Tryz.prog y (T9 (fun k=>k) (Ac l) i).toArray W fun e W'=>(e= .returned (.bool true)∧J (i+1) (Mb b (Ac l i)) W')∨(e= .returned (.bool false)∧Jx W'):=fun W h=>hY _ _ W hlt h
 refine FQ (A1:=fun W=>J (i+1) (Mb b (Ac l i)) W) (A2:=Jx) I I I I I I hYk ?_ ?_
 rotate_left
 ·exact wP I (Aa (zE (zR I (zO (zQ (zP (zP (zQ (CZ I (fun W h=>h))))))))))
 exact wP I (Aa (zE (zS I (zI (zN (zE (zB (wP I (wV 17 ((i+1:Nat):Int) I (Av (by omega)) (wP I (Aa (DO (i+1,Mb b (Ac l i)) hlt (by show l.length-(i+1)<l.length-i;omega) ⟨I,I,I,I,I,tO⟩ (fun W hp=>hp)))))))))))))
theorem QE (l:List Ah) (b1:Nat) (p:Option Addr) (cap:Nat) (hn:l.length<1099511627776):Og Tryz.prog 140 [An b1] l.length (T9 (fun k=>l.length-1-k) (fun k=>Ac l (l.length-1-k))) (fun _=>Uu b1 p cap l):=by
 refine⟨fun y J Jx hN hB hA hU hY W hJ=> ?_⟩
 have hp0:=(hN _ _ W hJ).1.pts
 refine Ea (args:=[.func (.yield y) #[] #[],An b1]) (J0:=J 0 []) (Jm:=fun W=> ∃L,J l.length L W) Tryz.func140 I I I hJ ?_
 refine zA (zB (wL 0 I I (fun W hp=>(hN _ _ W hp).1.var) I (wP I (wP I (wV 6 ((l.length:Int)-1-(0:Nat)) I (show w64 ((l.length:Int)-1)=_ by rw[Ak (by omega) (by omega)];omega) (wP I (Aa (zE (zH ?_)))))))))
 refine DI (X:=Nat) (fun k=>[(0, .func (.yield y) #[] #[]),(1,An b1),(3, .int .i64 ((l.length:Int)-1-(k:Nat)))]) (fun k W=>J k [] W)
  (fun k=>k≤l.length) (fun k=>l.length-k) 0 (Nat.zero_le _) ⟨rfl,rfl,rfl,trivial⟩ (fun W hp=>hp) ?_
 intro k hk
 have hk:k≤l.length:=hk
 refine zA (zA (zB (wP I (wP I ?_))))
 by_cases hlt:k<l.length
 rotate_left
 ·refine wU 8 false I (dF (by omega)) (Aa (zE (zS I (zJ (zK (zK (zL ?_)))))))
  exact Hv I fun W hp=>⟨[],by
   have e:k=l.length:=by omega
   have hp:J k [] W:=hp
   rw[e] at hp
   exact hp⟩
 refine wU 8 true I (dT (by omega)) (Aa (zE (zR I (zI (zE (zA (zH (zA (zB ?_)))))))))
 obtain⟨g,off,hpe,hrow⟩: ∃g off,p=some ⟨g,off,none⟩∧ ∀W k L,J k L W→ ∀j,j<l.length→Ar W g (off+j*2) [str (Af (Ac l j).1),str (Af (Ac l j).2)]:=by
  obtain⟨g,off,e,_⟩:=hp0.at_ hlt
  refine⟨g,off,e,fun W1 k L1 h1 j hj=> ?_⟩
  obtain⟨g',off',e',h2⟩:=(hN _ _ W1 h1).1.pts.at_ hj
  rw[e] at e'
  cases e'
  rw[AF hj]
  exact h2 j hj
 subst hpe
 have ej:(l.length:Int)-1-(k:Nat)=((l.length-1-k:Nat):Int):=by omega
 have hj:l.length-1-k<l.length:=by omega
 refine wP I (wP I (wV 12 ((l.length-1-k:Nat):Int) I ej (wL 0 I I (fun W hp=>(hN _ _ W hp).1.var) I (wP I (wV 14 ((l.length-1-k:Nat):Int) I ej ?_)))))
 refine wJ ?_
 refine wL 0 I I (fun W hp=>hrow W _ _ hp (l.length-1-k) hj) I ?_
 have hYk: ∀W,J k [] W→YieldAt (Fw none) 0 Tryz.prog y (T9 (fun k=>l.length-1-k) (fun k=>Ac l (l.length-1-k)) k).toArray W fun e W'=>(e= .returned (.bool true)∧J (k+1) [] W')∨(e= .returned (.bool false)∧Jx W'):=fun W h=>hY _ _ W hlt h
 refine FQ (A1:=fun W=>J (k+1) [] W) (A2:=Jx) I I I I I I hYk ?_ ?_
 rotate_left
 ·exact wP I (Aa (zE (zR I (zO (zQ (zP (zP (zQ (CZ I (fun W h=>h))))))))))
 exact wP I (Aa (zE (zS I (zI (zN (zE (zB (wP I (wP I (wV 10 ((l.length:Int)-1-((k+1:Nat):Int)) I (show w64 ((l.length:Int)-1-(k:Nat)-1)=_ by rw[Ak (by omega) (by omega)];omega) (wP I (Aa (DO (k+1) hlt (by show l.length-(k+1)<l.length-k;omega) ⟨I,I,I,tO⟩ (fun W hp=>hp))))))))))))))
-- BOXES 6
-- CODE2
def CO (P:Nat→Ah):Nat→List Ah
 |0=>[]
 |k+1=>P k::Bu (P k) (CO P k)
theorem Ie (p:Ah):Bu p []=[]:=by simp[Bu]
theorem Ii (p b:Ah):Bu p [b]=[b]:=by simp[Bu]
theorem HT {p a b:Ah} {t:List Ah} (h:AG a b p≤0):Bu p (b::a::t)=Bu p (a::t):=by rw[Bu,if_pos h]
theorem GV {p a b:Ah} {t:List Ah} (h: ¬AG a b p≤0):Bu p (b::a::t)=b::a::t:=by rw[Bu,if_neg h]
theorem HN (p:Ah): ∀r,(Bu p r).length≤r.length
 |[]=>by rw[Ie];exact Nat.le_refl _
 |[b]=>by rw[Ii];exact Nat.le_refl _
 |b::a::t=>by
  by_cases h:AG a b p≤0
  ·rw[HT h]
   have:=HN p (a::t)
   simp only[List.length_cons] at this⊢
   omega
  ·rw[GV h];exact Nat.le_refl _
theorem KB {p x:Ah}: ∀ {r:List Ah},x∈Bu p r→x∈r
 |[],h=>by rwa [Ie] at h
 |[b],h=>by rwa [Ii] at h
 |b::a::t,h=>by
  by_cases c:AG a b p≤0
  ·rw[HT c] at h
   exact List.mem_cons_of_mem _ (KB h)
  ·rwa [GV c] at h
theorem GF (P:Nat→Ah): ∀k,(CO P k).length≤k
 |0=>Nat.le_refl _
 |k+1=>by
  have h1:=GF P k
  have h2:=HN (P k) (CO P k)
  show(Bu (P k) (CO P k)).length+1≤k+1
  omega
theorem Oh {P:Nat→Ah} {x:Ah}: ∀ {k:Nat},x∈CO P k→ ∃i,i<k∧x=P i
 |0,h=>absurd h List.not_mem_nil
 |k+1,h=>by
  rcases List.mem_cons.1 h with rfl|h
  ·exact⟨k,by omega,I⟩
  ·obtain⟨i,hi,e⟩:=Oh (KB h)
   exact⟨i,by omega,e⟩
theorem MF (l:List Ah): ∀(P:Nat→Ah),(∀i (h:i<l.length),P i=l[i])→CO P l.length=As l:=by
 have key: ∀(m:List Ah) (r:List Ah) (P:Nat→Ah) (j:Nat),CO P j=r→(∀i (h:i<m.length),P (j+i)=m[i])→CO P (j+m.length)=m.foldl (fun r p=>p::Bu p r) r:=by
  intro m
  induction m with
  |nil=>exact fun r P j h _=>h
  |cons x m ih=>
   intro r P j h hP
   have e0:P j=x:=hP 0 (by simp)
   rw[List.length_cons,show j+(m.length+1)=j+1+m.length by omega]
   rw[List.foldl_cons]
   refine ih _ P (j+1) ?_ fun i hi=> ?_
   ·show P j::Bu (P j) (CO P j)=_
    rw[e0,h]
   ·have:=hP (i+1) (by rw[List.length_cons];omega)
    rw[show j+1+i=j+(i+1) by omega,this];rfl
 intro P hP
 have:=key l [] P 0 rfl (fun i h=>by rw[Nat.zero_add];exact hP i h)
 rwa [Nat.zero_add] at this
theorem Pz (l:List Ah):CO (Ac l) l.length=As l:=MF l _ fun _ h=>AF h
theorem NP (l:List Ah):CO (fun k=>Ac l (l.length-1-k)) l.length=As l.reverse:=by
 have:=MF l.reverse (fun k=>Ac l (l.length-1-k)) fun i h=>by
  rw[List.length_reverse] at h
  show Ac l (l.length-1-i)=_
  rw[AF (by omega),List.getElem_reverse]
 rwa [List.length_reverse] at this
theorem U5 (p q r:Ah):decide (QB p q r≤0)=decide (AG p q r≤0):=by
 unfold QB
 rw[Re]
 exact decide_eq_decide.2 (by unfold AG;constructor<;>intro h<;>grind)
abbrev Jj (c:Nat) (x y z:Ah) (W:World):Prop:=Ap Tryz.prog 55 #[An c,cvV x,cvV y,cvV z] W (fun _:Unit=> .int .i64 (QB x y z)) (fun _=>True) (fun _=>[])
theorem QN (a b:Ah) (t:List Ah) (j:List Value):ptC (b::a::t).reverse++j=ptC t.reverse++([str (Af a.1),str (Af a.2)]++([str (Af b.1),str (Af b.2)]++j)):=by
 rw[List.reverse_cons,List.reverse_cons,BM,BM,List.append_assoc,List.append_assoc];rfl
theorem Rw (b:Ah) (t:List Ah) (j:List Value):ptC t.reverse++(ptC [b]++j)=ptC (b::t).reverse++j:=by
 rw[List.reverse_cons,BM,List.append_assoc]
theorem RB {g cap:Nat} {j:List Value} {b:Ah} {t:List Ah} (h:(⟨some g,cap,j⟩:Vec).OK 2 (b::t).length (ptC (b::t).reverse)):(⟨some g,cap,ptC [b]++j⟩:Vec).OK 2 t.length (ptC t.reverse):=by
 obtain⟨h1,h2,h3⟩:=h.cap (by simp)
 refine⟨by rw[AS,List.length_reverse],(fun e=>by cases e),fun _=>⟨?_,h2, ?_⟩⟩
 ·have h1:t.length+1≤cap:=h1
  show t.length≤cap
  omega
 ·rw[AS,List.length_reverse] at h3
  show(ptC t.reverse).length+(ptC [b]++j).length=cap*2
  have h3:(t.length+1)*2+j.length=cap*2:=h3
  rw[AS,List.length_reverse,List.length_append]
  show t.length*2+(2+j.length)=cap*2
  omega
theorem JD (bk c gf:Nat) (lb:List Value) (hE:Bd Tryz.prog gf=true) (m:Nat) (ix:Nat→Nat) (P:Nat→Ah) (Need:Nat→World→Prop) (hI:Og Tryz.prog gf lb m (T9 ix P) Need) (h0:0<m) (hm:m≤4096) (W:World) (hk:Ar W bk 0 [An c])
  (hN: ∀k W1,Below W.heap.size W W1→Need k W1) (hL: ∀i j k,i<m→j<m→k<m→ ∀W1,Below W.heap.size W W1→Jj c (P i) (P j) (P k) W1):
  Ap Tryz.prog 76 #[.func (.func gf) #[] lb.toArray,An bk] W (fun V:Vec=>V.val ((CO P m).length-1)) (fun V=>V.OK 2 ((CO P m).length-1) (ptC (CO P m).tail.reverse)∧V.p≠none) (fun V=>[V.bx 35 (ptC (CO P m).tail.reverse)]):=by
 obtain⟨S,hS⟩: ∃S,S=CO P m:=⟨_,rfl⟩
 rw[←hS]
 refine Ae (args:=[.func (.func gf) #[] lb.toArray,An bk]) Tryz.func76 I I I ?_
 refine zA (zB (wP I (Aa (zE (zA (zB ?_))))))
 (refine Ao Tryz.hZ rfl rfl rfl rfl ?_;intro)
 refine Aa ?_
 rename_i b4
 refine zE (zA (zA (zB (wP I (Aa (zE (zH ?_)))))))
 refine Fj ?_
 refine EJ (X:=Nat×Vec) (fun x=>[lsB b4 (x.2.val (CO P x.1).length),x.2.bx 35 (ptC (CO P x.1).reverse)])
  (fun j x=>x.1=j∧x.2.OK 2 (CO P x.1).length (ptC (CO P x.1).reverse)) (fun _ _=>False) (0,Vec.empty) rfl hE hI (fun _=>rfl)
  ⟨rfl,Vec.OK.empty 2⟩ [] rfl (fun k x W1 _ hp=>hN k W1 hp.below) ?_ ?_ (fun _ _ _ _ _ h=>h.elim)
 ·rintro k ⟨k',O⟩ d l' rec L hk1 ⟨e1,hO⟩ hrec
  obtain rfl:k'=k:=e1
  have hk1:k'<m:=hk1
  have hO:O.OK 2 (CO P k').length (ptC (CO P k').reverse):=hO
  have hlen:=GF P k'
  have hsu:CO P (k'+1)=P k'::Bu (P k') (CO P k'):=rfl
  have hmem: ∀x∈CO P k', ∃i,i<m∧x=P i:=fun x hx=>by
   obtain⟨i,hi,e⟩:=Oh hx
   exact⟨i,by omega,e⟩
  obtain⟨r1,hr1⟩: ∃r1,r1=Bu (P k') (CO P k'):=⟨_,rfl⟩
  have hlr:r1.length≤(CO P k').length:=by rw[hr1];exact HN _ _
  rw[←hr1] at hsu
  refine zB ?_
  (refine Ao Tryz.hZ rfl rfl rfl rfl ?_;intro)
  refine wS 5 I I I (Aa ?_)
  rename_i b6
  refine CQ 4 hrec I ?_
  refine Cc ?_
  refine NK (X:=Vec) (fun _=>[(1,An bk),(4,An b4),(6,An b6)]) (fun O=>[Ax L,lsB b4 (O.val r1.length),O.bx 35 (ptC r1.reverse),B8 d,Bj l' rec .busy none,ptB b6 (Af (P k').1) (Af (P k').2)]) (fun O=>O.OK 2 r1.length (ptC r1.reverse)) ?_ ?_
  ·refine zH ?_
   refine A9 (X:=List Ah×Vec) (fun _=>[(1,An bk),(4,An b4),(6,An b6)]) (fun s=>[Ax L,lsB b4 (s.2.val s.1.length),s.2.bx 35 (ptC s.1.reverse),B8 d,Bj l' rec .busy none,ptB b6 (Af (P k').1) (Af (P k').2)])
    (fun s=>Bu (P k') s.1=r1∧(∀x∈s.1,x∈CO P k')∧s.1.length≤4096∧s.2.OK 2 s.1.length (ptC s.1.reverse)) (fun s=>s.1.length) (CO P k',O) ⟨hr1.symm,fun _ h=>h,by show(CO P k').length≤4096;omega,hO⟩ ⟨rfl,rfl,rfl,trivial⟩ [] rfl ?_
   rintro⟨r,⟨pO,cO,jO⟩⟩ ⟨i1,i2,i3,i4⟩
   have i1:Bu (P k') r=r1:=i1
   have i2: ∀x∈r,x∈CO P k':=i2
   have i3:r.length≤4096:=i3
   have i4:(⟨pO,cO,jO⟩:Vec).OK 2 r.length (ptC r.reverse):=i4
   rcases r with _|⟨b,_|⟨a,t⟩⟩
   ·obtain rfl:r1=[]:=by rw[←i1,Ie]
    cases pO with
    |none=>
     refine zA (zA (zU (qB 1 I I I (qP I (qP I ?_)))))
     refine DJ 12 (.bool false) I I ?_
     refine qP I ?_
     iterate 16 refine C5 I I ?_
     exact qP I (AJ (Aa (zE (zS I (zJ (zK (zK (zL (At (⟨none,cO,jO⟩:Vec) i4 ⟨I,I,I,tO⟩ [] I)))))))))
    |some g=>
     refine zA (zA (zU (qB 1 I I I (qP I (qP I ?_)))))
     refine DJ 12 (.bool false) I I ?_
     refine qP I ?_
     iterate 16 refine C5 I I ?_
     exact qP I (AJ (Aa (zE (zS I (zJ (zK (zK (zL (At (⟨some g,cO,jO⟩:Vec) i4 ⟨I,I,I,tO⟩ [] I)))))))))
   ·obtain rfl:r1=[b]:=by rw[←i1,Ii]
    cases pO with
    |none=>exact absurd (i4.nil rfl) (by simp)
    |some g=>
    refine zA (zA (zU (qB 1 I I I (qP I (qP I ?_)))))
    refine DJ 12 (.bool false) I I ?_
    refine qP I ?_
    iterate 16 refine C5 I I ?_
    exact qP I (AJ (Aa (zE (zS I (zJ (zK (zK (zL (At (⟨some g,cO,jO⟩:Vec) i4 ⟨I,I,I,tO⟩ [] I)))))))))
   ·cases pO with
    |none=>exact absurd (i4.nil rfl) (by simp)
    |some g=>
    have i3:t.length+1+1≤4096:=i3
    have el:(b::a::t).length=t.length+2:=rfl
    obtain⟨ia,ha,ea⟩:=hmem a (i2 a (by simp))
    obtain⟨ib,hb,eb⟩:=hmem b (i2 b (by simp))
    have hleft: ∀W1,Below W.heap.size W W1→Jj c a b (P k') W1:=fun W1 h=>by rw[ea,eb];exact hL ia ib k' ha hb hk1 W1 h
    have hA:(ptC t.reverse).length=t.length*2:=by rw[AS,List.length_reverse]
    refine zA (zA (zU (qB 1 I I I (qP I (qP I (qU 12 true I (dT (by rw[el];omega)) (qP I (qL 0 I I (fun W1 hp=>hk.hp hp) I (qB 1 I I I (qB 1 I I I (qP I (qP I (qV 18 ((t.length:Nat):Int) I (show w64 (((b::a::t).length:Int)-2)=_ by rw[el,Ak (by omega) (by omega)];omega) ?_)))))))))))))
    refine qI I I (by omega) (by rw[el];omega) (qL 0 I I (fun W1 hp=>show Ar W1 g (0+t.length*2) [str (Af a.1),str (Af a.2)] from Ig hp 2 (A:=ptC t.reverse) (C:=[str (Af b.1),str (Af b.2)]++jO) I (QN a b t jO) (by rw[hA];omega)) I (qB 1 I I I (qB 1 I I I (qP I (qP I (qV 24 ((t.length+1:Nat):Int) I (show w64 (((b::a::t).length:Int)-1)=_ by rw[el,Ak (by omega) (by omega)];omega) (qI I I (by omega) (by rw[el];omega) (qL 0 I I (fun W1 hp=>show Ar W1 g (0+(t.length+1)*2) [str (Af b.1),str (Af b.2)] from Ig hp 2 (A:=ptC t.reverse++[str (Af a.1),str (Af a.2)]) (C:=jO) I ((QN a b t jO).trans (by rw[List.append_assoc])) (by rw[List.length_append,hA];show 0+(t.length+1)*2=t.length*2+2;omega)) I (qB 5 I I I (qC I I (fun W1 hp=>hleft W1 hp.below) (qP I (qU 29 (decide (AG a b (P k')≤0)) I (U5 a b (P k')) (qP I ?_)))))))))))))
    refine AJ (Aa (zE ?_))
    refine AA I (fun hc=> ?_) (fun hc=> ?_)
    ·have hc':AG a b (P k')≤0:=of_decide_eq_true hc
     refine zI (zE (zH (zB (wB 1 I I I (wB 1 I I I (wP I (wP I (wV 34 ((t.length+1:Nat):Int) I (show w64 (((b::a::t).length:Int)-1)=_ by rw[el,Ak (by omega) (by omega)];omega) ?_))))))))
     refine Cs (t.length+1) tH I I I I I I I I (by have h2:t.length+2≤cO:=(i4.cap (by simp)).1;show t.length+1≤cO;omega) ?_
     refine wS 1 I I I (Aa (zN ?_))
     exact A0 (a::t,(⟨some g,cO,ptC [b]++jO⟩:Vec)) ⟨by rw[←i1,HT hc'],fun x hx=>i2 x (List.mem_cons_of_mem _ hx),by show t.length+1≤4096;omega,RB i4⟩ (by show t.length+1<t.length+1+1;omega) ⟨I,I,I,tO⟩ []
      (by show _=[Ax L,lsB b4 (.slice (some ⟨g,0,none⟩) (t.length+1) cO),(⟨g,35,ptC (a::t).reverse++(ptC [b]++jO),true,none⟩:Bx),B8 d,Bj l' rec .busy none,ptB b6 (Af (P k').1) (Af (P k').2)];rw[Rw];rfl)
    ·have hc': ¬AG a b (P k')≤0:=of_decide_eq_false hc
     obtain rfl:r1=b::a::t:=by rw[←i1,GV hc']
     exact zJ (zK (zK (zL (At (⟨some g,cO,jO⟩:Vec) i4 ⟨I,I,I,tO⟩ [] I))))
  ·intro O1 hO1
   have hO1:O1.OK 2 r1.length (ptC r1.reverse):=hO1
   refine zB (wB 1 I I I (wB 5 I I I ?_))
   refine AO Tryz.hZ tH I I I I I I I I I I I fun bS=> ?_
   refine BJ (V:=O1) (len:=r1.length) (xs:=ptC r1.reverse) 2 6 Tryz.vec22 (r1.length+1) (ptC (P k'::r1).reverse) I I I I I I I I I I I hO1 I I I (by rw[List.reverse_cons,BM];rfl) (by simp only[maxLen];omega) (by omega) I ?_
   intro gO cO jO hO2
   exact wS 1 I I I (Aa (zN (Co 4 (k'+1,(⟨some gO,cO,jO⟩:Vec)) hrec I ⟨I,by show(⟨some gO,cO,jO⟩:Vec).OK 2 (CO P (k'+1)).length (ptC (CO P (k'+1)).reverse);rw[hsu];exact hO2⟩ [_,_] (by rw[hsu];rfl))))
 ·rintro⟨k',⟨pO,cO,jO⟩⟩ d l' rec ⟨e1,hO⟩
  obtain rfl:k'=m:=e1
  have hO:(⟨pO,cO,jO⟩:Vec).OK 2 (CO P k').length (ptC (CO P k').reverse):=hO
  have hlen:=GF P k'
  have hne:S≠[]:=by
   obtain⟨j,rfl⟩: ∃j,k'=j+1:=⟨k'-1,by omega⟩
   rw[hS]
   exact List.cons_ne_nil _ _
  rw[←hS] at hO hlen
  rw[←hS]
  clear hS
  obtain⟨b,t,rfl⟩: ∃b t,S=b::t:=by
   cases S with
   |nil=>exact absurd rfl hne
   |cons b t=>exact⟨b,t,rfl⟩
  cases pO with
  |none=>exact absurd (hO.nil rfl) (by simp)
  |some g=>
  have hlen:t.length+1≤k':=hlen
  have el:(b::t).length=t.length+1:=rfl
  refine zN (zE (zA (zB (wB 0 I I I (wB 0 I I I (wP I (wP I (wV 43 (t.length:Nat) I (show w64 (((b::t).length:Int)-1)=_ by rw[el,Ak (by omega) (by omega)];omega) ?_))))))))
  refine Cs t.length tH I I I I I I I I (by have h2:t.length+1≤cO:=(hO.cap (by simp)).1;show t.length≤cO;omega) ?_
  refine wP I (Aa (zE (zO ?_)))
  refine CJ 2 I ?_
  exact A8 tH I (.tmp I) (⟨some g,cO,ptC [b]++jO⟩:Vec) I ⟨RB hO,by simp⟩ fun W1 hp=>by
   have h1:=hp.pick (l:=[(⟨g,35,ptC (b::t).reverse++jO,true,none⟩:Bx)]) [1] (by decide) rfl
   rw[←Rw] at h1
   exact A3.of_hp h1
end
end Go.Proofs.YthndmdimmgkpgaaGreatDoor
