/-
  Lemmas that the theorem convexDivided_upto_card needs (part 5 of 6).
-/
import Derived.Test.YthndmdimmgkpgaaGreatDoorCdd
import Derived.Shelf.Lays
import Derived.Shelf.SlLaysN
import Derived.Shelf.Small.Bits
import Derived.Laws.StructEq
set_option maxHeartbeats 64000000
namespace Go.Proofs.YthndmdimmgkpgaaGreatDoor
section
open Go Go.RowKit Go.Am Go.Lib
set_option maxRecDepth 10000
-- BOXES 2
-- CODE2
theorem S5 (a:List UInt8):cut a [47]=(if hasPrefix a [45]=true then 45::(cut (trimPrefix a [45]) [47]).1 else(cut (trimPrefix a [45]) [47]).1,(cut (trimPrefix a [45]) [47]).2):=by
 rw[Bj,AN]
 by_cases h:a[0]? =some 45
 ·rw[if_pos h,if_pos (dT h)]
  obtain⟨t,rfl⟩: ∃t,a=45::t:=by
   cases a with
   |nil=>cases h
   |cons b t=>
    have e:b=45:=by simpa using h
    exact⟨t,by rw[e]⟩
  show cut (45::t) [47]=(45::(cut t [47]).1,(cut t [47]).2)
  rcases F7 47 t with h1|⟨x,y,rfl,h1⟩
  ·rw[DT h1,DT (show(47:UInt8)∉45::t from fun h=>by
    rcases List.mem_cons.1 h with h|h
    ·cases h
    ·exact h1 h)]
  ·rw[Fp y h1,show 45::(x++47::y)=(45::x)++47::y from rfl,Fp y (show(47:UInt8)∉45::x from fun h=>by
    rcases List.mem_cons.1 h with h|h
    ·cases h
    ·exact h1 h)]
 ·rw[if_neg h,if_neg (by rw[dF h];decide)]
theorem Tj {a:List UInt8} {c:UInt8} (h:(cut a [47]).1[0]? =some c):a[0]? =some c:=by
 rcases F7 47 a with h1|⟨x,y,rfl,h1⟩
 ·rwa [DT h1] at h
 ·rw[Fp y h1] at h
  cases x with
  |nil=>cases h
  |cons b t=>exact h
theorem RE {m:Bool} {n:List UInt8} (h:m=false→n[0]? ≠some 45):F3 (if m=true then 45::n else n)=if dgB n=true∧ ¬(m=true∧n=[48]) then some (if m=true then -(AG n:Int) else AG n) else none:=by
 have hd:dgB n=true↔(ldn n=n.length∧n≠[]∧(1<n.length→n[0]? ≠some 48)):=by
  rw[FK];exact⟨JD,I2⟩
 have key: ∀(x:List UInt8),hasPrefix x [45]=m→trimPrefix x [45]=n→F3 x=if dgB n=true∧ ¬(m=true∧n=[48]) then some (if m=true then -(AG n:Int) else AG n) else none:=fun x h1 h2=>by
  unfold F3
  rw[h1,h2]
  by_cases hc:dgB n=true∧ ¬(m=true∧n=[48])
  ·rw[if_pos hc]
   obtain⟨c1,c2,c3⟩:=hd.1 hc.1
   rw[if_pos ⟨c1,c2,c3,hc.2⟩]
  ·rw[if_neg hc,if_neg fun h4=>hc ⟨hd.2 ⟨h4.1,h4.2.1,h4.2.2.1⟩,h4.2.2.2⟩]
 cases m with
 |true=>
  refine key _ ?_ ?_
  ·rw[if_pos rfl,Bj];rfl
  ·rw[if_pos rfl,AN];rfl
 |false=>
  have h0:=h rfl
  refine key _ ?_ ?_
  ·rw[if_neg (by decide),Bj,dF h0]
  ·rw[if_neg (by decide),AN,if_neg h0]
def Lu (m:Bool) (n d:List UInt8) (sl:Bool):Bool:= !dgB n||(sl&&(!dgB d||decide (d=[48])||decide (d=[49])))||(m&&decide (n=[48]))
theorem T7 (a:List UInt8):frm a=if Lu (hasPrefix a [45]) (cut (trimPrefix a [45]) [47]).1 (cut (trimPrefix a [45]) [47]).2.1 (cut (trimPrefix a [45]) [47]).2.2=true then none
  else some (if hasPrefix a [45]=true then -(AG (cut (trimPrefix a [45]) [47]).1:Int) else AG (cut (trimPrefix a [45]) [47]).1,if (cut (trimPrefix a [45]) [47]).2.2=true then AG (cut (trimPrefix a [45]) [47]).2.1 else 1):=by
 have h1:=S5 a
 have h2:hasPrefix a [45]=false→(cut (trimPrefix a [45]) [47]).1[0]? ≠some 45:=fun hm hc=>by
  have h3:=Tj hc
  rw[Bj] at hm
  have hm:=of_decide_eq_false hm
  rw[AN,if_neg hm] at h3
  exact hm h3
 have h3:=RE h2
 unfold frm
 generalize hasPrefix a [45]=m at*
 generalize cut (trimPrefix a [45]) [47]=c at*
 obtain⟨n,d,sl⟩:=c
 rw[h1]
 simp only at h3⊢
 rw[h3]
 have hd:dgB d=true↔(ldn d=d.length∧d≠[]∧(1<d.length→d[0]? ≠some 48)):=by
  rw[FK];exact⟨JD,I2⟩
 by_cases hc:dgB n=true∧ ¬(m=true∧n=[48])
 ·rw[if_pos hc]
  have e1:Lu m n d sl=(sl&&(!dgB d||decide (d=[48])||decide (d=[49]))):=by
   unfold Lu
   rw[hc.1]
   have:(m&&decide (n=[48]))=false:=by
    by_cases hm:m=true
    ·rw[hm,dF fun h=>hc.2 ⟨hm,h⟩];rfl
    ·rw[show m=false by simpa using hm];rfl
   rw[this,Bool.or_false];rfl
  rw[e1]
  simp only
  cases sl with
  |false=>rfl
  |true=>
   simp only[Bool.true_eq_false,if_false,Bool.true_and,if_true]
   by_cases hk:dgB d=true∧d≠[48]∧d≠[49]
   ·obtain⟨k1,k2,k3⟩:=hd.1 hk.1
    have e0:(!dgB d||decide (d=[48])||decide (d=[49]))=false:=by rw[hk.1,dF hk.2.1,dF hk.2.2];rfl
    rw[if_pos ⟨k1,k2,k3,hk.2⟩,e0,if_neg (show¬(false=true) by decide)]
   ·rw[if_neg fun h4=>hk ⟨hd.2 ⟨h4.1,h4.2.1,h4.2.2.1⟩,h4.2.2.2⟩,if_pos]
    by_cases k1:dgB d=true
    ·by_cases k2:d=[48]
     ·rw[dT k2];simp
     ·by_cases k3:d=[49]
      ·rw[dT k3];simp
      ·exact absurd ⟨k1,k2,k3⟩ hk
    ·rw[show dgB d=false by simpa using k1];rfl
 ·rw[if_neg hc,if_pos]
  unfold Lu
  by_cases k1:dgB n=true
  ·by_cases k2:m=true
   ·by_cases k3:n=[48]
    ·rw[k2,dT k3];simp
    ·exact absurd ⟨k1,fun h=>k3 h.2⟩ hc
   ·exact absurd ⟨k1,fun h=>k2 h.1⟩ hc
  ·rw[show dgB n=false by simpa using k1];rfl
theorem JB {n:List UInt8} (h:dgB n=true):n=decDigits (AG n):=NQ.1 (FK.1 h)
theorem Np {n:List UInt8} (h:dgB n=true) (hl:n.length≤9):AG n<1000000000:=by
 have e:=JB h
 rw[e] at hl
 exact KV hl
theorem CH (a:List UInt8) (ha:a.length<4611686018427387904) (W:World) (ht:AL W):
  Ah Tryz.prog 31 #[str a] W (fun _:Unit=> .int .i64 (rdR a).2) (fun _=>True) (fun _=>[]):=by
 have hfr:=T7 a
 have hsv:Nb a=Nb a:=rfl
 have hcl:=Q4 (trimPrefix a [45])
 have htl:(trimPrefix a [45]).length≤a.length:=by rw[AN];split<;>simp
 have hmiss:(cut (trimPrefix a [45]) [47]).2.2=false→(cut (trimPrefix a [45]) [47]).2.1=[]:=fun h=>by
  rcases F7 47 (trimPrefix a [45]) with h1|⟨x,y,e,h1⟩
  ·rw[DT h1]
  ·rw[e,Fp y h1] at h;cases h
 conv at hsv=>rhs;unfold Nb
 generalize hasPrefix a [45]=m at*
 generalize cut (trimPrefix a [45]) [47]=c at*
 obtain⟨n,d,sl⟩:=c
 simp only at hfr hsv hcl hmiss
 refine Ab (args:=[str a]) Tryz.func31 I I I ?_
 refine zA (zB (wP I (Aa (zE (zA (zB (wP I (wC I I (fun W _=>(EX a ha W).cast hsv) ?_))))))))
 iterate 9 refine wP I ?_
 refine Aa ?_
 obtain⟨P1,e1⟩: ∃b,dgB n=b:=⟨_,rfl⟩
 obtain⟨P2,e2⟩: ∃b,dgB d=b:=⟨_,rfl⟩
 obtain⟨P3,e3⟩: ∃b,decide (d=[48])=b:=⟨_,rfl⟩
 obtain⟨P4,e4⟩: ∃b,decide (d=[49])=b:=⟨_,rfl⟩
 obtain⟨P5,e5⟩: ∃b,decide (n=[48])=b:=⟨_,rfl⟩
 have hB:Lu m n d sl=(!P1||(sl&&(!P2||P3||P4))||(m&&P5)):=by unfold Lu;rw[e1,e2,e3,e4,e5]
 refine AB (Aw (Aw ?_))
 refine A8 (X:=Unit) (fun _=>[(4,str n),(5,str d),(6, .bool sl),(41, .bool (Lu m n d sl))]) (fun _=>[]) (fun _=>True) ?_ ?_
 ·refine zB (wP I (wC I I (fun W _=>(Gq n (by omega) W).cast (v':= .bool P1) (by rw[e1])) (wP I (wP I ?_))))
  refine Cr 19 I (fun h19=> ?_) (fun h19=> ?_)
  ·refine Ak I I ?_
   iterate 13 refine Ak I I ?_
   refine wP I (wP I ?_)
   iterate 5 refine Ak I I ?_
   exact wP I (Aa (An () tO ⟨I,I,I,congrArg (fun b=>some (Value.bool b)) (by rw[hB];simp_all),tO⟩ [] I))
  ·refine wP I (wP I ?_)
   refine Cr 21 I (fun h21=> ?_) (fun h21=> ?_)
   ·refine wP I (wC I I (fun W _=>(Gq d (by omega) W).cast (v':= .bool P2) (by rw[e2])) (wP I (wP I ?_)))
    refine Cr 25 I (fun h25=> ?_) (fun h25=> ?_)
    ·refine Ak I I ?_
     refine Ak I I ?_
     refine wP I (wP I ?_)
     iterate 2 refine Ak I I ?_
     refine wP I (wP I (wP I (wP I ?_)))
     iterate 5 refine Ak I I ?_
     exact wP I (Aa (An () tO ⟨I,I,I,congrArg (fun b=>some (Value.bool b)) (by rw[hB];simp_all),tO⟩ [] I))
    ·refine wP I (wP I (wU 27 P3 I ((AR _ _).trans e3) (wP I (wP I ?_))))
     refine Cr 29 I (fun h29=> ?_) (fun h29=> ?_)
     ·refine Ak I I ?_
      refine Ak I I ?_
      refine wP I (wP I (wP I (wP I ?_)))
      iterate 5 refine Ak I I ?_
      exact wP I (Aa (An () tO ⟨I,I,I,congrArg (fun b=>some (Value.bool b)) (by rw[hB];simp_all),tO⟩ [] I))
     ·refine wP I (wP I (wU 31 P4 I ((AR _ _).trans e4) (wP I (wP I (wP I (wP I ?_))))))
      refine Cr 35 I (fun h35=> ?_) (fun h35=> ?_)
      ·refine Ak I I ?_
       iterate 4 refine Ak I I ?_
       exact wP I (Aa (An () tO ⟨I,I,I,congrArg (fun b=>some (Value.bool b)) (by rw[hB];simp_all),tO⟩ [] I))
      ·refine wP I (wP I ?_)
       refine Cr 37 I (fun h37=> ?_) (fun h37=> ?_)
       ·exact wP I (wP I (wU 39 P5 I ((AR _ _).trans e5) (wP I (wP I (Aa (An () tO ⟨I,I,I,congrArg (fun b=>some (Value.bool b)) (by rw[hB];simp_all),tO⟩ [] I))))))
       ·refine Ak I I ?_
        refine Ak I I ?_
        exact wP I (wP I (Aa (An () tO ⟨I,I,I,congrArg (fun b=>some (Value.bool b)) (by rw[hB];simp_all),tO⟩ [] I)))
   ·refine Ak I I ?_
    iterate 10 refine Ak I I ?_
    iterate 5 refine wP I ?_
    refine Cr 37 I (fun h37=> ?_) (fun h37=> ?_)
    ·exact wP I (wP I (wU 39 P5 I ((AR _ _).trans e5) (wP I (wP I (Aa (An () tO ⟨I,I,I,congrArg (fun b=>some (Value.bool b)) (by rw[hB];simp_all),tO⟩ [] I))))))
    ·refine Ak I I ?_
     refine Ak I I ?_
     exact wP I (wP I (Aa (An () tO ⟨I,I,I,congrArg (fun b=>some (Value.bool b)) (by rw[hB];simp_all),tO⟩ [] I)))
 intro _ _
 refine Ap I (fun hbad=> ?_) (fun hbad=> ?_)
 ·rw[if_pos hbad] at hfr
  exact zA (zB (wP I (Aa (zE (zO (zP (wR1 I I (by unfold rdR;rw[hfr]))))))))
 have hbad:Lu m n d sl=false:=hbad
 rw[if_neg (by rw[hbad];decide)] at hfr
 have hn:dgB n=true:=by
  cases h:dgB n with
  |true=>rfl
  |false=>unfold Lu at hbad;rw[h] at hbad;cases hbad
 have hdl:sl=true→dgB d=true:=fun hs=>by
  cases h:dgB d with
  |true=>rfl
  |false=>unfold Lu at hbad;rw[h,hs,hn] at hbad;cases hbad
 have hna:(if m=true then -(AG n:Int) else AG n).natAbs=AG n:=by split<;>omega
 have hne:=JB hn
 have hlen1:n.length≤300↔AG n<Bd:=by
  conv=>lhs;rw[hne]
  exact FE
 have hlen2:d.length≤300↔(if sl=true then AG d else 1)<Bd:=by
  cases hs:sl with
  |true=>
   rw[if_pos rfl]
   conv=>lhs;rw[JB (hdl hs)]
   exact FE
  |false=>
   rw[hmiss hs,if_neg (by decide)]
   exact⟨fun _=>FE.1 (by rw[E6];decide),fun _=>by decide⟩
 have hcode:(rdR a).2=if AG n<Bd∧(if sl=true then AG d else 1)<Bd then(if Nat.gcd (AG n) (if sl=true then AG d else 1)=1 then 0 else 11) else 4:=by
  unfold rdR
  rw[hfr]
  simp only[hna]
  generalize (if sl=true then AG d else 1)=k
  by_cases c1:AG n<Bd∧k<Bd
  ·rw[if_pos c1,if_pos c1]
   by_cases c2:Nat.gcd (AG n) k=1
   ·rw[if_pos c2,if_pos c2]
   ·rw[if_neg c2,if_neg c2]
  ·rw[if_neg c1,if_neg c1]
 refine zI (zE (Aw (Aw ?_)))
 refine A8 (X:=Unit) (fun _=>[(4,str n),(5,str d),(6, .bool sl),(49, .bool (decide (¬(n.length≤300∧d.length≤300))))]) (fun _=>[]) (fun _=>True) ?_ ?_
 ·refine zB (wP I (wP I ?_))
  refine Af 43 (.int .i64 (n.length:Nat)) I (congrArg (fun n:Nat=>Value.int .i64 (n:Int)) (Au n)) ?_
  refine wP I ?_
  by_cases h1:n.length≤300
  ·refine wU 44 false I (dF (by omega)) (wP I (wP I (wP I ?_)))
   refine Af 47 (.int .i64 (d.length:Nat)) I (congrArg (fun n:Nat=>Value.int .i64 (n:Int)) (Au d)) ?_
   exact wP I (wU 48 (decide (¬(n.length≤300∧d.length≤300))) I (decide_eq_decide.2 (by show((d.length:Nat):Int)>300↔_;omega)) (wP I (Aa (An () tO ⟨I,I,I,I,tO⟩ [] I))))
  ·refine wU 44 true I (dT (by show((n.length:Nat):Int)>300;omega)) (wP I ?_)
   iterate 3 refine Ak I I ?_
   exact wP I (Aa (An () tO ⟨I,I,I,by rw[dT (show¬(n.length≤300∧d.length≤300) by omega)];rfl,tO⟩ [] I))
 intro _ _
 refine Ap I (fun hlong=> ?_) (fun hlong=> ?_)
 ·have hlong:=of_decide_eq_true hlong
  exact zA (zB (wP I (Aa (zE (zO (zP (wR1 I I (by rw[hcode,if_neg fun h=>hlong ⟨hlen1.2 h.1,hlen2.2 h.2⟩]))))))))
 have hlong:n.length≤300∧d.length≤300:=Decidable.byContradiction fun h=>of_decide_eq_false hlong h
 rw[if_pos ⟨hlen1.1 hlong.1,hlen2.1 hlong.2⟩] at hcode
 refine zI (zE (zA (zA (zB (wP I (wP I (Aa ?_)))))))
 cases hs:sl with
 |false=>
  have hcode:(rdR a).2=0:=by rw[hcode,hs];exact if_pos (show Nat.gcd (AG n) 1=1 from Nat.gcd_one_right _)
  exact zE (zR I (zA (zB (wP I (Aa (zE (zO (zP (wR1 I I (by rw[hcode]))))))))))
 |true=>
  have hd:=hdl hs
  have hde:=JB hd
  rw[hs,if_pos rfl] at hcode
  refine zE (zS I (zI (zE (Aw (Aw ?_)))))
  refine A8 (X:=Unit) (fun _=>[(4,str n),(5,str d),(59, .bool (decide (n.length≤9∧d.length≤9)))]) (fun _=>[]) (fun _=>True) ?_ ?_
  ·refine zB (wP I (wP I ?_))
   refine Af 53 (.int .i64 (n.length:Nat)) I (congrArg (fun n:Nat=>Value.int .i64 (n:Int)) (Au n)) ?_
   refine wP I ?_
   by_cases h1:n.length≤9
   ·refine wU 54 true I (dT (by omega)) (wP I (wP I (wP I ?_)))
    refine Af 57 (.int .i64 (d.length:Nat)) I (congrArg (fun n:Nat=>Value.int .i64 (n:Int)) (Au d)) ?_
    exact wP I (wU 58 (decide (n.length≤9∧d.length≤9)) I (decide_eq_decide.2 (by omega)) (wP I (Aa (An () tO ⟨I,I,I,tO⟩ [] I))))
   ·refine wU 54 false I (dF (by omega)) (wP I ?_)
    iterate 3 refine Ak I I ?_
    exact wP I (Aa (An () tO ⟨I,I,by rw[dF (fun h:n.length≤9∧d.length≤9=>h1 h.1)];rfl,tO⟩ [] I))
  intro _ _
  refine Ap I (fun h9=> ?_) (fun h9=> ?_)
  ·obtain⟨h9,h9'⟩:=of_decide_eq_true h9
   have l1:AG n<1000000000:=Np hn h9
   have l2:AG d<1000000000:=Np hd h9'
   refine zA (zA (zB (wP I (wC I I (fun W _=>BL n (by omega) (FK.1 hn).all W) (wP I (wC I I (fun W _=>BL d (by omega) (FK.1 hd).all W) (wC I I (fun W _=>Jq (AG n) (AG d) (by omega) (by omega) W) (wP I ?_))))))))
   by_cases hg:Nat.gcd (AG n) (AG d)=1
   ·exact wU 65 false I (by rw[bne_eq_false_iff_eq];omega) (Aa (zE (zS I (zI (zE (zA (zB (wP I (Aa (zE (zO (zP (wR1 I I (by rw[hcode,if_pos hg]))))))))))))))
   ·exact wU 65 true I (by rw[bne_iff_ne];omega) (Aa (zE (zR I (zA (zB (wP I (Aa (zE (zO (zP (zP (wR1 I I (by rw[hcode,if_neg hg])))))))))))))
  ·have e1:n=itoa ((AG n:Nat):Int):=by rw[FT];exact hne
   have e2:d=itoa ((AG d:Nat):Int):=by rw[FT];exact hde
   refine zI (zE (zA (zA (zB (wP I (wP I ?_))))))
   refine wC I I (fun W1 hp=>by
    have h:=Kr ((AG n:Nat):Int) ((AG d:Nat):Int) (by rw[Int.natAbs_natCast, ←hne];exact hlong.1) (by rw[Int.natAbs_natCast, ←hde];exact hlong.2) W1 (ht.hp hp)
    rw[←e1, ←e2,Int.natAbs_natCast,Int.natAbs_natCast,FT] at h
    exact h) ?_
   iterate 5 refine wP I ?_
   refine Aa (zE (zA (zB (wP I (wP I ?_)))))
   by_cases hg:Nat.gcd (AG n) (AG d)=1
   ·exact wU 73 false I (by show(!_)=false;rw[AR,hg,E6];rfl) (Aa (zE (zS I (zI (zE (zA (zB (wP I (Aa (zE (zO (wR1 I I (by rw[hcode,if_pos hg])))))))))))))
   ·refine Af 73 (.bool true) I (congrArg Value.bool (by
     show(!_)=true
     rw[AR,dF fun h=>hg (by have:=congrArg AG h;rw[BA] at this;exact this)];rfl)) ?_
    exact Aa (zE (zR I (zA (zB (wP I (Aa (zE (zO (zP (wR1 I I (by rw[hcode,if_neg hg])))))))))))
-- BOXES 1
-- CODE2
theorem Cu (a b c d:Int) (ha:okN a) (hb:okN b) (hc:okN c) (hd:okN d) (hab:okN (a*b)) (hcd:okN (c*d)) (W:World) (ht:AL W):
  Ah Tryz.prog 122 #[str (itoa a),str (itoa b),str (itoa c),str (itoa d)] W (fun _:Unit=> .tuple #[str (itoa (a*b)),str (itoa (c*d)), .int .i64 0]) (fun _=>True) (fun _=>[]):=by
 refine Ab (args:=[str (itoa a),str (itoa b),str (itoa c),str (itoa d)]) Tryz.func122 I I I ?_
 refine zA (zB (wP I (wP I (wP I (Aa (zE (zA (zB (wP I (wP I (wC I I (fun W1 hp=>Ht a b ha.dd hb.dd hab.dd W1 (ht.hp hp)) ?_)))))))))))
 iterate 5 refine wP I ?_
 refine Aa (zE (zA (zA (zB (wP I (wP I (Aa (zE (zS I (zI (zE (zA (zB ?_)))))))))))))
 refine wP I (wP I (wC I I (fun W1 hp=>Ht c d hc.dd hd.dd hcd.dd W1 (ht.hp hp)) ?_))
 iterate 5 refine wP I ?_
 refine Aa (zE (zA (zB ?_)))
 iterate 6 refine wP I ?_
 exact Aa (zE (zO (wR3 I I I)))
-- BOXES 8
-- CODE2
theorem LF {a:Int} {g:Nat} (hg:0<g) (h:(g:Int)∣a):(a/(g:Int)).natAbs=a.natAbs/g∧a.natAbs%g=0∧(a/(g:Int)<0↔a<0)∧a.tdiv (g:Int)=a/(g:Int)∧a.tmod (g:Int)=0:=by
 obtain⟨k,rfl⟩:=h
 have e1:(g:Int)*k/(g:Int)=k:=Int.mul_ediv_cancel_left _ (by omega)
 refine⟨?_, ?_, ?_, ?_, ?_⟩
 ·rw[e1,Int.natAbs_mul,Int.natAbs_natCast,Nat.mul_div_cancel_left _ hg]
 ·rw[Int.natAbs_mul,Int.natAbs_natCast,Nat.mul_mod_right]
 ·rw[e1]
  constructor
  ·intro h;exact Int.mul_neg_of_pos_of_neg (by omega) h
  ·intro h
   by_cases h1:k<0
   ·exact h1
   ·have:=Int.mul_nonneg (show(0:Int)≤(g:Int) by omega) (show 0≤k by omega);omega
 ·rw[e1];exact Int.mul_tdiv_cancel_left _ (by omega)
 ·exact Int.mul_tmod_right _ _
theorem JO (a:Int) (g:Nat) (hg:0<g) (h:(g:Int)∣a) (ha:(decDigits a.natAbs).length≤300) (hgl:(decDigits g).length≤300) (W:World) (ht:AL W):
  Ah Tryz.prog 201 #[str (itoa a),str (itoa (g:Int))] W (fun _:Unit=> .tuple #[str (itoa (a/(g:Int))),str [48], .int .i64 0]) (fun _=>True) (fun _=>[]):=by
 obtain⟨q1,q2,q3,q4,q5⟩:=LF hg h
 have la:=BZ (m:=a.natAbs) (by omega)
 have lg:=BZ (m:=g) (by omega)
 have hgn:((g:Int)).natAbs=g:=Int.natAbs_natCast g
 have hgl2:(decDigits ((g:Int)).natAbs).length≤300:=by rw[hgn];exact hgl
 have hql:(decDigits (a/(g:Int)).natAbs).length≤300:=by
  rw[q1]
  have key: ∀e,0<e→(decDigits a.natAbs).length≤e→(decDigits (a.natAbs/g)).length≤e:=fun e he h=>CU e _ (by omega) (Nat.lt_of_le_of_lt (Nat.div_le_self ..) (Nat.lt_of_lt_of_le (CM _) (Nat.pow_le_pow_right (by decide) h)))
  exact key 300 (by decide) ha
 have hneg:decide ((g:Int)<0)=false:=dF (by omega)
 have hg48:itoa (g:Int)≠[48]:=fun e=>by
  have:=H5.1 e
  omega
 refine Ab (args:=[str (itoa a),str (itoa (g:Int))]) Tryz.func201 I I I ?_
 refine zA (zB (wP I (wP I (wP I (Aa (zE (zA (zA (zB (wP I (wP I (wC I I (fun W _=>C8 a (g:Int) ha hgl2 W) (wP I ?_)))))))))))))
 refine Aa (zE (zA (zB (wP I (wP I (Aa (zE (zS I (zI (zE (zA (zA (zB ?_)))))))))))))
 refine wP I (wP I (wU 28 false I ((AR _ _).trans (dF hg48)) (Aa (zE (zS I (zI (zE (zA (zA (zB ?_))))))))))
 cases hs:smI a&&smI (g:Int) with
 |true=>
  obtain⟨h1,h2⟩:=Bool.and_eq_true_iff.1 hs
  have b1:=GC h1
  have b2:=GC h2
  have b3:(a/(g:Int)).natAbs≤a.natAbs:=by rw[q1];exact Nat.div_le_self ..
  refine wP I (wP I (wC I I (fun W _=>FU hs W) ?_))
  iterate 7 refine wP I ?_
  refine Aa (zE (zA (zB (wP I (Aa (zE (zR I (zA (zU (qP I (qP I ?_)))))))))))
  refine H2 I I I I I (by omega) ?_
  refine qV 39 (a/(g:Int)) I (by rw[q4];exact As (by omega) (by omega)) (qP I (qP I ?_))
  refine DG I I I I I (by omega) ?_
  refine qV 42 0 I q5 (qP I (qP I (AP (Aa (zE (zA (zA (zB (wP I (wP I ?_))))))))))
  refine Af 44 (.bool false) I I ?_
  refine wP I ?_
  iterate 5 refine Ak I I ?_
  refine wP I (Aa (zE (zS I (zI (zE (zA (zB (wP I (wC I I (fun W hp=>Bi (a/(g:Int)) (by omega) (by omega) W (ht.hp hp)) (wP I (wC I I (fun W hp=>(Bi 0 (by decide) (by decide) W (ht.hp hp)).cast (v':=str [48]) (by rw[BQ])) (wP I (wP I (wP I ?_))))))))))))))
  exact Aa (zE (zO (zP (wR3 I I I))))
 |false=>
  obtain⟨x0,y0,h2⟩:=FY hs ha hgl2
  refine wP I (wP I (wC I I (fun W _=>h2 W) ?_))
  iterate 7 refine wP I ?_
  refine Aa (zE (zA (zB (wP I (Aa (zE (zS I (zI (zE (zA (zB (wP I ?_))))))))))))
  refine wD (X:=NV) I I (fun W' _=>AS a (by omega) W') ?_
  intro x hx
  refine wP I ?_
  refine wD (X:=NV) I I (fun W' _=>AS (g:Int) (by omega) W') ?_
  intro y hy
  refine Af 64 (.agg #[.bool false,Bp y (lbs br g).length]) I (by unfold TP;rw[hneg,hgn]) ?_
  rw[hgn] at hy⊢
  (refine Ag Tryz.hZ rfl rfl rfl rfl ?_;intro)
  (refine Ag Tryz.hZ rfl rfl rfl rfl ?_;intro)
  refine wS 2 I I I (wS 3 I I I (Aa ?_))
  rename_i b13 b14
  refine zE (zA (zB (wP I (wB 2 I I I (wP I (wB 3 I I I ?_))))))
  refine wD (X:=NV×NV) I I (fun W' hp=>Hg W' (some ⟨x.1,0,none⟩) (some ⟨y.1,0,none⟩) x.2.1 y.2.1 a.natAbs g hg (Ar.of_bx hp 0 I) (Ar.of_bx hp 1 I) (by omega) (by omega)) ?_
  rintro⟨q,w⟩ ⟨hq,hw⟩
  have e0:lbs br (a.natAbs%g)=[]:=by rw[q2];exact AQ
  have hq:BV q (lbs br (a.natAbs/g)):=hq
  simp only[e0]
  iterate 5 refine wP I ?_
  refine Aa (AB ?_)
  try refine Aw ?_
  refine A8 (X:=Nat×Nat) (fun s=>[(13,Ai b13),(14,Ai b14),(15,Bp q (lbs br (a.natAbs/g)).length),(16,Bp w 0),(17,Ai s.1),(18,Ai s.2)]) (fun s=>[B0 q (lbs br (a.natAbs/g)),B0 w [],⟨s.1,153,[.bool (decide (a/(g:Int)<0)),Bp q (lbs br (a.natAbs/g)).length],true,none⟩,⟨s.2,153,[.bool false,Bp w 0],true,none⟩]) (fun _=>True) ?_ ?_
  ·by_cases hn:a<0
   ·have hqn:a/(g:Int)<0:=q3.2 hn
    have hqL:0<(lbs br (a.natAbs/g)).length:=List.length_pos_iff.2 fun e=>by have:=(CI br2).1 e;omega
    have e1:decide (a<0)=true:=dT hn
    have e2:decide (a/(g:Int)<0)=true:=dT hqn
    simp only[e2]
    refine zB (wP I (wB 2 I I I (wU 74 true I e1 (wP I (wB 3 I I I ?_)))))
    refine GE Tryz.underlying4 I I I I I I ?_
    refine wP I (wP I (wP I (wP I (wU 81 true I (dT (by omega)) (wP I (wP I ?_))))))
    refine Av Tryz.hZ tH I I I I I I I I ?_
    refine wP I (wB 2 I I I (wU 86 true I e1 (wP I (wP I (wP I (wP I ?_))))))
    refine Af 90 (.bool false) I I ?_
    refine wP I (wP I ?_)
    refine Av Tryz.hZ tH I I I I I I I I ?_
    (refine Ag Tryz.hZ rfl rfl rfl rfl ?_;intro)
    (refine Ag Tryz.hZ rfl rfl rfl rfl ?_;intro)
    refine wS 6 I I I (wS 7 I I I (Aa ?_))
    rename_i b17 b18
    exact Q2 (b17,b18) tO ⟨I,I,I,I,I,I,tO⟩ [4,5,6,7] (by decide) I
   ·have hqn: ¬a/(g:Int)<0:=fun h=>hn (q3.1 h)
    have e1:decide (a<0)=false:=dF hn
    have e2:decide (a/(g:Int)<0)=false:=dF hqn
    simp only[e2]
    refine zB (wP I (wB 2 I I I (wU 74 false I e1 (wP I (wB 3 I I I ?_)))))
    refine GE Tryz.underlying4 I I I I I I ?_
    refine wP I ?_
    iterate 3 refine Ak I I ?_
    refine wP I (wP I ?_)
    refine Av Tryz.hZ tH I I I I I I I I ?_
    refine wP I (wB 2 I I I (wU 86 false I e1 (wP I ?_)))
    iterate 3 refine Ak I I ?_
    refine wP I (wP I ?_)
    refine Av Tryz.hZ tH I I I I I I I I ?_
    (refine Ag Tryz.hZ rfl rfl rfl rfl ?_;intro)
    (refine Ag Tryz.hZ rfl rfl rfl rfl ?_;intro)
    refine wS 6 I I I (wS 7 I I I (Aa ?_))
    rename_i b17 b18
    exact Q2 (b17,b18) tO ⟨I,I,I,I,I,I,tO⟩ [4,5,6,7] (by decide) I
  rintro⟨b17,b18⟩ _
  refine zA (zA (zB (wP I (wP I (wP I ?_)))))
  refine Af 96 (.bool false) I I ?_
  refine wP I ?_
  iterate 5 refine Ak I I ?_
  refine wP I (Aa (zE (zS I (zI (zE (zA (zB (wB 2 I I I ?_))))))))
  refine wC I I (fun W' hp=>by
   have h:=DR (a/(g:Int)) hql W' (some ⟨q.1,0,none⟩) q.2.1
   rw[q1] at h
   exact h (Ar.of_bx hp 0 I)) ?_
  iterate 5 refine wP I ?_
  refine Aa (zE (zA (zA (zB (wP I (wP I (Aa (zE (zS I (zI (zE (zA (zB ?_)))))))))))))
  refine wP I (wB 3 I I I ?_)
  refine wC I I (fun W' hp=>by
   have h:=En 0 (by decide+kernel) W' (some ⟨w.1,0,none⟩) w.2.1 (.inl AQ)
   rw[BQ,show(0:Int).natAbs=0 from rfl,AQ] at h
   exact h) ?_
  exact wP I (wP I (wP I (Aa (zE (zO (wR3 I I I))))))
-- BOXES 1
-- CODE2
theorem P0 {n m k:Nat} (h:n≤m) (hk:0<k) (hm:(decDigits m).length≤k):(decDigits n).length≤k:=
 CU k n (by omega) (Nat.lt_of_le_of_lt h (Nat.lt_of_lt_of_le (CM m) (Nat.pow_le_pow_right (by decide) hm)))
theorem GX {z:Int} (h:z<0):itoa z=45::itoa (-z):=by
 unfold itoa
 rw[if_pos h,if_neg (by omega),show(-z).toNat=z.natAbs by omega]
theorem J8 {z:Int} (h: ¬z<0):itoa z=decDigits z.natAbs:=by rw[BE];unfold F8;rw[if_neg h];rfl
theorem Qt {z:Int} (h:(itoa z).length≤18):z.natAbs<1000000000000000000:=by
 rw[BE,List.length_append] at h
 exact Nat.lt_of_lt_of_le (CM _) (show _≤10^18 from Nat.pow_le_pow_right (by decide) (by omega))
theorem Gu (z d:Int) (hd:d≠0) (hz:okN z) (hdk:okN d) (W:World) (ht:AL W):
  Ah Tryz.prog 150 #[str (itoa z),str (itoa d)] W (fun _:Unit=> .tuple #[str (Ae (nrm z d)), .int .i64 0]) (fun _=>True) (fun _=>[]):=by
 have lz:=ED hz.dd
 have ld:=ED hdk.dd
 obtain⟨c0,hc0,hc45⟩:=DU d
 obtain⟨u,hu⟩: ∃u,u=if d<0 then -z else z:=⟨_,rfl⟩
 obtain⟨e,he⟩: ∃e,e=d.natAbs:=⟨_,rfl⟩
 have he0:0<e:=by omega
 have hnr:nrm z d=mkRat u e:=by unfold nrm;rw[hu,he]
 have hua:u.natAbs=z.natAbs:=by rw[hu];split<;>omega
 have huk:okN u:=by unfold okN;rw[hua];exact hz
 have hek:okN (e:Int):=by unfold okN;rw[Int.natAbs_natCast,he];exact hdk
 have hel:(decDigits e).length≤300:=by have:=hek.dd;rwa [Int.natAbs_natCast] at this
 have hie:itoa (e:Int)=decDigits e:=FT e
 rw[hnr]
 refine Ab (args:=[str (itoa z),str (itoa d)]) Tryz.func150 I I I ?_
 refine zA (zB (wP I (wP I (Aa (zE (zA (zA (zB (wP I ?_)))))))))
 refine AM 0 tH I I I I I I I I hc0 ?_
 refine wP I (wU 11 (decide (d<0)) I ((CN c0 45).trans hc45) (Aa (AB ?_)))
 try refine Aw ?_
 refine A8 (X:=Unit) (fun _=>[(0,str (itoa u)),(1,str (itoa (e:Int)))]) (fun _=>[]) (fun _=>True) ?_ ?_
 ·refine Ap I (fun h=> ?_) (fun h=> ?_)
  ·have h:d<0:=of_decide_eq_true h
   have ed:itoa d=45::itoa (e:Int):=by rw[GX h,show -d=(e:Int) by omega]
   have eu:u= -z:=by rw[hu,if_pos h]
   obtain⟨c1,hc1,hc2⟩:=DU z
   refine zA (zB (wP I ?_))
   refine Et 1 tH I I I I I I I I (by rw[ed,List.length_cons];omega) ?_
   refine Af 13 (str (itoa (e:Int))) I (by rw[ed];rfl) ?_
   refine wP I (Aa (zE (zA (zB (wP I ?_)))))
   refine AM 0 tH I I I I I I I I hc1 ?_
   refine wP I (wU 16 (decide (z<0)) I ((CN c1 45).trans hc2) (Aa (zE ?_)))
   refine Ap I (fun hzn=> ?_) (fun hzn=> ?_)
   ·have hzn:z<0:=of_decide_eq_true hzn
    refine zB (wP I ?_)
    refine Et 1 tH I I I I I I I I (by rw[GX hzn,List.length_cons];omega) ?_
    exact wP I (Aa (An () tO ⟨by rw[GX hzn,eu];rfl,I,tO⟩ [] I))
   ·have hzn: ¬z<0:=of_decide_eq_false hzn
    refine zA (zB (wP I (wP I ?_)))
    by_cases hz0:z=0
    ·exact wU 20 false I (by show(!_)=false;rw[AR,hz0,BQ];rfl) (Aa (zE (zS I (zI (An () tO ⟨by rw[eu,hz0];rfl,I,tO⟩ [] I)))))
    ·refine wU 20 true I (by show(!_)=true;rw[AR,dF fun h=>hz0 (H5.1 h)];rfl) (Aa (zE (zR I (zB (wP I ?_)))))
     refine BF I I I I I (a:=[45]) (b:=itoa z) (by decide) (by omega) ?_
     exact wP I (Aa (An () tO ⟨by rw[eu,GX (show -z<0 by omega),Int.neg_neg];rfl,I,tO⟩ [] I))
  ·have h: ¬d<0:=of_decide_eq_false h
   exact zI (An () tO ⟨by rw[hu,if_neg h];rfl,by rw[show(e:Int)=d by omega];rfl,tO⟩ [] I)
 intro _ _
 have lu:=ED huk.dd
 have le:=ED hek.dd
 obtain⟨c1,hc1,hc2⟩:=DU u
 refine Aw (Aw ?_)
 refine A8 (X:=Unit) (fun _=>[(0,str (itoa u)),(1,str (itoa (e:Int))),(30, .bool (decide ((itoa u).length≤18∧(itoa (e:Int)).length≤18)))]) (fun _=>[]) (fun _=>True) ?_ ?_
 ·refine zB (wP I (wP I ?_))
  refine Af 24 (.int .i64 ((itoa u).length:Nat)) I (congrArg (fun n:Nat=>Value.int .i64 (n:Int)) (Au _)) ?_
  refine wP I ?_
  by_cases h1:(itoa u).length≤18
  ·refine wU 25 true I (dT (by omega)) (wP I (wP I (wP I ?_)))
   refine Af 28 (.int .i64 ((itoa (e:Int)).length:Nat)) I (congrArg (fun n:Nat=>Value.int .i64 (n:Int)) (Au _)) ?_
   exact wP I (wU 29 (decide ((itoa u).length≤18∧(itoa (e:Int)).length≤18)) I (decide_eq_decide.2 (by omega)) (wP I (Aa (An () tO ⟨I,I,I,tO⟩ [] I))))
  ·refine wU 25 false I (dF (by omega)) (wP I ?_)
   iterate 3 refine Ak I I ?_
   exact wP I (Aa (An () tO ⟨I,I,by rw[dF (fun h:(itoa u).length≤18∧(itoa (e:Int)).length≤18=>h1 h.1)];rfl,tO⟩ [] I))
 intro _ _
 refine Ap I (fun h18=> ?_) (fun h18=> ?_)
 ·obtain⟨h1,h2⟩:=of_decide_eq_true h18
  have u18:=Qt h1
  have e18:=Qt h2
  rw[Int.natAbs_natCast] at e18
  rw[hie] at h2
  refine zA (zA (zB (wP I ?_)))
  refine AM 0 tH I I I I I I I I hc1 ?_
  refine wP I (wU 33 (decide (u<0)) I ((CN c1 45).trans hc2) (Aa (zE ?_)))
  refine Ap I (fun hn=> ?_) (fun hn=> ?_)
  ·have hn:u<0:=of_decide_eq_true hn
   have eu:itoa u=45::decDigits u.natAbs:=by rw[GX hn,J8 (by omega),Int.natAbs_neg]
   have hdl:(decDigits u.natAbs).length≤18:=by rw[eu,List.length_cons] at h1;omega
   refine zA (zB (wP I ?_))
   refine Et 1 tH I I I I I I I I (by rw[eu,List.length_cons];omega) ?_
   refine Af 35 (str (decDigits u.natAbs)) I (by rw[eu];rfl) ?_
   refine wC I I (fun W _=>(BL (decDigits u.natAbs) hdl (Eg _).all W).cast (v':= .int .i64 (u.natAbs:Nat)) (by rw[BA])) (wP I (wV 37 u I (by show w64 (0-((u.natAbs:Nat):Int))=_;rw[As (by omega) (by omega)];omega) (wP I ?_)))
   refine Af 38 (str (decDigits e)) I (by rw[hie]) ?_
   exact wC I I (fun W _=>(BL (decDigits e) h2 (Eg _).all W).cast (v':= .int .i64 (e:Nat)) (by rw[BA])) (wC I I (fun W _=>D6 u e (by omega) he0 (by omega) W) (wP I (wP I (Aa (zE (zO (zP (zP (wR2 I I I)))))))))
  ·have hn: ¬u<0:=of_decide_eq_false hn
   have eu:itoa u=decDigits u.natAbs:=J8 hn
   rw[eu] at h1
   refine zI (zE (zA (zB (wP I ?_))))
   refine Af 41 (str (decDigits u.natAbs)) I (by rw[eu]) ?_
   refine wC I I (fun W _=>(BL (decDigits u.natAbs) h1 (Eg _).all W).cast (v':= .int .i64 u) (by rw[BA];exact congrArg (Value.int .i64) (by omega))) (wP I ?_)
   refine Af 43 (str (decDigits e)) I (by rw[hie]) ?_
   exact wC I I (fun W _=>(BL (decDigits e) h2 (Eg _).all W).cast (v':= .int .i64 (e:Nat)) (by rw[BA])) (wC I I (fun W _=>D6 u e (by omega) he0 (by omega) W) (wP I (wP I (Aa (zE (zO (zP (wR2 I I I))))))))
 obtain⟨g,hg⟩: ∃g,Nat.gcd u.natAbs e=g:=⟨_,rfl⟩
 have hg0:0<g:=by rw[←hg];exact Nat.gcd_pos_of_pos_right _ he0
 have hgu:(g:Int)∣u:=Int.natAbs_dvd_natAbs.1 (by rw[Int.natAbs_natCast, ←hg];exact Nat.gcd_dvd_left ..)
 have hge:g∣e:=by rw[←hg];exact Nat.gcd_dvd_right ..
 have hgle:g≤e:=Nat.le_of_dvd he0 hge
 have hgl:(decDigits g).length≤300:=P0 hgle (by decide) hel
 obtain⟨x,hx⟩: ∃x,x=u/(g:Int):=⟨_,rfl⟩
 have hxe:=LF hg0 hgu
 have hxl:(decDigits x.natAbs).length≤300:=by
  rw[hx,hxe.1]
  exact P0 (Nat.div_le_self ..) (by decide) huk.dd
 obtain⟨y,hy⟩: ∃y,y=e/g:=⟨_,rfl⟩
 have hyl:(decDigits y).length≤300:=by
  rw[hy]
  exact P0 (Nat.div_le_self ..) (by decide) hel
 have hyI:(e:Int)/(g:Int)=(y:Int):=by rw[hy];exact(Int.natCast_ediv _ _).symm
 have hnum:Ae (mkRat u e)=if y=1 then itoa x else itoa x++[47]++decDigits y:=by
  by_cases h1:y=1
  ·rw[if_pos h1,Ir (by omega) (by rw[hg, ←hy];exact h1),hg, ←hx]
  ·rw[if_neg h1,HY (by omega) (by rw[hg, ←hy];exact h1),hg, ←hx, ←hy,FT]
 have lx:=ED hxl
 obtain⟨c3,hc3,hc4⟩:=DU x
 refine zI (zE (zA (zB (wP I (wP I (wC I I (fun W1 hp=>(Kr u (e:Int) huk.dd hek.dd W1 (ht.hp hp)).cast (v':= .tuple #[str (itoa (g:Int)), .int .i64 0]) (by rw[Int.natAbs_natCast,hg])) ?_))))))
 iterate 5 refine wP I ?_
 refine Aa (zE (zA (zA (zB (wP I (wP I (Aa (zE (zS I (zI (zE (zA (zB ?_)))))))))))))
 refine wP I (wP I (wC I I (fun W1 hp=>(JO u g hg0 hgu huk.dd hgl W1 (ht.hp hp)).cast (v':= .tuple #[str (itoa x),str [48], .int .i64 0]) (by rw[hx])) ?_))
 iterate 6 refine wP I ?_
 refine Aa (zE (zA (zA (zB (wP I (wP I (Aa (zE (zS I (zI (zE (zA (zB ?_)))))))))))))
 refine wP I (wP I (wC I I (fun W1 hp=>(JO (e:Int) g hg0 (Int.natCast_dvd_natCast.2 hge) hek.dd hgl W1 (ht.hp hp)).cast (v':= .tuple #[str (decDigits y),str [48], .int .i64 0]) (by rw[hyI,FT])) ?_))
 iterate 6 refine wP I ?_
 refine Aa (zE (zA (zA (zB (wP I (wP I (Aa (zE (zS I (zI (zE (zA (zB ?_)))))))))))))
 refine wP I (wP I (Aa (zE (zA (zA (zB (wP I ?_)))))))
 refine AM 0 tH I I I I I I I I hc3 ?_
 refine wP I (wU 78 (decide (x<0)) I ((CN c3 45).trans hc4) (Aa (AB ?_)))
 try refine Aw ?_
 refine A8 (X:=Unit) (fun _=>[(0,str (itoa x)),(1,str (decDigits y)),(8,str (decDigits x.natAbs))]) (fun _=>[]) (fun _=>True) ?_ ?_
 ·refine Ap I (fun hn=> ?_) (fun hn=> ?_)
  ·have hn:x<0:=of_decide_eq_true hn
   have ex:itoa x=45::decDigits x.natAbs:=by rw[GX hn,J8 (by omega),Int.natAbs_neg]
   refine zB (wP I ?_)
   refine Et 1 tH I I I I I I I I (by rw[ex,List.length_cons];omega) ?_
   refine Af 80 (str (decDigits x.natAbs)) I (by rw[ex];rfl) ?_
   exact wP I (Aa (An () tO ⟨I,I,I,tO⟩ [] I))
  ·have hn: ¬x<0:=of_decide_eq_false hn
   exact zI (An () tO ⟨I,I,by rw[←J8 hn];rfl,tO⟩ [] I)
 intro _ _
 refine zA (zA (zB (wP I (wP I ?_))))
 refine Af 82 (.int .i64 ((decDigits x.natAbs).length:Nat)) I (congrArg (fun n:Nat=>Value.int .i64 (n:Int)) (Au _)) ?_
 refine wP I (wU 83 false I (dF (by omega)) (wP I (wP I (wP I ?_))))
 refine Af 86 (.int .i64 ((decDigits y).length:Nat)) I (congrArg (fun n:Nat=>Value.int .i64 (n:Int)) (Au _)) ?_
 refine wP I (wU 87 false I (dF (by omega)) (wP I (Aa (zE (zS I (zI (zE (zA (zA (zB (wP I (wP I ?_))))))))))))
 by_cases h1:y=1
 ·exact wU 90 true I (by rw[AR,h1,E6];rfl) (Aa (zE (zR I (zA (zB (wP I (wP I (wP I (Aa (zE (zO (zP (wR2 I I (by rw[hnum,if_pos h1]))))))))))))))
 ·refine wU 90 false I (by rw[AR];exact dF fun h=>h1 (by have:=congrArg AG h;rw[BA] at this;exact this)) (Aa (zE (zS I (zI (zE (zA (zB (wP I ?_))))))))
  refine BF I I I I I (a:=itoa x) (b:=[47]) (by omega) (by decide) ?_
  refine wP I ?_
  refine BF I I I I I (by rw[List.length_append];show _+1≤_;omega) (by omega) ?_
  exact wP I (wP I (Aa (zE (zO (wR2 I I (by rw[hnum,if_neg h1]))))))
theorem PF (n d m c:Int) (hn:okN n) (hd:okN d) (hm:okN m) (hc:okN c) (hnm:okN (n*m)) (hdc:okN (d*c)) (h0:d*c≠0) (W:World) (ht:AL W):
  Ah Tryz.prog 180 #[str (itoa n),str (itoa d),str (itoa m),str (itoa c)] W (fun _:Unit=> .tuple #[str (Ae (nrm (n*m) (d*c))), .int .i64 0]) (fun _=>True) (fun _=>[]):=by
 refine Ab (args:=[str (itoa n),str (itoa d),str (itoa m),str (itoa c)]) Tryz.func180 I I I ?_
 refine zA (zB (wP I (wP I (Aa (zE (zA (zB (wP I (wP I (wP I (wP I (wC I I (fun W1 hp=>Cu n m d c hn hm hd hc hnm hdc W1 (ht.hp hp)) ?_))))))))))))
 iterate 7 refine wP I ?_
 refine Aa (zE (zA (zA (zB (wP I (wP I (Aa (zE (zS I (zI (zE (zA (zB ?_)))))))))))))
 exact wP I (wP I (wC I I (fun W1 hp=>Gu (n*m) (d*c) h0 hnm hdc W1 (ht.hp hp)) (wP I (wP I (wP I (wP I (Aa (zE (zO (wR2 I I I))))))))))
-- BOXES 1
-- CODE2
theorem FG {q:Rat} (h:okQ q):(Ae q).length≤1000:=by
 have:=B7 h
 omega
theorem LA {q:Rat} (h:okQ q) (W:World) (ht:AL W):Ah Tryz.prog 31 #[str (Ae q)] W (fun _:Unit=> .int .i64 0) (fun _=>True) (fun _=>[]):=
 (CH (Ae q) (by have:=FG h;omega) W ht).cast (by rw[IR h])
theorem Ch {p q:Rat} (hp':okQ p) (hq:okQ q) (W:World) (ht:AL W):Ah Tryz.prog 100 #[str (Ae p),str (Ae q)] W (fun _:Unit=> .int .i64 0) (fun _=>True) (fun _=>[]):=by
 refine Ab (args:=[str (Ae p),str (Ae q)]) Tryz.func100 I I I ?_
 refine zA (zB (wP I (Aa (zE (zA (zA (zB (wP I (wC I I (fun W1 hp=>LA hp' W1 (ht.hp hp)) (wP I (Aa (zE (zA ?_)))))))))))))
 refine zB (wP I (wP I (Aa (zE (zS I (zI (zE (zA (zB (wP I (wC I I (fun W1 hp=>LA hq W1 (ht.hp hp)) (wP I (Aa ?_)))))))))))))
 exact zE (zO (wR1 I I I))
def iN (q:Rat):Int:=if Ed q=true then q.num else 0
def iD (q:Rat):Int:=if Ed q=true then((q.den:Nat):Int) else 0
theorem Bn {q:Rat} (h:okQ q):Bo Tryz.prog 120 [str (Ae q)] (.tuple #[.int .i64 (iN q), .int .i64 (iD q), .bool (Ed q)]):=fun W=>
 (PH q (by have:=FG h;omega) W).cast (by
  unfold iN iD
  cases Ed q<;>rfl)
theorem IB {x y:Int} (hx:x.natAbs<1000000000) (hy:y.natAbs<1000000000):(x*y).natAbs<1000000000000000000:=by
 rw[Int.natAbs_mul]
 have:=Nat.mul_lt_mul'' hx hy
 omega
theorem Cy {x y:Int} (hx:x.natAbs<1000000000) (hy:y.natAbs<1000000000):w64 (x*y)=x*y:=by
 have:=IB hx hy
 exact As (by omega) (by omega)
theorem DF {n:Nat} (h:n<1000000000):((n:Nat):Int).natAbs<1000000000:=by rw[Int.natAbs_natCast];exact h
def sh2 (p q:Rat):Bool:=Ed p&&Ed q
theorem E1 {p q:Rat} (h:sh2 p q=true):iN p=p.num∧iD p=(p.den:Nat)∧iN q=q.num∧iD q=(q.den:Nat)∧p.num.natAbs<1000000000∧p.den<1000000000∧q.num.natAbs<1000000000∧q.den<1000000000:=by
 obtain⟨h1,h2⟩:=Bool.and_eq_true_iff.1 h
 obtain⟨a1,a2⟩:=I9 h1
 obtain⟨b1,b2⟩:=I9 h2
 exact⟨if_pos h1,if_pos h1,if_pos h2,if_pos h2,a1,a2,b1,b2⟩
theorem M1 (z:Int) {d:Nat} (hd:0<d):nrm z (d:Int)=mkRat z d:=by
 unfold nrm
 rw[if_neg (by omega),Int.natAbs_natCast]
theorem Bf {q:Rat} (h:okQ q):Bo Tryz.prog 121 [str (Ae q)] (.tuple #[str (itoa q.num),str (itoa ((q.den:Nat):Int))]):=fun W=>
 (Oq q (FG h) W).cast (by rw[FT])
theorem FN (p q:Rat) (h:Sz2 p q) (W:World) (ht:AL W):
  Ah Tryz.prog 56 #[str (Ae p),str (Ae q)] W (fun _:Unit=> .tuple #[.int .i64 (Dy p q), .int .i64 0]) (fun _=>True) (fun _=>[]):=by
 have hpn:=p.den_pos
 have hqn:=q.den_pos
 rw[←O5]
 obtain⟨x,hx⟩: ∃x,p.num*((q.den:Nat):Int)=x:=⟨_,rfl⟩
 obtain⟨y,hy⟩: ∃y,q.num*((p.den:Nat):Int)=y:=⟨_,rfl⟩
 rw[hx,hy]
 refine Ab (args:=[str (Ae p),str (Ae q)]) Tryz.func56 I I I ?_
 refine zA (zB (wP I (wP I (Aa (zE (zA (zA (zB (wP I (wP I (wC I I (fun W1 hp=>Ch h.okp h.okq W1 (ht.hp hp)) (wP I (Aa ?_)))))))))))))
 refine zE (zA (zB (wP I (wP I (Aa (zE (zS I (zI (zE (zA (zB (wP I (wC I I (fun W _=>Bn h.okp W) ?_)))))))))))))
 iterate 7 refine wP I ?_
 refine Aa (zE (zA (zB (wP I (wC I I (fun W _=>Bn h.okq W) ?_)))))
 iterate 7 refine wP I ?_
 refine Aa (AB (Aw (Aw ?_)))
 refine A8 (X:=Unit) (fun _=>[(0,str (Ae p)),(1,str (Ae q)),(7, .int .i64 (iN p)),(8, .int .i64 (iD p)),(10, .int .i64 (iN q)),(11, .int .i64 (iD q)),(41, .bool (sh2 p q))]) (fun _=>[]) (fun _=>True) ?_ ?_
 ·refine zB (wP I (wP I ?_))
  refine Cr 39 I (fun h39=> ?_) (fun h39=> ?_)
  ·exact wP I (wP I (Aa (An () tO ⟨I,I,I,I,I,I,congrArg (fun b=>some (Value.bool b)) (by unfold sh2;simp_all),tO⟩ [] I)))
  ·refine Ak I I ?_
   exact wP I (Aa (An () tO ⟨I,I,I,I,I,I,congrArg (fun b=>some (Value.bool b)) (by unfold sh2;simp_all),tO⟩ [] I))
 intro _ _
 refine Ap I (fun hs=> ?_) (fun hs=> ?_)
 ·obtain⟨e1,e2,e3,e4,l1,l2,l3,l4⟩:=E1 hs
  have w1:w64 (iN p*iD q)=x:=by rw[e1,e4, ←hx];exact Cy l1 (DF l4)
  have w2:w64 (iN q*iD p)=y:=by rw[e3,e2, ←hy];exact Cy l3 (DF l2)
  refine zA (zH (zA (zB (wP I (wP I (wP I (wV 45 x I w1 (wP I (wP I (wP I (wV 48 y I w2 (wP I ?_))))))))))))
  by_cases h1:x<y
  ·exact wU 49 true I (dT h1) (wP I (Aa (zE (zR I (zA (zB (wP I (wP I (Aa (zE (zO (zQ (zP (zP (wR2 I I (by rw[EE,if_pos h1]))))))))))))))))
  refine wU 49 false I (dF h1) (wP I (Aa (zE (zS I (zA (zB (wP I (wP I (wP I (wV 53 x I w1 (wP I (wP I (wP I ?_)))))))))))))
  refine wV 56 y I w2 (wP I ?_)
  by_cases h2:y<x
  ·exact wU 57 true I (dT h2) (wP I (Aa (zE (zR I (zA (zB (wP I (wP I (Aa (zE (zO (zQ (zP (zP (wR2 I I (by rw[EE,if_neg h1,if_neg (by omega)]))))))))))))))))
  refine wU 57 false I (dF h2) (wP I (Aa (zE (zS I (zI (zN (zE (zA (zB (wP I (wP I (Aa (zE ?_)))))))))))))
  exact zO (zP (wR2 I I (by rw[EE,if_neg h1,if_pos (by omega)])))
 ·refine zI (zE (zA (zB (wP I (wC I I (fun W _=>Bf h.okp W) ?_)))))
  iterate 5 refine wP I ?_
  refine Aa (zE (zA (zB (wP I (wC I I (fun W _=>Bf h.okq W) ?_)))))
  iterate 5 refine wP I ?_
  refine Aa (zE (zA (zB (wP I (wP I (wP I (wP I (wC I I (fun W1 hp=>(Cu p.num (q.den:Nat) q.num (p.den:Nat) h.okp.1 h.okq.2 h.okq.1 h.okp.2 h.c1 h.c2 W1 (ht.hp hp)).cast (v':= .tuple #[str (itoa x),str (itoa y), .int .i64 0]) (by rw[hx,hy])) ?_))))))))
  iterate 7 refine wP I ?_
  refine Aa (zE (zA (zA (zB (wP I (wP I (Aa (zE (zS I (zI (zE (zA (zB ?_)))))))))))))
  exact wP I (wP I (wC I I (fun W1 hp=>Kv x y (by rw[←hx];exact h.c1.dd) (by rw[←hy];exact h.c2.dd) W1) (wP I (wP I (wP I (wP I (Aa (zE (zO (wR2 I I I))))))))))
-- BOXES 1
-- CODE2
theorem Pj (p q:Rat) (h:Sz2 p q) (W:World) (ht:AL W):
  Ah Tryz.prog 101 #[str (Ae p),str (Ae q)] W (fun _:Unit=> .tuple #[str (Ae (p+q)), .int .i64 0]) (fun _=>True) (fun _=>[]):=by
 have hpn:=p.den_pos
 have hqn:=q.den_pos
 have ra:=I4 p q
 refine Ab (args:=[str (Ae p),str (Ae q)]) Tryz.func101 I I I ?_
 repeat (first|refine zA ?_|refine zB ?_|refine zC ?_|refine zD ?_|refine zE ?_|refine zF ?_|refine zG ?_|refine zH ?_|refine zI ?_|refine zJ ?_|refine zK ?_|refine zL ?_|refine zM rfl ?_|refine zN ?_|refine zO ?_|refine zP ?_|refine zQ ?_|refine zR rfl ?_|refine zS rfl ?_|refine zU ?_)
 refine wP I (wP I (Aa ?_))
 repeat (first|refine zA ?_|refine zB ?_|refine zC ?_|refine zD ?_|refine zE ?_|refine zF ?_|refine zG ?_|refine zH ?_|refine zI ?_|refine zJ ?_|refine zK ?_|refine zL ?_|refine zM rfl ?_|refine zN ?_|refine zO ?_|refine zP ?_|refine zQ ?_|refine zR rfl ?_|refine zS rfl ?_|refine zU ?_)
 refine wP I (wC I I (fun W _=>Bn h.okp W) ?_)
 iterate 7 refine wP I ?_
 refine Aa ?_
 repeat (first|refine zA ?_|refine zB ?_|refine zC ?_|refine zD ?_|refine zE ?_|refine zF ?_|refine zG ?_|refine zH ?_|refine zI ?_|refine zJ ?_|refine zK ?_|refine zL ?_|refine zM rfl ?_|refine zN ?_|refine zO ?_|refine zP ?_|refine zQ ?_|refine zR rfl ?_|refine zS rfl ?_|refine zU ?_)
 refine wP I (wC I I (fun W _=>Bn h.okq W) ?_)
 iterate 7 refine wP I ?_
 refine Aa ?_
 repeat (first|refine AB ?_|refine Aw ?_)
 refine A8 (X:=Unit) (fun _=>[(0,str (Ae p)),(1,str (Ae q)),(6, .int .i64 (iN p)),(7, .int .i64 (iD p)),(9, .int .i64 (iN q)),(10, .int .i64 (iD q)),(37, .bool (sh2 p q))]) (fun _=>[]) (fun _=>True) ?_ ?_
 ·repeat (first|refine zA ?_|refine zB ?_|refine zC ?_|refine zD ?_|refine zE ?_|refine zF ?_|refine zG ?_|refine zH ?_|refine zI ?_|refine zJ ?_|refine zK ?_|refine zL ?_|refine zM rfl ?_|refine zN ?_|refine zO ?_|refine zP ?_|refine zQ ?_|refine zR rfl ?_|refine zS rfl ?_|refine zU ?_)
  refine wP I (wP I ?_)
  refine Cr 35 I (fun h35=> ?_) (fun h35=> ?_)
  ·refine wP I (wP I (Aa ?_))
   repeat (first|refine zA ?_|refine zB ?_|refine zC ?_|refine zD ?_|refine zE ?_|refine zF ?_|refine zG ?_|refine zH ?_|refine zI ?_|refine zJ ?_|refine zK ?_|refine zL ?_|refine zM rfl ?_|refine zN ?_|refine zO ?_|refine zP ?_|refine zQ ?_|refine zR rfl ?_|refine zS rfl ?_|refine zU ?_)
   exact An () tO ⟨I,I,I,I,I,I,congrArg (fun b=>some (Value.bool b)) (by unfold sh2;simp_all),tO⟩ [] I
  ·refine Ak I I ?_
   refine wP I (Aa ?_)
   repeat (first|refine zA ?_|refine zB ?_|refine zC ?_|refine zD ?_|refine zE ?_|refine zF ?_|refine zG ?_|refine zH ?_|refine zI ?_|refine zJ ?_|refine zK ?_|refine zL ?_|refine zM rfl ?_|refine zN ?_|refine zO ?_|refine zP ?_|refine zQ ?_|refine zR rfl ?_|refine zS rfl ?_|refine zU ?_)
   exact An () tO ⟨I,I,I,I,I,I,congrArg (fun b=>some (Value.bool b)) (by unfold sh2;simp_all),tO⟩ [] I
 intro _ _
 repeat (first|refine zA ?_|refine zB ?_|refine zC ?_|refine zD ?_|refine zE ?_|refine zF ?_|refine zG ?_|refine zH ?_|refine zI ?_|refine zJ ?_|refine zK ?_|refine zL ?_|refine zM rfl ?_|refine zN ?_|refine zO ?_|refine zP ?_|refine zQ ?_|refine zR rfl ?_|refine zS rfl ?_|refine zU ?_)
 refine Ap I (fun hs=> ?_) (fun hs=> ?_)
 ·obtain⟨e1,e2,e3,e4,l1,l2,l3,l4⟩:=E1 hs
  have m1:=IB l1 (DF l4)
  have m2:=IB l3 (DF l2)
  have m3:=IB (DF l2) (DF l4)
  have hdd:((p.den:Nat):Int)*((q.den:Nat):Int)=((p.den*q.den:Nat):Int):=(Int.natCast_mul _ _).symm
  rw[hdd,Int.natAbs_natCast] at m3
  have hpq:=Nat.mul_pos hpn hqn
  rw[hdd,M1 _ hpq] at ra
  repeat (first|refine zA ?_|refine zB ?_|refine zC ?_|refine zD ?_|refine zE ?_|refine zF ?_|refine zG ?_|refine zH ?_|refine zI ?_|refine zJ ?_|refine zK ?_|refine zL ?_|refine zM rfl ?_|refine zN ?_|refine zO ?_|refine zP ?_|refine zQ ?_|refine zR rfl ?_|refine zS rfl ?_|refine zU ?_)
  refine wP I (wP I (wP I (wV 40 (p.num*(q.den:Nat)) I (by rw[e1,e4];exact Cy l1 (DF l4)) (wP I (wP I (wP I (wV 43 (q.num*(p.den:Nat)) I (by rw[e3,e2];exact Cy l3 (DF l2)) (wP I (wV 44 (p.num*(q.den:Nat)+q.num*(p.den:Nat)) I (As (by omega) (by omega)) (wP I (wP I (wP I (wV 47 ((p.den*q.den:Nat):Int) I (by rw[e2,e4, ←hdd];exact Cy (DF l2) (DF l4)) ?_)))))))))))))
  refine wC I I (fun W _=>(D6 (p.num*(q.den:Nat)+q.num*(p.den:Nat)) (p.den*q.den) (by omega) hpq (by omega) W).cast (v':=str (Ae (p+q))) (by rw[ra])) (wP I (wP I (Aa ?_)))
  repeat (first|refine zA ?_|refine zB ?_|refine zC ?_|refine zD ?_|refine zE ?_|refine zF ?_|refine zG ?_|refine zH ?_|refine zI ?_|refine zJ ?_|refine zK ?_|refine zL ?_|refine zM rfl ?_|refine zN ?_|refine zO ?_|refine zP ?_|refine zQ ?_|refine zR rfl ?_|refine zS rfl ?_|refine zU ?_)
  exact wR2 I I I
 ·have hd0:((p.den:Nat):Int)*((q.den:Nat):Int)≠0:=Int.mul_ne_zero (by omega) (by omega)
  repeat (first|refine zA ?_|refine zB ?_|refine zC ?_|refine zD ?_|refine zE ?_|refine zF ?_|refine zG ?_|refine zH ?_|refine zI ?_|refine zJ ?_|refine zK ?_|refine zL ?_|refine zM rfl ?_|refine zN ?_|refine zO ?_|refine zP ?_|refine zQ ?_|refine zR rfl ?_|refine zS rfl ?_|refine zU ?_)
  refine wP I (wC I I (fun W _=>Bf h.okp W) ?_)
  iterate 5 refine wP I ?_
  refine Aa ?_
  repeat (first|refine zA ?_|refine zB ?_|refine zC ?_|refine zD ?_|refine zE ?_|refine zF ?_|refine zG ?_|refine zH ?_|refine zI ?_|refine zJ ?_|refine zK ?_|refine zL ?_|refine zM rfl ?_|refine zN ?_|refine zO ?_|refine zP ?_|refine zQ ?_|refine zR rfl ?_|refine zS rfl ?_|refine zU ?_)
  refine wP I (wC I I (fun W _=>Bf h.okq W) ?_)
  iterate 5 refine wP I ?_
  refine Aa ?_
  repeat (first|refine zA ?_|refine zB ?_|refine zC ?_|refine zD ?_|refine zE ?_|refine zF ?_|refine zG ?_|refine zH ?_|refine zI ?_|refine zJ ?_|refine zK ?_|refine zL ?_|refine zM rfl ?_|refine zN ?_|refine zO ?_|refine zP ?_|refine zQ ?_|refine zR rfl ?_|refine zS rfl ?_|refine zU ?_)
  refine wP I (wP I (wP I (wP I (wC I I (fun W1 hp=>Cu p.num (q.den:Nat) q.num (p.den:Nat) h.okp.1 h.okq.2 h.okq.1 h.okp.2 h.c1 h.c2 W1 (ht.hp hp)) ?_))))
  iterate 7 refine wP I ?_
  refine Aa ?_
  repeat (first|refine zA ?_|refine zB ?_|refine zC ?_|refine zD ?_|refine zE ?_|refine zF ?_|refine zG ?_|refine zH ?_|refine zI ?_|refine zJ ?_|refine zK ?_|refine zL ?_|refine zM rfl ?_|refine zN ?_|refine zO ?_|refine zP ?_|refine zQ ?_|refine zR rfl ?_|refine zS rfl ?_|refine zU ?_)
  refine wP I (wP I (Aa ?_))
  repeat (first|refine zA ?_|refine zB ?_|refine zC ?_|refine zD ?_|refine zE ?_|refine zF ?_|refine zG ?_|refine zH ?_|refine zI ?_|refine zJ ?_|refine zK ?_|refine zL ?_|refine zM rfl ?_|refine zN ?_|refine zO ?_|refine zP ?_|refine zQ ?_|refine zR rfl ?_|refine zS rfl ?_|refine zU ?_)
  refine wP I (wP I ?_)
  refine wC I I (fun W1 hp=>by
   have h1:=Cu (p.den:Nat) (q.den:Nat) 1 1 h.okp.2 h.okq.2 (Cv (by decide)) (Cv (by decide)) h.d (Cv (by decide)) W1 (ht.hp hp)
   rw[show(1:Int)*1=1 from rfl,KL] at h1
   exact h1) ?_
  iterate 7 refine wP I ?_
  refine Aa ?_
  repeat (first|refine zA ?_|refine zB ?_|refine zC ?_|refine zD ?_|refine zE ?_|refine zF ?_|refine zG ?_|refine zH ?_|refine zI ?_|refine zJ ?_|refine zK ?_|refine zL ?_|refine zM rfl ?_|refine zN ?_|refine zO ?_|refine zP ?_|refine zQ ?_|refine zR rfl ?_|refine zS rfl ?_|refine zU ?_)
  iterate 5 refine wP I ?_
  refine wU 82 false I (by show(!_)=false;rw[AR,dT I];rfl) (wP I (Aa ?_))
  repeat (first|refine zA ?_|refine zB ?_|refine zC ?_|refine zD ?_|refine zE ?_|refine zF ?_|refine zG ?_|refine zH ?_|refine zI ?_|refine zJ ?_|refine zK ?_|refine zL ?_|refine zM rfl ?_|refine zN ?_|refine zO ?_|refine zP ?_|refine zQ ?_|refine zR rfl ?_|refine zS rfl ?_|refine zU ?_)
  refine wP I (wP I (wC I I (fun W1 hp=>Km (p.num*(q.den:Nat)) (q.num*(p.den:Nat)) h.c1.dd h.c2.dd h.add.dd W1 (ht.hp hp)) ?_))
  iterate 5 refine wP I ?_
  refine Aa ?_
  repeat (first|refine zA ?_|refine zB ?_|refine zC ?_|refine zD ?_|refine zE ?_|refine zF ?_|refine zG ?_|refine zH ?_|refine zI ?_|refine zJ ?_|refine zK ?_|refine zL ?_|refine zM rfl ?_|refine zN ?_|refine zO ?_|refine zP ?_|refine zQ ?_|refine zR rfl ?_|refine zS rfl ?_|refine zU ?_)
  refine wP I (wP I (Aa ?_))
  repeat (first|refine zA ?_|refine zB ?_|refine zC ?_|refine zD ?_|refine zE ?_|refine zF ?_|refine zG ?_|refine zH ?_|refine zI ?_|refine zJ ?_|refine zK ?_|refine zL ?_|refine zM rfl ?_|refine zN ?_|refine zO ?_|refine zP ?_|refine zQ ?_|refine zR rfl ?_|refine zS rfl ?_|refine zU ?_)
  refine wP I (wP I (wC I I (fun W1 hp=>(Gu _ _ hd0 h.add h.d W1 (ht.hp hp)).cast (v':= .tuple #[str (Ae (p+q)), .int .i64 0]) (by rw[ra])) (wP I (wP I (wP I (wP I (Aa ?_)))))))
  repeat (first|refine zA ?_|refine zB ?_|refine zC ?_|refine zD ?_|refine zE ?_|refine zF ?_|refine zG ?_|refine zH ?_|refine zI ?_|refine zJ ?_|refine zK ?_|refine zL ?_|refine zM rfl ?_|refine zN ?_|refine zO ?_|refine zP ?_|refine zQ ?_|refine zR rfl ?_|refine zS rfl ?_|refine zU ?_)
  exact wR2 I I I
theorem Sz2.neg {p q:Rat} (h:Sz2 p q):Sz2 p (-q):=by
 have e:(-q).num= -q.num:=rfl
 have d:(-q).den=q.den:=rfl
 refine⟨h.okp,⟨by rw[e];exact If h.okq.1,h.okq.2⟩,h.c1,by rw[e,Int.neg_mul];exact If h.c2,h.d,by rw[e,Int.mul_neg];exact If h.n, ?_, ?_⟩
 ·rw[e,d,Int.neg_mul, ←Int.sub_eq_add_neg];exact h.sub
 ·rw[e,d,Int.neg_mul,Int.sub_neg];exact h.add
theorem OI (p q:Rat) (h:Sz2 p q) (W:World) (ht:AL W):
  Ah Tryz.prog 43 #[str (Ae p),str (Ae q)] W (fun _:Unit=> .tuple #[str (Ae (p-q)), .int .i64 0]) (fun _=>True) (fun _=>[]):=by
 refine Ab (args:=[str (Ae p),str (Ae q)]) Tryz.func43 I I I ?_
 repeat (first|refine zA ?_|refine zB ?_|refine zC ?_|refine zD ?_|refine zE ?_|refine zF ?_|refine zG ?_|refine zH ?_|refine zI ?_|refine zJ ?_|refine zK ?_|refine zL ?_|refine zM rfl ?_|refine zN ?_|refine zO ?_|refine zP ?_|refine zQ ?_|refine zR rfl ?_|refine zS rfl ?_|refine zU ?_)
 refine wP I (wP I (Aa ?_))
 repeat (first|refine zA ?_|refine zB ?_|refine zC ?_|refine zD ?_|refine zE ?_|refine zF ?_|refine zG ?_|refine zH ?_|refine zI ?_|refine zJ ?_|refine zK ?_|refine zL ?_|refine zM rfl ?_|refine zN ?_|refine zO ?_|refine zP ?_|refine zQ ?_|refine zR rfl ?_|refine zS rfl ?_|refine zU ?_)
 refine wP I (wP I (wC I I (fun W1 hp=>Ch h.okp h.okq W1 (ht.hp hp)) (wP I (Aa ?_))))
 repeat (first|refine zA ?_|refine zB ?_|refine zC ?_|refine zD ?_|refine zE ?_|refine zF ?_|refine zG ?_|refine zH ?_|refine zI ?_|refine zJ ?_|refine zK ?_|refine zL ?_|refine zM rfl ?_|refine zN ?_|refine zO ?_|refine zP ?_|refine zQ ?_|refine zR rfl ?_|refine zS rfl ?_|refine zU ?_)
 refine wP I (wP I (Aa ?_))
 repeat (first|refine zA ?_|refine zB ?_|refine zC ?_|refine zD ?_|refine zE ?_|refine zF ?_|refine zG ?_|refine zH ?_|refine zI ?_|refine zJ ?_|refine zK ?_|refine zL ?_|refine zM rfl ?_|refine zN ?_|refine zO ?_|refine zP ?_|refine zQ ?_|refine zR rfl ?_|refine zS rfl ?_|refine zU ?_)
 refine wP I (wP I (wC I I (fun W _=>KW q (FG h.okq) W) (wC I I (fun W1 hp=>(Pj p (-q) h.neg W1 (ht.hp hp)).cast (v':= .tuple #[str (Ae (p-q)), .int .i64 0]) (by rw[Rat.sub_eq_add_neg])) (wP I (wP I (wP I (wP I (Aa ?_))))))))
 repeat (first|refine zA ?_|refine zB ?_|refine zC ?_|refine zD ?_|refine zE ?_|refine zF ?_|refine zG ?_|refine zH ?_|refine zI ?_|refine zJ ?_|refine zK ?_|refine zL ?_|refine zM rfl ?_|refine zN ?_|refine zO ?_|refine zP ?_|refine zQ ?_|refine zR rfl ?_|refine zS rfl ?_|refine zU ?_)
 exact wR2 I I I
-- BOXES 1
-- CODE2
theorem DP (a b c d:Int) (ha:okN a) (hb:okN b) (hab: ¬okN (a*b)) (W:World) (ht:AL W):
  Ah Tryz.prog 122 #[str (itoa a),str (itoa b),str (itoa c),str (itoa d)] W (fun _:Unit=> .tuple #[str [],str [], .int .i64 4]) (fun _=>True) (fun _=>[]):=by
 refine Ab (args:=[str (itoa a),str (itoa b),str (itoa c),str (itoa d)]) Tryz.func122 I I I ?_
 refine zA (zB (wP I (wP I (wP I (Aa (zE (zA (zB (wP I (wP I (wC I I (fun W1 hp=>(KC a b ha.dd hb.dd W1 (ht.hp hp)).cast (J7 hab)) ?_)))))))))))
 iterate 5 refine wP I ?_
 refine Aa (zE (zA (zA (zB (wP I (wP I (Aa (zE (zR I (zA (zB (wP I (wP I (wP I (wP I ?_)))))))))))))))
 exact Aa (zE (zO (zP (wR3 I I I))))
theorem Ff (a b c d:Int) (ha:okN a) (hb:okN b) (hc:okN c) (hd:okN d) (hab:okN (a*b)) (hcd: ¬okN (c*d)) (W:World) (ht:AL W):
  Ah Tryz.prog 122 #[str (itoa a),str (itoa b),str (itoa c),str (itoa d)] W (fun _:Unit=> .tuple #[str (itoa (a*b)),str [], .int .i64 4]) (fun _=>True) (fun _=>[]):=by
 refine Ab (args:=[str (itoa a),str (itoa b),str (itoa c),str (itoa d)]) Tryz.func122 I I I ?_
 refine zA (zB (wP I (wP I (wP I (Aa (zE (zA (zB (wP I (wP I (wC I I (fun W1 hp=>Ht a b ha.dd hb.dd hab.dd W1 (ht.hp hp)) ?_)))))))))))
 iterate 5 refine wP I ?_
 refine Aa (zE (zA (zA (zB (wP I (wP I (Aa (zE (zS I (zI (zE (zA (zB ?_)))))))))))))
 refine wP I (wP I (wC I I (fun W1 hp=>(KC c d hc.dd hd.dd W1 (ht.hp hp)).cast (J7 hcd)) ?_))
 iterate 5 refine wP I ?_
 refine Aa (zE (zA (zB ?_)))
 iterate 6 refine wP I ?_
 exact Aa (zE (zO (wR3 I I I)))
def opV (ok:Prop) [Decidable ok] (r:Rat):Value:=if ok then .tuple #[str (Ae r), .int .i64 0] else .tuple #[str [], .int .i64 4]
theorem PJ {ok:Prop} [Decidable ok] {r:Rat} (h:ok):opV ok r= .tuple #[str (Ae r), .int .i64 0]:=if_pos h
theorem Kh {ok:Prop} [Decidable ok] {r:Rat} (h: ¬ok):opV ok r= .tuple #[str [], .int .i64 4]:=if_neg h
instance (z:Int):Decidable (okN z):=inferInstanceAs (Decidable (z.natAbs<Bd))
def Fe (p q:Rat):Prop:=okN (p.num*(q.den:Nat))∧okN (q.num*(p.den:Nat))∧okN ((p.den:Nat)*(q.den:Nat))∧okN (p.num*(q.den:Nat)+q.num*(p.den:Nat))
instance (p q:Rat):Decidable (Fe p q):=inferInstanceAs (Decidable (_∧_∧_∧_))
theorem Om (p q:Rat) (hkp:okQ p) (hkq:okQ q) (W:World) (ht:AL W):
  Ah Tryz.prog 101 #[str (Ae p),str (Ae q)] W (fun _:Unit=>opV (Fe p q) (p+q)) (fun _=>True) (fun _=>[]):=by
 have hpn:=p.den_pos
 have hqn:=q.den_pos
 have ra:=I4 p q
 refine Ab (args:=[str (Ae p),str (Ae q)]) Tryz.func101 I I I ?_
 refine zA (zB (wP I (wP I (Aa (zE (zA (zB (wP I (wC I I (fun W _=>Bn hkp W) ?_)))))))))
 iterate 7 refine wP I ?_
 refine Aa (zE (zA (zB (wP I (wC I I (fun W _=>Bn hkq W) ?_)))))
 iterate 7 refine wP I ?_
 refine Aa (AB (Aw (Aw ?_)))
 refine A8 (X:=Unit) (fun _=>[(0,str (Ae p)),(1,str (Ae q)),(6, .int .i64 (iN p)),(7, .int .i64 (iD p)),(9, .int .i64 (iN q)),(10, .int .i64 (iD q)),(37, .bool (sh2 p q))]) (fun _=>[]) (fun _=>True) ?_ ?_
 ·refine zB (wP I (wP I ?_))
  refine Cr 35 I (fun h35=> ?_) (fun h35=> ?_)
  ·exact wP I (wP I (Aa (An () tO ⟨I,I,I,I,I,I,congrArg (fun b=>some (Value.bool b)) (by unfold sh2;simp_all),tO⟩ [] I)))
  ·refine Ak I I ?_
   exact wP I (Aa (An () tO ⟨I,I,I,I,I,I,congrArg (fun b=>some (Value.bool b)) (by unfold sh2;simp_all),tO⟩ [] I))
 intro _ _
 refine Ap I (fun hs=> ?_) (fun hs=> ?_)
 ·obtain⟨e1,e2,e3,e4,l1,l2,l3,l4⟩:=E1 hs
  have m1:=IB l1 (DF l4)
  have m2:=IB l3 (DF l2)
  have m3:=IB (DF l2) (DF l4)
  have hdd:((p.den:Nat):Int)*((q.den:Nat):Int)=((p.den*q.den:Nat):Int):=(Int.natCast_mul _ _).symm
  rw[hdd,Int.natAbs_natCast] at m3
  have hpq:=Nat.mul_pos hpn hqn
  rw[hdd,M1 _ hpq] at ra
  have hok:Fe p q:=⟨Cv (Nat.lt_trans (show(p.num*(q.den:Nat)).natAbs<1000000000000000000 by omega) (by decide)),Cv (Nat.lt_trans (show(q.num*(p.den:Nat)).natAbs<1000000000000000000 by omega) (by decide)),Cv (Nat.lt_trans (show(((p.den:Nat):Int)*((q.den:Nat):Int)).natAbs<1000000000000000000 by rw[hdd,Int.natAbs_natCast];omega) (by decide)),Cv (Nat.lt_trans (show(p.num*(q.den:Nat)+q.num*(p.den:Nat)).natAbs<2000000000000000001 by omega) (by decide))⟩
  refine zA (zB (wP I (wP I (wP I (wV 40 (p.num*(q.den:Nat)) I (by rw[e1,e4];exact Cy l1 (DF l4)) (wP I (wP I (wP I (wV 43 (q.num*(p.den:Nat)) I (by rw[e3,e2];exact Cy l3 (DF l2)) (wP I (wV 44 (p.num*(q.den:Nat)+q.num*(p.den:Nat)) I (As (by omega) (by omega)) (wP I (wP I (wP I ?_))))))))))))))
  exact wV 47 ((p.den*q.den:Nat):Int) I (by rw[e2,e4, ←hdd];exact Cy (DF l2) (DF l4)) (wC I I (fun W _=>(D6 (p.num*(q.den:Nat)+q.num*(p.den:Nat)) (p.den*q.den) (by omega) hpq (by omega) W).cast (v':=str (Ae (p+q))) (by rw[ra])) (wP I (wP I (Aa (zE (zO (zP (AF tH I (.tmp I) (.tmp I) () (PJ hok).symm tO fun W _=>Ao.nil _ _))))))))
 ·have hd0:((p.den:Nat):Int)*((q.den:Nat):Int)≠0:=Int.mul_ne_zero (by omega) (by omega)
  refine zI (zE (zA (zB (wP I (wC I I (fun W _=>Bf hkp W) ?_)))))
  iterate 5 refine wP I ?_
  refine Aa (zE (zA (zB (wP I (wC I I (fun W _=>Bf hkq W) ?_)))))
  iterate 5 refine wP I ?_
  refine Aa ?_
  by_cases h1:okN (p.num*(q.den:Nat))
  ·by_cases h2:okN (q.num*(p.den:Nat))
   ·refine zE (zA (zB (wP I (wP I (wP I (wP I (wC I I (fun W1 hp=>Cu p.num (q.den:Nat) q.num (p.den:Nat) hkp.1 hkq.2 hkq.1 hkp.2 h1 h2 W1 (ht.hp hp)) ?_)))))))
    iterate 7 refine wP I ?_
    refine Aa (zE (zA (zA (zB (wP I (wP I (Aa (zE (zS I (zI (zE (zA (zB ?_)))))))))))))
    by_cases h3:okN ((p.den:Nat)*(q.den:Nat))
    ·skip
     refine wP I (wP I ?_)
     refine wC I I (fun W1 hp=>by
      have h1:=Cu (p.den:Nat) (q.den:Nat) 1 1 hkp.2 hkq.2 (Cv (by decide)) (Cv (by decide)) h3 (Cv (by decide)) W1 (ht.hp hp)
      rw[show(1:Int)*1=1 from rfl,KL] at h1
      exact h1) ?_
     iterate 7 refine wP I ?_
     refine Aa (zE (zA (zA (zB ?_))))
     iterate 5 refine wP I ?_
     refine wU 82 false I (by show(!_)=false;rw[AR,dT I];rfl) (wP I (Aa (zE (zS I (zI (zE (zA (zB ?_))))))))
     by_cases h4:okN (p.num*(q.den:Nat)+q.num*(p.den:Nat))
     ·have hok:Fe p q:=⟨h1,h2,h3,h4⟩
      refine wP I (wP I (wC I I (fun W1 hp=>Km (p.num*(q.den:Nat)) (q.num*(p.den:Nat)) h1.dd h2.dd h4.dd W1 (ht.hp hp)) ?_))
      iterate 5 refine wP I ?_
      refine Aa (zE (zA (zA (zB (wP I (wP I (Aa (zE (zS I (zI (zE (zA (zB ?_)))))))))))))
      exact wP I (wP I (wC I I (fun W1 hp=>(Gu _ _ hd0 h4 h3 W1 (ht.hp hp)).cast (v':= .tuple #[str (Ae (p+q)), .int .i64 0]) (by rw[ra])) (wP I (wP I (wP I (wP I (Aa (zE (zO (AF tH I (.tmp I) (.tmp I) () (PJ hok).symm tO fun W _=>Ao.nil _ _))))))))))
     ·have hno: ¬Fe p q:=fun h=>h4 h.2.2.2
      refine wP I (wP I (wC I I (fun W1 hp=>(P7 (p.num*(q.den:Nat)) (q.num*(p.den:Nat)) h1.dd h2.dd W1 (ht.hp hp)).cast (J7 h4)) ?_))
      iterate 5 refine wP I ?_
      refine Aa (zE (zA (zA (zB (wP I (wP I (Aa (zE (zR I (zA (zB (wP I (wP I (wP I ?_))))))))))))))
      exact Aa (zE (zO (zP (AF tH I (.tmp I) (.tmp I) () (Kh hno).symm tO fun W _=>Ao.nil _ _))))
    ·have hno: ¬Fe p q:=fun h=>h3 h.2.2.1
     refine wP I (wP I ?_)
     refine wC I I (fun W1 hp=>by
      have h1:=DP (p.den:Nat) (q.den:Nat) 1 1 hkp.2 hkq.2 h3 W1 (ht.hp hp)
      rw[KL] at h1
      exact h1) ?_
     iterate 7 refine wP I ?_
     refine Aa (zE (zA (zA (zB (wP I (wP I (wP I ?_)))))))
     iterate 2 refine Ak I I ?_
     exact wP I (Aa (zE (zR I (zA (zB (wP I (wP I (wP I (Aa (zE (zO (zP (AF tH I (.tmp I) (.tmp I) () (Kh hno).symm tO fun W _=>Ao.nil _ _)))))))))))))
   ·have hno: ¬Fe p q:=fun h=>h2 h.2.1
    refine zE (zA (zB (wP I (wP I (wP I (wP I (wC I I (fun W1 hp=>Ff p.num (q.den:Nat) q.num (p.den:Nat) hkp.1 hkq.2 hkq.1 hkp.2 h1 h2 W1 (ht.hp hp)) ?_)))))))
    iterate 7 refine wP I ?_
    refine Aa (zE (zA (zA (zB (wP I (wP I (Aa (zE (zR I (zA (zB (wP I (wP I (wP I ?_))))))))))))))
    exact Aa (zE (zO (zP (AF tH I (.tmp I) (.tmp I) () (Kh hno).symm tO fun W _=>Ao.nil _ _))))
  ·have hno: ¬Fe p q:=fun h=>h1 h.1
   refine zE (zA (zB (wP I (wP I (wP I (wP I (wC I I (fun W1 hp=>DP p.num (q.den:Nat) q.num (p.den:Nat) hkp.1 hkq.2 h1 W1 (ht.hp hp)) ?_)))))))
   iterate 7 refine wP I ?_
   refine Aa (zE (zA (zA (zB (wP I (wP I (Aa (zE (zR I (zA (zB (wP I (wP I (wP I ?_))))))))))))))
   exact Aa (zE (zO (zP (AF tH I (.tmp I) (.tmp I) () (Kh hno).symm tO fun W _=>Ao.nil _ _))))
theorem Tx {q:Rat} (h:okQ q):okQ (-q):=⟨If h.1,h.2⟩
theorem ON (p q:Rat) (hkp:okQ p) (hkq:okQ q) (W:World) (ht:AL W):
  Ah Tryz.prog 43 #[str (Ae p),str (Ae q)] W (fun _:Unit=>opV (Fe p (-q)) (p-q)) (fun _=>True) (fun _=>[]):=by
 obtain⟨rs,re,hr⟩: ∃s e,opV (Fe p (-q)) (p-q)= .tuple #[str s, .int .i64 e]:=by unfold opV;split<;>exact⟨_,_,rfl⟩
 refine Ab (args:=[str (Ae p),str (Ae q)]) Tryz.func43 I I I ?_
 refine zA (zB (wP I (wP I (Aa (zE (zA (zA (zB (wP I (wP I (wC I I (fun W1 hp=>Ch hkp hkq W1 (ht.hp hp)) (wP I (Aa ?_)))))))))))))
 refine zE (zA (zB (wP I (wP I (Aa (zE (zS I (zI (zE (zA (zB (wP I (wP I ?_)))))))))))))
 exact wC I I (fun W _=>KW q (FG hkq) W) (wC I I (fun W1 hp=>(Om p (-q) hkp (Tx hkq) W1 (ht.hp hp)).cast ((congrArg (opV _) (Rat.sub_eq_add_neg p q).symm).trans hr)) (wP I (wP I (wP I (wP I (Aa (zE (zO (wR2 I I hr.symm)))))))))
-- BOXES 1
-- CODE2
def Ji (p q:Rat):Prop:=okN (p.num*q.num)∧okN ((p.den:Nat)*(q.den:Nat))
def Hh (p q:Rat):Prop:=okN (p.num*(q.den:Nat))∧okN (q.num*(p.den:Nat))
instance (p q:Rat):Decidable (Ji p q):=inferInstanceAs (Decidable (_∧_))
instance (p q:Rat):Decidable (Hh p q):=inferInstanceAs (Decidable (_∧_))
theorem M4 {p q:Rat} (hs:sh2 p q=true):okN (p.num*(q.den:Nat))∧okN (q.num*(p.den:Nat))∧okN ((p.den:Nat)*(q.den:Nat))∧okN (p.num*q.num):=by
 obtain⟨e1,e2,e3,e4,l1,l2,l3,l4⟩:=E1 hs
 exact⟨Cv (Nat.lt_trans (IB l1 (DF l4)) (by decide)),Cv (Nat.lt_trans (IB l3 (DF l2)) (by decide)),Cv (Nat.lt_trans (IB (DF l2) (DF l4)) (by decide)),Cv (Nat.lt_trans (IB l1 l3) (by decide))⟩
theorem Ny (n d m c:Int) (hn:okN n) (hd:okN d) (hm:okN m) (hc:okN c) (hno:okN (n*m)→okN (d*c)→False) (W:World) (ht:AL W):
  Ah Tryz.prog 180 #[str (itoa n),str (itoa d),str (itoa m),str (itoa c)] W (fun _:Unit=> .tuple #[str [], .int .i64 4]) (fun _=>True) (fun _=>[]):=by
 refine Ab (args:=[str (itoa n),str (itoa d),str (itoa m),str (itoa c)]) Tryz.func180 I I I ?_
 refine zA (zB (wP I (wP I (Aa (zE (zA (zB (wP I (wP I (wP I (wP I ?_)))))))))))
 by_cases h1:okN (n*m)
 ·refine wC I I (fun W1 hp=>Ff n m d c hn hm hd hc h1 (hno h1) W1 (ht.hp hp)) ?_
  iterate 7 refine wP I ?_
  refine Aa (zE (zA (zA (zB (wP I (wP I (Aa (zE (zR I (zA (zB (wP I (wP I (wP I ?_))))))))))))))
  exact Aa (zE (zO (zP (wR2 I I I))))
 ·refine wC I I (fun W1 hp=>DP n m d c hn hm h1 W1 (ht.hp hp)) ?_
  iterate 7 refine wP I ?_
  refine Aa (zE (zA (zA (zB (wP I (wP I (Aa (zE (zR I (zA (zB (wP I (wP I (wP I ?_))))))))))))))
  exact Aa (zE (zO (zP (wR2 I I I))))
theorem Pv (p q:Rat) (hkp:okQ p) (hkq:okQ q) (h:Ji p q) (W:World) (ht:AL W):
  Ah Tryz.prog 128 #[str (Ae p),str (Ae q)] W (fun _:Unit=> .tuple #[str (Ae (p*q)), .int .i64 0]) (fun _=>True) (fun _=>[]):=by
 have hpn:=p.den_pos
 have hqn:=q.den_pos
 have ra:=HT p q
 refine Ab (args:=[str (Ae p),str (Ae q)]) Tryz.func128 I I I ?_
 refine zA (zB (wP I (wP I (Aa (zE (zA (zA (zB (wP I (wP I (wC I I (fun W1 hp=>Ch hkp hkq W1 (ht.hp hp)) (wP I (Aa ?_)))))))))))))
 refine zE (zA (zB (wP I (wP I (Aa (zE (zS I (zI (zE (zA (zB (wP I (wC I I (fun W _=>Bn hkp W) ?_)))))))))))))
 iterate 7 refine wP I ?_
 refine Aa (zE (zA (zB (wP I (wC I I (fun W _=>Bn hkq W) ?_)))))
 iterate 7 refine wP I ?_
 refine Aa (AB (Aw (Aw ?_)))
 refine A8 (X:=Unit) (fun _=>[(0,str (Ae p)),(1,str (Ae q)),(7, .int .i64 (iN p)),(8, .int .i64 (iD p)),(10, .int .i64 (iN q)),(11, .int .i64 (iD q)),(38, .bool (sh2 p q))]) (fun _=>[]) (fun _=>True) ?_ ?_
 ·refine zB (wP I (wP I ?_))
  refine Cr 36 I (fun h36=> ?_) (fun h36=> ?_)
  ·exact wP I (wP I (Aa (An () tO ⟨I,I,I,I,I,I,congrArg (fun b=>some (Value.bool b)) (by unfold sh2;simp_all),tO⟩ [] I)))
  ·refine Ak I I ?_
   exact wP I (Aa (An () tO ⟨I,I,I,I,I,I,congrArg (fun b=>some (Value.bool b)) (by unfold sh2;simp_all),tO⟩ [] I))
 intro _ _
 refine Ap I (fun hs=> ?_) (fun hs=> ?_)
 ·obtain⟨e1,e2,e3,e4,l1,l2,l3,l4⟩:=E1 hs
  have m1:=IB l1 l3
  have m3:=IB (DF l2) (DF l4)
  have hdd:((p.den:Nat):Int)*((q.den:Nat):Int)=((p.den*q.den:Nat):Int):=(Int.natCast_mul _ _).symm
  rw[hdd,Int.natAbs_natCast] at m3
  have hpq:=Nat.mul_pos hpn hqn
  rw[hdd,M1 _ hpq] at ra
  refine zA (zB (wP I (wP I (wP I (wV 41 (p.num*q.num) I (by rw[e1,e3];exact Cy l1 l3) (wP I (wP I (wP I (wV 44 ((p.den*q.den:Nat):Int) I (by rw[e2,e4, ←hdd];exact Cy (DF l2) (DF l4)) (wC I I (fun W _=>(D6 (p.num*q.num) (p.den*q.den) (by omega) hpq (by omega) W).cast (v':=str (Ae (p*q))) (by rw[ra])) (wP I (wP I (Aa ?_)))))))))))))
  exact zE (zO (zP (wR2 I I I)))
 ·have hd0:((p.den:Nat):Int)*((q.den:Nat):Int)≠0:=Int.mul_ne_zero (by omega) (by omega)
  refine zI (zE (zA (zB (wP I (wC I I (fun W _=>Bf hkp W) ?_)))))
  iterate 5 refine wP I ?_
  refine Aa (zE (zA (zB (wP I (wC I I (fun W _=>Bf hkq W) ?_)))))
  iterate 5 refine wP I ?_
  refine Aa (zE (zA (zB (wP I (wP I (wP I (wP I (wC I I (fun W1 hp=>(PF p.num (p.den:Nat) q.num (q.den:Nat) hkp.1 hkp.2 hkq.1 hkq.2 h.1 h.2 hd0 W1 (ht.hp hp)).cast (v':= .tuple #[str (Ae (p*q)), .int .i64 0]) (by rw[ra])) (wP I (wP I (wP I (wP I (Aa ?_)))))))))))))
  exact zE (zO (wR2 I I I))
theorem PA (p q:Rat) (hkp:okQ p) (hkq:okQ q) (hno: ¬Ji p q) (W:World) (ht:AL W):
  Ah Tryz.prog 128 #[str (Ae p),str (Ae q)] W (fun _:Unit=> .tuple #[str [], .int .i64 4]) (fun _=>True) (fun _=>[]):=by
 refine Ab (args:=[str (Ae p),str (Ae q)]) Tryz.func128 I I I ?_
 refine zA (zB (wP I (wP I (Aa (zE (zA (zA (zB (wP I (wP I (wC I I (fun W1 hp=>Ch hkp hkq W1 (ht.hp hp)) (wP I (Aa ?_)))))))))))))
 refine zE (zA (zB (wP I (wP I (Aa (zE (zS I (zI (zE (zA (zB (wP I (wC I I (fun W _=>Bn hkp W) ?_)))))))))))))
 iterate 7 refine wP I ?_
 refine Aa (zE (zA (zB (wP I (wC I I (fun W _=>Bn hkq W) ?_)))))
 iterate 7 refine wP I ?_
 refine Aa (AB (Aw (Aw ?_)))
 refine A8 (X:=Unit) (fun _=>[(0,str (Ae p)),(1,str (Ae q)),(7, .int .i64 (iN p)),(8, .int .i64 (iD p)),(10, .int .i64 (iN q)),(11, .int .i64 (iD q)),(38, .bool (sh2 p q))]) (fun _=>[]) (fun _=>True) ?_ ?_
 ·refine zB (wP I (wP I ?_))
  refine Cr 36 I (fun h36=> ?_) (fun h36=> ?_)
  ·exact wP I (wP I (Aa (An () tO ⟨I,I,I,I,I,I,congrArg (fun b=>some (Value.bool b)) (by unfold sh2;simp_all),tO⟩ [] I)))
  ·refine Ak I I ?_
   exact wP I (Aa (An () tO ⟨I,I,I,I,I,I,congrArg (fun b=>some (Value.bool b)) (by unfold sh2;simp_all),tO⟩ [] I))
 intro _ _
 refine Ap I (fun hs=> ?_) (fun hs=> ?_)
 ·exact absurd (⟨(M4 hs).2.2.2,(M4 hs).2.2.1⟩) hno
 ·refine zI (zE (zA (zB (wP I (wC I I (fun W _=>Bf hkp W) ?_)))))
  iterate 5 refine wP I ?_
  refine Aa (zE (zA (zB (wP I (wC I I (fun W _=>Bf hkq W) ?_)))))
  iterate 5 refine wP I ?_
  refine Aa (zE (zA (zB (wP I (wP I (wP I (wP I (wC I I (fun W1 hp=>Ny p.num (p.den:Nat) q.num (q.den:Nat) hkp.1 hkp.2 hkq.1 hkq.2 (fun h1 h2=>hno ⟨h1,h2⟩) W1 (ht.hp hp)) (wP I (wP I (wP I (wP I (Aa ?_)))))))))))))
  exact zE (zO (wR2 I I I))
theorem Pz (p q:Rat) (hkp:okQ p) (hkq:okQ q) (h:Hh p q) (W:World) (ht:AL W):
  Ah Tryz.prog 56 #[str (Ae p),str (Ae q)] W (fun _:Unit=> .tuple #[.int .i64 (Dy p q), .int .i64 0]) (fun _=>True) (fun _=>[]):=by
 have hpn:=p.den_pos
 have hqn:=q.den_pos
 rw[←O5]
 obtain⟨x,hx⟩: ∃x,p.num*((q.den:Nat):Int)=x:=⟨_,rfl⟩
 obtain⟨y,hy⟩: ∃y,q.num*((p.den:Nat):Int)=y:=⟨_,rfl⟩
 rw[hx,hy]
 refine Ab (args:=[str (Ae p),str (Ae q)]) Tryz.func56 I I I ?_
 refine zA (zB (wP I (wP I (Aa (zE (zA (zA (zB (wP I (wP I (wC I I (fun W1 hp=>Ch hkp hkq W1 (ht.hp hp)) (wP I (Aa ?_)))))))))))))
 refine zE (zA (zB (wP I (wP I (Aa (zE (zS I (zI (zE (zA (zB (wP I (wC I I (fun W _=>Bn hkp W) ?_)))))))))))))
 iterate 7 refine wP I ?_
 refine Aa (zE (zA (zB (wP I (wC I I (fun W _=>Bn hkq W) ?_)))))
 iterate 7 refine wP I ?_
 refine Aa (AB (Aw (Aw ?_)))
 refine A8 (X:=Unit) (fun _=>[(0,str (Ae p)),(1,str (Ae q)),(7, .int .i64 (iN p)),(8, .int .i64 (iD p)),(10, .int .i64 (iN q)),(11, .int .i64 (iD q)),(41, .bool (sh2 p q))]) (fun _=>[]) (fun _=>True) ?_ ?_
 ·refine zB (wP I (wP I ?_))
  refine Cr 39 I (fun h39=> ?_) (fun h39=> ?_)
  ·exact wP I (wP I (Aa (An () tO ⟨I,I,I,I,I,I,congrArg (fun b=>some (Value.bool b)) (by unfold sh2;simp_all),tO⟩ [] I)))
  ·refine Ak I I ?_
   exact wP I (Aa (An () tO ⟨I,I,I,I,I,I,congrArg (fun b=>some (Value.bool b)) (by unfold sh2;simp_all),tO⟩ [] I))
 intro _ _
 refine Ap I (fun hs=> ?_) (fun hs=> ?_)
 ·obtain⟨e1,e2,e3,e4,l1,l2,l3,l4⟩:=E1 hs
  have w1:w64 (iN p*iD q)=x:=by rw[e1,e4, ←hx];exact Cy l1 (DF l4)
  have w2:w64 (iN q*iD p)=y:=by rw[e3,e2, ←hy];exact Cy l3 (DF l2)
  refine zA (zH (zA (zB (wP I (wP I (wP I (wV 45 x I w1 (wP I (wP I (wP I (wV 48 y I w2 (wP I ?_))))))))))))
  by_cases h1:x<y
  ·exact wU 49 true I (dT h1) (wP I (Aa (zE (zR I (zA (zB (wP I (wP I (Aa (zE (zO (zQ (zP (zP (wR2 I I (by rw[EE,if_pos h1]))))))))))))))))
  refine wU 49 false I (dF h1) (wP I (Aa (zE (zS I (zA (zB (wP I (wP I (wP I (wV 53 x I w1 (wP I (wP I (wP I ?_)))))))))))))
  refine wV 56 y I w2 (wP I ?_)
  by_cases h2:y<x
  ·exact wU 57 true I (dT h2) (wP I (Aa (zE (zR I (zA (zB (wP I (wP I (Aa (zE (zO (zQ (zP (zP (wR2 I I (by rw[EE,if_neg h1,if_neg (by omega)]))))))))))))))))
  refine wU 57 false I (dF h2) (wP I (Aa (zE (zS I (zI (zN (zE (zA (zB (wP I (wP I (Aa (zE ?_)))))))))))))
  exact zO (zP (wR2 I I (by rw[EE,if_neg h1,if_pos (by omega)])))
 ·refine zI (zE (zA (zB (wP I (wC I I (fun W _=>Bf hkp W) ?_)))))
  iterate 5 refine wP I ?_
  refine Aa (zE (zA (zB (wP I (wC I I (fun W _=>Bf hkq W) ?_)))))
  iterate 5 refine wP I ?_
  refine Aa (zE (zA (zB (wP I (wP I (wP I (wP I (wC I I (fun W1 hp=>(Cu p.num (q.den:Nat) q.num (p.den:Nat) hkp.1 hkq.2 hkq.1 hkp.2 h.1 h.2 W1 (ht.hp hp)).cast (v':= .tuple #[str (itoa x),str (itoa y), .int .i64 0]) (by rw[hx,hy])) ?_))))))))
  iterate 7 refine wP I ?_
  refine Aa (zE (zA (zA (zB (wP I (wP I (Aa (zE (zS I (zI (zE (zA (zB ?_)))))))))))))
  exact wP I (wP I (wC I I (fun W1 hp=>Kv x y (by rw[←hx];exact h.1.dd) (by rw[←hy];exact h.2.dd) W1) (wP I (wP I (wP I (wP I (Aa (zE (zO (wR2 I I I))))))))))
theorem Po (p q:Rat) (hkp:okQ p) (hkq:okQ q) (hno: ¬Hh p q) (W:World) (ht:AL W):
  Ah Tryz.prog 56 #[str (Ae p),str (Ae q)] W (fun _:Unit=> .tuple #[.int .i64 0, .int .i64 4]) (fun _=>True) (fun _=>[]):=by
 refine Ab (args:=[str (Ae p),str (Ae q)]) Tryz.func56 I I I ?_
 refine zA (zB (wP I (wP I (Aa (zE (zA (zA (zB (wP I (wP I (wC I I (fun W1 hp=>Ch hkp hkq W1 (ht.hp hp)) (wP I (Aa ?_)))))))))))))
 refine zE (zA (zB (wP I (wP I (Aa (zE (zS I (zI (zE (zA (zB (wP I (wC I I (fun W _=>Bn hkp W) ?_)))))))))))))
 iterate 7 refine wP I ?_
 refine Aa (zE (zA (zB (wP I (wC I I (fun W _=>Bn hkq W) ?_)))))
 iterate 7 refine wP I ?_
 refine Aa (AB (Aw (Aw ?_)))
 refine A8 (X:=Unit) (fun _=>[(0,str (Ae p)),(1,str (Ae q)),(7, .int .i64 (iN p)),(8, .int .i64 (iD p)),(10, .int .i64 (iN q)),(11, .int .i64 (iD q)),(41, .bool (sh2 p q))]) (fun _=>[]) (fun _=>True) ?_ ?_
 ·refine zB (wP I (wP I ?_))
  refine Cr 39 I (fun h39=> ?_) (fun h39=> ?_)
  ·exact wP I (wP I (Aa (An () tO ⟨I,I,I,I,I,I,congrArg (fun b=>some (Value.bool b)) (by unfold sh2;simp_all),tO⟩ [] I)))
  ·refine Ak I I ?_
   exact wP I (Aa (An () tO ⟨I,I,I,I,I,I,congrArg (fun b=>some (Value.bool b)) (by unfold sh2;simp_all),tO⟩ [] I))
 intro _ _
 refine Ap I (fun hs=> ?_) (fun hs=> ?_)
 ·exact absurd (⟨(M4 hs).1,(M4 hs).2.1⟩) hno
 ·refine zI (zE (zA (zB (wP I (wC I I (fun W _=>Bf hkp W) ?_)))))
  iterate 5 refine wP I ?_
  refine Aa (zE (zA (zB (wP I (wC I I (fun W _=>Bf hkq W) ?_)))))
  iterate 5 refine wP I ?_
  refine Aa (zE (zA (zB (wP I (wP I (wP I (wP I ?_)))))))
  by_cases h1:okN (p.num*(q.den:Nat))
  ·refine wC I I (fun W1 hp=>Ff p.num (q.den:Nat) q.num (p.den:Nat) hkp.1 hkq.2 hkq.1 hkp.2 h1 (fun h2=>hno ⟨h1,h2⟩) W1 (ht.hp hp)) ?_
   iterate 7 refine wP I ?_
   refine Aa (zE (zA (zA (zB (wP I (wP I (Aa (zE (zR I (zA (zB (wP I (wP I (wP I ?_))))))))))))))
   exact Aa (zE (zO (zP (wR2 I I I))))
  ·refine wC I I (fun W1 hp=>DP p.num (q.den:Nat) q.num (p.den:Nat) hkp.1 hkq.2 h1 W1 (ht.hp hp)) ?_
   iterate 7 refine wP I ?_
   refine Aa (zE (zA (zA (zB (wP I (wP I (Aa (zE (zR I (zA (zB (wP I (wP I (wP I ?_))))))))))))))
   exact Aa (zE (zO (zP (wR2 I I I))))
def cmV (p q:Rat):Value:=if Hh p q then .tuple #[.int .i64 (Dy p q), .int .i64 0] else .tuple #[.int .i64 0, .int .i64 4]
theorem PG (p q:Rat) (hkp:okQ p) (hkq:okQ q) (W:World) (ht:AL W):
  Ah Tryz.prog 128 #[str (Ae p),str (Ae q)] W (fun _:Unit=>opV (Ji p q) (p*q)) (fun _=>True) (fun _=>[]):=by
 by_cases h:Ji p q
 ·exact(Pv p q hkp hkq h W ht).cast (PJ h).symm
 ·exact(PA p q hkp hkq h W ht).cast (Kh h).symm
theorem Ph (p q:Rat) (hkp:okQ p) (hkq:okQ q) (W:World) (ht:AL W):
  Ah Tryz.prog 56 #[str (Ae p),str (Ae q)] W (fun _:Unit=>cmV p q) (fun _=>True) (fun _=>[]):=by
 by_cases h:Hh p q
 ·exact(Pz p q hkp hkq h W ht).cast (if_pos h).symm
 ·exact(Po p q hkp hkq h W ht).cast (if_neg h).symm
-- BOXES 5
theorem Rd {p q:Rat}:Fe p (-q)↔Hh p q∧okN (p.num*(q.den:Nat)-q.num*(p.den:Nat))∧okN ((p.den:Nat)*(q.den:Nat)):=by
 have e:(-q).num= -q.num:=rfl
 have d:(-q).den=q.den:=rfl
 unfold Fe Hh okN
 rw[e,d,Int.neg_mul,Int.natAbs_neg, ←Int.sub_eq_add_neg]
 exact⟨fun h=>⟨⟨h.1,h.2.1⟩,h.2.2.2,h.2.2.1⟩,fun h=>⟨h.1.1,h.1.2,h.2.2,h.2.1⟩⟩
theorem Qa (ok:Prop) [Decidable ok] (r:Rat): ∃s e,opV ok r= .tuple #[str s, .int .i64 e]:=by unfold opV;split<;>exact⟨_,_,rfl⟩
-- BOXES 5
-- CODE2
def nmV:Option Rat→Value
 |some q=> .agg #[str (Ae q), .int .i64 0]
 |none=> .agg #[str [], .int .i64 4]
def okO:Option Rat→Prop
 |some q=>okQ q
 |none=>True
@[irreducible] def opO (ok : Prop) [Decidable ok] (r : Rat) : Option Rat := if ok then some r else none
theorem S3 {ok:Prop} [Decidable ok] {r:Rat} {s:List UInt8} {e:Int} (h:opV ok r= .tuple #[str s, .int .i64 e]):Value.agg #[str s, .int .i64 e]=nmV (opO ok r):=by
 unfold opV at h
 unfold opO
 split at h
 ·rename_i c
  rw[if_pos c]
  injection h with h
  rw[nmV, ←h]
 ·rename_i c
  rw[if_neg c]
  injection h with h
  rw[nmV, ←h]
def PT (p q:Rat):Prop:=Fe p (-q)
instance (p q:Rat):Decidable (PT p q):=inferInstanceAs (Decidable (Fe p (-q)))
def BH:Option Rat→Option Rat→Option Rat
 |some p,some q=>opO (PT p q) (p-q)
 |_,_=>none
def Ef:Option Rat→Option Rat→Option Rat
 |some p,some q=>opO (Ji p q) (p*q)
 |_,_=>none
theorem Dm (q:Rat) (W:World):Ah Tryz.prog 62 #[str (Ae q)] W (fun _:Unit=>nmV (some q)) (fun _=>True) (fun _=>[]):=by
 refine Ab (args:=[str (Ae q)]) Tryz.func62 I I I ?_
 refine zA (zB ?_)
 (refine Ag Tryz.hZ rfl rfl rfl rfl ?_;intro)
 refine Aa (zE (zA (zB (wP I ?_))))
 refine Av Tryz.hZ tH I I I I I I I I ?_
 exact wS 0 I I I (Aa (zE (zO (Ay tH I (.cell 0 I I I I I) () I tO fun W _=>Ao.nil _ _))))
theorem Eo (a b:Option Rat) (ha:okO a) (hb:okO b) (W:World) (ht:AL W):
  Ah Tryz.prog 61 #[nmV a,nmV b] W (fun _:Unit=>nmV (BH a b)) (fun _=>True) (fun _=>[]):=by
 cases a with
 |none=>
  refine Ab (args:=[nmV none,nmV b]) Tryz.func61 I I I ?_
  refine zA (zB ?_)
  (refine A5 rfl rfl rfl rfl ?_;intro)
  (refine A5 rfl rfl rfl rfl ?_;intro)
  (refine Ag Tryz.hZ rfl rfl rfl rfl ?_;intro)
  refine Aa (zE (zA (zA (zB (wP I (wB 0 I I I (wP I (Aa (zE (zR I (zA (zB (wB 0 I I I ?_)))))))))))))
  exact wS 2 I I I (Aa (zE (zO (zP (Ay tH I (.cell 2 I I I I I) () I tO fun W _=>Ao.nil _ _)))))
 |some p=>
  cases b with
  |none=>
   refine Ab (args:=[nmV (some p),nmV none]) Tryz.func61 I I I ?_
   refine zA (zB ?_)
   (refine A5 rfl rfl rfl rfl ?_;intro)
   (refine A5 rfl rfl rfl rfl ?_;intro)
   (refine Ag Tryz.hZ rfl rfl rfl rfl ?_;intro)
   refine Aa (zE (zA (zA (zB (wP I (wB 0 I I I (wP I (Aa (zE (zS I (zI (zE (zA (zA ?_))))))))))))))
   refine zB (wP I (wB 1 I I I (wP I (Aa (zE (zR I (zA (zB (wB 1 I I I (wS 2 I I I (Aa (zE (zO ?_)))))))))))))
   exact zP (Ay tH I (.cell 2 I I I I I) () I tO fun W _=>Ao.nil _ _)
  |some q=>
   obtain⟨rs,re,hr⟩:=Qa (PT p q) (p-q)
   have hv:Value.agg #[str rs, .int .i64 re]=nmV (BH (some p) (some q)):=S3 hr
   rw[←hv]
   refine Ab (args:=[nmV (some p),nmV (some q)]) Tryz.func61 I I I ?_
   refine zA (zB ?_)
   (refine A5 rfl rfl rfl rfl ?_;intro)
   (refine A5 rfl rfl rfl rfl ?_;intro)
   (refine Ag Tryz.hZ rfl rfl rfl rfl ?_;intro)
   refine Aa (zE (zA (zA (zB (wP I (wB 0 I I I (wP I (Aa (zE (zS I (zI (zE (zA (zA ?_))))))))))))))
   refine zB (wP I (wB 1 I I I (wP I (Aa (zE (zS I (zI (zE (zA (zB (wP I (wB 0 I I I (wP I ?_)))))))))))))
   refine wB 1 I I I (wC I I (fun W hp=>(ON p q ha hb W (ht.hp hp)).cast hr) ?_)
   iterate 5 refine wP I ?_
   refine Aa (zE (zA (zB (wP I (wP I ?_)))))
   refine Av Tryz.hZ tH I I I I I I I I ?_
   exact wS 2 I I I (Aa (zE (zO (Ay tH I (.cell 2 I I I I I) () I tO fun W _=>Ao.nil _ _))))
theorem HN (a b:Option Rat) (ha:okO a) (hb:okO b) (W:World) (ht:AL W):
  Ah Tryz.prog 64 #[nmV a,nmV b] W (fun _:Unit=>nmV (Ef a b)) (fun _=>True) (fun _=>[]):=by
 cases a with
 |none=>
  refine Ab (args:=[nmV none,nmV b]) Tryz.func64 I I I ?_
  refine zA (zB ?_)
  (refine A5 rfl rfl rfl rfl ?_;intro)
  (refine A5 rfl rfl rfl rfl ?_;intro)
  (refine Ag Tryz.hZ rfl rfl rfl rfl ?_;intro)
  refine Aa (zE (zA (zA (zB (wP I (wB 0 I I I (wP I (Aa (zE (zR I (zA (zB (wB 0 I I I ?_)))))))))))))
  exact wS 2 I I I (Aa (zE (zO (zP (Ay tH I (.cell 2 I I I I I) () I tO fun W _=>Ao.nil _ _)))))
 |some p=>
  cases b with
  |none=>
   refine Ab (args:=[nmV (some p),nmV none]) Tryz.func64 I I I ?_
   refine zA (zB ?_)
   (refine A5 rfl rfl rfl rfl ?_;intro)
   (refine A5 rfl rfl rfl rfl ?_;intro)
   (refine Ag Tryz.hZ rfl rfl rfl rfl ?_;intro)
   refine Aa (zE (zA (zA (zB (wP I (wB 0 I I I (wP I (Aa (zE (zS I (zI (zE (zA (zA ?_))))))))))))))
   refine zB (wP I (wB 1 I I I (wP I (Aa (zE (zR I (zA (zB (wB 1 I I I (wS 2 I I I (Aa (zE (zO ?_)))))))))))))
   exact zP (Ay tH I (.cell 2 I I I I I) () I tO fun W _=>Ao.nil _ _)
  |some q=>
   obtain⟨rs,re,hr⟩:=Qa (Ji p q) (p*q)
   have hv:Value.agg #[str rs, .int .i64 re]=nmV (Ef (some p) (some q)):=S3 hr
   rw[←hv]
   refine Ab (args:=[nmV (some p),nmV (some q)]) Tryz.func64 I I I ?_
   refine zA (zB ?_)
   (refine A5 rfl rfl rfl rfl ?_;intro)
   (refine A5 rfl rfl rfl rfl ?_;intro)
   (refine Ag Tryz.hZ rfl rfl rfl rfl ?_;intro)
   refine Aa (zE (zA (zA (zB (wP I (wB 0 I I I (wP I (Aa (zE (zS I (zI (zE (zA (zA ?_))))))))))))))
   refine zB (wP I (wB 1 I I I (wP I (Aa (zE (zS I (zI (zE (zA (zB (wP I (wB 0 I I I (wP I ?_)))))))))))))
   refine wB 1 I I I (wC I I (fun W hp=>(PG p q ha hb W (ht.hp hp)).cast hr) ?_)
   iterate 5 refine wP I ?_
   refine Aa (zE (zA (zB (wP I (wP I ?_)))))
   refine Av Tryz.hZ tH I I I I I I I I ?_
   exact wS 2 I I I (Aa (zE (zO (Ay tH I (.cell 2 I I I I I) () I tO fun W _=>Ao.nil _ _))))
-- BOXES 5
-- CODE2
theorem PU {z d:Int} (hd:d≠0) (hz:okN z) (hk:okN d):okQ (nrm z d):=(GR (k:=mxd) z hd hz hk).ok (by decide)
theorem C6 {q:Rat}:okO (some q)↔okQ q:=Iff.rfl
theorem Sl {ok:Prop} [Decidable ok] {r:Rat} (h:ok→okQ r):okO (opO ok r):=by
 unfold opO
 by_cases c:ok
 ·rw[if_pos c];exact C6.2 (h c)
 ·rw[if_neg c];trivial
theorem QH {p q:Rat} (h:PT p q):okQ (p-q):=by
 rw[←JE]
 have h':=Rd.1 h
 exact PU DN h'.2.1 h'.2.2
theorem QT {p q:Rat} (h:Ji p q):okQ (p*q):=by
 rw[←HT]
 exact PU DN h.1 h.2
theorem GT (a b:Option Rat):okO (BH a b):=by
 cases a with
 |none=>trivial
 |some p=>cases b with
  |none=>trivial
  |some q=>rw[BH];exact Sl QH
theorem LI (a b:Option Rat):okO (Ef a b):=by
 cases a with
 |none=>trivial
 |some p=>cases b with
  |none=>trivial
  |some q=>rw[Ef];exact Sl QT
theorem Qu (a:Option Rat): ∃s e,nmV a= .agg #[str s, .int .i64 e]∧(a=none∧s=[]∧e=4∨ ∃x,a=some x∧s=Ae x∧e=0):=by
 cases a with
 |none=>exact⟨[],4,rfl,Or.inl ⟨rfl,rfl,rfl⟩⟩
 |some x=>exact⟨Ae x,0,rfl,Or.inr ⟨x,rfl,rfl,rfl⟩⟩
def tA (p q r:Aj):Option Rat:=Ef (BH (some q.1) (some p.1)) (BH (some r.2) (some p.2))
def tB (p q r:Aj):Option Rat:=Ef (BH (some q.2) (some p.2)) (BH (some r.1) (some p.1))
def tnV (p q r:Aj):Value:=match tA p q r,tB p q r with
 |some x,some y=>cmV x y
 |_,_=> .tuple #[.int .i64 0, .int .i64 4]
def okP (p:Aj):Prop:=okQ p.1∧okQ p.2
theorem SV (x y:Rat): ∃s e,cmV x y= .tuple #[.int .i64 s, .int .i64 e]:=by unfold cmV;split<;>exact⟨_,_,rfl⟩
theorem No (p q r:Aj) (hp:okP p) (hq:okP q) (hr:okP r) (W:World) (ht:AL W):
  Ah Tryz.prog 93 #[cvV p,cvV q,cvV r] W (fun _:Unit=>tnV p q r) (fun _=>True) (fun _=>[]):=by
 obtain⟨sa,ea,va,ca⟩:=Qu (Ef (BH (some q.1) (some p.1)) (BH (some r.2) (some p.2)))
 obtain⟨sb,eb,vb,cb⟩:=Qu (Ef (BH (some q.2) (some p.2)) (BH (some r.1) (some p.1)))
 refine Ab (args:=[cvV p,cvV q,cvV r]) Tryz.func93 I I I ?_
 refine zA (zB ?_)
 (refine A5 rfl rfl rfl rfl ?_;intro)
 (refine A5 rfl rfl rfl rfl ?_;intro)
 (refine A5 rfl rfl rfl rfl ?_;intro)
 refine wP I (wP I (Aa ?_))
 rename_i b3 b4 b5
 refine zE (Aw ?_)
 refine AZ (X:=Nat) [true,true,true,true,true,true,true,true,true,true,true,true,true,true,true,false,false] (fun b=>[(3,Ai b3),(4,Ai b4),(5,Ai b5),(8,Ai b)]) (fun b=>[⟨b3,35,(cvV p).cells.toList,true,none⟩,⟨b4,35,(cvV q).cells.toList,true,none⟩,⟨b5,35,(cvV r).cells.toList,true,none⟩,⟨b,84,[str sa, .int .i64 ea],true,none⟩])
   2 [⟨b3,35,(cvV p).cells.toList,true,none⟩,⟨b4,35,(cvV q).cells.toList,true,none⟩,⟨b5,35,(cvV r).cells.toList,true,none⟩] Tryz.mixed (by kernel_rfl) ?_ ?_
 ·refine qP I (qB 1 I I I (qC I I (fun W hp=>Dm q.1 W) (qP I (qB 0 I I I (qC I I (fun W hp=>Dm p.1 W) (qC I I (fun W h=>Eo (some q.1) (some p.1) (C6.2 hq.1) (C6.2 hp.1) W (ht.hp h)) (qP I (qB 2 I I I (qC I I (fun W hp=>Dm r.2 W) (qP I (qB 0 I I I (qC I I (fun W hp=>Dm p.2 W) (qC I I (fun W h=>Eo (some r.2) (some p.2) (C6.2 hr.2) (C6.2 hp.2) W (ht.hp h)) ?_)))))))))))))
  refine qC I I (fun W h=>(HN (BH (some q.1) (some p.1)) (BH (some r.2) (some p.2)) (GT _ _) (GT _ _) W (ht.hp h)).cast va) (Cm (wX (wZ ?_)))
  refine Ag Tryz.hZ rfl rfl rfl rfl ?_;intro b
  refine Aa (Ac (wX (wZ (wS 3 I I I (Aa (Ac ?_))))))
  refine A4 I (by((repeat (first|refine A9.same ?_|refine A9.off I ?_));exact tO)) ?_
  exact At b ⟨I,I,I,I,tO⟩ [0,1,2,3] (by decide) I
 intro b8
 refine zE (Aw ?_)
 refine AZ (X:=Nat) [true,true,true,true,true,true,true,true,true,true,true,true,true,true,true,false,false] (fun b=>[(8,Ai b8),(9,Ai b)]) (fun b=>[⟨b3,35,(cvV p).cells.toList,true,none⟩,⟨b4,35,(cvV q).cells.toList,true,none⟩,⟨b5,35,(cvV r).cells.toList,true,none⟩,⟨b8,84,[str sa, .int .i64 ea],true,none⟩,⟨b,84,[str sb, .int .i64 eb],true,none⟩])
   2 [⟨b3,35,(cvV p).cells.toList,true,none⟩,⟨b4,35,(cvV q).cells.toList,true,none⟩,⟨b5,35,(cvV r).cells.toList,true,none⟩,⟨b8,84,[str sa, .int .i64 ea],true,none⟩] Tryz.mixed (by kernel_rfl) ?_ ?_
 ·refine qP I (qB 1 I I I (qC I I (fun W hp=>Dm q.2 W) (qP I (qB 0 I I I (qC I I (fun W hp=>Dm p.2 W) (qC I I (fun W h=>Eo (some q.2) (some p.2) (C6.2 hq.2) (C6.2 hp.2) W (ht.hp h)) (qP I (qB 2 I I I (qC I I (fun W hp=>Dm r.1 W) (qP I (qB 0 I I I (qC I I (fun W hp=>Dm p.1 W) (qC I I (fun W h=>Eo (some r.1) (some p.1) (C6.2 hr.1) (C6.2 hp.1) W (ht.hp h)) ?_)))))))))))))
  refine qC I I (fun W h=>(HN (BH (some q.2) (some p.2)) (BH (some r.1) (some p.1)) (GT _ _) (GT _ _) W (ht.hp h)).cast vb) (Cm (wX (wZ ?_)))
  refine Ag Tryz.hZ rfl rfl rfl rfl ?_;intro b
  refine Aa (Ac (wX (wZ (wS 4 I I I (Aa (Ac ?_))))))
  refine A4 I (by((repeat (first|refine A9.same ?_|refine A9.off I ?_));exact tO)) ?_
  exact At b ⟨I,I,tO⟩ [0,1,2,3,4] (by decide) I
 intro b9
 refine zE (zA (zA (zB ?_)))
 rcases ca with⟨ha,rfl,rfl⟩|⟨x,ha,rfl,rfl⟩
 ·skip
  refine wP I (wB 3 I I I (wP I (Aa (zE (zR I (zA (zU (qP I (qB 3 I I I (qP I (qP I (AP (Aa ?_)))))))))))))
  exact zE (zO (zP (wR2 I I (by rw[tnV,tA,ha]))))
 rcases cb with⟨hb,rfl,rfl⟩|⟨y,hb,rfl,rfl⟩
 ·skip
  refine wP I (wB 3 I I I (wP I (Aa (zE (zS I (zI (zE (zA (zA (zB (wP I (wB 4 I I I (wP I ?_)))))))))))))
  exact Aa (zE (zR I (zA (zU (qP I (qB 4 I I I (qP I (qP I (AP (Aa (zE (zO (zP (wR2 I I (by rw[tnV,tA,tB,ha,hb])))))))))))))))
 obtain⟨rs,re,hv⟩:=SV x y
 have hx:okQ x:=by have h:=LI (BH (some q.1) (some p.1)) (BH (some r.2) (some p.2));rw[ha] at h;exact C6.1 h
 have hy:okQ y:=by have h:=LI (BH (some q.2) (some p.2)) (BH (some r.1) (some p.1));rw[hb] at h;exact C6.1 h
 refine wP I (wB 3 I I I (wP I (Aa (zE (zS I (zI (zE (zA (zA (zB (wP I (wB 4 I I I (wP I ?_)))))))))))))
 refine Aa (zE (zS I (zI (zE (zA (zB (wP I (wB 3 I I I (wP I (wB 4 I I I (wC I I (fun W h=>(Ph x y hx hy W (ht.hp h)).cast hv) (wP I (wP I (wP I (wP I ?_)))))))))))))))
 exact Aa (zE (zO (wR2 I I (by rw[tnV,tA,tB,ha,hb];exact hv.symm))))
-- BOXES 5
-- CODE2
def Gh (a:List UInt8):Bool:=(decide (12<a.length)&&decide (a.length<299))||decide (604<a.length)
theorem Io (a:List UInt8) (W:World):Ah Tryz.prog 125 #[str a] W (fun _:Unit=> .bool (Gh a)) (fun _=>True) (fun _=>[]):=by
 refine Ab (args:=[str a]) Tryz.func125 I I I ?_
 refine zA (zB (wP I (Aa (zE (zA (zB (wP I (wP I ?_))))))))
 refine Af 4 (.int .i64 (a.length:Nat)) I (congrArg (fun n:Nat=>Value.int .i64 (n:Int)) (Au _)) ?_
 refine wP I ?_
 by_cases h1:12<a.length
 ·refine wU 5 true I (dT (by omega)) (wP I (wP I (wP I ?_)))
  refine Af 8 (.int .i64 (a.length:Nat)) I (congrArg (fun n:Nat=>Value.int .i64 (n:Int)) (Au _)) ?_
  refine wP I ?_
  by_cases h2:a.length<299
  ·refine wU 9 true I (dT (by omega)) (wP I (wP I ?_))
   iterate 3 refine Ak I I ?_
   exact wP I (wP I (Aa (zE (zO (wR1 I I (by unfold Gh;rw[dT h1,dT h2];rfl))))))
  ·refine wU 9 false I (dF (by omega)) (wP I (wP I (wP I (wP I ?_))))
   refine Af 13 (.int .i64 (a.length:Nat)) I (congrArg (fun n:Nat=>Value.int .i64 (n:Int)) (Au _)) ?_
   exact wP I (wU 14 (decide (604<a.length)) I (decide_eq_decide.2 (by omega)) (wP I (wP I (Aa (zE (zO (wR1 I I (by unfold Gh;rw[dT h1,dF h2];rfl))))))))
 ·refine wU 5 false I (dF (by omega)) (wP I ?_)
  iterate 3 refine Ak I I ?_
  refine wP I (wP I (wP I (wP I ?_)))
  refine Af 13 (.int .i64 (a.length:Nat)) I (congrArg (fun n:Nat=>Value.int .i64 (n:Int)) (Au _)) ?_
  exact wP I (wU 14 (decide (604<a.length)) I (decide_eq_decide.2 (by omega)) (wP I (wP I (Aa (zE (zO (wR1 I I (by unfold Gh;rw[dF h1];rfl))))))))
abbrev PtS:=List UInt8×List UInt8
def Gl (W:World) (p:Option Addr) (l:List PtS):Prop:=l=[]∨ ∃b off,p=some ⟨b,off,none⟩∧ ∀i (hi:i<l.length),Al W b (off+i*2) [str l[i].1,str l[i].2]
theorem Gl.hp {W0 W:World} {bxs:List Bx} {p:Option Addr} {l:List PtS} (h:Gl W0 p l) (hp:Hp W0 bxs W):Gl W p l:=by
 rcases h with h|⟨b,off,e,h⟩
 ·exact Or.inl h
 ·exact Or.inr ⟨b,off,e,fun i hi=>(h i hi).hp hp⟩
def Jt (x:PtS):Bool:=Gh x.1||Gh x.2
def Jf (l:List PtS):Bool:=l.any Jt||decide (8<l.length)
theorem Lz (W:World) (p:Option Addr) (cap:Nat) (l:List PtS) (hA:Gl W p l) (hn:l.length<4611686018427387904):Ah Tryz.prog 58 #[slv p l.length cap] W (fun _:Unit=> .bool (Jf l)) (fun _=>True) (fun _=>[]):=by
 refine Ab (args:=[slv p l.length cap]) Tryz.func58 I I I ?_
 refine zA (zB (wP I (Aa (zE (zA (zA (zB (wP I (Aa (zE (zH ?_)))))))))))
 refine A6 (X:=Nat) (fun i=>[(0,slv p l.length cap),(3, .int .i64 (i:Nat))]) (fun _=>[]) (fun i=>i≤l.length∧ ∀j (hj:j<l.length),j<i→Jt l[j]=false) (fun i=>l.length-i) 0 ⟨Nat.zero_le _,fun j _ h=>by omega⟩ ⟨I,I,tO⟩ [] I ?_
 rintro i ⟨hi,hno⟩
 have hi:i≤l.length:=hi
 refine zA (zA (zB (wP I (wP I (wP I (wP I ?_))))))
 by_cases hlt:i<l.length
 ·refine wU 7 true I (dT (by omega)) (Aa (zE (zR I (zI (zE (zA (zH (zA (zB ?_)))))))))
  obtain⟨b,off,rfl,hrow⟩: ∃b off,p=some ⟨b,off,none⟩∧ ∀i (hi:i<l.length),Al W b (off+i*2) [str l[i].1,str l[i].2]:=by
   rcases hA with h|h
   ·rw[h] at hlt;exact absurd hlt (by simp)
   ·exact h
  have hr:=hrow i hlt
  obtain⟨x,hx⟩: ∃x,l[i]=x:=⟨_,rfl⟩
  rw[hx] at hr
  refine wP I (wP I ?_)
  refine wJ ?_
  refine wP I (wL 0 I I (fun W1 hp=>hr.hp hp) I (wC I I (fun W1 _=>Io x.1 W1) ?_))
  have next:Gh x.1=false→Gh x.2=false→ ∀j (hj:j<l.length),j<i+1→Jt l[j]=false:=by
   intro h1 h2 j hj hji
   rcases Nat.lt_or_ge j i with q|q
   ·exact hno j hj q
   ·obtain rfl:j=i:=by omega
    rw[hx,Jt,h1,h2];rfl
  cases h1:Gh x.1 with
  |true=>
   refine wP I ?_
   iterate 6 refine Ak I I ?_
   refine wP I (Aa (zE (zR I (zA (zB (wP I (Aa (zE (zO (zQ (zP (zP (zQ ?_)))))))))))))
   refine zP ?_
   exact Ay tH I (.tmp I) () (by
    have:l.any Jt=true:=List.any_eq_true.2 ⟨l[i],List.getElem_mem _,by rw[hx,Jt,h1];rfl⟩
    rw[Jf,this];rfl) trivial fun W _=>Ao.nil _ _
  |false=>
   refine wP I (wP I (wP I ?_))
   refine wJ ?_
   refine wP I (wL 1 I I (fun W1 hp=>hr.hp hp) I (wC I I (fun W1 _=>Io x.2 W1) ?_))
   cases h2:Gh x.2 with
   |true=>
    refine wP I (Aa (zE (zR I (zA (zB (wP I (Aa (zE (zO (zQ (zP (zP (zQ ?_)))))))))))))
    refine zP ?_
    exact Ay tH I (.tmp I) () (by
     have:l.any Jt=true:=List.any_eq_true.2 ⟨l[i],List.getElem_mem _,by rw[hx,Jt,h1,h2];rfl⟩
     rw[Jf,this];rfl) trivial fun W _=>Ao.nil _ _
   |false=>
    exact wP I (Aa (zE (zS I (zI (zN (zE (zB (wP I (wP I (wV 9 ((i+1:Nat):Int) I (Ax (by omega)) (wP I (Aa (Az (i+1) ⟨hlt,next h1 h2⟩ (by show l.length-(i+1)<l.length-i;omega) ⟨I,I,tO⟩ [] I)))))))))))))
 ·refine wU 7 false I (dF (by omega)) (Aa (zE (zS I (zJ (zK (zK (zL (zE (zA (zB (wP I (wP I (wP I ?_)))))))))))))
  refine wU 26 (decide (8<l.length)) I (decide_eq_decide.2 (by omega)) (wP I (Aa (zE (zO ?_))))
  exact Ay tH I (.tmp I) () (by
   have:l.any Jt=false:=by
    rw[List.any_eq_false]
    intro x hx
    obtain⟨j,hj,rfl⟩:=List.getElem_of_mem hx
    rw[hno j hj (by omega)];decide
   rw[Jf,this];rfl) trivial fun W _=>Ao.nil _ _
-- BOXES 5
-- CODE2
def Fh:List PtS→Int
 |[]=>0
 |x::l=>if (rdR x.1).2≠0 then(rdR x.1).2 else if (rdR x.2).2≠0 then(rdR x.2).2 else Fh l
theorem LO {l:List PtS} {i:Nat} (h:i<l.length):Fh (l.drop i)=if (rdR l[i].1).2≠0 then(rdR l[i].1).2 else if (rdR l[i].2).2≠0 then(rdR l[i].2).2 else Fh (l.drop (i+1)):=by
 rw[List.drop_eq_getElem_cons h]
 rfl
theorem Gi (W:World) (p:Option Addr) (cap:Nat) (l:List PtS) (hA:Gl W p l) (hn:l.length<4611686018427387904) (hs: ∀x∈l,x.1.length<4611686018427387904∧x.2.length<4611686018427387904) (ht:AL W):
  Ah Tryz.prog 92 #[slv p l.length cap] W (fun _:Unit=> .int .i64 (Fh l)) (fun _=>True) (fun _=>[]):=by
 refine Ab (args:=[slv p l.length cap]) Tryz.func92 I I I ?_
 refine zA (zB (wP I (Aa (zE (zA (zA (zB (wP I (Aa (zE (zH ?_)))))))))))
 refine A6 (X:=Nat) (fun i=>[(0,slv p l.length cap),(3, .int .i64 (i:Nat))]) (fun _=>[]) (fun i=>i≤l.length∧Fh l=Fh (l.drop i)) (fun i=>l.length-i) 0 ⟨Nat.zero_le _,I⟩ ⟨I,I,tO⟩ [] I ?_
 rintro i ⟨hi,he⟩
 have hi:i≤l.length:=hi
 have he:Fh l=Fh (l.drop i):=he
 refine zA (zA (zB (wP I (wP I (wP I (wP I ?_))))))
 by_cases hlt:i<l.length
 ·refine wU 9 true I (dT (by omega)) (Aa (zE (zR I (zI (zE (zA (zH (zA (zA (zB ?_))))))))))
  obtain⟨b,off,rfl,hrow⟩: ∃b off,p=some ⟨b,off,none⟩∧ ∀i (hi:i<l.length),Al W b (off+i*2) [str l[i].1,str l[i].2]:=by
   rcases hA with h|h
   ·rw[h] at hlt;exact absurd hlt (by simp)
   ·exact h
  have hr:=hrow i hlt
  have hz:=hs l[i] (List.getElem_mem _)
  rw[LO hlt] at he
  generalize l[i]=x at hr hz he
  generalize he1:(rdR x.1).2=e1 at he
  generalize he2:(rdR x.2).2=e2 at he
  refine wP I (wP I ?_)
  refine wJ ?_
  refine wP I (wL 0 I I (fun W1 hp=>hr.hp hp) I (wC I I (fun W1 hp=>(CH x.1 hz.1 W1 (ht.hp hp)).cast (congrArg (Value.int .i64) he1)) (wP I (Aa (zE (zA (zB (wP I (wP I ?_)))))))))
  by_cases h1:e1=0
  ·subst h1
   refine Af 19 (.bool false) I I ?_
   refine Aa (zE (zS I (zI (zE (zA (zB (wP I (wP I ?_))))))))
   refine wJ ?_
   refine wP I (wL 1 I I (fun W1 hp=>hr.hp hp) I (wC I I (fun W1 hp=>(CH x.2 hz.2 W1 (ht.hp hp)).cast (congrArg (Value.int .i64) he2)) (wP I (Aa (zE (zA (zB (wP I (wP I ?_)))))))))
   by_cases h2:e2=0
   ·subst h2
    refine Af 28 (.bool false) I I ?_
    exact Aa (zE (zS I (zI (zN (zE (zB (wP I (wP I (wV 11 ((i+1:Nat):Int) I (Ax (by omega)) (wP I (Aa (Az (i+1) ⟨hlt,by rw[he];rfl⟩ (by show l.length-(i+1)<l.length-i;omega) ⟨I,I,tO⟩ [] I))))))))))))
   ·refine wU 28 true I (by show(!decide (e2=0))=true;rw[dF h2];rfl) (Aa (zE (zR I (zA (zB (wP I (wP I (Aa (zE (zO (zQ (zP (zP ?_)))))))))))))
    exact zQ (zP (wR1 I I (by rw[he,if_neg (by simp),if_pos h2])))
  ·refine wU 19 true I (by show(!decide (e1=0))=true;rw[dF h1];rfl) (Aa (zE (zR I (zA (zB (wP I (wP I (Aa (zE (zO (zP (zQ (zP (zP ?_))))))))))))))
   exact zQ (zP (wR1 I I (by rw[he,if_pos h1])))
 ·refine wU 9 false I (dF (by omega)) (Aa (zE (zS I (zJ (zK (zK (zL (zE (zA (zB (wP I (Aa (zE ?_)))))))))))))
  exact zO (wR1 I I (by rw[he,List.drop_of_length_le (by omega)];rfl))
-- BOXES 4
-- CODE2
section
variable {P:Program} {N:Nat} {D:List Deferred} {ops:List Oper} {o:Oper} {rest:List Oper} {env:Env} {A A2:World→Prop} {R:Act→World→Prop}
theorem Ro (k:Nat) {d:Nat} {t e:TypeId} {m:Nat} {parts:Array (Nat×Operand)} {vs:List (Nat×Value)} (z:Value) {c:List Value} (ht:P.underlying t=some (.array m e)) (hz: ∀W,(zeroValue t).run P W= .ok z W) (hs: ∀W,(Go.sizeOf e).run P W= .ok k W)
  (hg:A0 ops N env o=some true) (hd:o.dst=some d) (ho:o.op= .build t parts) (hp:D8 (evO N env) parts.toList=some vs) (hc:F5 (IQ k) z.cells.toList vs=some c)
  (h:WQ P N D ops A2 R rest ((d, .agg c.toArray)::env) A):WQ P N D ops A2 R (o::rest) env A:=
 D7 hg hd (fun c e=>by rw[ho] at e;cases e) (fun ρ W hρ _=>by
  have hparts:(parts.map fun(i,x)=>(i,ρ x)).toList=vs:=by rw[←Eb hρ hp];simp
  have hfill:=J6 hc
  simp only[Array.toArray_toList] at hfill
  have hfill':Instr.fill (fun i=>some (i*k,k)) z.cells (parts.map fun(i,x)=>(i,ρ x)).toList=some c.toArray:=by rw[hparts];exact hfill
  simp only[execOp,ho,Instr.build,Sem.run_bind,hz,Result.andThen_ok,run_underlying ht,hs,Sem.run_pure]
  rw[hfill']
  simp) h
end
section
variable {r:Option Nat} {n:Nat} {P:Program} {N:Nat} {D:List Deferred} {ops:List Oper} {Q:Exit→Act→World→Prop} {o:Oper} {rest:List Oper} {env:Env} {A A2:World→Prop} {R:Act→World→Prop}
theorem Hi {ρ:Operand→Value} {t e:TypeId} {m c:Nat} {x y:Operand} {k:IntKind} {b off:Nat} {z:Int} (ht:P.underlying t=some (.array m e)) (hs: ∀W,(Go.sizeOf e).run P W= .ok c W) (ho:o.op= .indexAddr t x y)
  (hx:ρ x= .pointer (some ⟨b,off,none⟩)) (hy:ρ y= .int k z) (h0:0≤z∧z<m) (W:World):(execOp ρ o).run P W= .ok (.value (.pointer (some ⟨b,off+z.toNat*c,none⟩))) W:=by
 simp[execOp,ho,hx,hy,Instr.indexAt,Instr.sureAddr,asIntOf,run_underlying ht,hs,h0.1,h0.2,Addr.add_none]
theorem Ev {d:Nat} {t e:TypeId} {m c:Nat} {x y:Operand} {k:IntKind} {b off:Nat} {z:Int} (ht:P.underlying t=some (.array m e)) (hs: ∀W,(Go.sizeOf e).run P W= .ok c W) (hg:A0 ops N env o=some true) (hd:o.dst=some d) (ho:o.op= .indexAddr t x y)
  (hx:evO N env x=some (.pointer (some ⟨b,off,none⟩))) (hy:evO N env y=some (.int k z)) (h0:0≤z∧z<m)
  (h:WL r n P N D ops Q rest ((d, .pointer (some ⟨b,off+z.toNat*c,none⟩))::env) A):WL r n P N D ops Q (o::rest) env A:=
 CO hg hd (fun c e=>by rw[ho] at e;cases e) (fun _ W hρ _=>Hi ht hs ho (hρ _ _ hx) (hρ _ _ hy) h0 W) h
theorem Bs {d:Nat} {t e:TypeId} {m c:Nat} {x y:Operand} {k:IntKind} {b off:Nat} {z:Int} (ht:P.underlying t=some (.array m e)) (hs: ∀W,(Go.sizeOf e).run P W= .ok c W) (hg:A0 ops N env o=some true) (hd:o.dst=some d) (ho:o.op= .indexAddr t x y)
  (hx:evO N env x=some (.pointer (some ⟨b,off,none⟩))) (hy:evO N env y=some (.int k z)) (h0:0≤z∧z<m)
  (h:WQ P N D ops A2 R rest ((d, .pointer (some ⟨b,off+z.toNat*c,none⟩))::env) A):WQ P N D ops A2 R (o::rest) env A:=
 D7 hg hd (fun c e=>by rw[ho] at e;cases e) (fun _ W hρ _=>Hi ht hs ho (hρ _ _ hx) (hρ _ _ hy) h0 W) h
end
def Dx (W:World) (p:Option Addr) (l:List Aj):Prop:=l=[]∨ ∃b off,p=some ⟨b,off,none⟩∧ ∀i (hi:i<l.length),Al W b (off+i*2) [str (Ae l[i].1),str (Ae l[i].2)]
theorem Dx.below {W W':World} {p:Option Addr} {l:List Aj} {n:Nat} (h:Dx W p l) (hn:W.heap.size≤n) (hb:Below n W W'):Dx W' p l:=by
 rcases h with h|⟨b,off,h1,h2⟩
 ·exact .inl h
 ·exact .inr ⟨b,off,h1,fun i hi=>(h2 i hi).below hn hb⟩
theorem Dx.hp {W0 W:World} {bxs:List Bx} {p:Option Addr} {l:List Aj} (h:Dx W0 p l) (hp:Hp W0 bxs W):Dx W p l:=h.below (Nat.le_refl _) hp.below
theorem Dx.at_ {W:World} {p:Option Addr} {l:List Aj} (h:Dx W p l) {i:Nat} (hi:i<l.length): ∃g off,p=some ⟨g,off,none⟩∧ ∀k (hk:k<l.length),Al W g (off+k*2) [str (Ae l[k].1),str (Ae l[k].2)]:=by
 rcases h with h|⟨g,off,e,h⟩
 ·rw[h] at hi;exact absurd hi (Nat.not_lt_zero _)
 ·exact⟨g,off,e,h⟩
abbrev ptS (q:Aj):PtS:=(Ae q.1,Ae q.2)
structure Vq (b:Nat) (p:Option Addr) (cap:Nat) (l:List Aj) (W:World):Prop where
 var:Al W b 0 [slv p l.length cap]
 pts:Dx W p l
abbrev sdV (p q:Aj):Value:= .agg #[str (Ae p.1),str (Ae p.2),str (Ae q.1),str (Ae q.2)]
abbrev Uz (l:List Aj) (k:Nat):List Value:=[.int .i64 (k:Nat),sdV (Ad l k) (Ad l (k+1))]
theorem DA (p:Option Addr) (n cap:Nat) (W:World):Ah Tryz.prog 44 #[slv p n cap] W (fun b:Nat=> .func (.func 103) #[] #[Ai b]) (fun _=>True) (fun b=>[⟨b,22,[slv p n cap],true,none⟩]):=by
 refine Ab (args:=[slv p n cap]) Tryz.func44 I I I ?_
 refine zA (zB ?_)
 (refine A5 rfl rfl rfl rfl ?_;intro)
 refine wP I (Aa ?_)
 rename_i b
 exact zE (zA (zB (wP I (wP I (Aa (zE (zO (Ay tH I (.tmp I) b I tO fun W1 hp=>Ao.of_hp hp))))))))
abbrev Sc (b:Nat) (q:Aj):List (Nat×Obj):=[(b, .cells (cvV q).cells 35 (0,0))]
theorem Ea (l:List Aj) (b1:Nat) (p:Option Addr) (cap:Nat) (hn:l.length<1099511627776):Ue Tryz.prog 103 [Ai b1] l.length (Uz l) (fun _=>Vq b1 p cap l):=by
 refine⟨fun y J Jx hN hB hA hU hY W hJ=> ?_⟩
 have hdr: ∀k L W,J k L W→J k L { W with drawn:=W.drawn+1 }:=fun k L W h=>hB k L W _ h ⟨rfl,rfl,rfl,Nat.le_refl _,fun _ _=>rfl⟩
 have hp0:=(hN _ _ W hJ).1.pts
 refine Gc (args:=[.func (.yield y) #[] #[],Ai b1]) (J0:=J 0 []) (Jm:=fun W=> ∃L,J l.length L W) Tryz.func103 I I I hJ ?_
 refine zA (zB (wL 0 I I (fun W hp=>(hN _ _ W hp).1.var) I (wP I (wP I (Aa (zE (zH ?_)))))))
 refine EJ (X:=Nat×List (Nat×Obj)) (fun s=>[(0, .func (.yield y) #[] #[]),(1,Ai b1),(5,slv p l.length cap),(6, .int .i64 (l.length:Nat)),(7, .int .i64 (s.1:Nat))]) (fun s W=>J s.1 s.2 W)
  (fun s=>s.1≤l.length) (fun s=>l.length-s.1) (0,[]) (Nat.zero_le _) ⟨rfl,rfl,rfl,rfl,rfl,trivial⟩ (fun W hp=>hp) ?_
 rintro⟨i,L⟩ hi
 have hi:i≤l.length:=hi
 refine zA (zB (wP I ?_))
 by_cases hlt:i<l.length
 rotate_left
 ·refine wU 8 false I (dF (by omega)) (Aa (zE (zA (zS I (zJ (zK (zK (zL ?_))))))))
  exact JK I fun W hp=>⟨L,by
   have e:i=l.length:=by omega
   have hp:J i L W:=hp
   rw[e] at hp
   exact hp⟩
 refine wU 8 true I (dT (by omega)) (Aa (zE (zA (zR I (zI (zE (zA (zH (zA (zB ?_))))))))))
 have hn0:0<l.length:=by omega
 have l2:(i+1)%l.length<l.length:=Nat.mod_lt _ hn0
 obtain⟨g,off,hpe,hrow⟩: ∃g off,p=some ⟨g,off,none⟩∧ ∀W k L,J k L W→ ∀j,j<l.length→Al W g (off+j*2) [str (Ae (Ad l j).1),str (Ae (Ad l j).2)]:=by
  obtain⟨g,off,e,_⟩:=hp0.at_ hlt
  refine⟨g,off,e,fun W1 k L1 h1 j hj=> ?_⟩
  obtain⟨g',off',e',h2⟩:=(hN _ _ W1 h1).1.pts.at_ hj
  rw[e] at e'
  cases e'
  rw[B6 hj]
  exact h2 j hj
 subst hpe
 have hz:(l.length:Int)≠0:=by omega
 have e2:(w64 ((i:Int)+1)).tmod (l.length:Int)=(((i+1)%l.length:Nat):Int):=by
  rw[As (x:=(i:Int)+1) (by omega) (by omega)]
  rfl
 refine wP I ?_
 refine wJ ?_
 refine wL 0 I I (fun W hp=>hrow W _ _ hp i hlt) I ?_
 refine Rm (fun b W=>J i [(b, .cells (Value.agg #[str [],str []]).cells 35 (0,0))] W) I I I (Tryz.hZ.get I) (fun W W' b hp hb hl ho=>hA _ _ W W' b _ hp hb hl ho) fun b=> ?_
 refine wP I ?_
 refine Ri (cs:=[str [],str []]) (ty:=35) (fun W=>J i (Sc b (Ad l i)) W) tH I I I I I I (fun W hp=>(hN _ _ W hp).2 (b,_) (List.mem_cons_self ..)) I I I (fun W W' hp hu=>hU _ _ _ _ W W' hp hu) ?_
 refine Aa (zE (Aw ?_))
 refine Qh 12 (hdr _ _) Tryz.mixed (by kernel_rfl) I ?_
 refine qP I (qP I (qL 0 I I (fun W hp=>show Al W b 0 (cvV (Ad l i)).cells.toList from Al.of_block ((hN _ _ W hp).2 (b,_) (List.mem_cons_self ..))) I (qL 0 I I (fun W hp=>(hN _ _ W hp).1.var) I (qP I (qP I (qL 0 I I (fun W hp=>(hN _ _ W hp).1.var) I (qP I ?_)))))))
 refine DG I I I I I hz ?_
 refine qV 20 (((i+1)%l.length:Nat):Int) I e2 ?_
 refine qJ ?_
 refine qL 0 I I (fun W hp=>hrow W _ _ hp ((i+1)%l.length) l2) I ?_
 refine Ro 2 (.agg #[str [],str [],str [],str []]) Tryz.underlying66 (fun W=>by kernel_rfl) Tryz.sizeOf35 I I I I I ?_
 refine AP ?_
 have hYk: ∀W,J i (Sc b (Ad l i)) W→YieldAt (Fw none) 0 Tryz.prog y (Uz l i).toArray W fun e W'=>(e= .returned (.bool true)∧J (i+1) (Sc b (Ad l i)) W')∨(e= .returned (.bool false)∧Jx W'):=fun W h=>hY _ _ W hlt h
 unfold Uz at hYk
 rw[←CF l (i+1)] at hYk
 refine I5 (A1:=fun W=>J (i+1) (Sc b (Ad l i)) W) (A2:=Jx) I I I I I I hYk ?_ ?_
 rotate_left
 ·exact wP I (Aa (zE (zR I (zO (zQ (zP (zP (zQ (Em I (fun W h=>h))))))))))
 exact wP I (Aa (zE (zS I (zI (zN (zE (zB (wP I (wV 26 ((i+1:Nat):Int) I (Ax (by omega)) (wP I (Aa (EK (i+1,Sc b (Ad l i)) hlt (by show l.length-(i+1)<l.length-i;omega) ⟨I,I,I,I,I,tO⟩ (fun W hp=>hp)))))))))))))
theorem Kq (W:World) (p:Option Addr) (cap:Nat) (l:List PtS) (hA:Gl W p l) (hn:l.length<4611686018427387904) (hs: ∀x∈l,x.1.length≤4000000000∧x.2.length≤4000000000) (hv:Ci W) (ht:AL W):
  Ah Tryz.prog 54 #[slv p l.length cap] W (fun _:Unit=> .int .i64 (Fh l)) (fun _=>True) (fun _=>[]):=by
 refine Ab (args:=[slv p l.length cap]) Tryz.func54 I I I ?_
 refine zA (zB (wP I (Aa (zE (zA (zA (zB (wP I (wP I (wP I (Aa (zE (zH ?_)))))))))))))
 refine A6 (X:=Nat) (fun i=>[(2, .int .i64 0),(8,slv p l.length cap),(9, .int .i64 (l.length:Nat)),(10, .int .i64 (i:Nat))]) (fun _=>[]) (fun i=>i≤l.length∧Fh l=Fh (l.drop i)) (fun i=>l.length-i) 0 ⟨Nat.zero_le _,I⟩ ⟨I,I,I,I,tO⟩ [] I ?_
 rintro i ⟨hi,he⟩
 have hi:i≤l.length:=hi
 have he:Fh l=Fh (l.drop i):=he
 refine zA (zB (wP I ?_))
 by_cases hlt:i<l.length
 rotate_left
 ·refine wU 11 false I (dF (by omega)) (Aa (zE (zA (zS I (zJ (zK (zK (zL (zE (zA (zB (wP I (Aa ?_)))))))))))))
  exact zE (zO (wR1 I I (by rw[he,List.drop_of_length_le (by omega)];rfl)))
 refine wU 11 true I (dT (by omega)) (Aa (zE (zA (zR I (zI (zE (zA (zH (zA (zB ?_))))))))))
 obtain⟨b,off,rfl,hrow⟩: ∃b off,p=some ⟨b,off,none⟩∧ ∀i (hi:i<l.length),Al W b (off+i*2) [str l[i].1,str l[i].2]:=by
  rcases hA with h|h
  ·rw[h] at hlt;exact absurd hlt (by simp)
  ·exact h
 have hr:=hrow i hlt
 have hz:=hs l[i] (List.getElem_mem _)
 rw[LO hlt] at he
 obtain⟨⟨x,y⟩,hx⟩: ∃x,x=l[i]:=⟨_,rfl⟩
 rw[←hx] at hr hz he
 simp only at hr hz he
 refine wJ ?_
 refine wL 0 I I (fun W1 hp=>hr.hp hp) I ?_
 (refine Ag Tryz.hZ rfl rfl rfl rfl ?_;intro)
 refine wS 0 I I I (Aa (zE (zA (zB (wP I (wB 0 I I I (wP I (wB 0 I I I ?_))))))))
 refine AA Tryz.hZ tH I I I I I I I I I I I fun bS=> ?_
 refine wP I (wP I (Aa ?_))
 rename_i b4
 refine zE (zH ?_)
 refine A6 (X:=Nat) (fun k=>[(2, .int .i64 0),(8,slv (some ⟨b,off,none⟩) l.length cap),(9, .int .i64 (l.length:Nat)),(10, .int .i64 (i:Nat)),(18,slv (some ⟨bS,0,none⟩) 2 2),(19, .int .i64 2),(20, .int .i64 (k:Nat))]) (fun _=>[⟨b4,35,[str x,str y],true,none⟩,⟨bS,23,[str x,str y],true,none⟩]) (fun k=>k=0∨k=1∧(rdR x).2=0∨k=2∧(rdR x).2=0∧(rdR y).2=0) (fun k=>2-k) 0 (Or.inl I) ⟨I,I,I,I,I,I,I,tO⟩ [] I ?_
 rintro k (rfl|⟨rfl,h1⟩|⟨rfl,h1,h2⟩)
 ·refine zA (zB (wP I (Aa (zE (zA (zR I (zI (zE (zA (zH (zA (zB (wI I I (by decide) (by decide) ?_)))))))))))))
  refine wB 1 I I I (wP I (Aa (zE (zA (zB (wP I (wC I I (fun W1 hp=>FX x hz.1 W1 (hv.hp hp) (ht.hp hp)) (wP I (Aa (zE (zA (zB (wP I (wP I ?_))))))))))))))
  by_cases h1:(rdR x).2=0
  rotate_left
  ·refine wU 27 true I (bne_iff_ne.2 h1) (Aa (zE (zR I (zA (zB (wP I (wP I (Aa (zE (zO (zQ (zP (zP ?_)))))))))))))
   refine zQ (zQ (zP (zP (zQ (zP ?_)))))
   rw[if_pos h1] at he
   exact wR1 I I (by rw[he])
  exact wU 27 false I (bne_eq_false_iff_eq.2 h1) (Aa (zE (zS I (zI (zN (zE (zB (wP I (wP I (Aa (Az 1 (Or.inr (Or.inl ⟨I,h1⟩)) (by decide) ⟨I,I,I,I,I,I,I,tO⟩ [] I)))))))))))
 ·rw[if_neg (fun h=>h h1)] at he
  refine zA (zB (wP I (Aa (zE (zA (zR I (zI (zE (zA (zH (zA (zB (wI I I (by decide) (by decide) ?_)))))))))))))
  refine wB 1 I I I (wP I (Aa (zE (zA (zB (wP I (wC I I (fun W1 hp=>FX y hz.2 W1 (hv.hp hp) (ht.hp hp)) (wP I (Aa (zE (zA (zB (wP I (wP I ?_))))))))))))))
  by_cases h2:(rdR y).2=0
  rotate_left
  ·refine wU 27 true I (bne_iff_ne.2 h2) (Aa (zE (zR I (zA (zB (wP I (wP I (Aa (zE (zO (zQ (zP (zP ?_)))))))))))))
   refine zQ (zQ (zP (zP (zQ (zP ?_)))))
   rw[if_pos h2] at he
   exact wR1 I I (by rw[he])
  exact wU 27 false I (bne_eq_false_iff_eq.2 h2) (Aa (zE (zS I (zI (zN (zE (zB (wP I (wP I (Aa (Az 2 (Or.inr (Or.inr ⟨I,h1,h2⟩)) (by decide) ⟨I,I,I,I,I,I,I,tO⟩ [] I)))))))))))
 ·rw[if_neg (fun h=>h h1),if_neg (fun h=>h h2)] at he
  refine zA (zB (wP I (Aa (zE (zA (zS I (zJ (zK (zK (zL (zN (zE (zB ?_)))))))))))))
  exact wP I (wV 30 ((i+1:Nat):Int) I (Ax (by omega)) (wP I (Aa (Az (i+1) ⟨hlt,he⟩ (by show l.length-(i+1)<l.length-i;omega) ⟨I,I,I,I,tO⟩ [_,_] I))))
-- BOXES 12
-- CODE2
def Hv (k:Nat) (l:List Aj):Prop:= ∀p∈l,szQ p.1 k∧szQ p.2 k
theorem Hv.at_ {k:Nat} {l:List Aj} (h:Hv k l) (h0:0<l.length) (i:Nat):szQ (Ad l i).1 k∧szQ (Ad l i).2 k:=h _ (B8 h0 i)
theorem TS {p q r:Aj} {k:Nat} (hp:szQ p.1 k∧szQ p.2 k) (hq:szQ q.1 k∧szQ q.2 k) (hr:szQ r.1 k∧szQ r.2 k) (hk:k≤36):Vf p q r:=by
 have a:=hq.1.sub hp.1
 have b:=hr.2.sub hp.2
 have c:=hq.2.sub hp.2
 have d:=hr.1.sub hp.1
 exact⟨sz2 hq.1 hp.1 (by omega),sz2 hr.2 hp.2 (by omega),sz2 hq.2 hp.2 (by omega),sz2 hr.1 hp.1 (by omega),sz2 a b (by omega),sz2 c d (by omega),sz2 (a.mul b) (c.mul d) (by omega)⟩
theorem U5 {x y:Rat} (h:y<x):Dy x y=1:=by
 have h1:=GI x y
 rw[dT h] at h1
 have h2:=of_decide_eq_true h1
 rcases HE x y with e|e|e<;>omega
theorem Ru {p q r:Aj} (h:0<AO p q r):U0 p q r=1:=U5 (by unfold AO at h;grind)
theorem Sj {l:List Aj} (h:Bt l) {k i:Nat} (hk:k<l.length) (hi:i<l.length) (h1:i≠k) (h2:i≠(k+1)%l.length):U0 (Ad l k) (Ad l (k+1)) (Ad l i)=1:=by
 refine Ru (B9.sideS h hk hi h1 ?_ ?_)
 ·intro e
  rw[e,Nat.mod_eq_of_lt (by omega)] at h2
  exact h2 I
 ·rintro⟨e,e2⟩
  rw[e,e2,Nat.mod_self] at h2
  exact h2 I
theorem Bh {W0 W:World} {bxs:List Bx} (hp:Hp W0 bxs W) (k:Nat) {c:Nat} (h:bxs[k]? =some ⟨c,61,[.int .i64 0],true,none⟩):Cq W c:=
 (hp.own.cell k _ h (c,_) (List.mem_cons_self ..)).1
theorem Dx.b {W:World} {p:Option Addr} {l:List Aj} (h:Dx W p l):Gl W p (l.map ptS):=by
 rcases h with e|⟨g,off,e,hr⟩
 ·exact .inl (by rw[e];rfl)
 ·refine .inr ⟨g,off,e,fun i hi=> ?_⟩
  rw[List.getElem_map]
  exact hr i (by rw[List.length_map] at hi;exact hi)
theorem Qy: ∀ {l:List Aj},(∀p∈l,okQ p.1∧okQ p.2)→Fh (l.map ptS)=0
 |[],_=>rfl
 |p::l,h=>by
  obtain⟨h1,h2⟩:=h p (List.mem_cons_self ..)
  show(if (rdR (Ae p.1)).2≠0 then _ else if (rdR (Ae p.2)).2≠0 then _ else Fh (l.map ptS))=0
  rw[IR h1,IR h2,if_neg (fun h=>h rfl),if_neg (fun h=>h rfl)]
  exact Qy fun q hq=>h q (List.mem_cons_of_mem _ hq)
theorem Jv (W:World) (p:Option Addr) (cap:Nat) (l:List Aj) (hA:Dx W p l) (hn:l.length≤100000) (hk: ∀p∈l,okQ p.1∧okQ p.2) (hv:Ci W) (ht:AL W):
  Ah Tryz.prog 54 #[slv p l.length cap] W (fun _:Unit=> .int .i64 0) (fun _=>True) (fun _=>[]):=by
 have h:=Kq W p cap (l.map ptS) hA.b (by rw[List.length_map];omega) (fun x hx=>by
  obtain⟨q,hq,rfl⟩:=List.mem_map.1 hx
  have h1:=B7 (hk q hq).1
  have h2:=B7 (hk q hq).2
  show(Ae q.1).length≤_∧(Ae q.2).length≤_
  omega) hv ht
 rwa [Qy hk,List.length_map] at h
theorem MV (l:List Aj) (hP:Bt l) (h3:3≤l.length) (hn:l.length≤4096) (hs:Hv 36 l) (p:Option Addr) (cap:Nat) (W:World) (hA:Dx W p l) (hv:Ci W) (ht:AL W):
  Ah Tryz.prog 18 #[slv p l.length cap] W (fun _:Unit=> .int .i64 0) (fun _=>True) (fun _=>[]):=by
 have hn0:0<l.length:=by omega
 have hz:(l.length:Int)≠0:=by omega
 refine Ab (args:=[slv p l.length cap]) Tryz.func18 I I I ?_
 refine zA (zB ?_)
 (refine A5 rfl rfl rfl rfl ?_;intro)
 (refine Ag Tryz.hZ rfl rfl rfl rfl ?_;intro)
 refine Aa ?_
 rename_i b1 b2
 refine zE (zA (zH (zA (zB (wB 0 I I I (wP I (wP I (wU 13 false I (dF (by omega)) (wP I (Aa (zE (zS I (zA ?_)))))))))))))
 refine zB (wB 0 I I I (wP I (wP I (wU 17 false I (dF (by omega)) (wP I (Aa (zE (zS I (zI (zN (zE (zA (zA ?_)))))))))))))
 refine zB (wB 0 I I I (wC I I (fun W1 hp=>Jv W1 p cap l (hA.hp hp) (by omega) (fun q hq=>⟨(hs q hq).1.ok (by decide),(hs q hq).2.ok (by decide)⟩) (hv.hp hp) (ht.hp hp)) (wP I (Aa (zE (zA (zB (wP I (wP I (Aa (zE (zS I (zI ?_)))))))))))))
 refine zE (zA (zB ?_))
 refine Av Tryz.hZ tH I I I I I I I I ?_
 (refine A5 rfl rfl rfl rfl ?_;intro)
 (refine Ag Tryz.hZ rfl rfl rfl rfl ?_;intro)
 (refine Ag Tryz.hZ rfl rfl rfl rfl ?_;intro)
 refine wS 3 I I I (wS 4 I I I (Aa ?_))
 rename_i bC b4 b5
 refine zE (zA (zA (zB (wB 0 I I I ?_))))
 refine wD (X:=Nat) I I (fun W1 _=>DA p l.length cap W1) ?_
 intro bp _
 refine Aa (zE (zH ?_))
 refine F4 (X:=Unit) (fun _=>[⟨b1,22,[slv p l.length cap],true,none⟩,⟨b2,27,[.int .i64 0],true,none⟩,⟨bC,61,[.int .i64 0],true,none⟩,⟨b4,59,[Ai bC],true,none⟩,⟨b5,4,[.bool false],true,none⟩,⟨bp,22,[slv p l.length cap],true,none⟩])
  (fun _ _=>True) (fun _ _=>False) () rfl (by kernel_rfl) (Ea l bp p cap (by omega)) (fun _=>rfl)
  trivial [] rfl (fun k x W1 _ hp=>⟨Al.of_bx hp 5 rfl rfl,hA.hp hp⟩) ?_ ?_ (fun _ _ _ _ _ h=>h.elim)
 ·rintro k ⟨⟩ d l' rec L hk _ hrec
  have hk:k<l.length:=hk
  refine zA (zB (wP I (Aa (zE (zB ?_)))))
  (refine Ag Tryz.hZ rfl rfl rfl rfl ?_;intro)
  refine wS 9 I I I (Aa ?_)
  rename_i b7
  refine CY 8 hrec I ?_
  refine CV (zA (zB (wB 1 I I I (wP I (wP I (Aa (zE (zH ?_))))))))
  refine A6 (X:=Nat) (fun i=>[(1,Ai b1),(2,Ai b2),(4,Ai b4),(5,Ai b5),(6, .int .i64 (k:Nat)),(7,Ai b7),(29,slv p l.length cap),(30, .int .i64 (l.length:Nat)),(31, .int .i64 (i:Nat))])
   (fun _=>[By L,⟨b1,22,[slv p l.length cap],true,none⟩,⟨b2,27,[.int .i64 0],true,none⟩,⟨bC,61,[.int .i64 0],true,none⟩,⟨b4,59,[Ai bC],true,none⟩,⟨b5,4,[.bool false],true,none⟩,⟨bp,22,[slv p l.length cap],true,none⟩,B5 d,Bc l' rec .busy none,⟨b7,66,(sdV (Ad l k) (Ad l (k+1))).cells.toList,true,none⟩])
   (fun i=>i≤l.length) (fun i=>l.length-i) 0 (Nat.zero_le _) ⟨rfl,rfl,rfl,rfl,rfl,rfl,rfl,rfl,rfl,trivial⟩ [] rfl ?_
  intro i hi
  have hi:i≤l.length:=hi
  refine zA (zB (wP I ?_))
  by_cases hlt:i<l.length
  rotate_left
  ·exact wU 32 false I (dF (by omega)) (Aa (zE (zA (zS I (zJ (zK (zK (zL (zN (Cj 8 () hrec I tO [_] I))))))))))
  refine wU 32 true I (dT (by omega)) (Aa (zE (zA (zR I (zI (zE (zA (zH (zA (zB ?_))))))))))
  obtain⟨g,off,hpe,hrow⟩:=hA.at_ hlt
  have hrow:=hrow i hlt
  rw[←B6 hlt] at hrow
  subst hpe
  refine wP I ?_
  refine wJ ?_
  refine wL 0 I I (fun W1 hp=>hrow.hp hp) I ?_
  (refine Ag Tryz.hZ rfl rfl rfl rfl ?_;intro)
  refine wP I (wS 10 I I I (Aa ?_))
  rename_i b9
  refine zE (zA (zA (zB (wP I (wP I (wP I ?_))))))
  by_cases h1:i=k
  ·refine wU 38 false I (bne_eq_false_iff_eq.2 (by omega)) (wP I ?_)
   iterate 7 refine Ak I I ?_
   refine wP I (wP I ?_)
   iterate 8 refine Ak I I ?_
   refine wP I (Aa (zE (zS I (zI (zE (zA (zB (wB 4 I I I ?_))))))))
   refine Bb I I I I ?_
   exact wP I (wB 3 I I I (wP I (Aa (zE (zS I (zI (zN (zE (zB (wP I (wV 67 ((i+1:Nat):Int) I (Ax (by omega)) (wP I (Aa (Az (i+1) hlt (by show l.length-(i+1)<l.length-i;omega) ⟨I,I,I,I,I,I,I,I,I,tO⟩ [_] I))))))))))))))
  refine wU 38 true I (bne_iff_ne.2 (by omega)) (wP I (wP I (wP I (wP I (wV 42 ((k+1:Nat):Int) I (Ax (by omega)) (wB 1 I I I (wP I ?_)))))))
  refine EL I I I I I hz ?_
  refine wV 45 (((k+1)%l.length:Nat):Int) I I (wP I ?_)
  by_cases h2:i=(k+1)%l.length
  ·refine wU 46 false I (bne_eq_false_iff_eq.2 (by omega)) (wP I (wP I ?_))
   iterate 8 refine Ak I I ?_
   refine wP I (Aa (zE (zS I (zI (zE (zA (zB (wB 4 I I I ?_))))))))
   refine Bb I I I I ?_
   exact wP I (wB 3 I I I (wP I (Aa (zE (zS I (zI (zN (zE (zB (wP I (wV 67 ((i+1:Nat):Int) I (Ax (by omega)) (wP I (Aa (Az (i+1) hlt (by show l.length-(i+1)<l.length-i;omega) ⟨I,I,I,I,I,I,I,I,I,tO⟩ [_] I))))))))))))))
  refine wU 46 true I (bne_iff_ne.2 (by omega)) (wP I (wP I (wB 4 I I I ?_)))
  refine Ev Tryz.underlying66 Tryz.sizeOf35 I I I I I ⟨by decide,by decide⟩ ?_
  refine wB 9 I I I ?_
  refine Ev Tryz.underlying66 Tryz.sizeOf35 I I I I I ⟨by decide,by decide⟩ ?_
  refine wB 9 I I I (wB 10 I I I (wC I I (fun W1 hp=>(Nq bC (Ad l k) (Ad l (k+1)) (Ad l i) (TS (hs.at_ hn0 _) (hs.at_ hn0 _) (hs.at_ hn0 _) (by decide)) W1 (Bh hp 3 I) (hv.hp hp) (ht.hp hp)).cast (v':= .int .i64 1) (by rw[Sj hP hk hlt h1 h2])) (wP I (wP I (Aa (zE (zS I (zI (zE (zA (zB (wB 4 I I I ?_))))))))))))
  refine Bb I I I I ?_
  exact wP I (wB 3 I I I (wP I (Aa (zE (zS I (zI (zN (zE (zB (wP I (wV 67 ((i+1:Nat):Int) I (Ax (by omega)) (wP I (Aa (Az (i+1) hlt (by show l.length-(i+1)<l.length-i;omega) ⟨I,I,I,I,I,I,I,I,I,tO⟩ [_] I))))))))))))))
 ·rintro⟨⟩ d l' rec _
  refine zN (zE (zA (zA (zB (wB 4 I I I (Aa (zE (zS I (zI (zE (zA (zB (wS 1 I I I ?_)))))))))))))
  refine Aa (zE (zO ?_))
  refine CG 6 I ?_
  exact Ay tH I (.cell 1 I I I I I) () I tO fun W _=>Ao.nil _ _
-- BOXES 6
-- CODE2
structure ER (W:World) (p:Option Addr) (l:List Aj):Prop where
 poly:Bt l
 n3:3≤l.length
 n:l.length≤4096
 sz:Hv 36 l
 m:Dx W p l
 v:Ci W
 t:AL W
theorem ER.hp {W0 W:World} {bxs:List Bx} {p:Option Addr} {l:List Aj} (h:ER W0 p l) (hp:Hp W0 bxs W):ER W p l:=⟨h.poly,h.n3,h.n,h.sz,h.m.hp hp,h.v.hp hp,h.t.hp hp⟩
theorem ER.chk {W:World} {p:Option Addr} {l:List Aj} (h:ER W p l) (cap:Nat):Ah Tryz.prog 18 #[slv p l.length cap] W (fun _:Unit=> .int .i64 0) (fun _=>True) (fun _=>[]):=
 MV l h.poly h.n3 h.n h.sz p cap W h.m h.v h.t
theorem Fj (l:List Aj) (p:Option Addr) (cap:Nat) (W:World) (h:ER W p l):
  Ah Tryz.prog 41 #[slv p l.length cap, .slice none 0 0] W (fun _:Unit=> .int .i64 0) (fun _=>True) (fun _=>[]):=by
 refine Ab (args:=[slv p l.length cap, .slice none 0 0]) Tryz.func41 I I I ?_
 refine zA (zB (wP I (Aa (zE (zA (zA (zB (wP I (wC I I (fun W1 hp=>(h.hp hp).chk cap) (wP I (Aa (zE (zS I ?_)))))))))))))
 refine zI (zE (zA (zA (zB (wP I (wP I (wP I (Aa (zE (zH ?_))))))))))
 refine A6 (X:=Unit) (fun _=>[(1, .slice none 0 0),(4, .int .i64 0),(12, .int .i64 0),(13, .int .i64 0)]) (fun _=>[]) (fun _=>True) (fun _=>0) () tO ⟨I,I,I,I,tO⟩ [] I ?_
 intro _ _
 refine zA (zB (wP I (Aa (zE (zA (zS I (zJ (zK (zK (zL (zE (zA (zA ?_)))))))))))))
 refine zB (wP I (wP I (wP I (wP I ?_))))
 iterate 4 refine Ak I I ?_
 refine wP I (wP I ?_)
 iterate 4 refine Ak I I ?_
 exact wP I (Aa (zE (zS I (zI (zE (zA (zB (wP I (Aa (zE (zO (wR1 I I I))))))))))))
theorem Hr (l:List Aj) (p:Option Addr) (cap:Nat) (a b d:Rat) (ha:okQ a) (hb:okQ b) (hd:okQ d) (h0:a≠0∨b≠0) (g cp:Nat) (W:World) (h:ER W p l) (hrow:Al W g 0 [str (Ae a),str (Ae b),str (Ae d)]):
  Ah Tryz.prog 41 #[slv p l.length cap,slv (some ⟨g,0,none⟩) 3 cp] W (fun _:Unit=> .int .i64 0) (fun _=>True) (fun _=>[]):=by
 have hv:=h.v
 have ht:=h.t
 have hS:G2 W (some ⟨g,0,none⟩) [Ae a,Ae b,Ae d]:= .inr ⟨g,0,rfl,hrow⟩
 have hok: ∀x∈[Ae a,Ae b,Ae d],x.length≤4000000000∧(rdR x).2=0:=fun x hx=>by
  have one: ∀ {q:Rat},okQ q→(Ae q).length≤4000000000∧(rdR (Ae q)).2=0:=fun {q} hq=>by
   have:=B7 hq
   exact⟨by omega,by rw[IR hq]⟩
  rcases List.mem_cons.1 hx with rfl|hx
  ·exact one ha
  ·rcases List.mem_cons.1 hx with rfl|hx
   ·exact one hb
   ·obtain rfl:=List.mem_singleton.1 hx;exact one hd
 refine Ab (args:=[slv p l.length cap,slv (some ⟨g,0,none⟩) 3 cp]) Tryz.func41 I I I ?_
 refine zA (zB (wP I (Aa (zE (zA (zA (zB (wP I (wC I I (fun W1 hp=>(h.hp hp).chk cap) (wP I (Aa (zE (zS I ?_)))))))))))))
 refine zI (zE (zA (zA (zB (wP I (wP I (wP I (Aa (zE (zH ?_))))))))))
 refine A6 (X:=Nat) (fun i=>[(1,slv (some ⟨g,0,none⟩) 3 cp),(4, .int .i64 0),(11,slv (some ⟨g,0,none⟩) 3 cp),(12, .int .i64 3),(13, .int .i64 (i:Nat))]) (fun _=>[]) (fun i=>i≤3) (fun i=>3-i) 0 (Nat.zero_le _) ⟨I,I,I,I,I,tO⟩ [] I ?_
 intro i hi
 have hi:i≤3:=hi
 refine zA (zB (wP I ?_))
 by_cases hlt:i<3
 ·refine wU 14 true I (dT (by omega)) (Aa (zE (zA (zR I (zI (zE (zA (zH (zA (zB ?_))))))))))
  obtain⟨g',off,hpe,hr⟩:=hS.row (i:=i) hlt
  have hr:=hr i hlt
  obtain⟨x,hx⟩: ∃x,x=[Ae a,Ae b,Ae d][i]'hlt:=⟨_,rfl⟩
  obtain⟨hl,hE⟩:=hok x (hx▸List.getElem_mem hlt)
  rw[←hx] at hr
  cases hpe
  refine wJ ?_
  refine wL 0 I I (fun W1 hp=>hr.hp hp) I (wP I (Aa (zE (zA (zB (wP I (wC I I (fun W1 hp=>(FX x hl W1 (hv.hp hp) (ht.hp hp)).cast (v':= .int .i64 0) (by rw[hE])) (wP I (Aa (zE (zA (zB (wP I (wP I ?_))))))))))))))
  exact Aa (zE (zS I (zI (zN (zE (zB (wP I (wV 22 ((i+1:Nat):Int) I (Ax (by omega)) (wP I (Aa (Az (i+1) hlt (by show 3-(i+1)<3-i;omega) ⟨I,I,I,I,I,tO⟩ [] I)))))))))))
 refine wU 14 false I (dF (by omega)) (Aa (zE (zA (zS I (zJ (zK (zK (zL (zE (zA (zA (zB ?_))))))))))))
 have r0:Al W g (0+0*1) [str (Ae a)]:=⟨hrow.lt,fun k u hu=>by
  cases k with
  |zero=>simp at hu;exact hrow.get 0 u (by simpa using hu)
  |succ k=>simp at hu⟩
 have r1:Al W g (0+1*1) [str (Ae b)]:=⟨hrow.lt,fun k u hu=>by
  cases k with
  |zero=>simp at hu;exact hrow.get 1 u (by simpa using hu)
  |succ k=>simp at hu⟩
 iterate 5 refine wP I ?_
 refine wI I I (by decide) (by decide) (wL 0 I I (fun W1 hp=>r0.hp hp) I (wP I ?_))
 by_cases ha0:a=0
 ·have hb0:b≠0:=by rcases h0 with h0|h0;exact absurd ha0 h0;exact h0
  refine wU 30 true I ((AR _ _).trans ((Kf a).trans (dT ha0))) (wP I (wP I (wP I (wI I I (by decide) (by decide) (wL 0 I I (fun W1 hp=>r1.hp hp) I (wP I (wU 36 false I ((AR _ _).trans ((Kf b).trans (dF hb0))) (wP I (Aa (zE (zS I (zI (zE ?_)))))))))))))
  exact zA (zB (wP I (Aa (zE (zO (wR1 I I I))))))
 ·refine wU 30 false I ((AR _ _).trans ((Kf a).trans (dF ha0))) (wP I (wP I ?_))
  iterate 4 refine Ak I I ?_
  exact wP I (Aa (zE (zS I (zI (zE (zA (zB (wP I (Aa (zE (zO (wR1 I I I))))))))))))
structure Uo (f:AD) (q:Aj):Prop where
 m1:Sz2 f.a q.1
 m2:Sz2 f.b q.2
 s:Sz2 (f.a*q.1) (f.b*q.2)
 d:Sz2 (f.a*q.1+f.b*q.2) f.c
structure IK (b4 b5 b6 b7 c:Nat) (f:AD) (W:World):Prop where
 r4:Al W b4 0 [Ai c]
 r5:Al W b5 0 [str (Ae f.a)]
 r6:Al W b6 0 [str (Ae f.b)]
 r7:Al W b7 0 [str (Ae f.c)]
 k:Cq W c
 v:Ci W
 t:AL W
theorem Cq.below {W W':World} {c n:Nat} (h:Cq W c) (hn:W.heap.size≤n) (hb:Below n W W'):Cq W' c:=
 (hb.block c (Nat.lt_of_lt_of_le (Array.getElem?_eq_some_iff.1 h).1 hn)).trans h
theorem IK.below {b4 b5 b6 b7 c:Nat} {f:AD} {W W':World} (h:IK b4 b5 b6 b7 c f W) (hb:Below W.heap.size W W'):IK b4 b5 b6 b7 c f W':=
 ⟨h.r4.below (Nat.le_refl _) hb,h.r5.below (Nat.le_refl _) hb,h.r6.below (Nat.le_refl _) hb,h.r7.below (Nat.le_refl _) hb,h.k.below (Nat.le_refl _) hb,h.v.below hb,h.t.below hb⟩
theorem IK.hp {b4 b5 b6 b7 c:Nat} {f:AD} {W0 W:World} {bxs:List Bx} (h:IK b4 b5 b6 b7 c f W0) (hp:Hp W0 bxs W):IK b4 b5 b6 b7 c f W:=h.below hp.below
theorem El (c:Nat) (f:AD) (W:World):Ah Tryz.prog 67 #[Ai c,str (Ae f.a),str (Ae f.b),str (Ae f.c)] W
  (fun x:Nat×Nat×Nat×Nat=> .func (.func 132) #[] #[Ai x.1,Ai x.2.1,Ai x.2.2.1,Ai x.2.2.2]) (fun _=>True)
  (fun x=>[⟨x.1,59,[Ai c],true,none⟩,⟨x.2.1,23,[str (Ae f.a)],true,none⟩,⟨x.2.2.1,23,[str (Ae f.b)],true,none⟩,⟨x.2.2.2,23,[str (Ae f.c)],true,none⟩]):=by
 refine Ab (args:=[Ai c,str (Ae f.a),str (Ae f.b),str (Ae f.c)]) Tryz.func67 I I I ?_
 refine zA (zB ?_)
 (refine A5 rfl rfl rfl rfl ?_;intro)
 (refine A5 rfl rfl rfl rfl ?_;intro)
 (refine A5 rfl rfl rfl rfl ?_;intro)
 (refine A5 rfl rfl rfl rfl ?_;intro)
 refine wP I (Aa ?_)
 rename_i b4 b5 b6 b7
 exact zE (zA (zB (wP I (wP I (Aa (zE (zO (Ay tH I (.tmp I) (b4,b5,b6,b7) I tO fun W1 hp=>Ao.of_hp hp))))))))
theorem C2 (b4 b5 b6 b7 c:Nat) (f:AD) (q:Aj) (hz:Uo f q) (W:World) (hL:IK b4 b5 b6 b7 c f W):
  Ah Tryz.prog 132 #[cvV q,Ai b4,Ai b5,Ai b6,Ai b7] W (fun _:Unit=>str (Ae (f.at q))) (fun _=>True) (fun _=>[]):=by
 refine Ab (args:=[cvV q,Ai b4,Ai b5,Ai b6,Ai b7]) Tryz.func132 I I I ?_
 refine zA (zB ?_)
 (refine A5 rfl rfl rfl rfl ?_;intro)
 refine wP I (Aa (zE (zA (zU (qL 0 I I (fun W1 hp=>(hL.hp hp).r4) I (qL 0 I I (fun W1 hp=>(hL.hp hp).r5) I (qP I (qB 0 I I I (qC I I (fun W1 hp=>BX c f.a q.1 hz.m1 W1 (hL.hp hp).k (hL.hp hp).v (hL.hp hp).t) (qL 0 I I (fun W1 hp=>(hL.hp hp).r4) I (qL 0 I I (fun W1 hp=>(hL.hp hp).r6) I (qP I (qB 0 I I I ?_)))))))))))))
 refine qC I I (fun W1 hp=>BX c f.b q.2 hz.m2 W1 (hL.hp hp).k (hL.hp hp).v (hL.hp hp).t) (qP I (qP I (AP (Aa (zE (zA (zU (qL 0 I I (fun W1 hp=>(hL.hp hp).r4) I (qL 0 I I (fun W1 hp=>(hL.hp hp).r4) I (qP I (qP I (qC I I (fun W1 hp=>Cw c (f.a*q.1) (f.b*q.2) hz.s W1 (hL.hp hp).k (hL.hp hp).v (hL.hp hp).t) (qL 0 I I (fun W1 hp=>(hL.hp hp).r7) I ?_)))))))))))))
 exact qC I I (fun W1 hp=>Ct c (f.a*q.1+f.b*q.2) f.c hz.d W1 (hL.hp hp).k (hL.hp hp).v (hL.hp hp).t) (qP I (AP (Aa (zE (zO (wR1 I I I))))))
abbrev vsC (l:List Rat):List Value:=l.map fun q=>str (Ae q)
theorem Tt (a b:List Rat):vsC (a++b)=vsC a++vsC b:=List.map_append
theorem C1 (l:List Aj) (F:Aj→Rat) (g:Nat) (capt:List Value) (hE:Bk Tryz.prog g=true) (hn:l.length≤4096) (p:Option Addr) (cap:Nat) (W:World) (hA:Dx W p l)
  (hg: ∀q∈l, ∀W1,Below W.heap.size W W1→Ah Tryz.prog g ([cvV q]++capt).toArray W1 (fun _:Unit=>str (Ae (F q))) (fun _=>True) (fun _=>[])):
  Ah Tryz.prog 66 #[slv p l.length cap, .func (.func g) #[] capt.toArray] W (fun V:Vec=>V.val l.length) (fun V=>V.OK 1 l.length (vsC (l.map F))) (fun V=>[V.bx 23 (vsC (l.map F))]):=by
 refine Ab (args:=[slv p l.length cap, .func (.func g) #[] capt.toArray]) Tryz.func66 I I I ?_
 refine zA (zB (wP I (Aa (zE (zA (zB (wP I (Aa (zE (zA (zA (zB (wP I (wP I (wP I ?_)))))))))))))))
 refine Aa (zE (zH ?_))
 refine FV ?_
 refine A6 (X:=Nat×Vec) (fun s=>[(1, .func (.func g) #[] capt.toArray),(5,s.2.val s.1),(8,slv p l.length cap),(9, .int .i64 (l.length:Nat)),(10, .int .i64 (s.1:Nat))])
  (fun s=>[s.2.bx 23 (vsC ((l.take s.1).map F))]) (fun s=>s.1≤l.length∧s.2.OK 1 s.1 (vsC ((l.take s.1).map F))) (fun s=>l.length-s.1) (0,Vec.empty) ⟨Nat.zero_le _,Vec.OK.empty 1⟩ ⟨rfl,rfl,rfl,rfl,rfl,trivial⟩ [] rfl ?_
 rintro⟨i,V⟩ ⟨hi,hV⟩
 have hi:i≤l.length:=hi
 have hV:V.OK 1 i (vsC ((l.take i).map F)):=hV
 refine zA (zB (wP I ?_))
 by_cases hlt:i<l.length
 ·refine wU 11 true I (dT (by omega)) (Aa (zE (zA (zR I (zI (zE (zA (zH (zA (zB ?_))))))))))
  obtain⟨gp,off,hpe,hrow⟩:=hA.at_ hlt
  have hrow:=hrow i hlt
  have hq:=hg l[i] (List.getElem_mem hlt)
  have hsu:(l.take (i+1)).map F=(l.take i).map F++[F l[i]]:=by
   rw[List.take_add_one,List.getElem?_eq_getElem hlt,List.map_append];rfl
  obtain⟨q,hqe⟩: ∃q,q=l[i]:=⟨_,rfl⟩
  rw[←hqe] at hrow hq hsu
  subst hpe
  refine wJ ?_
  refine wL 0 I I (fun W1 hp=>hrow.hp hp) I ?_
  (refine Ag Tryz.hZ rfl rfl rfl rfl ?_;intro)
  refine wS 1 I I I (Aa (zE (zB (wP I (wP I (wB 1 I I I ?_))))))
  refine B1 (capt:=capt) I I I I I I hE (fun W1 hp=>hq W1 hp.below) ?_
  refine AA Tryz.hZ tH I I I I I I I I I I I fun bS=> ?_
  refine BN (V:=V) (len:=i) (xs:=vsC ((l.take i).map F)) 0 2 Tryz.vec87 (i+1) (vsC ((l.take (i+1)).map F)) I I I I I I I I I I I hV I I I (by rw[hsu,Tt];rfl) (by simp only[maxLen];omega) (by omega) I ?_
  intro gV cV jV hV1
  exact wP I (Aa (zN (zE (zB (wP I (wV 20 ((i+1:Nat):Int) I (Ax (by omega)) (wP I (Aa (Az (i+1,⟨some gV,cV,jV⟩) ⟨hlt,hV1⟩ (by show l.length-(i+1)<l.length-i;omega) ⟨I,I,I,I,I,tO⟩ _ I)))))))))
 have e:i=l.length:=by omega
 subst e
 have et:l.take l.length=l:=List.take_of_length_le (Nat.le_refl _)
 rw[et] at hV
 refine wU 11 false I (dF (by omega)) (Aa (zE (zA (zS I (zJ (zK (zK (zL (zE (zA (zB (wP I (wP I ?_)))))))))))))
 refine Aa (zE (zO ?_))
 exact Ay tH I (.tmp I) V I hV fun W1 hp=>by
  have hp:Hp W [V.bx 23 (vsC ((l.take l.length).map F))] W1:=hp
  rw[et] at hp
  exact Ao.of_hp hp
end
end Go.Proofs.YthndmdimmgkpgaaGreatDoor
namespace Go.Proofs
open Go.Shelf
def Tryz.lays125_ren:Go.Shelf.Ren:=⟨fun|125=>134|128=>189|129=>190|n=>n,fun|3=>3|4=>4|5=>5|9=>9|46=>148|51=>196|53=>198|n=>n,fun n=>n⟩
theorem Tryz.lays125:Go.Proofs.Lays.n125 Tryz.prog Tryz.lays125_ren:= {
 mixed:=by kernel_rfl
 f125:=Tryz.func134.trans (congrArg some (by kernel_rfl))
 f128:=Tryz.func189.trans (congrArg some (by kernel_rfl))
 f129:=Tryz.func190.trans (congrArg some (by kernel_rfl))
 t3:=Tryz.underlying3
 a3:=Tryz.isAgg3
 z3:=Tryz.sizeOf3
 v3:=Tryz.zeroValue3
 t4:=Tryz.underlying4
 a4:=Tryz.isAgg4
 z4:=Tryz.sizeOf4
 v4:=Tryz.zeroValue4
 t5:=Tryz.underlying5
 a5:=Tryz.isAgg5
 z5:=Tryz.sizeOf5
 v5:=Tryz.zeroValue5
 t9:=Tryz.underlying9
 a9:=Tryz.isAgg9
 z9:=Tryz.sizeOf9
 v9:=Tryz.zeroValue9
 t46:=Tryz.underlying148
 a46:=Tryz.isAgg148
 z46:=Tryz.sizeOf148
 v46:=Tryz.zeroValue148
 t51:=Tryz.underlying196
 a51:=Tryz.isAgg196
 z51:=Tryz.sizeOf196
 v51:=Tryz.zeroValue196
 t53:=Tryz.underlying198
 a53:=Tryz.isAgg198
 z53:=Tryz.sizeOf198
 v53:=Tryz.zeroValue198 }
end Go.Proofs
namespace Go.Proofs.YthndmdimmgkpgaaGreatDoor
section
open Go Go.RowKit Go.Am Go.Lib
set_option maxRecDepth 10000
-- BOXES 3
structure Lg (W W':World) (g:Nat):Prop where
 os:W'.os=W.os
 tape:W'.tape=W.tape
 output:W'.output=W.output
 size:W.heap.size≤W'.heap.size
 at_: ∀x,x≠g→x<W.heap.size→W'.heap[x]? =W.heap[x]?
theorem Mr {W W':World} {g:Nat} {B:Bx} {o:Obj} (hg:W.heap[g]? =some o) (hB: ∃o',(g,o')∈B.blk) (hp:Hp (Cb W) [By (AH W g),B] W'):Lg W W' g:=by
 have c0: ∀p∈AH W g,W'.heap[p.1]? =some p.2:=fun p hq=>(hp.own.cell 0 _ rfl p hq).1
 have old: ∀x,x≠g→x<W.heap.size→W'.heap[x]? =W.heap[x]? :=fun x hx hlt=>by
  have h1:W.heap[x]? =some W.heap[x]:=Array.getElem?_eq_getElem hlt
  rw[h1]
  exact c0 (x,W.heap[x]) (Dl.2 ⟨hx,h1⟩)
 refine⟨hp.below.os,hp.below.tape,hp.below.output, ?_,old⟩
 have hlt:=(Array.getElem?_eq_some_iff.1 hg).1
 by_cases e:W.heap.size-1=g
 ·obtain⟨o',ho⟩:=hB
  have:=(Array.getElem?_eq_some_iff.1 (hp.own.cell 1 B rfl _ ho).1).1
  have h2:g<W'.heap.size:=this
  omega
 ·have h1:=old (W.heap.size-1) e (by omega)
  rw[Array.getElem?_eq_getElem (show W.heap.size-1<W.heap.size by omega)] at h1
  have:=(Array.getElem?_eq_some_iff.1 h1).1
  omega
theorem Lg.trans {W W1 W2:World} {g:Nat} (h:Lg W W1 g) (h':Lg W1 W2 g):Lg W W2 g:=
 ⟨h'.os.trans h.os,h'.tape.trans h.tape,h'.output.trans h.output,Nat.le_trans h.size h'.size,fun x hx hlt=>(h'.at_ x hx (Nat.lt_of_lt_of_le hlt h.size)).trans (h.at_ x hx hlt)⟩
theorem Lg.below {W0 W W':World} {g:Nat} (hk:Lg W W' g) (hb:Below W0.heap.size W0 W) (hg:W0.heap.size≤g):Below W0.heap.size W0 W':=
 ⟨hk.os.trans hb.os,hk.tape.trans hb.tape,hk.output.trans hb.output,Nat.le_trans hb.size hk.size,fun i hi=>(hk.at_ i (by omega) (Nat.lt_of_lt_of_le hi hb.size)).trans (hb.block i hi)⟩
section
variable {r:Option Nat} {n:Nat} {P:Program} {N:Nat} {D:List Deferred} {ops:List Oper} {Q:Exit→Act→World→Prop} {o:Oper} {rest:List Oper} {env:Env} {A:World→Prop}
theorem KZ {W:World} {t ty e:TypeId} {size bytes:Nat} {z:Value} (hty:VecTy P t e size bytes z) {b:Option Addr} {k c c':Nat} (hk:k≤c):
  (Builtin.append_ #[t,t] ty #[.slice b k c, .slice none 0 c']).run P W= .ok (.slice b k c) W:=by
 obtain⟨i,hi,hz,hsz,hby⟩:=hty.hi
 have hs:(Go.sizeOf e).run P W= .ok i.size W:=by simp[sizeOf,typeInfo,hi]
 cases b<;>simp[Builtin.append_,run_underlying hty.ht,hs,hk,Builtin.lenOf,Builtin.firstCells,storeCells]
theorem Ik {d:Nat} {t e:TypeId} {size bytes:Nat} {z:Value} (hty:VecTy P t e size bytes z) {c:Call} {s x:Operand} {b:Option Addr} {k cp cp':Nat}
  (hg:A0 ops N env o=some true) (hd:o.dst=some d) (ho:o.op= .call c) (hc:c.callee= .builtin .append) (ha:c.args= #[s,x]) (hat:c.argTypes= #[t,t])
  (hs:evO N env s=some (.slice b k cp)) (hx:evO N env x=some (.slice none 0 cp')) (hk:k≤cp)
  (h:WL r n P N D ops Q rest ((d, .slice b k cp)::env) A):WL r n P N D ops Q (o::rest) env A:= .mk fun act W h2 h3 hp=>by
 refine BG hg h2 (fun c e=>by rw[ho] at e;cases e) ?_
 have hr:=KZ (P:=P) (W:=W) (ty:=o.type) hty (b:=b) (c':=cp') hk
 have e1:c.args.map (ov env act).eval= #[.slice b k cp, .slice none 0 cp']:=by rw[ha];simp[A7 h2 _ _ hs,A7 h2 _ _ hx]
 have:(execOp (ov env act).eval o).run P W= .ok (.value (.slice b k cp)) W:=by
  simp only[execOp,ho,resolve,hc,invoke,builtin,e1,hat,Sem.run_bind,Sem.run_pure,Result.andThen_ok,hr]
 rw[this]
 simp only[Oper.uponIn,hd]
 exact h.out act W h2 h3 hp
end
def Up (V:Vec):Option Addr:=V.p.map fun g=>⟨g,0,none⟩
def Tq (V:Vec):Nat:=match V.p with
 |none=>0
 |some _=>V.cap
theorem J5 {V:Vec} {size n:Nat} {xs:List Value} (h:V.OK size n xs):V.val n= .slice (Up V) n (Tq V):=by
 obtain⟨p,cap,junk⟩:=V
 cases p with
 |none=>rw[h.nil rfl];rfl
 |some g=>rfl
theorem RG {V:Vec} {size n:Nat} {xs:List Value} (h:V.OK size n xs):n≤Tq V:=by
 obtain⟨p,cap,junk⟩:=V
 cases p with
 |none=>rw[h.nil rfl];exact Nat.le_refl _
 |some g=>exact(h.cap (by simp)).1
def Mh (W:World) (p:Option Addr) (cs:List Value):Prop:=cs=[]∨ ∃b off,p=some ⟨b,off,none⟩∧Al W b off cs
theorem Mh.none {W:World} {l:List Value} (h:Mh W none l):l=[]:=by
 rcases h with h|⟨b,off,e,_⟩
 ·exact h
 ·cases e
-- BOXES 3
def T2p (n0 n1:Nat):Nat→Nat
 |0=>0
 |1=>n0
 |_=>n0+n1
def C2p (c0 c1:List Value):Nat→List Value
 |0=>[]
 |1=>c0
 |_=>c0++c1
theorem My (W:World) (m:Nat) (hm:m≤1000000):Ah Tryz.prog 138 #[.slice none 0 0, .int .i64 (m:Nat)] W (fun V:Vec=>V.val 0) (fun V=>V.OK 2 0 []∧(0<m→V.p≠none)) (fun V=>[V.bx 35 []]):=by
 refine Ab (args:=[.slice none 0 0, .int .i64 (m:Nat)]) Tryz.func138 I I I ?_
 refine zA (zB (wP I (Aa (zE (zA (zA (zB (wP I (wP I (Aa (zE (zS I (zI ?_)))))))))))))
 refine zE (zA (zA (zB ?_)))
 iterate 8 refine wP I ?_
 refine Aa (zE (zA (zB (wP I (wP I (Aa (zE ?_)))))))
 have e14:w64 ((m:Int)-w64 (0-0))=m:=by
  have:w64 (0-0)=0:=rfl
  rw[this];exact(As (by omega) (by omega)).trans (by omega)
 refine AU 16 _ I (show Value.bool (decide (w64 ((m:Int)-w64 (0-0))>0))= .bool (decide (0<m)) by rw[e14];congr 1;simp) ?_
 refine Ap I (fun h=> ?_) (fun h=> ?_)
 ·have h:0<m:=by simpa using h
  refine zB (wP I (wP I (wP I ?_)))
  refine Di 0 tH I I I I I I I I (Nat.le_refl _) ?_
  refine wP I ?_
  refine Ki Tryz.vec22 (ku:= .i64) (by kernel_rfl) m I I I I I I I I e14 h (by simp only[maxLen];omega) (by omega) ?_
  intro V hV hp hj
  refine wP I (wP I ?_)
  obtain⟨p,cap,junk⟩:=V
  cases p with
  |none=>exact absurd rfl hp
  |some g=>
  refine Di (a:=some ⟨g,0,none⟩) (len:=m) (cap:=cap) 0 tH I I I I I I I I (Nat.zero_le _) ?_
  refine wP I (Aa (zE (zA (zB (wP I (wP I (Aa (zE (zO ?_)))))))))
  obtain⟨h1,h2,h3⟩:=hV.cap (by simp)
  refine Ay tH rfl (.tmp rfl) (⟨some g,cap,Cx [.string ⟨#[]⟩, .string ⟨#[]⟩] m++junk⟩:Vec) rfl ⟨⟨rfl,(fun h=>by cases h),fun _=>⟨Nat.zero_le _,h2, ?_⟩⟩,fun _=>by simp⟩ fun W hp=>Ao.of_hp1 hp 0 rfl
  show 0+(Cx _ m++junk).length=cap*2
  rw[List.length_append,Nat.zero_add]
  exact h3
 ·have h:m=0:=by simp at h;omega
  subst h
  exact zI (zE (zA (zB (wP rfl (wP rfl (Aa (zE (zO (Ay tH rfl (.tmp rfl) Vec.empty rfl ⟨Vec.OK.empty 2,fun h=>absurd h (Nat.lt_irrefl _)⟩ fun W hp=>Own.one (fun p hp=>by cases hp) List.nodup_nil)))))))))
theorem GA (W:World) (b cap:Nat) (p0 p1:Option Addr) (n0 n1 k0 k1:Nat) (c0 c1:List Value) (hrow:Al W b 0 [.slice p0 n0 k0, .slice p1 n1 k1]) (h0:Mh W p0 c0) (h1:Mh W p1 c1) (l0:c0.length=n0*2) (l1:c1.length=n1*2)
  (o0: ∀u∈c0,u.oneCell'=true) (o1: ∀u∈c1,u.oneCell'=true) (b0:n0≤100000) (b1:n1≤100000):
  Ah Tryz.prog 77 #[.slice (some ⟨b,0,none⟩) 2 cap] W (fun V:Vec=>V.val (n0+n1)) (fun V=>V.OK 2 (n0+n1) (c0++c1)) (fun V=>[V.bx 35 (c0++c1)]):=by
 refine Ab (args:=[.slice (some ⟨b,0,none⟩) 2 cap]) Tryz.func77 I I I ?_
 refine zA (zB (wP I (Aa (zE (zA (zB (wP I (Aa (zE (zA (zA (zB (wP I (wP I (wP I ?_)))))))))))))))
 refine Aa (zE (zH ?_))
 refine A6 (X:=Nat) (fun k=>[(0, .slice (some ⟨b,0,none⟩) 2 cap),(3, .int .i64 (T2p n0 n1 k:Nat)),(9, .slice (some ⟨b,0,none⟩) 2 cap),(10, .int .i64 2),(11, .int .i64 (k:Nat))]) (fun _=>[])
  (fun k=>k≤2) (fun k=>2-k) 0 (Nat.zero_le _) ⟨rfl,rfl,rfl,rfl,rfl,trivial⟩ [] rfl ?_
 intro i hi
 have hi:i=0∨i=1∨i=2:=by have:i≤2:=hi;omega
 rcases hi with rfl|rfl|rfl
 ·refine zA (zB (wP I (Aa (zE (zA (zR I (zI (zE (zA (zH (zA (zB ?_))))))))))))
  refine wJ ?_
  refine wL 0 I I (fun W hp=>hrow.hp hp) I (wP I (Aa (zE (zA (zB (wP I (wP I (wP I (wP I (wV 18 (T2p n0 n1 1:Nat) I (show w64 ((T2p n0 n1 0:Nat)+(n0:Nat))=(T2p n0 n1 1:Nat) by have hT0:T2p n0 n1 0=0:=I;have hT1:T2p n0 n1 1=n0:=I;rw[As (by omega) (by omega)];omega) (wP I (Aa (zE ?_)))))))))))))
  exact zA (zB (wP I (wP I (Aa (zE (zS I (zI (zN (zE (zB (wP I (wP I (Aa (Az 1 (by decide) (by decide) ⟨I,I,I,I,I,tO⟩ [] I))))))))))))))
 ·refine zA (zB (wP I (Aa (zE (zA (zR I (zI (zE (zA (zH (zA (zB ?_))))))))))))
  refine wJ ?_
  refine wL 1 I I (fun W hp=>hrow.hp hp) I (wP I (Aa (zE (zA (zB (wP I (wP I (wP I (wP I (wV 18 (T2p n0 n1 2:Nat) I (show w64 ((T2p n0 n1 1:Nat)+(n1:Nat))=(T2p n0 n1 2:Nat) by have hT0:T2p n0 n1 1=n0:=I;have hT1:T2p n0 n1 2=n0+n1:=I;rw[As (by omega) (by omega)];omega) (wP I (Aa (zE ?_)))))))))))))
  exact zA (zB (wP I (wP I (Aa (zE (zS I (zI (zN (zE (zB (wP I (wP I (Aa (Az 2 (by decide) (by decide) ⟨I,I,I,I,I,tO⟩ [] I))))))))))))))
 refine zA (zB (wP I (Aa (zE (zA (zS I (zJ (zK (zK (zL (zE (zA (zB ?_)))))))))))))
 refine wP I ?_
 refine wD (X:=Vec) I I (fun W _=>My W (n0+n1) (by omega)) ?_
 rintro V0 ⟨hV0,hV0p⟩
 refine wP I (Aa (zE (zA (zA (zB (wP I (wP I (wP I (Aa (zE (zH ?_)))))))))))
 refine A6 (X:=Nat×Vec) (fun x=>[(6,x.2.val (T2p n0 n1 x.1)),(25, .slice (some ⟨b,0,none⟩) 2 cap),(26, .int .i64 2),(27, .int .i64 (x.1:Nat))]) (fun x=>[x.2.bx 35 (C2p c0 c1 x.1)])
  (fun x=>x.1≤2∧x.2.OK 2 (T2p n0 n1 x.1) (C2p c0 c1 x.1)) (fun x=>2-x.1) (0,V0) ⟨Nat.zero_le _,hV0⟩ ⟨rfl,rfl,rfl,rfl,trivial⟩ [] rfl ?_
 rintro⟨i,V⟩ ⟨hi,hV⟩
 have hi:i=0∨i=1∨i=2:=by have:i≤2:=hi;omega
 rcases hi with rfl|rfl|rfl
 ·have hV:V.OK 2 (T2p n0 n1 0) (C2p c0 c1 0):=hV
  have hT0:T2p n0 n1 0=0:=rfl
  have hT1:T2p n0 n1 1=n0:=rfl
  refine zA (zB (wP I (Aa (zE (zA (zR I (zI (zE (zA (zH (zA (zB ?_))))))))))))
  refine wJ ?_
  refine wL 0 I I (fun W hp=>hrow.hp hp) I (wP I (Aa (zE (zB (wP I (wP I ?_))))))
  cases p0 with
  |none=>
   have hc:=h0.none
   have hn0:n0=0:=by rw[hc,List.length_nil] at l0;omega
   refine Af 31 (.slice (Up V) (T2p n0 n1 0) (Tq V)) I (J5 hV) ?_
   refine Af 32 (.slice none 0 k0) I (by rw[hn0]) ?_
   refine Ik Tryz.vec22 I I I I I I I I (RG hV) ?_
   refine Af 33 (V.val (T2p n0 n1 0)) I (J5 hV).symm ?_
   have eT:T2p n0 n1 0=T2p n0 n1 1:=by omega
   have eC:C2p c0 c1 0=C2p c0 c1 1:=by show[]=c0;rw[hc]
   rw[eT,eC] at hV
   rw[eT,eC]
   exact wP I (Aa (zN (zE (zB (wP I (wP I (Aa (Az (1,V) ⟨by show 1≤2;decide,hV⟩ (by show 2-1<2-0;decide) ⟨I,I,I,I,tO⟩ [] I))))))))
  |some a=>
   refine GV (len:=T2p n0 n1 0) (V:=V) 0 Tryz.vec22 I I I I I I I I I hV l0 (fun W hp j u hj=> ?_) o0 (by simp only[maxLen];omega) (by omega) ?_
   ·obtain⟨ab,ao,asp⟩:=a
    rcases h0 with h|⟨b',off',e,h⟩
    ·rw[h] at hj;simp at hj
    ·cases e
     rw[Addr.add_none]
     exact(h.hp hp).get j u hj
   intro V' hV' _
   have eT:T2p n0 n1 0+n0=T2p n0 n1 1:=by omega
   have eC:C2p c0 c1 0++c0=C2p c0 c1 1:=rfl
   rw[eT,eC] at hV'
   rw[eT,eC]
   exact wP I (Aa (zN (zE (zB (wP I (wP I (Aa (Az (1,V') ⟨by show 1≤2;decide,hV'⟩ (by show 2-1<2-0;decide) ⟨I,I,I,I,tO⟩ [] I))))))))
 ·have hV:V.OK 2 (T2p n0 n1 1) (C2p c0 c1 1):=hV
  have hT0:T2p n0 n1 1=n0:=rfl
  have hT1:T2p n0 n1 2=n0+n1:=rfl
  refine zA (zB (wP I (Aa (zE (zA (zR I (zI (zE (zA (zH (zA (zB ?_))))))))))))
  refine wJ ?_
  refine wL 1 I I (fun W hp=>hrow.hp hp) I (wP I (Aa (zE (zB (wP I (wP I ?_))))))
  cases p1 with
  |none=>
   have hc:=h1.none
   have hn0:n1=0:=by rw[hc,List.length_nil] at l1;omega
   refine Af 31 (.slice (Up V) (T2p n0 n1 1) (Tq V)) I (J5 hV) ?_
   refine Af 32 (.slice none 0 k1) I (by rw[hn0]) ?_
   refine Ik Tryz.vec22 I I I I I I I I (RG hV) ?_
   refine Af 33 (V.val (T2p n0 n1 1)) I (J5 hV).symm ?_
   have eT:T2p n0 n1 1=T2p n0 n1 2:=by omega
   have eC:C2p c0 c1 1=C2p c0 c1 2:=by show c0=c0++c1;rw[hc];simp
   rw[eT,eC] at hV
   rw[eT,eC]
   exact wP I (Aa (zN (zE (zB (wP I (wP I (Aa (Az (2,V) ⟨by show 2≤2;decide,hV⟩ (by show 2-2<2-1;decide) ⟨I,I,I,I,tO⟩ [] I))))))))
  |some a=>
   refine GV (len:=T2p n0 n1 1) (V:=V) 0 Tryz.vec22 I I I I I I I I I hV l1 (fun W hp j u hj=> ?_) o1 (by simp only[maxLen];omega) (by omega) ?_
   ·obtain⟨ab,ao,asp⟩:=a
    rcases h1 with h|⟨b',off',e,h⟩
    ·rw[h] at hj;simp at hj
    ·cases e
     rw[Addr.add_none]
     exact(h.hp hp).get j u hj
   intro V' hV' _
   have eT:T2p n0 n1 1+n1=T2p n0 n1 2:=by omega
   have eC:C2p c0 c1 1++c1=C2p c0 c1 2:=rfl
   rw[eT,eC] at hV'
   rw[eT,eC]
   exact wP I (Aa (zN (zE (zB (wP I (wP I (Aa (Az (2,V') ⟨by show 2≤2;decide,hV'⟩ (by show 2-2<2-1;decide) ⟨I,I,I,I,tO⟩ [] I))))))))
 refine zA (zB (wP I (Aa (zE (zA (zS I (zJ (zK (zK (zL (zE (zA (zB ?_)))))))))))))
 exact wP I (wP I (Aa (zE (zO (Ay tH I (.tmp I) V I hV fun W hp=>Ao.of_hp1 hp 0 I)))))
-- BOXES 6
-- CODE2
structure U2 (p q:Aj) (u v:Rat):Prop where
 s:Sz2 u v
 d:Sz2 u (u-v)
 nz:(u-v).num≠0
 x1:Sz2 q.1 p.1
 x2:Sz2 (u/(u-v)) (q.1-p.1)
 x3:Sz2 p.1 (u/(u-v)*(q.1-p.1))
 y1:Sz2 q.2 p.2
 y2:Sz2 (u/(u-v)) (q.2-p.2)
 y3:Sz2 p.2 (u/(u-v)*(q.2-p.2))
theorem Kn (c:Nat) (p q:Aj) (u v:Rat) (hz:U2 p q u v) (W:World) (hc:Cq W c) (hv:Ci W) (ht:AL W):
  Ah Tryz.prog 69 #[Ai c,cvV p,cvV q,str (Ae u),str (Ae v)] W (fun _:Unit=>cvV (Dw (u/(u-v)) p q)) (fun _=>True) (fun _=>[]):=by
 refine Ab (args:=[Ai c,cvV p,cvV q,str (Ae u),str (Ae v)]) Tryz.func69 I I I ?_
 refine zA (zB ?_)
 (refine A5 rfl rfl rfl rfl ?_;intro)
 (refine A5 rfl rfl rfl rfl ?_;intro)
 (refine Ag Tryz.hZ rfl rfl rfl rfl ?_;intro)
 refine Aa (zE (zA (zB ?_)))
 iterate 5 refine wP I ?_
 refine wC I I (fun W hp=>Ct c u v hz.s W (hc.hp hp) (hv.hp hp) (ht.hp hp)) (wC I I (fun W hp=>FS c u (u-v) hz.d hz.nz W (hc.hp hp) (hv.hp hp) (ht.hp hp)) (wP I (Aa (zE (zA (zU (qP I (qP I (qB 0 I I I (qP I (qP I (qP I (qP I ?_)))))))))))))
 refine qB 1 I I I (qP I (qB 0 I I I (qC I I (fun W hp=>Ct c q.1 p.1 hz.x1 W (hc.hp hp) (hv.hp hp) (ht.hp hp)) (qC I I (fun W hp=>BX c (u/(u-v)) (q.1-p.1) hz.x2 W (hc.hp hp) (hv.hp hp) (ht.hp hp)) (qC I I (fun W hp=>Cw c p.1 (u/(u-v)*(q.1-p.1)) hz.x3 W (hc.hp hp) (hv.hp hp) (ht.hp hp)) (qP I (AP (Aa (zE (zA (zU (qP I (qP I ?_)))))))))))))
 refine qB 0 I I I (qP I (qP I (qP I (qP I (qB 1 I I I (qP I (qB 0 I I I (qC I I (fun W hp=>Ct c q.2 p.2 hz.y1 W (hc.hp hp) (hv.hp hp) (ht.hp hp)) (qC I I (fun W hp=>BX c (u/(u-v)) (q.2-p.2) hz.y2 W (hc.hp hp) (hv.hp hp) (ht.hp hp)) (qC I I (fun W hp=>Cw c p.2 (u/(u-v)*(q.2-p.2)) hz.y3 W (hc.hp hp) (hv.hp hp) (ht.hp hp)) (qP I (AP (Aa ?_)))))))))))))
 refine zE (zA (zB (wP I (wP I ?_))))
 refine Av Tryz.hZ tH I I I I I I I I ?_
 exact wS 2 I I I (Aa (zE (zO (Ay tH I (.cell 2 I I I I I) () I tO fun W _=>Ao.nil _ _))))
theorem MB (q:Rat):decide (Ew q<0)=decide (q<0):=by
 refine decide_eq_decide.2 ?_
 have h:q.num<0↔q<0:=by rw[←Rat.not_le, ←Rat.num_nonneg];omega
 rw[←h]
 unfold Ew
 split
 ·omega
 ·split<;>omega
theorem M3 (q:Rat) (W:World):Ah Tryz.prog 98 #[str (Ae q)] W (fun _:Unit=> .bool (decide (q<0))) (fun _=>True) (fun _=>[]):=by
 refine Ab (args:=[str (Ae q)]) Tryz.func98 I I I ?_
 refine zA (zB (wP I (Aa (zE (zA (zB (wP I (wC I I (fun W hp=>Ec q W) (wP I (wU 5 (decide (q<0)) I (MB q) (wP I (Aa (zE ?_)))))))))))))
 exact zO (wR1 I I I)
theorem QY {α:Type} {p:α→Bool} {l:List α} {i:Nat} (hi:i<l.length):(l.drop i).any p=(p l[i]||(l.drop (i+1)).any p):=by
 rw[List.drop_eq_getElem_cons hi,List.any_cons]
theorem Lt (g:Nat) (hE:Bk Tryz.prog g=true) (F:Rat→Bool) (hg: ∀q W,Ah Tryz.prog g #[str (Ae q)] W (fun _:Unit=> .bool (F q)) (fun _=>True) (fun _=>[])) (l:List Rat) (hn:l.length≤100000) (p:Option Addr) (cap:Nat) (W:World) (hS:G2 W p (l.map Ae)):
  Ah Tryz.prog 147 #[slv p l.length cap, .func (.func g) #[] #[]] W (fun z:Int=> .int .i64 z) (fun z=>0≤z↔l.any F=true) (fun _=>[]):=by
 refine Ab (args:=[slv p l.length cap, .func (.func g) #[] #[]]) Tryz.func147 I I I ?_
 refine zA (zB (wP I (Aa (zE (zA (zA (zB (wP I (wP I (wP I (Aa (zE (zH ?_)))))))))))))
 refine A6 (X:=Nat) (fun i=>[(0,slv p l.length cap),(1, .func (.func g) #[] #[]),(6,slv p l.length cap),(7, .int .i64 (l.length:Nat)),(8, .int .i64 (i:Nat))]) (fun _=>[]) (fun i=>i≤l.length∧l.any F=(l.drop i).any F) (fun i=>l.length-i) 0 ⟨Nat.zero_le _,by rw[List.drop_zero]⟩ ⟨I,I,I,I,I,tO⟩ [] I ?_
 intro i hi
 obtain⟨hi,hA⟩:i≤l.length∧l.any F=(l.drop i).any F:=hi
 refine zA (zB (wP I ?_))
 by_cases hlt:i<l.length
 rotate_left
 ·refine wU 9 false I (dF (by omega)) (Aa (zE (zA (zS I (zJ (zK (zK (zL (zE (zA (zB (wP I (Aa ?_)))))))))))))
  refine zE (zO ?_)
  rw[List.drop_of_length_le (by omega)] at hA
  exact Ay tH I (.tmp I) (-1:Int) I (by rw[hA];exact⟨fun h=>absurd h (by decide),fun h=>absurd (show false=true from h) (by decide)⟩) fun W _=>Ao.nil _ _
 refine wU 9 true I (dT (by omega)) (Aa (zE (zA (zR I (zI (zE (zA (zH (zA (zB ?_))))))))))
 obtain⟨b,off,rfl,hrow⟩:=hS.row (i:=i) (by rw[List.length_map];exact hlt)
 have hr:=hrow i (by rw[List.length_map];exact hlt)
 rw[List.getElem_map] at hr
 rw[QY hlt] at hA
 obtain⟨q,hq⟩: ∃q,q=l[i]:=⟨_,rfl⟩
 rw[←hq] at hr hA
 refine wP I (wP I (Aa (zE (zA (zB (wP I (wP I (wP I ?_))))))))
 refine wJ ?_
 refine wL 0 I I (fun W1 hp=>hr.hp hp) I ?_
 refine B1 (capt:=[]) I I I I I I hE (fun W1 _=>hg q W1) ?_
 refine Aa (zE ?_)
 refine Ap I (fun hc=> ?_) (fun hc=> ?_)
 ·have hc:F q=true:=hc
  exact zA (zB (wP I (wP I (Aa (zE (zO (zQ (zP (zP (zQ (zP (Ay tH I (.tmp I) ((i:Nat):Int) I ⟨fun _=>by rw[hA,hc];rfl,fun _=>by omega⟩ fun W _=>Ao.nil _ _))))))))))))
 ·have hc:F q=false:=hc
  rw[hc,Bool.false_or] at hA
  exact zI (zN (zE (zB (wP I (wV 18 ((i+1:Nat):Int) I (Ax (by omega)) (wP I (Aa (Az (i+1) ⟨hlt,hA⟩ (by show l.length-(i+1)<l.length-i;omega) ⟨I,I,I,I,I,tO⟩ [] I))))))))
theorem IF (g:Nat) (hE:Bk Tryz.prog g=true) (F:Rat→Bool) (hg: ∀q W,Ah Tryz.prog g #[str (Ae q)] W (fun _:Unit=> .bool (F q)) (fun _=>True) (fun _=>[])) (l:List Rat) (hn:l.length≤100000) (p:Option Addr) (cap:Nat) (W:World) (hS:G2 W p (l.map Ae)):
  Ah Tryz.prog 97 #[slv p l.length cap, .func (.func g) #[] #[]] W (fun _:Unit=> .bool (l.any F)) (fun _=>True) (fun _=>[]):=by
 refine Ab (args:=[slv p l.length cap, .func (.func g) #[] #[]]) Tryz.func97 I I I ?_
 refine zA (zB (wP I (Aa (zE (zA (zB (wP I (wP I ?_))))))))
 refine wD (X:=Int) I I (fun W1 hp=>Lt g hE F hg l hn p cap W1 (hS.hp hp)) ?_
 intro z hz
 have hz:0≤z↔l.any F=true:=hz
 refine wP I ?_
 refine Af 8 (.bool (l.any F)) I (congrArg Value.bool (by
  cases h:l.any F with
  |true=>exact dT (hz.2 h)
  |false=>exact dF fun h2=>by rw[hz.1 h2] at h;cases h)) ?_
 exact wP I (Aa (zE (zO (wR1 I I I))))
theorem Qm (p q:Rat):(p<q∧Dy p q= -1)∨(p=q∧Dy p q=0)∨(q<p∧Dy p q=1):=by
 have h1:=HZ p q
 have h2:=GI p q
 rcases HE p q with e|e|e<;>rw[e] at h1 h2⊢
 ·exact .inl ⟨of_decide_eq_true h1.symm,I⟩
 ·refine .inr (.inl ⟨?_,I⟩)
  have a:=of_decide_eq_false h1.symm
  have b:=of_decide_eq_false h2.symm
  exact Rat.le_antisymm (Rat.not_lt.1 b) (Rat.not_lt.1 a)
 ·exact .inr (.inr ⟨of_decide_eq_true h2.symm,I⟩)
theorem Qx (p q:Aj):decide (QZ p q<0)=BR p q:=by
 unfold QZ BR
 have h1:=Qm p.1 q.1
 have h2:=Qm p.2 q.2
 rcases h1 with⟨a,e⟩|⟨a,e⟩|⟨a,e⟩
 ·rw[e,if_neg (by decide),dT a];rfl
 ·rw[e,if_pos rfl,HZ,dF (show¬p.1<q.1 by grind),dT a,Bool.false_or,Bool.true_and]
 ·rw[e,if_neg (by decide),dF (show¬p.1<q.1 by grind),dF (show¬p.1=q.1 by grind)];rfl
abbrev ptC (l:List Aj):List Value:=l.flatMap fun q=>[str (Ae q.1),str (Ae q.2)]
theorem FP (a b:List Aj):ptC (a++b)=ptC a++ptC b:=List.flatMap_append
theorem Bg (l:List Aj):(ptC l).length=l.length*2:=by
 induction l with
 |nil=>rfl
 |cons p l ih=>show(ptC l).length+1+1=(l.length+1)*2;rw[ih];omega
theorem JF (l:List Aj): ∀u∈ptC l,u.oneCell'=true:=fun u hu=>by
 obtain⟨q,_,h⟩:=List.mem_flatMap.1 hu
 rcases List.mem_cons.1 h with rfl|h
 ·rfl
 ·obtain rfl:=List.mem_singleton.1 h;rfl
theorem Cz {W:World} {g off:Nat} {a b:List Value} (h:Al W g off (a++b)):Al W g off a:=⟨h.lt,fun k u hu=>h.get k u (by rw[List.getElem?_append_left (List.getElem?_eq_some_iff.1 hu).1];exact hu)⟩
theorem GU {W:World} {g off:Nat} {a b:List Value} (h:Al W g off (a++b)):Al W g (off+a.length) b:=⟨h.lt,fun k u hu=>by
 have:=h.get (a.length+k) u (by rw[List.getElem?_append_right (by omega),Nat.add_sub_cancel_left];exact hu)
 rwa [←Nat.add_assoc] at this⟩
theorem U3 {l:List Aj} {i:Nat} (hi:i<l.length):ptC l=ptC (l.take i)++([str (Ae l[i].1),str (Ae l[i].2)]++ptC (l.drop (i+1))):=by
 conv=>lhs;rw[←List.take_append_drop i l,List.drop_eq_getElem_cons hi,FP]
 rfl
theorem Dx.of_row {W:World} {g off:Nat} {l:List Aj} {junk:List Value} (h:Al W g off (ptC l++junk)):Dx W (some ⟨g,off,none⟩) l:= .inr ⟨g,off,rfl,fun i hi=>by
 have h1:=Cz h
 rw[U3 hi] at h1
 have h2:=Cz (GU h1)
 rwa [Bg,List.length_take,Nat.min_eq_left (Nat.le_of_lt hi)] at h2⟩
theorem MP (c:Nat) (l:List Aj) (k:Nat) (hk:k≤149) (hs:Hv k l) (h0:0<l.length) (hn:l.length≤100000) (g cap:Nat) (hcap:l.length≤cap) (W:World) (hrow:Al W g 0 (ptC l)) (hc:Cq W c) (hv:Ci W) (ht:AL W):
  Ah Tryz.prog 99 #[Ai c,slv (some ⟨g,0,none⟩) l.length cap] W (fun V:Vec=>V.val l.length) (fun V=>V.OK 2 l.length (ptC (BU l))) (fun V=>[V.bx 35 (ptC (BU l))]):=by
 have hrow':Al W g 0 (ptC l++[]):=by rw[List.append_nil];exact hrow
 have hA:=Dx.of_row hrow'
 have hr: ∀i,i<l.length→Al W g (0+i*2) [str (Ae (Ad l i).1),str (Ae (Ad l i).2)]:=fun i hi=>by
  obtain⟨g',off',e,h⟩:=hA.at_ hi
  cases e
  rw[B6 hi]
  exact h i hi
 have hlst: ∀i,i≤l.length→Cg l i<l.length:=fun i hi=>by
  rcases(IW l i).1 with e|e<;>omega
 refine Ab (args:=[Ai c,slv (some ⟨g,0,none⟩) l.length cap]) Tryz.func99 I I I ?_
 refine zA (zB (wP I (Aa (zE (zA (zB (wP I (Aa (zE (zA (zA (zB (wP I ?_)))))))))))))
 refine Aa (zE (zH ?_))
 have e1:Cg l 1=0:=by show(if BR (Ad l 0) (Ad l 0)=true then 0 else 0)=0;split<;>rfl
 refine A6 (X:=Nat) (fun i=>[(0,Ai c),(1,slv (some ⟨g,0,none⟩) l.length cap),(5, .int .i64 (Cg l i:Nat)),(6, .int .i64 (i:Nat))]) (fun _=>[]) (fun i=>1≤i∧i≤l.length) (fun i=>l.length-i) 1 ⟨Nat.le_refl _,h0⟩ ⟨I,I,congrArg (fun n:Nat=>some (Value.int .i64 (n:Int))) e1.symm,I,tO⟩ [] I ?_
 intro i hi
 obtain⟨hi1,hi⟩:1≤i∧i≤l.length:=hi
 have hls:=hlst i hi
 refine zA (zA (zB (wP I (wP I (wP I (wP I ?_))))))
 by_cases hlt:i<l.length
 ·refine wU 10 true I (dT (by omega)) (Aa (zE (zR I (zI (zE (zA (zH (zA (zU ?_)))))))))
  have hsu:Cg l (i+1)=if BR (Ad l i) (Ad l (Cg l i))=true then i else Cg l i:=rfl
  have zi:=hs.at_ h0 i
  have zj:=hs.at_ h0 (Cg l i)
  refine qP I (qP I (qP I ?_))
  refine qJ ?_
  refine qL 0 I I (fun W1 hp=>(hr i hlt).hp hp) I (qP I (qP I ?_))
  refine qJ ?_
  refine qL 0 I I (fun W1 hp=>(hr (Cg l i) hls).hp hp) I (qC I I (fun W1 hp=>Jl c (Ad l i) (Ad l (Cg l i)) (sz2 zi.1 zj.1 (by omega)) (sz2 zi.2 zj.2 (by omega)) W1 (hc.hp hp) (hv.hp hp) (ht.hp hp)) (qP I (qU 23 (BR (Ad l i) (Ad l (Cg l i))) I (Qx _ _) (AP (Aa (zE ?_))))))
  refine Ap I (fun hc2=> ?_) (fun hc2=> ?_)
  ·have hc2:BR (Ad l i) (Ad l (Cg l i))=true:=hc2
   rw[if_pos hc2] at hsu
   exact zB (wP I (wP I (Aa (zN (zE (zB (wP I (wP I (wV 12 ((i+1:Nat):Int) I (Ax (by omega)) (wP I (Aa (Az (i+1) ⟨by omega,hlt⟩ (by show l.length-(i+1)<l.length-i;omega) ⟨I,I,congrArg (fun n:Nat=>some (Value.int .i64 (n:Int))) hsu.symm,I,tO⟩ [] I))))))))))))
  ·have hc2:BR (Ad l i) (Ad l (Cg l i))=false:=hc2
   rw[hc2,if_neg (by decide)] at hsu
   exact zI (zN (zE (zB (wP I (wP I (wV 12 ((i+1:Nat):Int) I (Ax (by omega)) (wP I (Aa (Az (i+1) ⟨by omega,hlt⟩ (by show l.length-(i+1)<l.length-i;omega) ⟨I,I,congrArg (fun n:Nat=>some (Value.int .i64 (n:Int))) hsu.symm,I,tO⟩ [] I)))))))))
 have e:i=l.length:=by omega
 subst e
 obtain⟨m,hm⟩: ∃m,m=Cg l l.length:=⟨_,rfl⟩
 rw[←hm] at hls
 rw[←hm]
 have hB:BU l=l.drop m++l.take m:=by rw[hm];rfl
 have hBC:ptC (BU l)=ptC (l.drop m)++ptC (l.take m):=by rw[hB,FP]
 have hl1:(l.drop m).length=l.length-m:=List.length_drop
 have hl2:(l.take m).length=m:=by rw[List.length_take];omega
 have hsplit:ptC l=ptC (l.take m)++ptC (l.drop m):=by rw[←FP,List.take_append_drop]
 have ra:Al W g 0 (ptC (l.take m)):=by rw[hsplit] at hrow;exact Cz hrow
 have rb:Al W g (m*2) (ptC (l.drop m)):=by
  rw[hsplit] at hrow
  have:=GU hrow
  rwa [Bg,hl2,Nat.zero_add] at this
 refine wU 10 false I (dF (by omega)) (Aa (zE (zS I (zJ (zK (zK (zL (zE (Aw ?_)))))))))
 refine AZ (X:= { V:Vec//V.OK 2 l.length (ptC (BU l)) }) [true,true,false,true,true,false,false,false,false] (fun V=>[(4,V.1.val l.length)]) (fun V=>[V.1.bx 35 (ptC (BU l))])
  5 [] Tryz.mixed (by kernel_rfl) ?_ ?_
 ·refine qP I (qP I (qP I (qP I (Cm (wX ?_)))))
  refine RS.cons ?_ (RS.cons ?_ (RS.nil))
  ·refine EH m tH I I I I I I I I (by omega) (by omega) ?_;refine Af 27 (.slice (some ⟨g,m*2,none⟩) (l.length-m) (cap-m)) I (by rw[if_neg (by omega),Nat.zero_add]) ?_
   refine Aa (Ac (wX (wZ ?_)))
   refine Di m tH I I I I I I I I (by omega) ?_
   refine Aa (Ac (wX (wZ ?_)))
   refine AA Tryz.hZ tH I I I I I I I I I I I fun bL1=> ?_
   refine Aa (Ac (wX (wZ ?_)))
   refine wD (X:=Vec) rfl rfl (fun W1 hp=>GA W1 bL1 2 (some ⟨g,m*2,none⟩) (some ⟨g,0,none⟩) (l.length-m) m (cap-m) cap (ptC (l.drop m)) (ptC (l.take m)) (Al.of_bx hp 0 rfl rfl) (.inr ⟨g,m*2,rfl,rb.hp hp⟩) (.inr ⟨g,0,rfl,ra.hp hp⟩) (by rw[Bg,hl1]) (by rw[Bg,hl2]) (JF _) (JF _) (by omega) (by omega)) ?_;intro V1 hV1;refine Af 32 (V1.val l.length) rfl (by rw[show l.length-m+m=l.length by omega]) ?_
   refine Aa (Ac (wX (wZ (wP I (Aa (Ac ?_))))))
   rw[show l.length-m+m=l.length by omega, ←hBC] at hV1;rw[←hBC];first|refine A4 rfl (by((repeat (first|refine A9.same ?_|refine A9.off rfl ?_));exact trivial)) ?_|refine AT rfl (by kernel_rfl) ?_
   exact At ⟨V1,hV1⟩ ⟨I,tO⟩ [1] (by decide) I
  ·refine Di m tH I I I I I I I I (by omega) ?_
   refine Aa (Ac (wX (wZ ?_)))
   refine EH m tH I I I I I I I I (by omega) (by omega) ?_;refine Af 27 (.slice (some ⟨g,m*2,none⟩) (l.length-m) (cap-m)) I (by rw[if_neg (by omega),Nat.zero_add]) ?_
   refine Aa (Ac (wX (wZ ?_)))
   refine AA Tryz.hZ tH I I I I I I I I I I I fun bL1=> ?_
   refine Aa (Ac (wX (wZ ?_)))
   refine wD (X:=Vec) rfl rfl (fun W1 hp=>GA W1 bL1 2 (some ⟨g,m*2,none⟩) (some ⟨g,0,none⟩) (l.length-m) m (cap-m) cap (ptC (l.drop m)) (ptC (l.take m)) (Al.of_bx hp 0 rfl rfl) (.inr ⟨g,m*2,rfl,rb.hp hp⟩) (.inr ⟨g,0,rfl,ra.hp hp⟩) (by rw[Bg,hl1]) (by rw[Bg,hl2]) (JF _) (JF _) (by omega) (by omega)) ?_;intro V1 hV1;refine Af 32 (V1.val l.length) rfl (by rw[show l.length-m+m=l.length by omega]) ?_
   refine Aa (Ac (wX (wZ (wP I (Aa (Ac ?_))))))
   rw[show l.length-m+m=l.length by omega, ←hBC] at hV1;rw[←hBC];first|refine A4 rfl (by((repeat (first|refine A9.same ?_|refine A9.off rfl ?_));exact trivial)) ?_|refine AT rfl (by kernel_rfl) ?_
   exact At ⟨V1,hV1⟩ ⟨I,tO⟩ [1] (by decide) I
 rintro⟨V,hV⟩
 exact zE (zO (Ay tH I (.tmp I) V I hV fun W1 hp=>Ao.of_hp hp))
-- BOXES 12
-- CODE2
theorem Mo (q:Rat):decide (Ew q≤0)=decide (q≤0):=by
 refine decide_eq_decide.2 ?_
 have h:0<q.num↔0<q:=by
  have h1:0≤q.num↔0≤q:=Rat.num_nonneg
  have h2:q.num=0↔q=0:=Rat.num_eq_zero
  constructor
  ·intro h
   exact Rat.lt_of_le_of_ne (h1.1 (by omega)) (fun e=>by rw[←e] at h;exact absurd h (by decide))
  ·intro h
   have a:=h1.2 (Rat.le_of_lt h)
   have b:q.num≠0:=fun e=>by rw[h2.1 e] at h;exact Rat.lt_irrefl h
   omega
 rw[←Rat.not_lt, ←h]
 unfold Ew
 split
 ·omega
 ·split<;>omega
theorem HJ (q:Rat):Ew q= -1∨Ew q=0∨Ew q=1:=by
 unfold Ew
 split
 ·exact .inr (.inl I)
 ·split
  ·exact .inl I
  ·exact .inr (.inr I)
theorem PX (u v:Rat):decide (w64 (Ew u*Ew v)<0)=decide (u*v<0):=by
 have hu:=MB u
 have hu2:=Mo u
 have hv:=MB v
 have hv2:=Mo v
 rw[decide_eq_decide] at hu hu2 hv hv2
 rw[decide_eq_decide,BB]
 have hw:w64 (Ew u*Ew v)=Ew u*Ew v:=by
  rcases HJ u with a|a|a<;>rcases HJ v with b|b|b<;>rw[a,b]<;>rfl
 rw[hw]
 rw[show 0<v↔ ¬v≤0 from Rat.not_le.symm,show 0<u↔ ¬u≤0 from Rat.not_le.symm, ←hu, ←hu2, ←hv, ←hv2]
 rcases HJ u with a|a|a<;>rcases HJ v with b|b|b<;>rw[a,b]<;>decide
theorem Qo {W0 W:World} {bxs:List Bx} (hp:Hp W0 bxs W) (k:Nat) {g:Nat} {l:List Rat} {junk:List Value} {i:Nat} (hk:nth bxs k=some ⟨g,23,vsC l++junk,true,none⟩) (hi:i<l.length):Al W g (0+i*1) [str (Ae l[i])]:=by
 have h:=Cz (Al.of_bx hp k hk rfl)
 refine⟨h.lt,fun m u hu=> ?_⟩
 cases m with
 |zero=>
  obtain rfl:str (Ae l[i])=u:=by simpa using hu
  have:=h.get i (str (Ae l[i])) (by rw[List.getElem?_map,List.getElem?_eq_getElem hi];rfl)
  rw[Nat.zero_add,Nat.mul_one,Nat.add_zero]
  rwa [Nat.zero_add] at this
 |succ m=>simp at hu
structure ClZ (f:AD) (l:List Aj):Prop where
 v: ∀q∈l,Uo f q
 c: ∀i,i<l.length→f.at (Ad l i)*f.at (Ad l (i+1))<0→U2 (Ad l i) (Ad l (i+1)) (f.at (Ad l i)) (f.at (Ad l (i+1)))
 o:Hv 149 (Ba f l)
def D5 (f:AD) (l:List Aj) (k:Nat):List Aj:=(Bm (Ad l) k f).map (BP (Ad l))
def EP (f:AD) (l:List Aj) (k:Nat):List Aj:=D5 f l k++(if f.at (Ad l k)≤0 then[Ad l k] else[])
theorem Hb (f:AD) (l:List Aj) (k:Nat):D5 f l (k+1)=EP f l k++(if f.at (Ad l k)*f.at (Ad l (k+1))<0 then[Dw (f.at (Ad l k)/(f.at (Ad l k)-f.at (Ad l (k+1)))) (Ad l k) (Ad l (k+1))] else[]):=by
 unfold D5 EP
 rw[HH,CE,List.append_assoc]
 rfl
theorem F0 (f:AD) (l:List Aj): ∀k,(D5 f l k).length≤2*k
 |0=>Nat.le_refl _
 |k+1=>by
  have ih:=F0 f l k
  rw[Hb]
  unfold EP
  rw[List.length_append,List.length_append]
  have a:(if f.at (Ad l k)≤0 then[Ad l k] else[]).length≤1:=by split<;>simp
  have b:(if f.at (Ad l k)*f.at (Ad l (k+1))<0 then[Dw (f.at (Ad l k)/(f.at (Ad l k)-f.at (Ad l (k+1)))) (Ad l k) (Ad l (k+1))] else[]).length≤1:=by split<;>simp
  omega
theorem Sb (f:AD) (l:List Aj) (k:Nat):(EP f l k).length≤2*k+1:=by
 unfold EP
 have:=F0 f l k
 rw[List.length_append]
 have a:(if f.at (Ad l k)≤0 then[Ad l k] else[]).length≤1:=by split<;>simp
 omega
theorem Tr (f:AD) (l:List Aj):(l.map f.at).any (fun q=>decide (q<0))=IM f l:=by
 unfold IM
 rw[List.any_map];rfl
abbrev ckB (b c:Nat):Bx:=⟨b,59,[Ai c],true,none⟩
abbrev lsB (b:Nat) (v:Value):Bx:=⟨b,22,[v],true,none⟩
abbrev nmB (b:Nat) (v:Value):Bx:=⟨b,87,[v],true,none⟩
theorem Oe (c:Nat) (f:AD) (l:List Aj) (hz:ClZ f l) (hP:Bt l) (h3:3≤l.length) (hn:l.length≤4096) (p:Option Addr) (cap:Nat) (W:World) (hA:Dx W p l) (hc:Cq W c) (hv:Ci W) (ht:AL W):
  Ah Tryz.prog 42 #[Ai c,slv p l.length cap,str (Ae f.a),str (Ae f.b),str (Ae f.c)] W (fun V:Vec=>V.val (AY f l).length) (fun V=>V.OK 2 (AY f l).length (ptC (AY f l))) (fun V=>[V.bx 35 (ptC (AY f l))]):=by
 have hn0:0<l.length:=by omega
 have hzz:(l.length:Int)≠0:=by omega
 have hvl:(l.map f.at).length=l.length:=List.length_map _
 refine Ab (args:=[Ai c,slv p l.length cap,str (Ae f.a),str (Ae f.b),str (Ae f.c)]) Tryz.func42 I I I ?_
 refine zA (zB ?_)
 (refine A5 rfl rfl rfl rfl ?_;intro)
 (refine A5 rfl rfl rfl rfl ?_;intro)
 refine wP I (Aa ?_)
 rename_i b5 b6
 refine zE (Aw ?_)
 refine AZ (X:= { s:Nat×Vec//s.2.OK 1 l.length (vsC (l.map f.at)) }) [true,true,true,true,true,false,false,false,false] (fun s=>[(5,Ai b5),(6,Ai b6),(11,Ai s.1.1)]) (fun s=>[ckB b5 c,lsB b6 (slv p l.length cap),nmB s.1.1 (s.1.2.val l.length),s.1.2.bx 23 (vsC (l.map f.at))])
  4 [ckB b5 c,lsB b6 (slv p l.length cap)] Tryz.mixed (by kernel_rfl) ?_ ?_
 ·refine qB 1 I I I (qB 0 I I I (qP I (qP I (qP I (Cm (wX ?_))))))
  refine RS.cons ?_ (RS.cons ?_ (RS.nil))
  ·refine wD (X:=Nat×Nat×Nat×Nat) rfl rfl (fun W1 _=>El c f W1) ?_;rintro⟨v4,v5,v6,v7⟩ _
   refine Aa (Ac (wX ?_))
   refine RS.cons ?_ (RS.cons ?_ (RS.nil))
   ·refine wD (X:=Vec) rfl rfl (fun W1 hp=>C1 l f.at 132 [Ai v4,Ai v5,Ai v6,Ai v7] (by kernel_rfl) hn p cap W1 (hA.hp hp) (fun q hq W2 hb=>C2 v4 v5 v6 v7 c f q (hz.v q hq) W2 (IK.below (by first|exact⟨Al.of_bx hp 2 rfl rfl,Al.of_bx hp 3 rfl rfl,Al.of_bx hp 4 rfl rfl,Al.of_bx hp 5 rfl rfl,hc.hp hp,hv.hp hp,ht.hp hp⟩|exact⟨Al.of_bx hp 3 rfl rfl,Al.of_bx hp 4 rfl rfl,Al.of_bx hp 5 rfl rfl,Al.of_bx hp 6 rfl rfl,hc.hp hp,hv.hp hp,ht.hp hp⟩) hb))) ?_;rintro⟨pV1,cV1,jV1⟩ hV1;obtain⟨gV1,rfl⟩: ∃g,pV1=some g:=Option.ne_none_iff_exists'.1 (fun e=>absurd (hV1.nil e) (by omega))
    refine Aa (Ac (wX (wZ ?_)))
    refine Ag Tryz.hZ rfl rfl rfl rfl ?_;intro b11
    refine Aa (Ac (wX (wZ (wS 7 I I I (Aa (Ac ?_))))))
    refine A4 I (by((repeat (first|refine A9.same ?_|refine A9.off I ?_));exact tO)) ?_
    exact At (⟨(b11,⟨some gV1,cV1,jV1⟩),hV1⟩: { s:Nat×Vec//s.2.OK 1 l.length (vsC (l.map f.at)) }) ⟨I,I,I,tO⟩ [0,1,7,6] (by decide) I
   ·refine Ag Tryz.hZ rfl rfl rfl rfl ?_;intro b11
    refine Aa (Ac (wX (wZ ?_)))
    refine wD (X:=Vec) rfl rfl (fun W1 hp=>C1 l f.at 132 [Ai v4,Ai v5,Ai v6,Ai v7] (by kernel_rfl) hn p cap W1 (hA.hp hp) (fun q hq W2 hb=>C2 v4 v5 v6 v7 c f q (hz.v q hq) W2 (IK.below (by first|exact⟨Al.of_bx hp 2 rfl rfl,Al.of_bx hp 3 rfl rfl,Al.of_bx hp 4 rfl rfl,Al.of_bx hp 5 rfl rfl,hc.hp hp,hv.hp hp,ht.hp hp⟩|exact⟨Al.of_bx hp 3 rfl rfl,Al.of_bx hp 4 rfl rfl,Al.of_bx hp 5 rfl rfl,Al.of_bx hp 6 rfl rfl,hc.hp hp,hv.hp hp,ht.hp hp⟩) hb))) ?_;rintro⟨pV1,cV1,jV1⟩ hV1;obtain⟨gV1,rfl⟩: ∃g,pV1=some g:=Option.ne_none_iff_exists'.1 (fun e=>absurd (hV1.nil e) (by omega))
    refine Aa (Ac (wX (wZ (wS 6 I I I (Aa (Ac ?_))))))
    refine A4 I (by((repeat (first|refine A9.same ?_|refine A9.off I ?_));exact tO)) ?_
    exact At (⟨(b11,⟨some gV1,cV1,jV1⟩),hV1⟩: { s:Nat×Vec//s.2.OK 1 l.length (vsC (l.map f.at)) }) ⟨I,I,I,tO⟩ [0,1,6,7] (by decide) I
  ·refine Ag Tryz.hZ rfl rfl rfl rfl ?_;intro b11
   refine Aa (Ac (wX (wZ ?_)))
   refine wD (X:=Nat×Nat×Nat×Nat) rfl rfl (fun W1 _=>El c f W1) ?_;rintro⟨v4,v5,v6,v7⟩ _
   refine Aa (Ac (wX (wZ ?_)))
   refine wD (X:=Vec) rfl rfl (fun W1 hp=>C1 l f.at 132 [Ai v4,Ai v5,Ai v6,Ai v7] (by kernel_rfl) hn p cap W1 (hA.hp hp) (fun q hq W2 hb=>C2 v4 v5 v6 v7 c f q (hz.v q hq) W2 (IK.below (by first|exact⟨Al.of_bx hp 2 rfl rfl,Al.of_bx hp 3 rfl rfl,Al.of_bx hp 4 rfl rfl,Al.of_bx hp 5 rfl rfl,hc.hp hp,hv.hp hp,ht.hp hp⟩|exact⟨Al.of_bx hp 3 rfl rfl,Al.of_bx hp 4 rfl rfl,Al.of_bx hp 5 rfl rfl,Al.of_bx hp 6 rfl rfl,hc.hp hp,hv.hp hp,ht.hp hp⟩) hb))) ?_;rintro⟨pV1,cV1,jV1⟩ hV1;obtain⟨gV1,rfl⟩: ∃g,pV1=some g:=Option.ne_none_iff_exists'.1 (fun e=>absurd (hV1.nil e) (by omega))
   refine Aa (Ac (wX (wZ (wS 2 I I I (Aa (Ac ?_))))))
   refine A4 I (by((repeat (first|refine A9.same ?_|refine A9.off I ?_));exact tO)) ?_
   exact At (⟨(b11,⟨some gV1,cV1,jV1⟩),hV1⟩: { s:Nat×Vec//s.2.OK 1 l.length (vsC (l.map f.at)) }) ⟨I,I,I,tO⟩ [0,1,2,7] (by decide) I
 rintro⟨⟨b11,⟨pV,cV,jV⟩⟩,hV⟩
 obtain⟨gV,rfl⟩: ∃g,pV=some g:=by
  cases pV with
  |none=>have:=hV.nil rfl;omega
  |some g=>exact⟨g,rfl⟩
 have hcapV:=(hV.cap (by simp)).1
 refine zE (zA (zA (zB (wB 0 I I I ?_))))
 refine Bb I I I I ?_
 refine wP I (wL 0 I I (fun W1 hp=>(hc.hp hp).row) I (wP I (Aa (zE (zS I (zI (zE (zA (zB ?_)))))))))
 (refine Ag Tryz.hZ rfl rfl rfl rfl ?_;intro)
 refine Aa ?_
 rename_i b12
 refine zE (zA (zA (zB (wB 1 I I I ?_))))
 refine wD (X:=Nat) I I (fun W1 _=>DA p l.length cap W1) ?_
 intro bp _
 refine Aa (zE (zH ?_))
 refine FV ?_
 refine F4 (X:=Nat×Vec) (fun x=>[ckB b5 c,lsB b6 (slv p l.length cap),nmB b11 (.slice (some ⟨gV,0,none⟩) l.length cV),⟨gV,23,vsC (l.map f.at)++jV,true,none⟩,lsB b12 (x.2.val (D5 f l x.1).length),lsB bp (slv p l.length cap),x.2.bx 35 (ptC (D5 f l x.1))])
  (fun j x=>x.1=j∧x.2.OK 2 (D5 f l x.1).length (ptC (D5 f l x.1))) (fun _ _=>False) (0,Vec.empty) rfl (by kernel_rfl) (Ea l bp p cap (by omega)) (fun _=>rfl)
  ⟨rfl,Vec.OK.empty 2⟩ [] rfl (fun k x W1 _ hp=>⟨Al.of_bx hp 5 rfl rfl,hA.hp hp⟩) ?_ ?_ (fun _ _ _ _ _ h=>h.elim)
 ·rintro k ⟨k',O⟩ d l' rec L hk ⟨e1,hO⟩ hrec
  obtain rfl:k'=k:=e1
  have hk:k'<l.length:=hk
  have hO:O.OK 2 (D5 f l k').length (ptC (D5 f l k')):=hO
  have hol:=F0 f l k'
  have hml:=Sb f l k'
  have hsl:=F0 f l (k'+1)
  have hk2:(k'+1)%l.length<l.length:=Nat.mod_lt _ hn0
  have ev: ∀i (hi:i<l.length),(l.map f.at)[i]'(by rw[hvl];exact hi)=f.at (Ad l i):=fun i hi=>by rw[List.getElem_map,B6 hi]
  have hr1: ∀ {W0 W1:World} {bxs:List Bx} (hp:Hp W0 bxs W1) (m:Nat) (hm:nth bxs m=some ⟨gV,23,vsC (l.map f.at)++jV,true,none⟩),Al W1 gV (0+k'*1) [str (Ae (f.at (Ad l k')))]:=fun hp m hm=>by
   have:=Qo hp m hm (i:=k') (by rw[hvl];exact hk)
   rwa [ev k' hk] at this
  have hr2: ∀ {W0 W1:World} {bxs:List Bx} (hp:Hp W0 bxs W1) (m:Nat) (hm:nth bxs m=some ⟨gV,23,vsC (l.map f.at)++jV,true,none⟩),Al W1 gV (0+((k'+1)%l.length)*1) [str (Ae (f.at (Ad l (k'+1))))]:=fun hp m hm=>by
   have:=Qo hp m hm (i:=(k'+1)%l.length) (by rw[hvl];exact hk2)
   rwa [ev _ hk2,CF] at this
  obtain⟨u,hu⟩: ∃u,u=f.at (Ad l k'):=⟨_,rfl⟩
  obtain⟨v,hvv⟩: ∃v,v=f.at (Ad l (k'+1)):=⟨_,rfl⟩
  have hsu:=Hb f l k'
  have hmu:EP f l k'=D5 f l k'++(if u≤0 then[Ad l k'] else[]):=by rw[hu];rfl
  have hcz:=hz.c k' hk
  rw[←hu, ←hvv] at hsu hcz
  rw[←hu] at hr1
  rw[←hvv] at hr2
  refine zA (zB (wP I (Aa (zE (zB ?_)))))
  (refine Ag Tryz.hZ rfl rfl rfl rfl ?_;intro)
  refine wS 10 I I I (Aa ?_)
  rename_i b14
  refine CY 9 hrec I ?_
  refine CV (zA (zU (qB 3 I I I (qP I ?_))))
  refine qJ ?_
  refine qL 0 I I (fun W1 hp=>hr1 hp 4 I) I (qC I I (fun W1 _=>Ec u W1) (qB 3 I I I (qP I (qP I (qV 40 ((k'+1:Nat):Int) I (Ax (by omega)) (qB 2 I I I (qP I ?_)))))))
  refine DG I I I I I hzz ?_
  refine Fs 43 (.int .i64 (((k'+1)%l.length:Nat):Int)) I I ?_
  refine qJ ?_
  refine qL 0 I I (fun W1 hp=>hr2 hp 4 I) I (qC I I (fun W1 _=>Ec v W1) (qP I (qP I (AP (Aa (zE (zA (zA (zB (wP I (wP I (wU 48 (decide (u≤0)) I (Mo u) (Aa ?_)))))))))))))
  refine AB ?_
  refine A8 (X:=Vec) (fun _=>[(5,Ai b5),(6,Ai b6),(11,Ai b11),(12,Ai b12),(13, .int .i64 (k':Nat)),(14,Ai b14),(15, .int .i64 (Ew u)),(16, .int .i64 (Ew v))])
   (fun O=>[By L,ckB b5 c,lsB b6 (slv p l.length cap),nmB b11 (.slice (some ⟨gV,0,none⟩) l.length cV),⟨gV,23,vsC (l.map f.at)++jV,true,none⟩,lsB b12 (O.val (EP f l k').length),lsB bp (slv p l.length cap),O.bx 35 (ptC (EP f l k')),B5 d,Bc l' rec .busy none,⟨b14,66,(sdV (Ad l k') (Ad l (k'+1))).cells.toList,true,none⟩])
   (fun O=>O.OK 2 (EP f l k').length (ptC (EP f l k'))) ?_ ?_
  ·refine Ap I (fun hc1=> ?_) (fun hc1=> ?_)
   ·rw[if_pos (of_decide_eq_true hc1)] at hmu
    have hlm:(D5 f l k').length+1=(EP f l k').length:=by rw[hmu,List.length_append];rfl
    refine zB (wB 5 I I I ?_)
    refine Ev Tryz.underlying66 Tryz.sizeOf35 I I I I I ⟨by decide,by decide⟩ ?_
    refine wB 10 I I I ?_
    refine AA Tryz.hZ tH I I I I I I I I I I I fun bS=> ?_
    refine BN (V:=O) (len:=(D5 f l k').length) (xs:=ptC (D5 f l k')) 7 11 Tryz.vec22 (EP f l k').length (ptC (EP f l k')) I I I I I I I I I I I hO I I hlm (by rw[hmu,FP];rfl) (by simp only[maxLen];omega) (by omega) I ?_
    intro gO cO jO hO1
    exact wS 5 I I I (Aa (An ⟨some gO,cO,jO⟩ hO1 ⟨I,I,I,I,I,I,I,I,tO⟩ [_] I))
   ·rw[if_neg (of_decide_eq_false hc1),List.append_nil] at hmu
    exact zI (An O (by rw[hmu];exact hO) ⟨I,I,I,I,I,I,I,I,tO⟩ [] (by rw[hmu];rfl))
  intro O1 hO1
  have hO1:O1.OK 2 (EP f l k').length (ptC (EP f l k')):=hO1
  refine zA (zB (wP I (wP I (wP I (wP I (wU 57 (decide (u*v<0)) I (PX u v) (Aa (zE ?_))))))))
  refine Ap I (fun hc2=> ?_) (fun hc2=> ?_)
  ·have hc2':u*v<0:=of_decide_eq_true hc2
   rw[if_pos hc2'] at hsu
   have hlm:(EP f l k').length+1=(D5 f l (k'+1)).length:=by rw[hsu,List.length_append];rfl
   refine AZ (X:= { O:Vec//O.OK 2 (D5 f l (k'+1)).length (ptC (D5 f l (k'+1))) }) [true,true,true,true,true,true,true,true,true,true,true,true,true,true,true,true,true,true,true,false,false,false] (fun _=>[(5,Ai b5)])
    (fun O=>[By L,ckB b5 c,lsB b6 (slv p l.length cap),nmB b11 (.slice (some ⟨gV,0,none⟩) l.length cV),⟨gV,23,vsC (l.map f.at)++jV,true,none⟩,lsB b12 (O.1.val (D5 f l (k'+1)).length),lsB bp (slv p l.length cap),O.1.bx 35 (ptC (D5 f l (k'+1))),B5 d,Bc l' rec .busy none])
    3 [By L,ckB b5 c,lsB b6 (slv p l.length cap),nmB b11 (.slice (some ⟨gV,0,none⟩) l.length cV),⟨gV,23,vsC (l.map f.at)++jV,true,none⟩,lsB b12 (O1.val (EP f l k').length),lsB bp (slv p l.length cap),O1.bx 35 (ptC (EP f l k')),B5 d,Bc l' rec .busy none,⟨b14,66,(sdV (Ad l k') (Ad l (k'+1))).cells.toList,true,none⟩] Tryz.mixed (by kernel_rfl) ?_ ?_
   ·refine qB 5 I I I (qB 1 I I I ?_)
    refine Bs Tryz.underlying66 Tryz.sizeOf35 I I I I I ⟨by decide,by decide⟩ ?_
    refine qB 10 I I I ?_
    refine Bs Tryz.underlying66 Tryz.sizeOf35 I I I I I ⟨by decide,by decide⟩ ?_
    refine qB 10 I I I (qB 3 I I I (qP I ?_))
    refine qJ ?_
    refine qL 0 I I (fun W1 hp=>hr1 hp 4 I) I (qB 3 I I I (qP I (qP I (qV 70 ((k'+1:Nat):Int) I (Ax (by omega)) (qB 2 I I I (qP I ?_))))))
    refine DG I I I I I hzz ?_
    refine Fs 73 (.int .i64 (((k'+1)%l.length:Nat):Int)) I I ?_
    refine qJ ?_
    refine qL 0 I I (fun W1 hp=>hr2 hp 4 I) I (qC I I (fun W1 hp=>Kn c (Ad l k') (Ad l (k'+1)) u v (hcz hc2') W1 (hc.hp hp) (hv.hp hp) (ht.hp hp)) (Cm (wX (wZ ?_))))
    refine AA Tryz.hZ tH I I I I I I I I I I I fun bS=> ?_
    refine Aa (Ac (wX (wZ ?_)))
    refine BN (V:=O1) (len:=(EP f l k').length) (xs:=ptC (EP f l k')) 7 11 Tryz.vec22 (D5 f l (k'+1)).length (ptC (D5 f l (k'+1))) rfl rfl rfl rfl rfl rfl rfl rfl rfl rfl rfl hO1 rfl rfl hlm (by rw[hsu,FP];rfl) (by simp only[maxLen];omega) (by omega) rfl ?_;intro gO cO jO hO2
    refine Aa (Ac (wY (wZ (wS 5 I I I (Aa (Ac ?_))))))
    refine AT I (by kernel_rfl) ?_
    exact At (⟨⟨some gO,cO,jO⟩,hO2⟩: { O:Vec//O.OK 2 (D5 f l (k'+1)).length (ptC (D5 f l (k'+1))) }) ⟨I,tO⟩ [0,1,2,3,4,5,6,7,8,9] (by decide) I
   rintro⟨O2,hO2⟩
   exact zN (Cj 9 (k'+1,O2) hrec I ⟨I,hO2⟩ [] I)
  ·rw[if_neg (of_decide_eq_false hc2),List.append_nil] at hsu
   exact zI (zN (Cj 9 (k'+1,O1) hrec I ⟨I,by show O1.OK 2 (D5 f l (k'+1)).length (ptC (D5 f l (k'+1)));rw[hsu];exact hO1⟩ [_] (by rw[hsu];rfl)))
 ·rintro⟨k',O⟩ d l' rec ⟨e1,hO⟩
  obtain rfl:k'=l.length:=e1
  have hO:O.OK 2 (Ba f l).length (ptC (Ba f l)):=hO
  have hoe:D5 f l l.length=Ba f l:=rfl
  have hol:=F0 f l l.length
  rw[hoe] at hol
  rw[hoe]
  refine zN (zE (zA (zA (zB (wB 0 I I I ?_)))))
  refine Bb I I I I ?_
  refine wP I (wL 0 I I (fun W1 hp=>(hc.hp hp).row) I (wP I (wP I (wB 2 I I I ?_))))
  refine wC I I (fun W1 hp=>(by
   have h:=IF 98 (by kernel_rfl) (fun q=>decide (q<0)) M3 (l.map f.at) (by rw[hvl];omega) (some ⟨gV,0,none⟩) cV W1 (.inr ⟨gV,0,rfl,by
    have:=Cz (Al.of_bx hp 3 rfl rfl:Al W1 gV 0 (vsC (l.map f.at)++jV))
    rw[List.map_map];exact this⟩)
   rwa [hvl,Tr] at h)) ?_
  cases hneg:IM f l with
  |false=>
   refine wP I (wP I (Aa (zE (zR I (zA (zB (wP I (Aa (zE (zO (zP ?_)))))))))))
   refine CG 7 I ?_
   have e0:AY f l=[]:=by unfold AY;rw[hneg];rfl
   exact Ay tH I (.tmp I) Vec.empty (by rw[e0];rfl) (by rw[e0];exact Vec.OK.empty 2) fun W1 hp=>by
    rw[e0]
    exact Own.one (fun p hp=>by cases hp) List.nodup_nil
  |true=>
   have e0:AY f l=BU (Ba f l):=by unfold AY;rw[hneg];rfl
   have hlb:(BU (Ba f l)).length=(Ba f l).length:=Dh (GW _)
   obtain⟨q,hq,hqn⟩:=FR.1 hneg
   have hpos:0<(Ba f l).length:=by
    obtain⟨i,hi,e⟩:=LM hq
    have:=Qs hP hi (by rw[e];exact hqn)
    rw[ES]
    omega
   obtain⟨pO,cO,jO⟩:=O
   obtain⟨gO,rfl⟩: ∃g,pO=some g:=Option.ne_none_iff_exists'.1 (fun e=>absurd (hO.nil e) (by omega))
   have hcO:=(hO.cap (by simp)).1
   refine wP I (wP I (Aa (zE (zS I (zI (zE (zA (zB (wB 0 I I I (wB 4 I I I ?_))))))))))
   refine wD (X:=Vec) I I (fun W1 hp=>MP c (Ba f l) 149 (by decide) hz.o hpos (by omega) gO cO hcO W1 (Cz (Al.of_bx hp 6 I I:Al W1 gO 0 (ptC (Ba f l)++jO))) (hc.hp hp) (hv.hp hp) (ht.hp hp)) ?_
   intro V2 hV2
   have hV2:V2.OK 2 (Ba f l).length (ptC (BU (Ba f l))):=hV2
   refine wP I (Aa (zE (zO ?_)))
   refine CG 7 I ?_
   exact Ay tH I (.tmp I) V2 (by rw[e0,hlb]) (by rw[e0,hlb];exact hV2) fun W1 hp=>by
    rw[e0]
    exact Ao.of_hp (hp.pick (l:=[V2.bx 35 (ptC (BU (Ba f l)))]) [9] (by decide) I)
-- BOXES 12
-- CODE2
structure NN (f:AD):Prop where
 a:okQ f.a
 b:okQ f.b
 c:okQ f.c
 n:f.a≠0∨f.b≠0
theorem Jh (f:AD) (hf:NN f) (l:List Aj) (hz:ClZ f l) (p:Option Addr) (cap:Nat) (W:World) (h:ER W p l):
  Ah Tryz.prog 12 #[slv p l.length cap,str (Ae f.a),str (Ae f.b),str (Ae f.c)] W (fun V:Vec=> .tuple #[V.val (AY f l).length, .int .i64 0]) (fun V=>V.OK 2 (AY f l).length (ptC (AY f l))) (fun V=>[V.bx 35 (ptC (AY f l))]):=by
 refine Ab (args:=[slv p l.length cap,str (Ae f.a),str (Ae f.b),str (Ae f.c)]) Tryz.func12 I I I ?_
 refine zA (zB (wP I (wP I (Aa (zE (zA (zA (zB (wP I (wP I (wP I (wP I ?_))))))))))))
 refine AA Tryz.hZ tH I I I I I I I I I I I fun bS=> ?_
 refine wC I I (fun W1 hp=>Hr l p cap f.a f.b f.c hf.a hf.b hf.c hf.n bS 3 W1 (h.hp hp) (Al.of_bx hp 0 I I)) (wP I (Aa (zE (zA (zB (wP I (wP I (Aa (zE (zS I (zI (zE (zA ?_)))))))))))))
 refine zB ?_
 refine Av Tryz.hZ tH I I I I I I I I ?_
 (refine A5 rfl rfl rfl rfl ?_;intro)
 refine wP I (Aa ?_)
 rename_i bC
 refine zE (zA (zB ?_))
 iterate 5 refine wP I ?_
 refine wD (X:=Vec) I I (fun W1 hp=>Oe bC f l hz h.poly h.n3 h.n p cap W1 (h.hp hp).m (Bh hp 1 I) (h.hp hp).v (h.hp hp).t) ?_
 intro V hV
 have hV:V.OK 2 (AY f l).length (ptC (AY f l)):=hV
 refine wP I (Aa (zE (zA (zA (zB (wP I ?_))))))
 refine Bb I I I I ?_
 refine wP I (wB 1 I I I (wP I (Aa (zE (zS I (zI (zE (zA (zB (wP I (wP I (wP I (Aa ?_)))))))))))))
 exact zE (zO (AF tH I (.tmp I) (.tmp I) V I hV fun W1 hp=>Ao.of_hp (hp.pick (l:=[V.bx 35 (ptC (AY f l))]) [2] (by decide) I)))
theorem LT : ∃ f1 f2 : Field, (Tryz.prog.fieldsOf 35).toList = [f1, f2] ∧ (f1.name ≠ "_" ∧ f1.type = 23 ∧ f1.offset = 0) ∧ (f2.name ≠ "_" ∧ f2.type = 23 ∧ f2.offset = 1) := by
 unfold Program.fieldsOf;rw[Tryz.underlying35]
 exact⟨_,_,I,⟨by decide,I,I⟩,⟨by decide,I,I⟩⟩
theorem UF (W:World) (a b c d:List UInt8):(binOp .eql 35 (.agg #[str a,str b]) (.agg #[str c,str d])).run Tryz.prog W= .ok (.bool (decide (a=c∧b=d))) W:=by
 rw[run_eql_struct,run_equalIn_agg W 9999 35 _ _ (by kernel_rfl) (by kernel_rfl)]
 obtain⟨f1,f2,hf,⟨n1,t1,o1⟩,⟨n2,t2,o2⟩⟩:=LT
 rw[hf]
 have e: ∀(x y:List UInt8) W,(Op.equalIn 9999 23 (str x) (str y)).run Tryz.prog W= .ok (decide (x=y)) W:=fun x y W=>by
  rw[run_equalIn_string W 9998 23 _ _ Tryz.underlying23,AR]
 by_cases h1:a=c<;>by_cases h2:b=d<;>simp[Op.eqFields,part,Tryz.isAgg23,e,h1,h2,n1,n2,t1,t2,o1,o2]
theorem Ut (W:World) (a b c d:List UInt8):(binOp .neq 35 (.agg #[str a,str b]) (.agg #[str c,str d])).run Tryz.prog W= .ok (.bool (!decide (a=c∧b=d))) W:=by
 rw[run_neq_struct,run_equalIn_agg W 9999 35 _ _ (by kernel_rfl) (by kernel_rfl)]
 obtain⟨f1,f2,hf,⟨n1,t1,o1⟩,⟨n2,t2,o2⟩⟩:=LT
 rw[hf]
 have e: ∀(x y:List UInt8) W,(Op.equalIn 9999 23 (str x) (str y)).run Tryz.prog W= .ok (decide (x=y)) W:=fun x y W=>by
  rw[run_equalIn_string W 9998 23 _ _ Tryz.underlying23,AR]
 by_cases h1:a=c<;>by_cases h2:b=d<;>simp[Op.eqFields,part,Tryz.isAgg23,e,h1,h2,n1,n2,t1,t2,o1,o2]
section
variable {r:Option Nat} {n:Nat} {N:Nat} {D:List Deferred} {ops:List Oper} {Q:Exit→Act→World→Prop} {o:Oper} {rest:List Oper} {env:Env} {A A2:World→Prop} {R:Act→World→Prop}
theorem AK (a b c d:List UInt8) {t:Nat} {u:TypeId} {x y:Operand} (hg:A0 ops N env o=some true) (hd:o.dst=some t) (ho:o.op= .binOp .eql 35 x y u)
  (hx:evO N env x=some (.agg #[str a,str b])) (hy:evO N env y=some (.agg #[str c,str d]))
  (h:WL r n Tryz.prog N D ops Q rest ((t, .bool (decide (a=c∧b=d)))::env) A):WL r n Tryz.prog N D ops Q (o::rest) env A:=
 CO hg hd (fun c e=>by rw[ho] at e;cases e) (fun _ W hρ _=>by
  have hm:Tryz.prog.eqGuardType Tryz.prog.depth 35=false:=by kernel_rfl
  simp[execOp,ho,hρ _ _ hx,hρ _ _ hy,run_eqGuard_agg W .eql 35 x y _ _ hm,UF]) h
theorem TB (a b c d:List UInt8) {t:Nat} {u:TypeId} {x y:Operand} (hg:A0 ops N env o=some true) (hd:o.dst=some t) (ho:o.op= .binOp .neq 35 x y u)
  (hx:evO N env x=some (.agg #[str a,str b])) (hy:evO N env y=some (.agg #[str c,str d]))
  (h:WQ Tryz.prog N D ops A2 R rest ((t, .bool (!decide (a=c∧b=d)))::env) A):WQ Tryz.prog N D ops A2 R (o::rest) env A:=
 D7 hg hd (fun c e=>by rw[ho] at e;cases e) (fun _ W hρ _=>by
  have hm:Tryz.prog.eqGuardType Tryz.prog.depth 35=false:=by kernel_rfl
  simp[execOp,ho,hρ _ _ hx,hρ _ _ hy,run_eqGuard_agg W .neq 35 x y _ _ hm,Ut]) h
end
theorem MQ (l:List Aj) (hn:l.length≤100000) (p q:Option Addr) (cap cap2:Nat) (W:World) (hA:Dx W p l) (hB:Dx W q l):
  Ah Tryz.prog 23 #[slv p l.length cap,slv q l.length cap2] W (fun _:Unit=> .bool true) (fun _=>True) (fun _=>[]):=by
 refine Ab (args:=[slv p l.length cap,slv q l.length cap2]) Tryz.func23 I I I ?_
 refine zA (zB (wP I (Aa (zE (zA (zA (zB ?_)))))))
 iterate 5 refine wP I ?_
 refine wU 10 false I (bne_eq_false_iff_eq.2 I) (Aa (zE (zS I (zI (zE (zA (zA (zB (wP I (wP I (wP I (Aa (zE ?_)))))))))))))
 refine zH ?_
 refine A6 (X:=Nat) (fun i=>[(0,slv p l.length cap),(1,slv q l.length cap2),(12, .int .i64 (l.length:Nat)),(13, .int .i64 (i:Nat))]) (fun _=>[]) (fun i=>i≤l.length) (fun i=>l.length-i) 0 (Nat.zero_le _) ⟨I,I,I,I,tO⟩ [] I ?_
 intro i hi
 have hi:i≤l.length:=hi
 refine zA (zB (wP I ?_))
 by_cases hlt:i<l.length
 ·refine wU 14 true I (dT (by omega)) (Aa (zE (zA (zR I (zI (zE (zA (zH (zA (zB ?_))))))))))
  obtain⟨g,off,e1,h1⟩:=hA.at_ hlt
  obtain⟨g2,off2,e2,h2⟩:=hB.at_ hlt
  have h1:=h1 i hlt
  have h2:=h2 i hlt
  obtain⟨x,hx⟩: ∃x,x=l[i]:=⟨_,rfl⟩
  rw[←hx] at h1 h2
  subst e1 e2
  refine wP I (wP I (Aa (zE (zA (zU (qP I (qP I ?_)))))))
  refine qJ ?_
  refine qL 0 I I (fun W1 hp=>h1.hp hp) I (qP I (qP I ?_))
  refine qJ ?_
  refine qL 0 I I (fun W1 hp=>h2.hp hp) I ?_
  refine TB (Ae x.1) (Ae x.2) (Ae x.1) (Ae x.2) I I I I I ?_
  exact qU 24 false I (by rw[dT ⟨I,I⟩];rfl) (AP (Aa (zE (zS I (zI (zN (zE (zB (wP I (wV 25 ((i+1:Nat):Int) I (Ax (by omega)) (wP I (Aa (Az (i+1) hlt (by show l.length-(i+1)<l.length-i;omega) ⟨I,I,I,I,tO⟩ [] I)))))))))))))
 refine wU 14 false I (dF (by omega)) (Aa (zE (zA (zS I (zJ (zK (zK (zL (zE (zA (zB (wP I (Aa ?_)))))))))))))
 exact zE (zO (wR1 I I I))
-- BOXES 5
-- CODE2
def tnR (p q r:Aj):Int×Int:=match tA p q r,tB p q r with
 |some x,some y=>if Hh x y then(Dy x y,0) else(0,4)
 |_,_=>(0,4)
theorem UK (p q r:Aj):tnV p q r= .tuple #[.int .i64 (tnR p q r).1, .int .i64 (tnR p q r).2]:=by
 unfold tnV tnR
 cases tA p q r with
 |none=>rfl
 |some x=>cases tB p q r with
  |none=>rfl
  |some y=>
   show cmV x y=_
   unfold cmV
   by_cases c:Hh x y
   ·rw[if_pos c];simp only[if_pos c]
   ·rw[if_neg c];simp only[if_neg c]
def Ll (l:List Aj) (i k:Nat):Int×Int:=tnR (Ad l i) (Ad l (i+1)) (Ad l k)
def Mx (l:List Aj) (i k:Nat):Prop:=k≠i∧k≠(i+1)%l.length
structure G7 (l:List Aj) (i j:Nat) (c:Bool):Prop where
 e0: ∀a k,(a<i∨a=i∧k<j)→k<l.length→Mx l a k→(Ll l a k).2=0
 c0:c=true↔ ∀a k,(a<i∨a=i∧k<j)→k<l.length→Mx l a k→0<(Ll l a k).1
theorem G7.zero (l:List Aj):G7 l 0 0 true:=⟨fun a k h=>by omega,⟨fun _ a k h=>by omega,fun _=>rfl⟩⟩
theorem G7.skip {l:List Aj} {i j:Nat} {c:Bool} (h:G7 l i j c) (hn: ¬Mx l i j):G7 l i (j+1) c:=by
 have w: ∀a k,(a<i∨a=i∧k<j+1)→Mx l a k→a<i∨a=i∧k<j:=by
  intro a k h1 h2
  rcases h1 with h1|⟨rfl,h1⟩
  ·exact Or.inl h1
  ·rcases Nat.lt_or_ge k j with q|q
   ·exact Or.inr ⟨I,q⟩
   ·obtain rfl:k=j:=by omega
    exact absurd h2 hn
 exact⟨fun a k h1 h2 h3=>h.e0 a k (w a k h1 h3) h2 h3,h.c0.trans ⟨fun f a k h1 h2 h3=>f a k (w a k h1 h3) h2 h3,fun f a k h1 h2 h3=>f a k (by omega) h2 h3⟩⟩
theorem G7.step {l:List Aj} {i j:Nat} {c:Bool} (h:G7 l i j c) (he:(Ll l i j).2=0) (hj:j<l.length) (ha:Mx l i j):G7 l i (j+1) (c&&decide (0<(Ll l i j).1)):=by
 have w: ∀a k,(a<i∨a=i∧k<j+1)→(a<i∨a=i∧k<j)∨a=i∧k=j:=by
  intro a k h1;omega
 refine⟨fun a k h1 h2 h3=> ?_, ?_⟩
 ·rcases w a k h1 with q|⟨rfl,rfl⟩
  ·exact h.e0 a k q h2 h3
  ·exact he
 ·rw[Bool.and_eq_true,decide_eq_true_iff,h.c0]
  constructor
  ·rintro⟨f,g⟩ a k h1 h2 h3
   rcases w a k h1 with q|⟨rfl,rfl⟩
   ·exact f a k q h2 h3
   ·exact g
  ·intro f
   exact⟨fun a k h1 h2 h3=>f a k (by omega) h2 h3,f i j (by omega) hj ha⟩
theorem G7.next {l:List Aj} {i j:Nat} {c:Bool} (h:G7 l i j c) (hj:l.length≤j):G7 l (i+1) 0 c:=by
 have w: ∀a k,(a<i+1∨a=i+1∧k<0)→k<l.length→a<i∨a=i∧k<j:=by intro a k h1 h2;omega
 exact⟨fun a k h1 h2 h3=>h.e0 a k (w a k h1 h2) h2 h3,h.c0.trans ⟨fun f a k h1 h2 h3=>f a k (w a k h1 h2) h2 h3,fun f a k h1 h2 h3=>f a k (by omega) h2 h3⟩⟩
-- BOXES 5
-- CODE2
def cvS (p:Aj):PtS:=(Ae p.1,Ae p.2)
theorem LK: ∀ {l:List Aj},(∀x∈l,okP x)→Fh (l.map cvS)=0
 |[],_=>rfl
 |x::l,h=>by
  have hx:=h x List.mem_cons_self
  show(if (rdR (Ae x.1)).2≠0 then(rdR (Ae x.1)).2 else if (rdR (Ae x.2)).2≠0 then(rdR (Ae x.2)).2 else Fh (l.map cvS))=0
  rw[IR hx.1,IR hx.2,if_neg (by simp),if_neg (by simp)]
  exact LK fun y hy=>h y (List.mem_cons_of_mem _ hy)
def SK (l:List Aj):Prop:= ∀i k,i<l.length→k<l.length→Mx l i k→(Ll l i k).2=0∧0<(Ll l i k).1
theorem Lp (W:World) (p:Option Addr) (cap:Nat) (l:List Aj) (hA:Gl W p (l.map cvS)) (h3:3≤l.length) (h4:l.length≤4096) (hk: ∀x∈l,okP x) (ht:AL W):
  Ah Tryz.prog 39 #[slv p l.length cap] W (fun e:Int=> .int .i64 e) (fun e=>e=0↔SK l) (fun _=>[]):=by
 have hml:(l.map cvS).length=l.length:=by simp
 obtain⟨b,off,rfl,hrow0⟩: ∃b off,p=some ⟨b,off,none⟩∧ ∀i (hi:i<(l.map cvS).length),Al W b (off+i*2) [str (l.map cvS)[i].1,str (l.map cvS)[i].2]:=by
  rcases hA with h|h
  ·have:=congrArg List.length h;simp at this;rw[this] at h3;exact absurd h3 (by decide)
  ·exact h
 have hrow: ∀i,i<l.length→Al W b (off+i*2) [str (Ae (Ad l i).1),str (Ae (Ad l i).2)]:=fun i hi=>by
  have h:=hrow0 i (by rw[hml];exact hi)
  rw[B6 hi]
  simpa[cvS] using h
 have hok: ∀i,i<l.length→okP (Ad l i):=fun i hi=>hk _ (B8 (by omega) i)
 have hnum: ∀W1,AL W1→Gl W1 (some ⟨b,off,none⟩) (l.map cvS)→Ah Tryz.prog 92 #[slv (some ⟨b,off,none⟩) l.length cap] W1 (fun _:Unit=> .int .i64 0) (fun _=>True) (fun _=>[]):=fun W1 t1 a1=>by
  have h:=Gi W1 (some ⟨b,off,none⟩) cap (l.map cvS) a1 (by rw[hml];omega) (fun x hx=>by
   obtain⟨q,hq,rfl⟩:=List.mem_map.1 hx
   have a:=B7 (hk q hq).1
   have b:=B7 (hk q hq).2
   show(Ae q.1).length<_∧(Ae q.2).length<_
   omega) t1
  rw[LK hk,hml] at h
  exact h
 refine Ab (args:=[slv (some ⟨b,off,none⟩) l.length cap]) Tryz.func39 I I I ?_
 refine zA (zB (wP I (Aa (zE (zA (zA (zB (wP I (wP I (wP I (wU 12 false I (dF (by omega)) (Aa (zE ?_)))))))))))))
 refine zS I (zI (zE (zA (zA (zB (wP I (wP I (wP I (wU 15 false I (dF (by omega)) (Aa (zE (zS I (zI ?_)))))))))))))
 refine zE (zA (zA (zB (wP I (wC I I (fun W1 hp=>hnum W1 (ht.hp hp) (hA.hp hp)) (wP I (Aa (zE (zA (zB (wP I (wP I (Aa ?_)))))))))))))
 refine zE (zS I (zI (zE (zA (zB (wP I (Aa (zE (zA (zA (zB (wP I (Aa ?_)))))))))))))
 refine zE (zH ?_)
 refine A6 (X:=Nat×Bool) (fun s=>[(0,slv (some ⟨b,off,none⟩) l.length cap),(4, .bool s.2),(5, .int .i64 (s.1:Nat))]) (fun _=>[]) (fun s=>s.1≤l.length∧G7 l s.1 0 s.2) (fun s=>l.length-s.1) (0,true) ⟨Nat.zero_le _,G7.zero l⟩ ⟨I,I,I,tO⟩ [] I ?_
 rintro⟨i,c⟩ ⟨hi,hU⟩
 have hi:i≤l.length:=hi
 have hU:G7 l i 0 c:=hU
 refine zA (zA (zB (wP I (wP I (wP I (wP I ?_))))))
 by_cases hlt:i<l.length
 ·refine wU 24 true I (dT (by omega)) (Aa (zE (zR I (zI (zE (zA (zH (zA (zB (wP I (wP I (wV 28 ((i+1:Nat):Int) I (Ax (by omega)) (wP I (wP I ?_))))))))))))))
  refine EL I I I I I (by omega) ?_
  obtain⟨m,hm⟩: ∃m,m=(i+1)%l.length:=⟨_,rfl⟩
  have hml2:m<l.length:=by rw[hm];exact Nat.mod_lt _ (by omega)
  refine wV 31 (m:Nat) I (by rw[Int.tmod_eq_emod_of_nonneg (by omega)];omega) (wP I (Aa (zE (zA (zB (wP I (Aa (zE (zH ?_)))))))))
  refine A6 (X:=Nat×Bool) (fun s=>[(0,slv (some ⟨b,off,none⟩) l.length cap),(4, .bool s.2),(5, .int .i64 (i:Nat)),(6, .int .i64 (m:Nat)),(7, .int .i64 (s.1:Nat))]) (fun _=>[]) (fun s=>s.1≤l.length∧G7 l i s.1 s.2) (fun s=>l.length-s.1) (0,c) ⟨Nat.zero_le _,hU⟩ ⟨I,I,I,I,I,tO⟩ [] I ?_
  rintro⟨j,d⟩ ⟨hj,hV⟩
  have hj:j≤l.length:=hj
  have hV:G7 l i j d:=hV
  refine zA (zA (zB (wP I (wP I (wP I (wP I ?_))))))
  by_cases hjt:j<l.length
  ·refine wU 35 true I (dT (by omega)) (Aa (zE (zR I (zI (zE (zA (zH (zA (zA (zB ?_))))))))))
   have skip: ¬Mx l i j→G7 l i (j+1) d:=fun h=>hV.skip h
   by_cases hji:j=i
   ·skip
    refine wP I (wP I (wP I (wU 40 true I (by rw[beq_iff_eq];omega) (wP I ?_))))
    iterate 3 refine Ak I I ?_
    exact wP I (Aa (zE (zR I (zJ (zK (zL (zE (zB (wP I (wP I (wV 37 ((j+1:Nat):Int) I (Ax (by omega)) (wP I (Aa (Az (j+1,d) ⟨hjt,skip fun h=>h.1 hji⟩ (by show l.length-(j+1)<l.length-j;omega) ⟨I,I,I,I,I,tO⟩ [] I))))))))))))))
   refine wP I (wP I (wP I (wU 40 false I (by rw[beq_eq_false_iff_ne];omega) (wP I (wP I (wP I (wP I ?_)))))))
   by_cases hjm:j=m
   ·refine wU 44 true I (by rw[beq_iff_eq];omega) (wP I (Aa (zE (zR I (zJ (zK (zL (zE (zB (wP I (wP I (wV 37 ((j+1:Nat):Int) I (Ax (by omega)) (wP I ?_)))))))))))))
    exact Aa (Az (j+1,d) ⟨hjt,skip fun h=>h.2 (by rw[←hm];exact hjm)⟩ (by show l.length-(j+1)<l.length-j;omega) ⟨I,I,I,I,I,tO⟩ [] I)
   refine wU 44 false I (by rw[beq_eq_false_iff_ne];omega) (wP I (Aa (zE (zS I (zI (zE (zA (zU ?_))))))))
   have hap:Mx l i j:=⟨hji,by rw[←hm];exact hjm⟩
   have em:Ad l m=Ad l (i+1):=by rw[hm,CF]
   have hrm:Al W b (off+m*2) [str (Ae (Ad l (i+1)).1),str (Ae (Ad l (i+1)).2)]:=by rw[←em];exact hrow m hml2
   have hri:=hrow i hlt
   have hrj:=hrow j hjt
   have ki:=hok i hlt
   have kj:=hok j hjt
   have km:okP (Ad l (i+1)):=by rw[←em];exact hok m hml2
   have hst:=fun he=>hV.step he hjt hap
   have htn:tnV (Ad l i) (Ad l (i+1)) (Ad l j)= .tuple #[.int .i64 (Ll l i j).1, .int .i64 (Ll l i j).2]:=UK _ _ _
   generalize hs0:(Ll l i j).1=s0 at*
   generalize he0:(Ll l i j).2=e0 at*
   refine qP I (qP I ?_)
   refine qJ ?_
   refine qL 0 I I (fun W1 hp=>hri.hp hp) I (qP I (qP I ?_))
   refine qJ ?_
   refine qL 0 I I (fun W1 hp=>hrm.hp hp) I (qP I (qP I ?_))
   refine qJ ?_
   refine qL 0 I I (fun W1 hp=>hrj.hp hp) I (qC I I (fun W1 hp=>(No (Ad l i) (Ad l (i+1)) (Ad l j) ki km kj W1 (ht.hp hp)).cast htn) ?_)
   iterate 5 refine qP I ?_
   refine AP (Aa (zE (zA (zA (zB (wP I (wP I ?_)))))))
   by_cases hz:e0=0
   ·subst hz
    refine Af 63 (.bool false) I I ?_
    refine Aa (zE (zS I (zI (zE (zB ?_)))))
    cases d with
    |true=>
     refine wP I (wP I (wP I (wP I (wU 68 (decide (0<s0)) I (decide_eq_decide.2 (by omega)) (wP I (wP I (Aa (zN (zE (zB (wP I (wP I (wV 37 ((j+1:Nat):Int) I (Ax (by omega)) ?_)))))))))))))
     exact wP I (Aa (Az (j+1,decide (0<s0)) ⟨hjt,by have h:=hst I;rw[Bool.true_and] at h;exact h⟩ (by show l.length-(j+1)<l.length-j;omega) ⟨I,I,I,I,I,tO⟩ [] I))
    |false=>
     refine wP I (wP I ?_)
     iterate 2 refine Ak I I ?_
     exact wP I (wP I (Aa (zN (zE (zB (wP I (wP I (wV 37 ((j+1:Nat):Int) I (Ax (by omega)) (wP I (Aa (Az (j+1,false) ⟨hjt,hst I⟩ (by show l.length-(j+1)<l.length-j;omega) ⟨I,I,I,I,I,tO⟩ [] I)))))))))))
   ·refine wU 63 true I (by show(!decide (e0=0))=true;rw[dF hz];rfl) (Aa (zE (zR I (zA (zB (wP I (wP I (Aa (zE (zO (zP (zQ (zP (zP ?_))))))))))))))
    exact zQ (zQ (zP (zP (zQ (zP (Ay tH I (.tmp I) e0 I ⟨fun h=>absurd h hz,fun h=>absurd (he0▸(h i j hlt hjt hap).1) hz⟩ fun W _=>Ao.nil _ _))))))
  ·refine wU 35 false I (dF (by omega)) (Aa (zE (zS I (zJ (zK (zK (zL (zN (zE (zB (wP I (wP I (wV 26 ((i+1:Nat):Int) I (Ax (by omega)) ?_)))))))))))))
   exact wP I (Aa (Az (i+1,d) ⟨hlt,hV.next (by omega)⟩ (by show l.length-(i+1)<l.length-i;omega) ⟨I,I,I,tO⟩ [] I))
 ·refine wU 24 false I (dF (by omega)) (Aa (zE (zS I (zJ (zK (zK (zL (zE (zA (zA (zB ?_)))))))))))
  have hi':i=l.length:=by omega
  cases c with
  |true=>
   exact wP I (wP I (Aa (zE (zS I (zI (zE (zA (zB (wP I (Aa (zE (zO (Ay tH I (.tmp I) (0:Int) I ⟨fun _ a k h1 h2 h3=>⟨hU.e0 a k (by omega) h2 h3,hU.c0.1 I a k (by omega) h2 h3⟩,fun _=>rfl⟩ fun W _=>Ao.nil _ _)))))))))))))
  |false=>
   exact wP I (wP I (Aa (zE (zR I (zA (zB (wP I (Aa (zE (zO (zP (Ay tH I (.tmp I) (15:Int) I ⟨fun h=>absurd h (by decide),fun h=>absurd (hU.c0.2 fun a k h1 h2 h3=>(h a k (by omega) h2 h3).2) (by decide)⟩ fun W _=>Ao.nil _ _))))))))))))
theorem MH {ok:Prop} [Decidable ok] {r x:Rat} (h:opO ok r=some x):x=r:=by
 unfold opO at h
 by_cases c:ok
 ·rw[if_pos c] at h;exact(Option.some.inj h).symm
 ·rw[if_neg c] at h;exact absurd h (by simp)
theorem JU {a b c d x:Rat} (h:Ef (BH (some a) (some b)) (BH (some c) (some d))=some x):x=(a-b)*(c-d):=by
 cases h1:BH (some a) (some b) with
 |none=>rw[h1] at h;exact absurd h (by rw[Ef];simp;intro p q;simp)
 |some u=>
  cases h2:BH (some c) (some d) with
  |none=>rw[h1,h2] at h;exact absurd h (by rw[Ef];simp;intro p q;simp)
  |some v=>
   rw[h1,h2,Ef] at h
   rw[BH] at h1 h2
   rw[MH h,MH h1,MH h2]
theorem TO {p q r:Aj} (h:(tnR p q r).2=0) (h':0<(tnR p q r).1):0<AO p q r:=by
 unfold tnR at h h'
 cases ha:tA p q r with
 |none=>rw[ha] at h;exact absurd h (by simp)
 |some x=>
  cases hb:tB p q r with
  |none=>rw[ha,hb] at h;exact absurd h (by simp)
  |some y=>
   rw[ha,hb] at h'
   have ex:=JU ha
   have ey:=JU hb
   by_cases c:Hh x y
   ·simp only[if_pos c] at h'
    have hd:decide (Dy x y>0)=true:=dT h'
    rw[GI,decide_eq_true_iff] at hd
    rw[ex,ey] at hd
    unfold AO
    grind
   ·simp only[if_neg c] at h'
    exact absurd h' (by decide)
theorem SK.poly {l:List Aj} (h3:3≤l.length) (h:SK l):Bt l:=by
 refine B9.of_chk h3 DH fun i k hi hk h1 h2 h4=> ?_
 have ha:Mx l i k:=by
  refine⟨h1,fun e=> ?_⟩
  by_cases c:i+1<l.length
  ·rw[Nat.mod_eq_of_lt c] at e;exact h2 e
  ·have e2:i+1=l.length:=by omega
   rw[e2,Nat.mod_self] at e
   exact h4 ⟨e,e2⟩
 have:=h i k hi hk ha
 exact TO this.1 this.2
-- BOXES 4
-- CODE2
theorem Iy {a:List UInt8} (h:(rdR a).2=0): ∃q,okQ q∧a=Ae q:=by
 unfold rdR at h
 cases hf:frm a with
 |none=>rw[hf] at h;exact absurd h (by decide)
 |some x=>
  obtain⟨z,d⟩:=x
  rw[hf] at h
  simp only at h
  by_cases h1:z.natAbs<Bd∧d<Bd
  ·rw[if_pos h1] at h
   by_cases h2:Nat.gcd z.natAbs d=1
   ·obtain⟨h3,h4⟩:=K4 hf
    exact⟨⟨z,d,by omega,h2⟩,⟨h1.1,by unfold okN;rw[Int.natAbs_natCast];exact h1.2⟩,h4⟩
   ·rw[if_neg h2] at h;exact absurd h (by decide)
  ·rw[if_neg h1] at h;exact absurd h (by decide)
end
end Go.Proofs.YthndmdimmgkpgaaGreatDoor
