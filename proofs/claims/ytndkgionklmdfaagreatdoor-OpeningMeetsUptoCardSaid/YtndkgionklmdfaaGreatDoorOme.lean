/-
  Lemmas that the theorem openingMeets_upto_card needs (part 5 of 7).
-/
import Derived.Test.YtndkgionklmdfaaGreatDoorOmd
set_option maxHeartbeats 64000000
namespace Go.Proofs.YtndkgionklmdfaaGreatDoor
section
open Go Go.RowKit Go.Am
set_option maxRecDepth 10000
-- BOXES 1
def sgI (a:Int):Int:=if a<0 then -1 else if a>0 then 1 else 0
theorem Lh (a:Int):Bo Tryz.prog 188 [.int .i64 a] (.int .i64 (sgI a)):=by
 intro W
 refine Ab Tryz.func188 I I I ?_
 refine zA (zB (wP I (Aa (zE (zA (zA (zB (wP I (wP I (Aa (zE ?_)))))))))))
 refine Aj I (fun h=> ?_) (fun h=> ?_)
 ·refine zA (zB (wP I (Aa (zE (zO (zP ?_))))))
  have h':a<0:=by simpa using h
  exact wR1 I I (by unfold sgI;rw[if_pos h'])
 have h1: ¬a<0:=by simpa using h
 refine zI (zE (zA (zA (zB (wP I (wP I (Aa (zE ?_))))))))
 refine Aj I (fun h2=> ?_) (fun h2=> ?_)
 ·refine zA (zB (wP I (Aa (zE (zO (zP ?_))))))
  have h':a>0:=by simpa using h2
  exact wR1 I I (by unfold sgI;rw[if_neg h1,if_pos h'])
 have h3: ¬a>0:=by simpa using h2
 exact zI (zE (zA (zB (wP I (Aa (zE (zO (wR1 I I (by unfold sgI;rw[if_neg h1,if_neg h3])))))))))
def JK (n a b:Int):Bool:=decide (n<a)||decide (n>b)
theorem Jf (n a b:Int):JK n a b= !btw n a b:=by
 unfold JK btw
 rw[Bool.eq_iff_iff]
 simp only[Bool.or_eq_true,Bool.not_eq_true',Bool.and_eq_false_iff,decide_eq_true_eq,decide_eq_false_iff_not]
 omega
theorem CE (n a b:Int):Bo Tryz.prog 115 [.int .i64 n, .int .i64 a, .int .i64 b] (.bool (JK n a b)):=by
 intro W
 refine Ab Tryz.func115 I I I ?_
 refine zA (zB (wP I (Aa (zE (zA (zB (wP I (wP I (wP I (wP I ?_))))))))))
 refine AM 10 I (fun h10=> ?_) (fun h10=> ?_)
 ·refine Af I I ?_
  iterate 2 refine Af I I ?_
  exact wP I (wP I (Aa (zE (zO (wR1 I I (by simp_all [JK]<;>(intros;omega)))))))
 ·exact wP I (wP I (wP I (wP I (wP I (Aa (zE (zO (wR1 I I (by simp_all [JK]<;>(intros;omega))))))))))
theorem MX (s:Sd):Bo Tryz.prog 46 [s.val] (.bool (rgd s)):=by
 intro W
 refine Ab Tryz.func46 I I I ?_
 refine zA (zB ?_)
 (refine Al rfl rfl rfl rfl ?_;intro)
 refine wP I (Aa ?_)
 rename_i b1
 have no:(JK s.x 0 65536||JK s.y 0 65536||JK s.plate 0 65536||JK s.over 0 65536)=true→rgd s=false:=fun h=>by
  simp only[Jf] at h
  unfold rgd
  rw[show(btw s.x 0 65536&&btw s.y 0 65536&&btw s.plate 0 65536&&btw s.over 0 65536)=false by
   rw[Bool.eq_false_iff];intro h2;simp_all,Bool.and_false]
 have yes:JK s.x 0 65536=false→JK s.y 0 65536=false→JK s.plate 0 65536=false→JK s.over 0 65536=false→rgd s=(if s.gable then s.rise==0&&s.run==0 else btw s.rise 1 48&&btw s.run 1 48):=fun h1 h2 h3 h4=>by
  rw[Jf,Bool.not_eq_false'] at h1 h2 h3 h4
  unfold rgd
  rw[h1,h2,h3,h4];simp
 refine zE (zA (zA (zB (wP I (wB 0 I I I (wC I I (fun W _=>(CE ..)) (wP I ?_)))))))
 refine AM 6 I (fun h6=> ?_) (fun h6=> ?_)
 ·refine Af I I ?_
  iterate 2 refine Af I I ?_
  refine wP I (wP I ?_)
  iterate 3 refine Af I I ?_
  refine wP I (wP I ?_)
  iterate 3 refine Af I I ?_
  exact wP I (Aa (zE (zR I (zA (zB (wP I (Aa (zE (zO (zP (wR1 I I (by rw[no (by simp_all)]))))))))))))
 ·refine wP I (wB 0 I I I (wC I I (fun W _=>(CE ..)) (wP I (wP I ?_))))
  refine AM 11 I (fun h11=> ?_) (fun h11=> ?_)
  ·refine Af I I ?_
   iterate 2 refine Af I I ?_
   refine wP I (wP I ?_)
   iterate 3 refine Af I I ?_
   exact wP I (Aa (zE (zR I (zA (zB (wP I (Aa (zE (zO (zP (wR1 I I (by rw[no (by simp_all)]))))))))))))
  ·refine wP I (wB 0 I I I (wC I I (fun W _=>(CE ..)) (wP I (wP I ?_))))
   refine AM 16 I (fun h16=> ?_) (fun h16=> ?_)
   ·refine Af I I ?_
    iterate 2 refine Af I I ?_
    exact wP I (Aa (zE (zR I (zA (zB (wP I (Aa (zE (zO (zP (wR1 I I (by rw[no (by simp_all)]))))))))))))
   ·refine wP I (wB 0 I I I (wC I I (fun W _=>(CE ..)) (wP I (Aa (zE ?_)))))
    refine Aj I (fun h=> ?_) (fun h=> ?_)
    ·exact zA (zB (wP I (Aa (zE (zO (zP (wR1 I I (by rw[no (by simp_all)]))))))))
    refine zI (zE (zA (zA (zB ?_))))
    have e:=yes (by simp_all) (by simp_all) (by simp_all) (by simp_all)
    refine wP I (wB 0 I I I (Aa (zE ?_)))
    refine Aj I (fun hg=> ?_) (fun hg=> ?_)
    ·refine zA (zB (wP I (wB 0 I I I (wP I (wP I ?_)))))
     refine AM 26 I (fun h26=> ?_) (fun h26=> ?_)
     ·exact wP I (wB 0 I I I (wP I (wP I (wP I (Aa (zE (zO (zP (wR1 I I (by rw[e,hg];simp_all))))))))))
     ·refine Af I I ?_
      iterate 2 refine Af I I ?_
      exact wP I (wP I (Aa (zE (zO (zP (wR1 I I (by rw[e,hg];simp_all)))))))
    ·refine zI (zE (zA (zB (wP I (wB 0 I I I (wC I I (fun W _=>(CE ..)) (wP I (wP I ?_))))))))
     refine AM 35 I (fun h35=> ?_) (fun h35=> ?_)
     ·exact wP I (wB 0 I I I (wC I I (fun W _=>(CE ..)) (wP I (wP I (wP I (Aa (zE (zO (wR1 I I (by rw[e,hg];simp_all [Jf]))))))))))
     ·refine Af I I ?_
      iterate 3 refine Af I I ?_
      exact wP I (wP I (Aa (zE (zO (wR1 I I (by rw[e,hg];simp_all [Jf]))))))
theorem Gd (W:World) (p:Option Addr) (cap:Nat) (l:List Sd) (i:Nat) (hn:l.length<4611686018427387904) (hR:BJ W p l) (hi:i<l.length):
  Ad Tryz.prog 187 #[slv p l.length cap, .int .i64 (i:Nat)] W (fun _:Unit=> .tuple #[.int .i64 (sd l (nxt l.length i)).x, .int .i64 (sd l (nxt l.length i)).y]) (fun _=>True) (fun _=>[]):=by
 obtain⟨b,off,rfl,hrow⟩:=hR.row hi
 have hi2:=Ej hi
 refine Ab (args:=[slv (some ⟨b,off,none⟩) l.length cap, .int .i64 (i:Nat)]) Tryz.func187 I I I ?_
 refine zA (zB (wP I (wP I (Aa (zE (zA (zB (wP I (wP I (wV 8 ((i+1:Nat):Int) I (show w64 ((i:Nat)+1)=((i+1:Nat):Int) by rw[Ar (by omega) (by omega)];omega) (wP I (wP I ?_))))))))))))
 refine Iz I I I I I (by omega) ?_
 refine wV 11 (nxt l.length i:Nat) I (show Int.tmod ((i+1:Nat):Int) (l.length:Nat)=(nxt l.length i:Nat) from(Int.ofNat_tmod _ _).symm) (wP I (Aa (zE (zA (zU (qP I (qP I ?_)))))))
 refine qJ ?_
 refine qP I (qL 0 I I (fun W hp=>(hrow (nxt l.length i) hi2).hp hp) I (qP I (qP I ?_)))
 refine qJ ?_
 exact qP I (qL 1 I I (fun W hp=>(hrow (nxt l.length i) hi2).hp hp) I (qP I (qP I (A7 (Aa (zE (zO (wR2 I I I))))))))
def LU (l:List Sd) (i:Nat):Int:=sgI (w64 ((sd l (nxt l.length i)).x-(sd l i).x))
def Lc (l:List Sd) (i:Nat):Int:=sgI (w64 ((sd l (nxt l.length i)).y-(sd l i).y))
theorem E8 (W:World) (p:Option Addr) (cap:Nat) (l:List Sd) (i:Nat) (hn:l.length<4611686018427387904) (hR:BJ W p l) (hi:i<l.length):
  Ad Tryz.prog 116 #[slv p l.length cap, .int .i64 (i:Nat)] W (fun _:Unit=> .tuple #[.int .i64 (LU l i), .int .i64 (Lc l i)]) (fun _=>True) (fun _=>[]):=by
 obtain⟨b,off,rfl,hrow⟩:=hR.row hi
 refine Ab (args:=[slv (some ⟨b,off,none⟩) l.length cap, .int .i64 (i:Nat)]) Tryz.func116 I I I ?_
 refine zA (zB (wP I (wP I (Aa (zE (zA (zB (wP I (wP I (wC I I (fun W hp=>Gd W _ cap l i hn (hR.hp hp) hi) ?_))))))))))
 iterate 5 refine wP I ?_
 refine Aa (zE (zA (zU (qP I (qP I (qP I ?_))))))
 refine qJ ?_
 refine qP I (qL 0 I I (fun W hp=>(hrow i hi).hp hp) I (qP I (qC I I (fun W _=>(Lh ..)) (qP I (qP I (qP I ?_))))))
 refine qJ ?_
 exact qP I (qL 1 I I (fun W hp=>(hrow i hi).hp hp) I (qP I (qC I I (fun W _=>(Lh ..)) (qP I (qP I (A7 (Aa (zE (zO (wR2 I I I))))))))))
def JO (l:List Sd) (i:Nat):Int:=w64 (w64 (LU l (prv l.length i)*Lc l i)-w64 (Lc l (prv l.length i)*LU l i))
theorem KW (W:World) (p:Option Addr) (cap:Nat) (l:List Sd) (i:Nat) (hn:l.length<4611686018427387904) (hR:BJ W p l) (hi:i<l.length):
  Ad Tryz.prog 117 #[slv p l.length cap, .int .i64 (i:Nat)] W (fun _:Unit=> .int .i64 (JO l i)) (fun _=>True) (fun _=>[]):=by
 have hi2:=FK hi
 refine Ab (args:=[slv p l.length cap, .int .i64 (i:Nat)]) Tryz.func117 I I I ?_
 refine zA (zB (wP I (Aa (zE (zA (zB ?_))))))
 iterate 6 refine wP I ?_
 refine wV 15 ((i+l.length-1:Nat):Int) I (show w64 (w64 ((i:Nat)+(l.length:Nat))-1)=((i+l.length-1:Nat):Int) by rw[Ar (x:=(i:Nat)+(l.length:Nat)) (by omega) (by omega),Ar (by omega) (by omega)];omega) (wP I (wP I ?_))
 refine Iz I I I I I (by omega) ?_
 refine wV 18 (prv l.length i:Nat) I (show Int.tmod ((i+l.length-1:Nat):Int) (l.length:Nat)=(prv l.length i:Nat) from(Int.ofNat_tmod _ _).symm) (wC I I (fun W hp=>E8 W _ cap l (prv l.length i) hn (hR.hp hp) hi2) ?_)
 iterate 5 refine wP I ?_
 refine Aa (zE (zA (zB (wP I (wP I (wC I I (fun W hp=>E8 W _ cap l i hn (hR.hp hp) hi) ?_))))))
 iterate 5 refine wP I ?_
 refine Aa (zE (zA (zB ?_)))
 iterate 8 refine wP I ?_
 exact Aa (zE (zO (wR1 I I I)))
def twR (l:List Sd):Nat→Int
 |0=>0
 |k+1=>w64 (w64 (twR l k+w64 ((sd l k).x*(sd l (nxt l.length k)).y))-w64 ((sd l (nxt l.length k)).x*(sd l k).y))
theorem Kc (W:World) (p:Option Addr) (cap:Nat) (l:List Sd) (hn:l.length<4611686018427387904) (hR:BJ W p l):
  Ad Tryz.prog 119 #[slv p l.length cap] W (fun _:Unit=> .int .i64 (twR l l.length)) (fun _=>True) (fun _=>[]):=by
 refine Ab (args:=[slv p l.length cap]) Tryz.func119 I I I ?_
 refine zA (zB (wP I (Aa (zE (zA (zB (wP I (Aa (zE (zA (zA (zB (wP I ?_)))))))))))))
 refine Aa (zE (zH ?_))
 refine At (X:=Nat) (fun k=>[(0,slv p l.length cap),(3, .int .i64 (twR l k)),(4, .int .i64 (k:Nat))]) (fun _=>[]) (fun k=>k≤l.length) (fun k=>l.length-k) 0 (Nat.zero_le _) ⟨I,I,I,tO⟩ [] I ?_
 intro k hk
 refine zA (zA (zB (wP I (wP I (wP I (wP I (Aa (zE ?_))))))))
 refine Aj I (fun h=> ?_) (fun h=> ?_)
 rotate_left
 ·have e:k=l.length:=by simp at h;omega
  subst e
  exact zJ (zK (zK (zL (zE (zA (zB (wP I (wP I (Aa (zE (zO (wR1 I I I))))))))))))
 have hk:k<l.length:=by simp at h;omega
 clear h
 obtain⟨b,off,rfl,hrow⟩:=hR.row hk
 refine zI (zE (zA (zH (zA (zB (wP I (wP I (wC I I (fun W hp=>Gd W _ cap l k hn (hR.hp hp) hk) ?_))))))))
 iterate 5 refine wP I ?_
 refine Aa (zE (zU (qP I (qP I (qP I ?_)))))
 refine qJ ?_
 refine qP I (qL 0 I I (fun W hp=>(hrow k hk).hp hp) I ?_)
 iterate 6 refine qP I ?_
 refine qJ ?_
 exact qP I (qL 1 I I (fun W hp=>(hrow k hk).hp hp) I (qP I (qP I (qP I (A7 (Aa (zN (zE (zB (wP I (wP I (wP I (Aa (Ak (k+1) hk (by omega) ⟨I,I,congrArg (fun z=>some (Value.int .i64 z)) (AA (x:=(k:Int)+1) (by omega) (by omega)),tO⟩ [] I))))))))))))))
-- BOXES 1
def axR (l:List Sd) (i:Nat):Bool:=w64 (w64 (LU l i*LU l i)+w64 (Lc l i*Lc l i))==1
def okR (l:List Sd) (i:Nat):Bool:=axR l i&& !(JO l i==0)
def Ik (l:List Sd):Bool:=(List.range l.length).all (okR l)&&decide (l.length≥4)
theorem LH {l:List Sd} {k:Nat} (hk:k<l.length) (h:okR l k=false):Ik l=false:=by
 unfold Ik
 rw[By hk h];rfl
theorem MS (W:World) (p:Option Addr) (cap:Nat) (l:List Sd) (hn:l.length<4611686018427387904) (hR:BJ W p l):
  Ad Tryz.prog 47 #[slv p l.length cap] W (fun _:Unit=> .bool (Ik l)) (fun _=>True) (fun _=>[]):=by
 refine Ab (args:=[slv p l.length cap]) Tryz.func47 I I I ?_
 refine zA (zB (wP I (Aa (zE (zA (zA (zB (wP I (Aa (zE (zH ?_)))))))))))
 refine At (X:=Nat) (fun k=>[(0,slv p l.length cap),(3, .int .i64 (k:Nat))]) (fun _=>[]) (fun k=>k≤l.length∧ ∀i,i<k→okR l i=true) (fun k=>l.length-k) 0 ⟨Nat.zero_le _,fun i hi=>absurd hi (Nat.not_lt_zero _)⟩ ⟨I,I,tO⟩ [] I ?_
 rintro k ⟨hk,hok⟩
 refine zA (zA (zB (wP I (wP I (wP I (wP I (Aa (zE ?_))))))))
 refine Aj I (fun h=> ?_) (fun h=> ?_)
 rotate_left
 ·have e:k=l.length:=by simp at h;omega
  subst e
  refine zJ (zK (zK (zL (zE (zA (zB (wP I (wP I (wP I (wP I (Aa (zE (zO ?_)))))))))))))
  have hall:(List.range l.length).all (okR l)=true:=List.all_eq_true.2 fun i hi=>hok i (List.mem_range.1 hi)
  have e:Ik l=decide ((l.length:Int)≥4):=by
   unfold Ik
   rw[hall,Bool.true_and]
   by_cases h4:l.length≥4
   ·rw[dT h4,dT (by omega)]
   ·rw[dF h4,dF (by omega)]
  exact wR1 I I (by rw[e])
 have hk:k<l.length:=by simp at h;omega
 clear h
 refine zI (zE (zA (zH (zA (zB (wP I (wP I (wC I I (fun W hp=>E8 W _ cap l k hn (hR.hp hp) hk) ?_))))))))
 iterate 5 refine wP I ?_
 refine Aa (zE (zA (zB ?_)))
 iterate 9 refine wP I ?_
 refine AM 26 I (fun h26=> ?_) (fun h26=> ?_)
 ·refine Af I I ?_
  iterate 3 refine Af I I ?_
  refine wP I (Aa (zE (zR I (zA (zB (wP I (Aa (zE (zO (zQ (zP (zP (zQ ?_)))))))))))))
  refine zP ?_
  have h':(w64 (w64 (LU l k*LU l k)+w64 (Lc l k*Lc l k)) !=1)=true:=h26
  have hf:okR l k=false:=by unfold okR axR;rw[bne_iff_ne] at h';rw[beq_eq_false_iff_ne.2 h'];rfl
  exact wR1 I I (by rw[LH hk hf])
 ·refine wP I (wP I (wC I I (fun W hp=>KW W _ cap l k hn (hR.hp hp) hk) (wP I (wP I (Aa ?_)))))
  have h':(w64 (w64 (LU l k*LU l k)+w64 (Lc l k*Lc l k)) !=1)=false:=h26
  have ha:axR l k=true:=by unfold axR;rw[bne_eq_false_iff_eq] at h';rw[beq_iff_eq];exact h'
  refine zE ?_
  refine Aj I (fun h=> ?_) (fun h=> ?_)
  ·refine zA (zB (wP I (Aa (zE (zO (zQ (zP (zP (zQ (zP ?_))))))))))
   have hf:okR l k=false:=by unfold okR;rw[show(JO l k==0)=true from h,Bool.not_true,Bool.and_false]
   exact wR1 I I (by rw[LH hk hf])
  ·have hf:okR l k=true:=by unfold okR;rw[ha,show(JO l k==0)=false from h];rfl
   refine zI (zN (zE (zB (wP I (wP I (wP I (Aa ?_)))))))
   refine Ak (k+1) ⟨hk,fun i hi=> ?_⟩ (by omega) ⟨I,congrArg (fun z=>some (Value.int .i64 z)) (AA (x:=(k:Int)+1) (by omega) (by omega)),tO⟩ [] I
   by_cases e:i=k
   ·subst e;exact hf
   ·exact hok i (by omega)
theorem Hh (W:World) (p q:Option Addr) (cap caq:Nat) (l m:List Sd) (i k:Nat) (hn:l.length<4611686018427387904) (hm:m.length<4611686018427387904) (hR:BJ W p l) (hS:BJ W q m) (hi:i<l.length) (hk:k<m.length):
  Ad Tryz.prog 118 #[slv p l.length cap, .int .i64 (i:Nat),slv q m.length caq, .int .i64 (k:Nat)] W (fun _:Unit=> .bool (Ee (sd l i) (sd l (nxt l.length i)) (sd m k) (sd m (nxt m.length k)))) (fun _=>True) (fun _=>[]):=by
 obtain⟨b,off,rfl,hrow⟩:=hR.row hi
 obtain⟨b',off',rfl,hrow'⟩:=hS.row hk
 refine Ab (args:=[slv (some ⟨b,off,none⟩) l.length cap, .int .i64 (i:Nat),slv (some ⟨b',off',none⟩) m.length caq, .int .i64 (k:Nat)]) Tryz.func118 I I I ?_
 refine zA (zB (wP I (Aa (zE (zA (zB (wP I (wP I (wC I I (fun W hp=>Gd W _ cap l i hn (hR.hp hp) hi) ?_)))))))))
 iterate 5 refine wP I ?_
 refine Aa (zE (zA (zB (wP I (wP I (wC I I (fun W hp=>Gd W _ caq m k hm (hS.hp hp) hk) ?_))))))
 iterate 5 refine wP I ?_
 refine Aa ?_
 obtain⟨B1,e1⟩: ∃b,decide (lox (sd l i) (sd l (nxt l.length i))≤hix (sd m k) (sd m (nxt m.length k)))=b:=⟨_,rfl⟩
 obtain⟨B2,e2⟩: ∃b,decide (lox (sd m k) (sd m (nxt m.length k))≤hix (sd l i) (sd l (nxt l.length i)))=b:=⟨_,rfl⟩
 obtain⟨B3,e3⟩: ∃b,decide (loy (sd l i) (sd l (nxt l.length i))≤hiy (sd m k) (sd m (nxt m.length k)))=b:=⟨_,rfl⟩
 obtain⟨B4,e4⟩: ∃b,decide (loy (sd m k) (sd m (nxt m.length k))≤hiy (sd l i) (sd l (nxt l.length i)))=b:=⟨_,rfl⟩
 have hM:Ee (sd l i) (sd l (nxt l.length i)) (sd m k) (sd m (nxt m.length k))=(B1&&B2&&B3&&B4):=by unfold Ee;rw[e1,e2,e3,e4]
 refine zE (zA (zU (qP I (qP I ?_))))
 refine qJ ?_
 refine qP I (qL 0 I I (fun W hp=>(hrow i hi).hp hp) I (qP I (qP I (qP I (qP I ?_)))))
 refine qJ ?_
 refine qP I (qL 0 I I (fun W hp=>(hrow' k hk).hp hp) I (qP I (qP I (qP I (qP I ?_)))))
 refine Gv 40 I (fun h40=> ?_) (fun h40=> ?_)
 ·refine qP I (qP I ?_)
  refine qJ ?_
  refine qP I (qL 0 I I (fun W hp=>(hrow' k hk).hp hp) I (qP I (qP I (qP I (qP I ?_)))))
  refine qJ ?_
  refine qP I (qL 0 I I (fun W hp=>(hrow i hi).hp hp) I ?_)
  iterate 5 refine qP I ?_
  refine Gv 57 I (fun h57=> ?_) (fun h57=> ?_)
  ·refine qP I (qP I ?_)
   refine qJ ?_
   refine qP I (qL 1 I I (fun W hp=>(hrow i hi).hp hp) I (qP I (qP I (qP I (qP I ?_)))))
   refine qJ ?_
   refine qP I (qL 1 I I (fun W hp=>(hrow' k hk).hp hp) I ?_)
   iterate 5 refine qP I ?_
   refine Gv 74 I (fun h74=> ?_) (fun h74=> ?_)
   ·refine qP I (qP I ?_)
    refine qJ ?_
    refine qP I (qL 1 I I (fun W hp=>(hrow' k hk).hp hp) I (qP I (qP I (qP I (qP I ?_)))))
    refine qJ ?_
    refine qP I (qL 1 I I (fun W hp=>(hrow i hi).hp hp) I ?_)
    iterate 5 refine qP I ?_
    exact A7 (Aa (zE (zO (wR1 I I (by rw[hM,show B1=true from e1.symm.trans h40,show B2=true from e2.symm.trans h57,show B3=true from e3.symm.trans h74];exact congrArg Value.bool e4)))))
   ·refine BM I I ?_
    iterate 14 refine BM I I ?_
    refine qP I (qP I (A7 (Aa (zE (zO ?_)))))
    have e:(B1&&B2&&B3&&B4)=false:=by first|(rw[show B1=false from e1.symm.trans h40];rfl)|(rw[show B2=false from e2.symm.trans h57];cases B1<;>rfl)|(rw[show B3=false from e3.symm.trans h74];cases B1<;>cases B2<;>rfl)
    exact wR1 I I (by rw[hM,e])
  ·refine BM I I ?_
   iterate 14 refine BM I I ?_
   refine qP I (qP I ?_)
   iterate 15 refine BM I I ?_
   refine qP I (qP I (A7 (Aa (zE (zO ?_)))))
   have e:(B1&&B2&&B3&&B4)=false:=by first|(rw[show B1=false from e1.symm.trans h40];rfl)|(rw[show B2=false from e2.symm.trans h57];cases B1<;>rfl)|(rw[show B3=false from e3.symm.trans h74];cases B1<;>cases B2<;>rfl)
   exact wR1 I I (by rw[hM,e])
 ·refine BM I I ?_
  iterate 14 refine BM I I ?_
  refine qP I (qP I ?_)
  iterate 15 refine BM I I ?_
  refine qP I (qP I ?_)
  iterate 15 refine BM I I ?_
  refine qP I (qP I (A7 (Aa (zE (zO ?_)))))
  have e:(B1&&B2&&B3&&B4)=false:=by first|(rw[show B1=false from e1.symm.trans h40];rfl)|(rw[show B2=false from e2.symm.trans h57];cases B1<;>rfl)|(rw[show B3=false from e3.symm.trans h74];cases B1<;>cases B2<;>rfl)
  exact wR1 I I (by rw[hM,e])
def Kd (t u:Sd) (px py:Int):Bool:=(t.x==u.x)&&decide (u.x>px)&&decide (loy t u≤py)&&decide (py<hiy t u)
def Gk (l:List Sd) (px py:Int):Nat→Bool
 |0=>false
 |k+1=>if Kd (sd l k) (sd l (nxt l.length k)) px py=true then !Gk l px py k else Gk l px py k
theorem MI (W:World) (p:Option Addr) (cap:Nat) (l:List Sd) (px py:Int) (hn:l.length<4611686018427387904) (hR:BJ W p l):
  Ad Tryz.prog 120 #[slv p l.length cap, .int .i64 px, .int .i64 py] W (fun _:Unit=> .bool (Gk l px py l.length)) (fun _=>True) (fun _=>[]):=by
 refine Ab (args:=[slv p l.length cap, .int .i64 px, .int .i64 py]) Tryz.func120 I I I ?_
 refine zA (zB (wP I (Aa (zE (zA (zB (wP I (Aa (zE (zA (zA (zB (wP I ?_)))))))))))))
 refine Aa (zE (zH ?_))
 refine At (X:=Nat) (fun k=>[(0,slv p l.length cap),(1, .int .i64 px),(2, .int .i64 py),(7, .bool (Gk l px py k)),(8, .int .i64 (k:Nat))]) (fun _=>[]) (fun k=>k≤l.length) (fun k=>l.length-k) 0 (Nat.zero_le _) ⟨I,I,I,I,I,tO⟩ [] I ?_
 intro k hk
 refine zA (zA (zB (wP I (wP I (wP I (wP I (Aa (zE ?_))))))))
 refine Aj I (fun h=> ?_) (fun h=> ?_)
 rotate_left
 ·have e:k=l.length:=by simp at h;omega
  subst e
  exact zJ (zK (zK (zL (zE (zA (zB (wP I (wP I (Aa (zE (zO (wR1 I I I))))))))))))
 have hk:k<l.length:=by simp at h;omega
 clear h
 obtain⟨b,off,rfl,hrow⟩:=hR.row hk
 refine zI (zE (zA (zH (zA (zB (wP I (wP I (wC I I (fun W hp=>Gd W _ cap l k hn (hR.hp hp) hk) ?_))))))))
 iterate 5 refine wP I ?_
 refine Aa ?_
 obtain⟨B1,e1⟩: ∃b,((sd l k).x==(sd l (nxt l.length k)).x)=b:=⟨_,rfl⟩
 obtain⟨B2,e2⟩: ∃b,decide ((sd l (nxt l.length k)).x>px)=b:=⟨_,rfl⟩
 obtain⟨B3,e3⟩: ∃b,decide (loy (sd l k) (sd l (nxt l.length k))≤py)=b:=⟨_,rfl⟩
 obtain⟨B4,e4⟩: ∃b,decide (py<hiy (sd l k) (sd l (nxt l.length k)))=b:=⟨_,rfl⟩
 have hM:Kd (sd l k) (sd l (nxt l.length k)) px py=(B1&&B2&&B3&&B4):=by unfold Kd;rw[e1,e2,e3,e4]
 have no:(B1&&B2&&B3&&B4)=false→Gk l px py (k+1)=Gk l px py k:=fun h=>by
  show(if Kd (sd l k) (sd l (nxt l.length k)) px py=true then !Gk l px py k else Gk l px py k)=_
  rw[hM,h,if_neg (by decide)]
 have yes:(B1&&B2&&B3&&B4)=true→Gk l px py (k+1)= !Gk l px py k:=fun h=>by
  show(if Kd (sd l k) (sd l (nxt l.length k)) px py=true then !Gk l px py k else Gk l px py k)=_
  rw[hM,h,if_pos rfl]
 refine zE (zA (zB (wP I (wP I ?_))))
 refine wJ ?_
 refine wP I (wL 0 I I (fun W hp=>(hrow k hk).hp hp) I (wP I (wP I (wP I ?_))))
 refine AM 30 I (fun h30=> ?_) (fun h30=> ?_)
 ·refine wP I (wP I (wP I (wP I (wP I ?_))))
  refine AM 35 I (fun h35=> ?_) (fun h35=> ?_)
  ·refine wP I (wP I ?_)
   refine wJ ?_
   refine wP I (wL 1 I I (fun W hp=>(hrow k hk).hp hp) I ?_)
   iterate 6 refine wP I ?_
   refine AM 46 I (fun h46=> ?_) (fun h46=> ?_)
   ·refine wP I (wP I (wP I ?_))
    refine wJ ?_
    refine wP I (wL 1 I I (fun W hp=>(hrow k hk).hp hp) I (wP I (wP I (wP I (wP I (Aa ?_))))))
    have e:(B1&&B2&&B3&&B4)=B4:=by rw[show B1=true from e1.symm.trans h30,show B2=true from e2.symm.trans h35,show B3=true from e3.symm.trans h46];rfl
    refine zE ?_
    refine Aj I (fun h=> ?_) (fun h=> ?_)
    ·have e5:(B1&&B2&&B3&&B4)=true:=e.trans (e4.symm.trans h)
     exact zB (wP I (wP I (wP I (Aa (zN (zE (zB (wP I (wP I (wP I (Aa (Ak (k+1) hk (by omega) ⟨I,I,I,congrArg (fun z=>some (Value.bool z)) (yes e5).symm,congrArg (fun z=>some (Value.int .i64 z)) (AA (x:=(k:Int)+1) (by omega) (by omega)),tO⟩ [] I))))))))))))
    ·have e5:(B1&&B2&&B3&&B4)=false:=e.trans (e4.symm.trans h)
     exact zI (zN (zE (zB (wP I (wP I (wP I (Aa (Ak (k+1) hk (by omega) ⟨I,I,I,congrArg (fun z=>some (Value.bool z)) (no e5).symm,congrArg (fun z=>some (Value.int .i64 z)) (AA (x:=(k:Int)+1) (by omega) (by omega)),tO⟩ [] I))))))))
   ·refine Af I I ?_
    iterate 8 refine Af I I ?_
    refine wP I (Aa ?_)
    have e:(B1&&B2&&B3&&B4)=false:=by first|(rw[show B1=false from e1.symm.trans h30];rfl)|(rw[show B2=false from e2.symm.trans h35];cases B1<;>rfl)|(rw[show B3=false from e3.symm.trans h46];cases B1<;>cases B2<;>rfl)
    exact zE (zS I (zI (zN (zE (zB (wP I (wP I (wP I (Aa (Ak (k+1) hk (by omega) ⟨I,I,I,congrArg (fun z=>some (Value.bool z)) (no e).symm,congrArg (fun z=>some (Value.int .i64 z)) (AA (x:=(k:Int)+1) (by omega) (by omega)),tO⟩ [] I))))))))))
  ·refine Af I I ?_
   iterate 8 refine Af I I ?_
   refine wP I (wP I ?_)
   iterate 9 refine Af I I ?_
   refine wP I (Aa ?_)
   have e:(B1&&B2&&B3&&B4)=false:=by first|(rw[show B1=false from e1.symm.trans h30];rfl)|(rw[show B2=false from e2.symm.trans h35];cases B1<;>rfl)|(rw[show B3=false from e3.symm.trans h46];cases B1<;>cases B2<;>rfl)
   exact zE (zS I (zI (zN (zE (zB (wP I (wP I (wP I (Aa (Ak (k+1) hk (by omega) ⟨I,I,I,congrArg (fun z=>some (Value.bool z)) (no e).symm,congrArg (fun z=>some (Value.int .i64 z)) (AA (x:=(k:Int)+1) (by omega) (by omega)),tO⟩ [] I))))))))))
 ·refine Af I I ?_
  iterate 2 refine Af I I ?_
  refine wP I (wP I ?_)
  iterate 9 refine Af I I ?_
  refine wP I (wP I ?_)
  iterate 9 refine Af I I ?_
  refine wP I (Aa ?_)
  have e:(B1&&B2&&B3&&B4)=false:=by first|(rw[show B1=false from e1.symm.trans h30];rfl)|(rw[show B2=false from e2.symm.trans h35];cases B1<;>rfl)|(rw[show B3=false from e3.symm.trans h46];cases B1<;>cases B2<;>rfl)
  exact zE (zS I (zI (zN (zE (zB (wP I (wP I (wP I (Aa (Ak (k+1) hk (by omega) ⟨I,I,I,congrArg (fun z=>some (Value.bool z)) (no e).symm,congrArg (fun z=>some (Value.int .i64 z)) (AA (x:=(k:Int)+1) (by omega) (by omega)),tO⟩ [] I))))))))))
end
section
open Go Go.RowKit Go.Am
theorem Cq {f:Nat→Int}: ∀n,(∀i,i<n→f i=0)→AC f n=0
 |0,_=>rfl
 |n+1,h=>by
  show AC f n+f n=0
  rw[Cq n (fun i hi=>h i (by omega)),h n (by omega)];rfl
theorem J1 {f:Nat→Int} {j:Nat}: ∀n,j<n→(∀i,i<n→i≠j→f i=0)→AC f n=f j
 |0,hj,_=>absurd hj (Nat.not_lt_zero _)
 |n+1,hj,h=>by
  show AC f n+f n=f j
  by_cases e:j=n
  ·subst e
   rw[Cq j (fun i hi=>h i (by omega) (by omega))];omega
  ·rw[J1 n (by omega) (fun i hi=>h i (by omega)),h n (by omega) (fun x=>e x.symm)];omega
theorem Db (f g:Nat→Int): ∀n,AC (fun i=>f i-g i) n=AC f n-AC g n
 |0=>rfl
 |n+1=>by
  show AC _ n+(f n-g n)=AC f n+f n-(AC g n+g n)
  rw[Db f g n];omega
theorem Ii (f:Nat→Nat→Int) (m:Nat): ∀n,AC (fun i=>AC (fun j=>f i j) m) n=AC (fun j=>AC (fun i=>f i j) n) m
 |0=>(Cq m (fun _ _=>rfl)).symm
 |n+1=>by
  show AC _ n+AC (fun j=>f n j) m=AC (fun j=>AC (fun i=>f i j) n+f n j) m
  rw[Ii f m n,Ni]
theorem Gz {f:Nat→Int}: ∀n,(∀i,i<n→0≤f i)→0≤AC f n
 |0,_=>Int.le_refl _
 |n+1,h=>by
  have h1:=Gz n (fun i hi=>h i (by omega))
  have h2:=h n (by omega)
  show 0≤AC f n+f n
  omega
theorem JM {f:Nat→Int} {j:Nat}: ∀n,(∀i,i<n→0≤f i)→j<n→0<f j→0<AC f n
 |0,_,hj,_=>absurd hj (Nat.not_lt_zero _)
 |n+1,h,hj,h0=>by
  have h1:=Gz n (fun i hi=>h i (by omega))
  have h2:=h n (by omega)
  show 0<AC f n+f n
  by_cases e:j=n
  ·subst e;omega
  ·have:=JM n (fun i hi=>h i (by omega)) (show j<n by omega) h0
   omega
def ind (a b:Int):Int:=if a>b then 1 else 0
theorem De (a b:Int):(ind a b=1∧a>b)∨(ind a b=0∧a≤b):=by
 unfold ind
 by_cases h:a>b
 ·rw[if_pos h];exact .inl ⟨rfl,h⟩
 ·rw[if_neg h];exact .inr ⟨rfl,by omega⟩
theorem Fg {a b:Int} (h:a>b):ind a b=1:=if_pos h
theorem Fc {a b:Int} (h:a≤b):ind a b=0:=if_neg (by omega)
theorem SC {a:Int} (h:0≤a): ∀m:Nat,AC (fun x=>ind a x) m=if a≤m then a else m
 |0=>by
  show(0:Int)=_
  split<;>omega
 |m+1=>by
  show AC (fun x=>ind a x) m+ind a m=_
  rw[SC h m]
  rcases De a m with⟨e,h1⟩|⟨e,h1⟩<;>rw[e]<;>split<;>split<;>omega
theorem Jw {a:Int} {m:Nat} (h:0≤a) (h2:a≤m):AC (fun x=>ind a x) m=a:=by rw[SC h,if_pos h2]
def On (σ:Nat→Nat) (X Y:Nat→Int) (k:Nat) (px py:Int):Prop:=
 (X k≤px∨X (σ k)≤px)∧(px≤X k∨px≤X (σ k))∧(Y k≤py∨Y (σ k)≤py)∧(py≤Y k∨py≤Y (σ k))
structure Net (T:Nat) (σ:Nat→Nat) (X Y:Nat→Int):Prop where
 lt: ∀k,k<T→σ k<T
 sum: ∀f:Nat→Int,AC (fun k=>f (σ k)) T=AC f T
 side: ∀k,k<T→(X (σ k)=X k∧Y (σ k)≠Y k)∨(Y (σ k)=Y k∧X (σ k)≠X k)
 alt: ∀k,k<T→(X (σ k)=X k↔Y (σ (σ k))=Y (σ k))
 free: ∀j k,j<T→k<T→ ∀px py,On σ X Y j px py→On σ X Y k px py→j=k∨j=σ k∨k=σ j
def Wn (T:Nat) (σ:Nat→Nat) (X Y:Nat→Int) (x y:Int):Int:=AC (fun k=>ind (X k) x*(ind (Y (σ k)) y-ind (Y k) y)) T
def Vd (σ:Nat→Nat) (X Y:Nat→Int) (x y:Int) (k:Nat):Int:=(ind (X k) (x-1)-ind (X k) x)*(ind (Y (σ k)) y-ind (Y k) y)
def Hd (σ:Nat→Nat) (X Y:Nat→Int) (x y:Int) (k:Nat):Int:=(ind (X (σ k)) x-ind (X k) x)*(ind (Y (σ k)) (y-1)-ind (Y (σ k)) y)
def LC (σ:Nat→Nat) (X Y:Nat→Int) (k:Nat) (x y:Int):Prop:=
 (Y k<Y (σ k)∧x=X k-1∧Y k≤y∧y<Y (σ k))∨(Y (σ k)<Y k∧x=X k∧Y (σ k)≤y∧y<Y k)∨
 (X k<X (σ k)∧y=Y k∧X k≤x∧x<X (σ k))∨(X (σ k)<X k∧y=Y k-1∧X (σ k)≤x∧x<X k)
def RC (σ:Nat→Nat) (X Y:Nat→Int) (k:Nat) (x y:Int):Prop:=
 (Y k<Y (σ k)∧x=X k∧Y k≤y∧y<Y (σ k))∨(Y (σ k)<Y k∧x=X k-1∧Y (σ k)≤y∧y<Y k)∨
 (X k<X (σ k)∧y=Y k-1∧X k≤x∧x<X (σ k))∨(X (σ k)<X k∧y=Y k∧X (σ k)≤x∧x<X k)
def Lv (T:Nat) (σ:Nat→Nat) (X Y:Nat→Int) (k:Nat) (L:Int):Prop:=
 (∀x y,LC σ X Y k x y→Wn T σ X Y x y=L)∧ ∀x y,RC σ X Y k x y→Wn T σ X Y x y=L-1
section
variable {T:Nat} {σ:Nat→Nat} {X Y:Nat→Int}
theorem VH (x y:Int):Wn T σ X Y (x-1) y-Wn T σ X Y x y=AC (Vd σ X Y x y) T:=by
 unfold Wn
 rw[←Db]
 exact BC T fun k _=>by unfold Vd;rw[Int.sub_mul]
theorem Yr (N:Net T σ X Y) (x y:Int):Wn T σ X Y x y-Wn T σ X Y x (y-1)=AC (Hd σ X Y x y) T:=by
 have h1:=N.sum fun k=>ind (X k) x*(ind (Y k) (y-1)-ind (Y k) y)
 unfold Wn
 rw[←Db]
 have h2:AC (fun i=>ind (X i) x*(ind (Y (σ i)) y-ind (Y i) y)-ind (X i) x*(ind (Y (σ i)) (y-1)-ind (Y i) (y-1))) T=
   AC (fun k=>ind (X k) x*(ind (Y k) (y-1)-ind (Y k) y)-ind (X k) x*(ind (Y (σ k)) (y-1)-ind (Y (σ k)) y)) T:=
  BC T fun k _=>by simp only[Int.mul_sub];omega
 rw[h2,Db, ←h1, ←Db]
 exact BC T fun k _=>by unfold Hd;rw[Int.sub_mul]
theorem Ut {x y:Int} {k:Nat} (h:Vd σ X Y x y k≠0):X k=x∧((Y k≤y∧y<Y (σ k))∨(Y (σ k)≤y∧y<Y k)):=by
 unfold Vd at h
 rcases De (X k) (x-1) with⟨e1,h1⟩|⟨e1,h1⟩<;>rcases De (X k) x with⟨e2,h2⟩|⟨e2,h2⟩<;>rcases De (Y (σ k)) y with⟨e3,h3⟩|⟨e3,h3⟩<;>rcases De (Y k) y with⟨e4,h4⟩|⟨e4,h4⟩<;>
  rw[e1,e2,e3,e4] at h<;>first|exact absurd rfl h|omega
theorem WI {x y:Int} {k:Nat} (h:Hd σ X Y x y k≠0):Y (σ k)=y∧((X k≤x∧x<X (σ k))∨(X (σ k)≤x∧x<X k)):=by
 unfold Hd at h
 rcases De (X (σ k)) x with⟨e1,h1⟩|⟨e1,h1⟩<;>rcases De (X k) x with⟨e2,h2⟩|⟨e2,h2⟩<;>rcases De (Y (σ k)) (y-1) with⟨e3,h3⟩|⟨e3,h3⟩<;>rcases De (Y (σ k)) y with⟨e4,h4⟩|⟨e4,h4⟩<;>
  rw[e1,e2,e3,e4] at h<;>first|exact absurd rfl h|omega
theorem Yq {y:Int} {k:Nat} (h:Y k≤y∧y<Y (σ k)):Vd σ X Y (X k) y k=1:=by
 unfold Vd
 rw[Fg (show X k>X k-1 by omega),Fc (Int.le_refl _),Fg h.2,Fc h.1];rfl
theorem V7 {y:Int} {k:Nat} (h:Y (σ k)≤y∧y<Y k):Vd σ X Y (X k) y k= -1:=by
 unfold Vd
 rw[Fg (show X k>X k-1 by omega),Fc (Int.le_refl _),Fg h.2,Fc h.1];rfl
theorem VZ {x:Int} {k:Nat} (e:Y (σ k)=Y k) (h:X k≤x∧x<X (σ k)):Hd σ X Y x (Y k) k=1:=by
 unfold Hd
 rw[e,Fg (show Y k>Y k-1 by omega),Fc (Int.le_refl (Y k)),Fg h.2,Fc h.1];rfl
theorem W5 {x:Int} {k:Nat} (e:Y (σ k)=Y k) (h:X (σ k)≤x∧x<X k):Hd σ X Y x (Y k) k= -1:=by
 unfold Hd
 rw[e,Fg (show Y k>Y k-1 by omega),Fc (Int.le_refl (Y k)),Fg h.2,Fc h.1];rfl
theorem Net.up_eq (N:Net T σ X Y) {k:Nat} (hk:k<T) (hv:X (σ k)=X k) {c y:Int} (hc:c=X k-1∨c=X k) (h1:(Y k≤y∧y+1<Y (σ k))∨(Y (σ k)≤y∧y+1<Y k)):Wn T σ X Y c (y+1)=Wn T σ X Y c y:=by
 have h2:=Yr N c (y+1)
 rw[show y+1-1=y by omega] at h2
 rw[Cq (f:=Hd σ X Y c (y+1)) T (fun j hj=> ?_)] at h2
 ·omega
 ·refine Classical.byContradiction fun h=> ?_
  obtain⟨e,hx⟩:=WI h
  have e2:Y j=y+1:=by rcases N.side j hj with h|h<;>omega
  rcases N.free j k hj hk (X k) (y+1) ⟨by omega,by omega,by omega,by omega⟩ ⟨by omega,by omega,by omega,by omega⟩ with h|h|h
  ·subst h;omega
  ·subst h;omega
  ·rw[h] at h1 hv hc;rw[h] at*;omega
theorem Net.flat_eq (N:Net T σ X Y) {k:Nat} (hk:k<T) (hh:Y (σ k)=Y k) {c x:Int} (hc:c=Y k-1∨c=Y k) (h1:(X k≤x-1∧x<X (σ k))∨(X (σ k)≤x-1∧x<X k)):Wn T σ X Y (x-1) c=Wn T σ X Y x c:=by
 have h2:=VH (T:=T) (σ:=σ) (X:=X) (Y:=Y) x c
 rw[Cq (f:=Vd σ X Y x c) T (fun j hj=> ?_)] at h2
 ·omega
 ·refine Classical.byContradiction fun h=> ?_
  obtain⟨e,hx⟩:=Ut h
  have e2:X (σ j)=x:=by rcases N.side j hj with h|h<;>omega
  rcases N.free j k hj hk x (Y k) ⟨by omega,by omega,by omega,by omega⟩ ⟨by omega,by omega,by omega,by omega⟩ with h|h|h
  ·subst h;omega
  ·subst h;omega
  ·rw[h] at h1;omega
theorem Net.up_const (N:Net T σ X Y) {k:Nat} (hk:k<T) (hv:X (σ k)=X k) {c lo:Int} (hc:c=X k-1∨c=X k) (hlo:lo=Y k∨lo=Y (σ k)) (hm:lo≤Y k∧lo≤Y (σ k)): ∀d:Nat,(lo+d<Y k∨lo+d<Y (σ k))→Wn T σ X Y c (lo+d)=Wn T σ X Y c lo
 |0,_=>by rw[show lo+((0:Nat):Int)=lo by omega]
 |d+1,h=>by
  rw[show lo+((d+1:Nat):Int)=lo+d+1 by omega,N.up_eq hk hv hc (by omega)]
  exact N.up_const hk hv hc hlo hm d (by omega)
theorem Net.flat_const (N:Net T σ X Y) {k:Nat} (hk:k<T) (hh:Y (σ k)=Y k) {c lo:Int} (hc:c=Y k-1∨c=Y k) (hlo:lo=X k∨lo=X (σ k)) (hm:lo≤X k∧lo≤X (σ k)): ∀d:Nat,(lo+d<X k∨lo+d<X (σ k))→Wn T σ X Y (lo+d) c=Wn T σ X Y lo c
 |0,_=>by rw[show lo+((0:Nat):Int)=lo by omega]
 |d+1,h=>by
  have h1:=N.flat_eq hk hh hc (x:=lo+((d+1:Nat):Int)) (by omega)
  rw[←h1,show lo+((d+1:Nat):Int)-1=lo+d by omega]
  exact N.flat_const hk hh hc hlo hm d (by omega)
theorem Net.over_up (N:Net T σ X Y) {k:Nat} (hk:k<T) (hv:X (σ k)=X k) {y:Int} (h1:(Y k≤y∧y<Y (σ k))∨(Y (σ k)≤y∧y<Y k)):Wn T σ X Y (X k-1) y-Wn T σ X Y (X k) y=Vd σ X Y (X k) y k:=by
 rw[VH]
 refine J1 T hk fun j hj hne=> ?_
 refine Classical.byContradiction fun h=> ?_
 obtain⟨e,hx⟩:=Ut h
 have e2:X (σ j)=X j:=by rcases N.side j hj with h|h<;>omega
 rcases N.free j k hj hk (X k) y ⟨by omega,by omega,by omega,by omega⟩ ⟨by omega,by omega,by omega,by omega⟩ with h|h|h
 ·exact hne h
 ·have:=(N.alt k hk).1 hv
  rw[←h] at this;omega
 ·have:=(N.alt j hj).1 e2
  rw[←h] at this;omega
theorem Net.over_flat (N:Net T σ X Y) {k:Nat} (hk:k<T) (hh:Y (σ k)=Y k) {x:Int} (h1:(X k≤x∧x<X (σ k))∨(X (σ k)≤x∧x<X k)):Wn T σ X Y x (Y k)-Wn T σ X Y x (Y k-1)=Hd σ X Y x (Y k) k:=by
 rw[Yr N]
 refine J1 T hk fun j hj hne=> ?_
 refine Classical.byContradiction fun h=> ?_
 obtain⟨e,hx⟩:=WI h
 have e2:Y (σ j)=Y j:=by rcases N.side j hj with h|h<;>omega
 rcases N.free j k hj hk x (Y k) ⟨by omega,by omega,by omega,by omega⟩ ⟨by omega,by omega,by omega,by omega⟩ with h|h|h
 ·exact hne h
 ·have:=N.alt k hk
  rw[←h] at this h1
  have h9:=this.2 e2
  omega
 ·have:=N.alt j hj
  rw[←h] at this hx
  have h9:=this.2 hh
  omega
theorem Net.lv_ex (N:Net T σ X Y) {k:Nat} (hk:k<T): ∃L,Lv T σ X Y k L:=by
 rcases N.side k hk with⟨hv,hd⟩|⟨hh,hd⟩
 ·have con: ∀c,(c=X k-1∨c=X k)→ ∀lo,(lo=Y k∨lo=Y (σ k))→lo≤Y k→lo≤Y (σ k)→ ∀y,lo≤y→(y<Y k∨y<Y (σ k))→Wn T σ X Y c y=Wn T σ X Y c lo:=fun c hc lo hlo m1 m2 y h1 h2=>by
   have:=N.up_const hk hv hc hlo ⟨m1,m2⟩ (y-lo).toNat (by omega)
   rw[show lo+((y-lo).toNat:Int)=y by omega] at this
   exact this
  by_cases hu:Y k<Y (σ k)
  ·refine⟨Wn T σ X Y (X k-1) (Y k),fun x y h=> ?_,fun x y h=> ?_⟩
   ·unfold LC at h
    obtain⟨rfl,h1,h2⟩:x=X k-1∧Y k≤y∧y<Y (σ k):=by omega
    exact con _ (.inl I) _ (.inl I) (Int.le_refl _) (by omega) y h1 (.inr h2)
   ·unfold RC at h
    obtain⟨rfl,h1,h2⟩:x=X k∧Y k≤y∧y<Y (σ k):=by omega
    have e1:=con _ (.inl rfl) _ (.inl rfl) (Int.le_refl _) (by omega) y h1 (.inr h2)
    have e2:=N.over_up hk hv (.inl ⟨h1,h2⟩)
    rw[Yq ⟨h1,h2⟩] at e2
    omega
  ·refine⟨Wn T σ X Y (X k) (Y (σ k)),fun x y h=> ?_,fun x y h=> ?_⟩
   ·unfold LC at h
    obtain⟨rfl,h1,h2⟩:x=X k∧Y (σ k)≤y∧y<Y k:=by omega
    exact con _ (.inr I) _ (.inr I) (by omega) (Int.le_refl _) y h1 (.inl h2)
   ·unfold RC at h
    obtain⟨rfl,h1,h2⟩:x=X k-1∧Y (σ k)≤y∧y<Y k:=by omega
    have e1:=con _ (.inr rfl) _ (.inr rfl) (by omega) (Int.le_refl _) y h1 (.inl h2)
    have e2:=N.over_up hk hv (.inr ⟨h1,h2⟩)
    rw[V7 ⟨h1,h2⟩] at e2
    omega
 ·have con: ∀c,(c=Y k-1∨c=Y k)→ ∀lo,(lo=X k∨lo=X (σ k))→lo≤X k→lo≤X (σ k)→ ∀x,lo≤x→(x<X k∨x<X (σ k))→Wn T σ X Y x c=Wn T σ X Y lo c:=fun c hc lo hlo m1 m2 x h1 h2=>by
   have:=N.flat_const hk hh hc hlo ⟨m1,m2⟩ (x-lo).toNat (by omega)
   rw[show lo+((x-lo).toNat:Int)=x by omega] at this
   exact this
  by_cases hu:X k<X (σ k)
  ·refine⟨Wn T σ X Y (X k) (Y k),fun x y h=> ?_,fun x y h=> ?_⟩
   ·unfold LC at h
    obtain⟨rfl,h1,h2⟩:y=Y k∧X k≤x∧x<X (σ k):=by omega
    exact con _ (.inr I) _ (.inl I) (Int.le_refl _) (by omega) x h1 (.inr h2)
   ·unfold RC at h
    obtain⟨rfl,h1,h2⟩:y=Y k-1∧X k≤x∧x<X (σ k):=by omega
    have e1:=con _ (.inr rfl) _ (.inl rfl) (Int.le_refl _) (by omega) x h1 (.inr h2)
    have e2:=N.over_flat hk hh (.inl ⟨h1,h2⟩)
    rw[VZ hh ⟨h1,h2⟩] at e2
    omega
  ·refine⟨Wn T σ X Y (X (σ k)) (Y k-1),fun x y h=> ?_,fun x y h=> ?_⟩
   ·unfold LC at h
    obtain⟨rfl,h1,h2⟩:y=Y k-1∧X (σ k)≤x∧x<X k:=by omega
    exact con _ (.inl I) _ (.inr I) (by omega) (Int.le_refl _) x h1 (.inl h2)
   ·unfold RC at h
    obtain⟨rfl,h1,h2⟩:y=Y k∧X (σ k)≤x∧x<X k:=by omega
    have e1:=con _ (.inl rfl) _ (.inr rfl) (by omega) (Int.le_refl _) x h1 (.inl h2)
    have e2:=N.over_flat hk hh (.inr ⟨h1,h2⟩)
    rw[W5 hh ⟨h1,h2⟩] at e2
    omega
theorem Net.share (N:Net T σ X Y) {k:Nat} (hk:k<T): ∃x y,(LC σ X Y k x y∧LC σ X Y (σ k) x y)∨(RC σ X Y k x y∧RC σ X Y (σ k) x y):=by
 have h1:=N.side k hk
 have h2:=N.side (σ k) (N.lt k hk)
 have h3:=N.alt k hk
 unfold LC RC
 generalize σ (σ k)=k2 at*
 generalize σ k=k1 at*
 by_cases a:Y k<Y k1
 ·by_cases b:X k1<X k2
  ·exact⟨X k1,Y k1-1, .inr ⟨by omega,by omega⟩⟩
  ·exact⟨X k1-1,Y k1-1, .inl ⟨by omega,by omega⟩⟩
 by_cases a2:Y k1<Y k
 ·by_cases b:X k1<X k2
  ·exact⟨X k1,Y k1, .inl ⟨by omega,by omega⟩⟩
  ·exact⟨X k1-1,Y k1, .inr ⟨by omega,by omega⟩⟩
 by_cases a3:X k<X k1
 ·by_cases b:Y k1<Y k2
  ·exact⟨X k1-1,Y k1, .inl ⟨by omega,by omega⟩⟩
  ·exact⟨X k1-1,Y k1-1, .inr ⟨by omega,by omega⟩⟩
 ·by_cases b:Y k1<Y k2
  ·exact⟨X k1,Y k1, .inr ⟨by omega,by omega⟩⟩
  ·exact⟨X k1,Y k1-1, .inl ⟨by omega,by omega⟩⟩
theorem Net.lv_next (N:Net T σ X Y) {k:Nat} (hk:k<T) {L:Int} (h:Lv T σ X Y k L):Lv T σ X Y (σ k) L:=by
 obtain⟨L',h'⟩:=N.lv_ex (N.lt k hk)
 obtain⟨x,y,⟨h1,h2⟩|⟨h1,h2⟩⟩:=N.share hk
 ·have e1:=h.1 x y h1
  have e2:=h'.1 x y h2
  rw[show L=L' by omega];exact h'
 ·have e1:=h.2 x y h1
  have e2:=h'.2 x y h2
  rw[show L=L' by omega];exact h'
theorem GS {x:Int} (h: ∀k,k<T→X k≤x) (y:Int):Wn T σ X Y x y=0:=Cq T fun k hk=>by rw[Fc (h k hk),Int.zero_mul]
theorem S1 {x y:Int} {j:Nat} (h:Vd σ X Y x y j≠0):(LC σ X Y j (x-1) y∧RC σ X Y j x y)∨(RC σ X Y j (x-1) y∧LC σ X Y j x y):=by
 obtain⟨e,hx⟩:=Ut h
 rcases hx with⟨h1,h2⟩|⟨h1,h2⟩
 ·exact .inl ⟨.inl ⟨by omega,by omega,h1,h2⟩, .inl ⟨by omega,by omega,h1,h2⟩⟩
 ·exact .inr ⟨.inr (.inl ⟨by omega,by omega,h1,h2⟩), .inr (.inl ⟨by omega,by omega,h1,h2⟩)⟩
theorem Net.ray (N:Net T σ X Y) {M:Int} (hM: ∀k,k<T→X k≤M) (y:Int): ∀d:Nat,Wn T σ X Y (M-d) y=0∨ ∃k L,k<T∧Lv T σ X Y k L∧(Wn T σ X Y (M-d) y=L∨Wn T σ X Y (M-d) y=L-1)
 |0=> .inl (GS (fun k hk=>by have:=hM k hk;omega) y)
 |d+1=>by
  have h1:=VH (T:=T) (σ:=σ) (X:=X) (Y:=Y) (M-d) y
  rw[show M-((d+1:Nat):Int)=M-d-1 by omega]
  by_cases h: ∃j,j<T∧Vd σ X Y (M-d) y j≠0
  ·obtain⟨j,hj,h⟩:=h
   obtain⟨L,hL⟩:=N.lv_ex hj
   refine .inr ⟨j,L,hj,hL, ?_⟩
   rcases S1 h with⟨h,_⟩|⟨h,_⟩
   ·exact .inl (hL.1 _ _ h)
   ·exact .inr (hL.2 _ _ h)
  ·rw[Cq (f:=Vd σ X Y (M-d) y) T (fun j hj=>Classical.byContradiction fun e=>h ⟨j,hj,e⟩)] at h1
   rw[show Wn T σ X Y (M-d-1) y=Wn T σ X Y (M-d) y by omega]
   exact N.ray hM y d
theorem Net.values (N:Net T σ X Y) (x y:Int):Wn T σ X Y x y=0∨ ∃k L,k<T∧Lv T σ X Y k L∧(Wn T σ X Y x y=L∨Wn T σ X Y x y=L-1):=by
 have bound: ∀n, ∃M:Int, ∀k,k<n→X k≤M:=fun n=>by
  induction n with
  |zero=>exact⟨0,fun k hk=>absurd hk (Nat.not_lt_zero _)⟩
  |succ n ih=>
   obtain⟨M,hM⟩:=ih
   refine⟨if M<X n then X n else M,fun k hk=> ?_⟩
   by_cases e:k=n
   ·subst e;split<;>omega
   ·have:=hM k (by omega);split<;>omega
 obtain⟨M,hM⟩:=bound T
 by_cases h:x≤M
 ·have:=N.ray hM y (M-x).toNat
  rw[show M-((M-x).toNat:Int)=x by omega] at this
  exact this
 ·exact .inl (GS (fun k hk=>by have:=hM k hk;omega) y)
theorem Net.first (N:Net T σ X Y) {M:Int} (hM: ∀k,k<T→X k≤M) (y:Int): ∀d:Nat,(∀x,M-d≤x→Wn T σ X Y x y=0)∨ ∃k x,k<T∧(∀x',x≤x'→Wn T σ X Y x' y=0)∧((LC σ X Y k (x-1) y∧RC σ X Y k x y)∨(RC σ X Y k (x-1) y∧LC σ X Y k x y))
 |0=> .inl fun x hx=>GS (fun k hk=>by have:=hM k hk;omega) y
 |d+1=>by
  rcases N.first hM y d with h0|h0
  ·by_cases h: ∃j,j<T∧Vd σ X Y (M-d) y j≠0
   ·obtain⟨j,hj,h⟩:=h
    exact .inr ⟨j,M-d,hj,h0,S1 h⟩
   ·left
    intro x hx
    have h1:=VH (T:=T) (σ:=σ) (X:=X) (Y:=Y) (M-d) y
    rw[Cq (f:=Vd σ X Y (M-d) y) T (fun j hj=>Classical.byContradiction fun e=>h ⟨j,hj,e⟩)] at h1
    have h2:=h0 (M-d) (Int.le_refl _)
    by_cases e:x=M-d-1
    ·subst e;omega
    ·exact h0 x (by omega)
  ·exact .inr h0
theorem Net.range (N:Net T σ X Y) {M:Int} (hX: ∀k,k<T→0≤X k∧X k≤M) (hY: ∀k,k<T→0≤Y k∧Y k≤M) {x y:Int} (h:Wn T σ X Y x y≠0):(0≤x∧x<M)∧0≤y∧y<M:=by
 refine Classical.byContradiction fun hn=>h ?_
 by_cases h1:M≤x
 ·exact GS (fun k hk=>by have:=hX k hk;omega) y
 by_cases h2:x<0
 ·unfold Wn
  rw[BC (g:=fun k=>ind (Y (σ k)) y-ind (Y k) y) T (fun k hk=>by rw[Fg (show X k>x by have:=hX k hk;omega),Int.one_mul]),Db,N.sum (fun k=>ind (Y k) y)];omega
 by_cases h3:M≤y
 ·exact Cq T fun k hk=>by rw[Fc (show Y k≤y by have:=hY k hk;omega),Fc (show Y (σ k)≤y by have:=hY _ (N.lt k hk);omega)];simp
 by_cases h4:y<0
 ·exact Cq T fun k hk=>by rw[Fg (show Y k>y by have:=hY k hk;omega),Fg (show Y (σ k)>y by have:=hY _ (N.lt k hk);omega)];simp
 omega
theorem Net.area (N:Net T σ X Y) {M:Nat} (hX: ∀k,k<T→0≤X k∧X k≤M) (hY: ∀k,k<T→0≤Y k∧Y k≤M):
  AC (fun k=>X k*Y (σ k)-Y k*X (σ k)) T=2*AC (fun x=>AC (fun y=>Wn T σ X Y x y) M) M:=by
 have h1:AC (fun k=>X k*(Y (σ k)-Y k)) T=AC (fun x=>AC (fun y=>Wn T σ X Y x y) M) M:=by
  unfold Wn
  rw[BC (g:=fun k=>AC (fun x:Nat=>AC (fun y:Nat=>ind (X k) x*(ind (Y (σ k)) y-ind (Y k) y)) M) M) T fun k hk=> ?_]
  ·rw[Ii]
   refine BC M fun x _=> ?_
   rw[Ii]
  ·have e1:=Jw (hX k hk).1 (hX k hk).2
   have e2:=Jw (hY k hk).1 (hY k hk).2
   have e3:=Jw (hY _ (N.lt k hk)).1 (hY _ (N.lt k hk)).2
   rw[BC (g:=fun x:Nat=>(Y (σ k)-Y k)*ind (X k) x) M fun x _=> ?_]
   ·rw[ER,e1,Int.mul_comm]
   ·show AC (fun y:Nat=>ind (X k) x*(ind (Y (σ k)) y-ind (Y k) y)) M=_
    rw[ER,Db,e2,e3,Int.mul_comm]
 rw[←h1, ←ER]
 have h2:=N.sum fun k=>X k*Y k
 have h3:AC (fun k=>X k*Y (σ k)-Y k*X (σ k)-2*(X k*(Y (σ k)-Y k))) T=AC (fun k=>X k*Y k-X (σ k)*Y (σ k)) T:=BC T fun k hk=>by
  rcases N.side k hk with⟨e,_⟩|⟨e,_⟩
  ·rw[e,Int.mul_sub,Int.mul_comm (Y k) (X k)];omega
  ·rw[e,Int.mul_sub,Int.mul_comm (Y k) (X (σ k))];omega
 rw[Db,Db (fun k=>X k*Y k),h2] at h3
 omega
end
theorem Pz {n:Nat} {P:Nat→Prop} (h0:0<n→P 0) (h: ∀k,k<n→P k→P (nxt n k)): ∀k,k<n→P k
 |0,hk=>h0 hk
 |k+1,hk=>by
  have:=h k (by omega) (Pz h0 h k (by omega))
  rw[show nxt n k=k+1 from Nat.mod_eq_of_lt hk] at this
  exact this
section
variable {n:Nat} {X Y:Nat→Int}
theorem Net.one (N:Net n (nxt n) X Y) (h0:0<n): ∃L:Int,(L=0∨L=1)∧(∀k,k<n→Lv n (nxt n) X Y k L)∧ ∀x y,Wn n (nxt n) X Y x y=0∨Wn n (nxt n) X Y x y=2*L-1:=by
 obtain⟨L,hL⟩:=N.lv_ex h0
 have all: ∀k,k<n→Lv n (nxt n) X Y k L:=Pz (fun _=>hL) fun k hk h=>N.lv_next hk h
 have hb: ∀m, ∃M:Int, ∀k,k<m→X k≤M:=fun m=>by
  induction m with
  |zero=>exact⟨0,fun k hk=>absurd hk (Nat.not_lt_zero _)⟩
  |succ m ih=>
   obtain⟨M,hM⟩:=ih
   refine⟨if M<X m then X m else M,fun k hk=> ?_⟩
   by_cases e:k=m
   ·subst e;split<;>omega
   ·have:=hM k (by omega);split<;>omega
 obtain⟨M,hM⟩:=hb n
 have cell: ∃x y,LC (nxt n) X Y 0 x y∧ ∃x' y',RC (nxt n) X Y 0 x' y':=by
  have:=N.side 0 h0
  unfold LC RC
  by_cases a:Y 0<Y (nxt n 0)
  ·exact⟨X 0-1,Y 0,by omega,X 0,Y 0,by omega⟩
  by_cases a2:Y (nxt n 0)<Y 0
  ·exact⟨X 0,Y (nxt n 0),by omega,X 0-1,Y (nxt n 0),by omega⟩
  by_cases a3:X 0<X (nxt n 0)
  ·exact⟨X 0,Y 0,by omega,X 0,Y 0-1,by omega⟩
  ·exact⟨X (nxt n 0),Y 0-1,by omega,X (nxt n 0),Y 0,by omega⟩
 obtain⟨x1,y1,c1,x2,y2,c2⟩:=cell
 have e1:=hL.1 _ _ c1
 have e2:=hL.2 _ _ c2
 have try1: ∀x y,Wn n (nxt n) X Y x y≠0→L=0∨L=1:=fun x y h=>by
  have hx:x<M:=Classical.byContradiction fun e=>h (GS (fun k hk=>by have:=hM k hk;omega) y)
  rcases N.first hM y (M-x).toNat with h1|⟨k,x',hk,h1,h2⟩
  ·exact absurd (h1 x (by omega)) h
  ·have z:=h1 x' (Int.le_refl _)
   rcases h2 with⟨_,h2⟩|⟨_,h2⟩
   ·have:=(all k hk).2 _ _ h2;omega
   ·have:=(all k hk).1 _ _ h2;omega
 have h01:L=0∨L=1:=by
  by_cases e:L=0
  ·exact .inl e
  ·exact try1 x1 y1 (by rw[e1];exact e)
 refine⟨L,h01,all,fun x y=> ?_⟩
 rcases N.values x y with h|⟨k,L',hk,h1,h2⟩
 ·exact .inl h
 ·have e:L'=L:=by
   have a:=all k hk
   have hc: ∃x y,LC (nxt n) X Y k x y:=by
    have:=N.side k hk
    unfold LC
    by_cases a:Y k<Y (nxt n k)
    ·exact⟨X k-1,Y k,by omega⟩
    by_cases a2:Y (nxt n k)<Y k
    ·exact⟨X k,Y (nxt n k),by omega⟩
    by_cases a3:X k<X (nxt n k)
    ·exact⟨X k,Y k,by omega⟩
    ·exact⟨X (nxt n k),Y k-1,by omega⟩
   obtain⟨x,y,hc⟩:=hc
   rw[←h1.1 _ _ hc,a.1 _ _ hc]
  omega
theorem Net.area_one (N:Net n (nxt n) X Y) (h0:0<n) {M:Nat} (hX: ∀k,k<n→0≤X k∧X k≤M) (hY: ∀k,k<n→0≤Y k∧Y k≤M) {L:Int} (h01:L=0∨L=1) (hL: ∀k,k<n→Lv n (nxt n) X Y k L) (hv: ∀x y,Wn n (nxt n) X Y x y=0∨Wn n (nxt n) X Y x y=2*L-1):
  0<(2*L-1)*AC (fun k=>X k*Y (nxt n k)-Y k*X (nxt n k)) n:=by
 rw[N.area hX hY]
 have hsome: ∃x y,Wn n (nxt n) X Y x y=2*L-1:=by
  have:=N.side 0 h0
  have h:=hL 0 h0
  have cell:(∃x y,LC (nxt n) X Y 0 x y)∧ ∃x' y',RC (nxt n) X Y 0 x' y':=by
   unfold LC RC
   by_cases a:Y 0<Y (nxt n 0)
   ·exact⟨⟨X 0-1,Y 0,by omega⟩,X 0,Y 0,by omega⟩
   by_cases a2:Y (nxt n 0)<Y 0
   ·exact⟨⟨X 0,Y (nxt n 0),by omega⟩,X 0-1,Y (nxt n 0),by omega⟩
   by_cases a3:X 0<X (nxt n 0)
   ·exact⟨⟨X 0,Y 0,by omega⟩,X 0,Y 0-1,by omega⟩
   ·exact⟨⟨X (nxt n 0),Y 0-1,by omega⟩,X (nxt n 0),Y 0,by omega⟩
  obtain⟨⟨x1,y1,c1⟩,x2,y2,c2⟩:=cell
  have e1:=h.1 _ _ c1
  have e2:=h.2 _ _ c2
  rcases h01 with e|e
  ·exact⟨x2,y2,by omega⟩
  ·exact⟨x1,y1,by omega⟩
 obtain⟨x,y,hxy⟩:=hsome
 obtain⟨⟨r1,r2⟩,r3,r4⟩:=N.range hX hY (x:=x) (y:=y) (by rw[hxy];omega)
 have sq: ∀x y,0≤(2*L-1)*Wn n (nxt n) X Y x y:=fun x y=>by
  rcases hv x y with h|h<;>rw[h]
  ·simp
  ·rcases h01 with e|e<;>subst e<;>decide
 have pos:0<(2*L-1)*Wn n (nxt n) X Y x y:=by
  rw[hxy]
  rcases h01 with e|e<;>subst e<;>decide
 have hp:0<AC (fun i=>AC (fun j=>(2*L-1)*Wn n (nxt n) X Y i j) M) M:=by
  refine JM (j:=x.toNat) M (fun i _=>Gz M fun j _=>sq i j) (by omega) ?_
  refine JM (j:=y.toNat) M (fun j _=>sq _ j) (by omega) ?_
  show 0<(2*L-1)*Wn n (nxt n) X Y (x.toNat:Nat) (y.toNat:Nat)
  rw[show((x.toNat:Nat):Int)=x by omega,show((y.toNat:Nat):Int)=y by omega]
  exact pos
 have e:AC (fun i:Nat=>AC (fun j:Nat=>(2*L-1)*Wn n (nxt n) X Y i j) M) M=(2*L-1)*AC (fun i:Nat=>AC (fun j:Nat=>Wn n (nxt n) X Y i j) M) M:=by
  rw[←ER]
  exact BC M fun i _=>ER _ _ M
 rw[e] at hp
 rcases h01 with e|e<;>subst e<;>omega
end
theorem Qa {rs:List (List Sd)} {m:Nat}: ∀k,k≤rs.length→m<tot (rs.take k)→ ∃r i,r<k∧i<(rg rs r).length∧m=tot (rs.take r)+i
 |0,_,h=>by simp[tot] at h
 |k+1,hk,h=>by
  rw[Bk (by omega)] at h
  by_cases e:m<tot (rs.take k)
  ·obtain⟨r,i,h1,h2,h3⟩:=Qa k (by omega) e
   exact⟨r,i,by omega,h2,h3⟩
  ·exact⟨k,m-tot (rs.take k),by omega,by omega,by omega⟩
theorem U8 {rs:List (List Sd)} {m:Nat} (h:m<tot rs): ∃r i,r<rs.length∧i<(rg rs r).length∧m=tot (rs.take r)+i:=Qa rs.length (Nat.le_refl _) (by rw[List.take_length];exact h)
theorem Gl {n k:Nat} (h:k<n):nxt n k=if k+1=n then 0 else k+1:=by
 unfold nxt
 split
 ·rename_i e;rw[e,Nat.mod_self]
 ·exact Nat.mod_eq_of_lt (by omega)
theorem W6 {n k:Nat} (h:k<n):prv n k=if k=0 then n-1 else k-1:=by
 unfold prv
 split
 ·rename_i e;subst e;rw[Nat.zero_add];exact Nat.mod_eq_of_lt (by omega)
 ·rw[show k+n-1=k-1+n by omega,Nat.add_mod_right];exact Nat.mod_eq_of_lt (by omega)
theorem VE {n k:Nat} (h:k<n):prv n (nxt n k)=k:=by
 rw[W6 (Ej h),Gl h];split<;>split<;>omega
theorem Vn {n r a b:Nat} (hb:b<a) (ha:a<n):nbB n (r,a) (r,b)=true↔(a=nxt n b∨b=nxt n a):=by
 unfold nbB
 rw[Gl ha,Gl (show b<n by omega)]
 simp only[beq_self_eq_true,Bool.true_and,Bool.or_eq_true,beq_iff_eq]
 split<;>split<;>omega
def near (rs:List (List Sd)) (r i s k:Nat):Prop:=r=s∧(i=k∨i=nxt (rg rs r).length k∨k=nxt (rg rs r).length i)
theorem NK (rs:List (List Sd)):crs rs=false↔ ∀r i s k,r<rs.length→i<(rg rs r).length→s<rs.length→k<(rg rs s).length→ ¬near rs r i s k→Ee (bsd rs (r,i)) (esd rs (r,i)) (bsd rs (s,k)) (esd rs (s,k))=false:=by
 constructor
 ·intro h r i s k hr hi hs hk hn
  by_cases e:r=s
  rotate_left
  ·exact Tq h hr hi hs hk e
  subst e
  have one: ∀ {a b:Nat},a<(rg rs r).length→b<a→ ¬(a=nxt (rg rs r).length b∨b=nxt (rg rs r).length a)→Ee (bsd rs (r,a)) (esd rs (r,a)) (bsd rs (r,b)) (esd rs (r,b))=false:=by
   intro a b ha hb hab
   have hj:=R9 hr ha
   have h2:CG rs (pl rs (tot (rs.take r)+a)) (pl rs (tot (rs.take r)+b))=false:=by
    cases he:CG rs (pl rs (tot (rs.take r)+a)) (pl rs (tot (rs.take r)+b)) with
    |false=>rfl
    |true=>
     have:crs rs=true:=List.any_eq_true.2 ⟨_,List.mem_range.2 hj,List.any_eq_true.2 ⟨_,List.mem_range.2 (by omega),he⟩⟩
     rw[h] at this;cases this
   rw[HQ hr ha,HQ hr (by omega)] at h2
   unfold CG at h2
   have h3:nbB (rg rs r).length (r,a) (r,b)=false:=Bool.eq_false_iff.2 fun e=>hab ((Vn hb ha).1 e)
   rw[h3] at h2
   simpa using h2
  rcases Nat.lt_trichotomy i k with hlt|heq|hgt
  ·rw[JF]
   exact one hk hlt fun h=>hn ⟨I,by omega⟩
  ·exact absurd ⟨I, .inl heq⟩ hn
  ·exact one hi hgt fun h=>hn ⟨I,by omega⟩
 ·intro h
  unfold crs
  refine Du fun m hm=>Du fun j hj=> ?_
  obtain⟨r,i,hr,hi,rfl⟩:=U8 hm
  obtain⟨s,k,hs,hk,rfl⟩:=U8 (show j<tot rs by omega)
  rw[HQ hr hi,HQ hs hk]
  unfold CG
  cases hb:nbB (rg rs r).length (r,i) (s,k) with
  |true=>rfl
  |false=>
   simp only[Bool.not_false,Bool.true_and]
   refine h r i s k hr hi hs hk fun hn=> ?_
   obtain⟨rfl,hn⟩:=hn
   have hik:k<i:=by omega
   have:=(Vn (r:=r) hik hi).2 (by omega)
   rw[hb] at this;cases this
theorem Wa {t u t' u':Sd} {px py:Int} (h:Ee t u t' u'=false) (h1:(t.x≤px∨u.x≤px)∧(px≤t.x∨px≤u.x)∧(t.y≤py∨u.y≤py)∧(py≤t.y∨py≤u.y))
  (h2:(t'.x≤px∨u'.x≤px)∧(px≤t'.x∨px≤u'.x)∧(t'.y≤py∨u'.y≤py)∧(py≤t'.y∨py≤u'.y)):False:=by
 have e:Ee t u t' u'=true:=by
  unfold Ee lox hix loy hiy
  simp only[Bool.and_eq_true,decide_eq_true_eq]
  refine⟨⟨⟨?_, ?_⟩, ?_⟩, ?_⟩<;>split<;>split<;>omega
 rw[h] at e;cases e
theorem UC {rs:List (List Sd)} (hin:T9 rs) (hs: ∀l∈rs,shp l=true) (hc:crs rs=false) {r:Nat} (hr:r<rs.length):Net (rg rs r).length (nxt (rg rs r).length) (fun k=>(sd (rg rs r) k).x) (fun k=>(sd (rg rs r) k).y):=by
 have hm:rg rs r∈rs:=List.mem_of_getElem? (Bf hr)
 refine⟨fun k hk=>Ej hk,fun f=>SQ f _,fun k hk=> ?_,fun k hk=> ?_,fun j k hj hk px py h1 h2=> ?_⟩
 ·have:=(Fi (hin _ hm) (hs _ hm) hk).1
  omega
 ·have h1:=(Fi (hin _ hm) (hs _ hm) hk).1
  have h2:=(Fi (hin _ hm) (hs _ hm) (Ej hk))
  rw[VE hk] at h2
  omega
 ·refine Classical.byContradiction fun hn=> ?_
  have h:=(NK rs).1 hc r j r k hr hj hr hk fun h=>hn (by obtain⟨_,h⟩:=h;omega)
  exact Wa h h1 h2
theorem UO {rs:List (List Sd)} (hin:T9 rs) (hs: ∀l∈rs,shp l=true) (hc:crs rs=false) {r:Nat} (hr:r<rs.length):
  ∃L:Int,(L=0∨L=1)∧(∀k,k<(rg rs r).length→Lv (rg rs r).length (nxt (rg rs r).length) (fun k=>(sd (rg rs r) k).x) (fun k=>(sd (rg rs r) k).y) k L)∧
   (∀x y,Wn (rg rs r).length (nxt (rg rs r).length) (fun k=>(sd (rg rs r) k).x) (fun k=>(sd (rg rs r) k).y) x y=0∨Wn (rg rs r).length (nxt (rg rs r).length) (fun k=>(sd (rg rs r) k).x) (fun k=>(sd (rg rs r) k).y) x y=2*L-1)∧
   0<(2*L-1)*AC (Et (rg rs r)) (rg rs r).length:=by
 have hm:rg rs r∈rs:=List.mem_of_getElem? (Bf hr)
 have N:=UC hin hs hc hr
 have h4:=Sl (hs _ hm)
 obtain⟨L,h01,hL,hv⟩:=N.one (by omega)
 refine⟨L,h01,hL,hv, ?_⟩
 have hi: ∀k,k<(rg rs r).length→inR (sd (rg rs r) k):=fun k hk=>CH (hin _ hm) hk
 exact N.area_one (M:=65536) (by omega) (fun k hk=>⟨(hi k hk).1,(hi k hk).2.1⟩) (fun k hk=>⟨(hi k hk).2.2.1,(hi k hk).2.2.2⟩) h01 hL hv
theorem WA {rs:List (List Sd)} (hin:T9 rs) (hs: ∀l∈rs,shp l=true) (hc:crs rs=false) {r:Nat} (hr:r<rs.length):AC (Et (rg rs r)) (rg rs r).length≠0:=by
 obtain⟨L,_,_,_,h⟩:=UO hin hs hc hr
 intro e
 rw[e,Int.mul_zero] at h
 exact absurd h (by decide)
end
section
open Go Go.RowKit Go.Am
set_option maxRecDepth 10000
-- BOXES 2
def Js (rs:List (List Sd)) (r i s k:Nat):Bool:=
 !((r==s)&&(decide (k≤i)||(k==i+1)||((i==0)&&(k+1==(rg rs r).length))))&&Ee (sd (rg rs r) i) (sd (rg rs r) (nxt (rg rs r).length i)) (sd (rg rs s) k) (sd (rg rs s) (nxt (rg rs s).length k))
theorem LO {rs:List (List Sd)} {r i s k:Nat} (hr:r<rs.length) (hi:i<(rg rs r).length) (hs:s<rs.length) (hk:k<(rg rs s).length) (h:Js rs r i s k=true):crs rs=true:=by
 unfold Js at h
 obtain⟨h1,h2⟩:=Bool.and_eq_true_iff.1 h
 cases hc:crs rs with
 |true=>rfl
 |false=>
  have:=(NK rs).1 hc r i s k hr hi hs hk (fun hn=>by
   obtain⟨rfl,hn⟩:=hn
   rw[Gl hi,Gl hk] at hn
   have:((r==r)&&(decide (k≤i)||(k==i+1)||((i==0)&&(k+1==(rg rs r).length))))=true:=by
    simp only[beq_self_eq_true,Bool.true_and,Bool.or_eq_true,Bool.and_eq_true,decide_eq_true_eq,beq_iff_eq]
    revert hn
    split<;>split<;>intro hn<;>omega
   rw[this] at h1;cases h1)
  rw[show Ee (bsd rs (r,i)) (esd rs (r,i)) (bsd rs (s,k)) (esd rs (s,k))=true from h2] at this
  cases this
theorem Td {rs:List (List Sd)} (h: ∀r i s k,r<rs.length→i<(rg rs r).length→s<rs.length→k<(rg rs s).length→r≤s→Js rs r i s k=false):crs rs=false:=by
 have one: ∀r i s k,r<rs.length→i<(rg rs r).length→s<rs.length→k<(rg rs s).length→(r<s∨(r=s∧i<k))→ ¬near rs r i s k→Ee (bsd rs (r,i)) (esd rs (r,i)) (bsd rs (s,k)) (esd rs (s,k))=false:=fun r i s k hr hi hs hk ho hn=>by
  have hb:=h r i s k hr hi hs hk (by omega)
  unfold Js at hb
  have:((r==s)&&(decide (k≤i)||(k==i+1)||((i==0)&&(k+1==(rg rs r).length))))=false:=by
   by_cases e:r=s
   ·subst e
    have hik:i<k:=by omega
    rw[beq_self_eq_true,Bool.true_and,Bool.eq_false_iff]
    intro h2
    refine hn ⟨I, ?_⟩
    rw[Gl hi,Gl hk]
    simp only[Bool.or_eq_true,Bool.and_eq_true,decide_eq_true_eq,beq_iff_eq] at h2
    split<;>split<;>omega
   ·rw[beq_eq_false_iff_ne.2 e];rfl
  rw[this,Bool.not_false,Bool.true_and] at hb
  exact hb
 refine(NK rs).2 fun r i s k hr hi hs hk hn=> ?_
 by_cases ho:r<s∨(r=s∧i<k)
 ·exact one r i s k hr hi hs hk ho hn
 ·rw[JF]
  have hne: ¬(r=s∧i=k):=fun⟨e1,e2⟩=>hn ⟨e1, .inl e2⟩
  refine one s k r i hs hk hr hi (by omega) fun hn2=>hn ?_
  obtain⟨rfl,hn2⟩:=hn2
  exact⟨I,by omega⟩
theorem LQ (W:World) (p:Option Addr) (cap:Nat) (rs:List (List Sd)) (hn:rs.length<4611686018427387904) (hl: ∀l∈rs,l.length<4611686018427387904) (hR:Bh W p rs):
  Ad Tryz.prog 48 #[slv p rs.length cap] W (fun _:Unit=> .bool (crs rs)) (fun _=>True) (fun _=>[]):=by
 refine Ab (args:=[slv p rs.length cap]) Tryz.func48 I I I ?_
 refine zA (zB (wP I (Aa (zE (zA (zA (zB (wP I (Aa (zE (zH ?_)))))))))))
 refine At (X:=Nat) (fun r=>[(0,slv p rs.length cap),(3, .int .i64 (r:Nat))]) (fun _=>[])
  (fun r=>r≤rs.length∧ ∀r' i s k,r'<r→r'<rs.length→i<(rg rs r').length→s<rs.length→k<(rg rs s).length→r'≤s→Js rs r' i s k=false) (fun r=>rs.length-r) 0 ⟨Nat.zero_le _,fun r' i s k h=>absurd h (Nat.not_lt_zero _)⟩ ⟨rfl,rfl,trivial⟩ [] rfl ?_
 rintro r ⟨hr,P1⟩
 refine zA (zA (zB (wP I (wP I (wP I (wP I (Aa (zE ?_))))))))
 refine Aj I (fun h=> ?_) (fun h=> ?_)
 rotate_left
 ·have e:r=rs.length:=by simp at h;omega
  subst e
  refine zJ (zK (zK (zL (zE (zA (zB (wP I (Aa (zE (zO ?_))))))))))
  have hc:crs rs=false:=Td fun r' i s k h1 h2 h3 h4 h5=>P1 r' i s k h1 h1 h2 h3 h4 h5
  exact wR1 I I (by rw[hc])
 have hr:r<rs.length:=by simp at h;omega
 clear h
 obtain⟨b,off,rfl,hrow⟩:=hR.row hr
 obtain⟨q,cap2,hq1,hq2⟩:=hrow r hr
 have hlr:=hl _ (List.mem_of_getElem? (Bf hr))
 refine zI (zE (zA (zH (zA (zB (wP I (Aa (zE (zH ?_)))))))))
 refine At (X:=Nat) (fun i=>[(0,slv (some ⟨b,off,none⟩) rs.length cap),(3, .int .i64 (r:Nat)),(4, .int .i64 (i:Nat))]) (fun _=>[])
  (fun i=>i≤(rg rs r).length∧ ∀i' s k,i'<i→i'<(rg rs r).length→s<rs.length→k<(rg rs s).length→r≤s→Js rs r i' s k=false) (fun i=>(rg rs r).length-i) 0 ⟨Nat.zero_le _,fun i' s k h=>absurd h (Nat.not_lt_zero _)⟩ ⟨rfl,rfl,rfl,trivial⟩ [] rfl ?_
 rintro i ⟨hi,P2⟩
 refine zA (zA (zB (wP I (wP I (wP I ?_)))))
 refine wJ ?_
 refine wL 0 I I (fun W hp=>hq1.hp hp) I (wP I (wP I (Aa (zE ?_))))
 refine Aj I (fun h=> ?_) (fun h=> ?_)
 rotate_left
 ·have e:i=(rg rs r).length:=by simp at h;omega
  subst e
  refine zJ (zK (zK (zL (zN (zE (zB (wP I (wP I (wP I (Aa ?_))))))))))
  refine Ak (r+1) ⟨hr,fun r' i' s k h0 h1 h2 h3 h4 h5=> ?_⟩ (by omega) ⟨I,congrArg (fun z=>some (Value.int .i64 z)) (AA (x:=(r:Int)+1) (by omega) (by omega)),tO⟩ [] I
  by_cases e:r'=r
  ·subst e;exact P2 i' s k h2 h2 h3 h4 h5
  ·exact P1 r' i' s k (by omega) h1 h2 h3 h4 h5
 have hi:i<(rg rs r).length:=by simp at h;omega
 clear h
 refine zI (zE (zA (zH (zA (zB (wP I (wP I (Aa (zE (zH ?_))))))))))
 refine At (X:=Nat) (fun s=>[(0,slv (some ⟨b,off,none⟩) rs.length cap),(3, .int .i64 (r:Nat)),(4, .int .i64 (i:Nat)),(5, .int .i64 (s:Nat))]) (fun _=>[])
  (fun s=>s≤rs.length∧r≤s∧ ∀s' k,s'<s→s'<rs.length→k<(rg rs s').length→r≤s'→Js rs r i s' k=false) (fun s=>rs.length-s) r ⟨by omega,Nat.le_refl _,fun s' k h0 _ _ h5=>absurd h0 (by omega)⟩ ⟨rfl,rfl,rfl,rfl,trivial⟩ [] rfl ?_
 rintro s ⟨hs,hrs,P3⟩
 refine zA (zA (zB (wP I (wP I (wP I (wP I (Aa (zE ?_))))))))
 refine Aj I (fun h=> ?_) (fun h=> ?_)
 rotate_left
 ·have e:s=rs.length:=by simp at h;omega
  subst e
  refine zJ (zK (zK (zL (zN (zE (zB (wP I (wP I (wP I (Aa ?_))))))))))
  refine Ak (i+1) ⟨hi,fun i' s k h0 h2 h3 h4 h5=> ?_⟩ (by omega) ⟨I,I,congrArg (fun z=>some (Value.int .i64 z)) (AA (x:=(i:Int)+1) (by omega) (by omega)),tO⟩ [] I
  by_cases e:i'=i
  ·subst e;exact P3 s k h3 h3 h4 h5
  ·exact P2 i' s k (by omega) h2 h3 h4 h5
 have hs:s<rs.length:=by simp at h;omega
 clear h
 obtain⟨q',cap3,hq3,hq4⟩:=hrow s hs
 have hls:=hl _ (List.mem_of_getElem? (Bf hs))
 refine zI (zE (zA (zH (zA (zB (wP I (Aa (zE (zH ?_)))))))))
 refine At (X:=Nat) (fun k=>[(0,slv (some ⟨b,off,none⟩) rs.length cap),(3, .int .i64 (r:Nat)),(4, .int .i64 (i:Nat)),(5, .int .i64 (s:Nat)),(6, .int .i64 (k:Nat))]) (fun _=>[])
  (fun k=>k≤(rg rs s).length∧ ∀k',k'<k→Js rs r i s k'=false) (fun k=>(rg rs s).length-k) 0 ⟨Nat.zero_le _,fun k' h=>absurd h (Nat.not_lt_zero _)⟩ ⟨rfl,rfl,rfl,rfl,rfl,trivial⟩ [] rfl ?_
 rintro k ⟨hk,P4⟩
 refine zA (zA (zB (wP I (wP I (wP I ?_)))))
 refine wJ ?_
 refine wL 0 I I (fun W hp=>hq3.hp hp) I (wP I (wP I (Aa (zE ?_))))
 refine Aj I (fun h=> ?_) (fun h=> ?_)
 rotate_left
 ·have e:k=(rg rs s).length:=by simp at h;omega
  subst e
  refine zJ (zK (zK (zL (zN (zE (zB (wP I (wP I (wP I (Aa ?_))))))))))
  refine Ak (s+1) ⟨hs,by omega,fun s' k h0 h3 h4 h5=> ?_⟩ (by omega) ⟨I,I,I,congrArg (fun z=>some (Value.int .i64 z)) (AA (x:=(s:Int)+1) (by omega) (by omega)),tO⟩ [] I
  by_cases e:s'=s
  ·subst e;exact P4 k h4
  ·exact P3 s' k (by omega) h3 h4 h5
 have hk:k<(rg rs s).length:=by simp at h;omega
 clear h
 have fin:Js rs r i s k=false→ ∀k',k'<k+1→Js rs r i s k'=false:=fun h k' hk'=>by
  by_cases e:k'=k
  ·subst e;exact h
  ·exact P4 k' (by omega)
 have e1: ∀z:Int,z=(k:Int)+1→w64 z=((k+1:Nat):Int):=fun z h=>by rw[h,Ar (by omega) (by omega)];omega
 -- the side is left out
 have skip:((r==s)&&(decide (k≤i)||(k==i+1)||((i==0)&&(k+1==(rg rs r).length))))=true→Js rs r i s k=false:=fun h=>by unfold Js;rw[h];rfl
 have test:((r==s)&&(decide (k≤i)||(k==i+1)||((i==0)&&(k+1==(rg rs r).length))))=false→Js rs r i s k=Ee (sd (rg rs r) i) (sd (rg rs r) (nxt (rg rs r).length i)) (sd (rg rs s) k) (sd (rg rs s) (nxt (rg rs s).length k)):=fun h=>by unfold Js;rw[h];rfl
 obtain⟨C1,c1⟩: ∃b,((r:Int)==(s:Int))=b:=⟨_,rfl⟩
 obtain⟨C2,c2⟩: ∃b,decide ((k:Int)≤(i:Int))=b:=⟨_,rfl⟩
 obtain⟨C3,c3⟩: ∃b,((k:Int)==w64 ((i:Int)+1))=b:=⟨_,rfl⟩
 obtain⟨C4,c4⟩: ∃b,((i:Int)==0)=b:=⟨_,rfl⟩
 obtain⟨C5,c5⟩: ∃b,((k:Int)==w64 (((rg rs r).length:Nat)-1))=b:=⟨_,rfl⟩
 have hC:((r==s)&&(decide (k≤i)||(k==i+1)||((i==0)&&(k+1==(rg rs r).length))))=(C1&&(C2||C3||(C4&&C5))):=by
  rw[Ar (by omega) (by omega)] at c3 c5
  rw[←c1, ←c2, ←c3, ←c4, ←c5,Co]
  have a2:decide (k≤i)=decide ((k:Int)≤(i:Int)):=by by_cases h:k≤i;rw[dT h,dT (by omega)];rw[dF h,dF (by omega)]
  have a3:(k==i+1)=((k:Int)==(i:Int)+1):=by rw[Bool.eq_iff_iff,beq_iff_eq,beq_iff_eq];omega
  have a4:(i==0)=((i:Int)==0):=by rw[Bool.eq_iff_iff,beq_iff_eq,beq_iff_eq];omega
  have a5:(k+1==(rg rs r).length)=((k:Int)==((rg rs r).length:Nat)-1):=by rw[Bool.eq_iff_iff,beq_iff_eq,beq_iff_eq];omega
  rw[a2,a3,a4,a5]
 refine zI (zE (zA (zH (zA (zB (wP I (wP I ?_)))))))
 refine wJ ?_
 refine wL 0 I I (fun W hp=>hq1.hp hp) I (wP I (wP I (Aa (zE (zA (zA (zB (wP I (wP I (wP I (wP I ?_)))))))))))
 refine AM 47 I (fun h47=> ?_) (fun h47=> ?_)
 ·refine wP I (wP I (wP I (wP I ?_)))
  refine AM 51 I (fun h51=> ?_) (fun h51=> ?_)
  ·refine Af I I ?_
   iterate 3 refine Af I I ?_
   refine wP I (wP I ?_)
   iterate 8 refine Af I I ?_
   refine wP I (wP I (Aa ?_))
   have e:(C1&&(C2||C3||(C4&&C5)))=true:=by first|(rw[show C1=true from c1.symm.trans h47,show C2=true from c2.symm.trans h51];rfl)|(rw[show C1=true from c1.symm.trans h47,show C3=true from c3.symm.trans h57];cases C2<;>rfl)
   exact zE (zR I (zJ (zK (zL (zE (zB (wP I (wP I (wP I (Aa (Ak (k+1) ⟨hk,fin (skip (hC.trans e))⟩ (by omega) ⟨I,I,I,I,congrArg (fun z=>some (Value.int .i64 z)) (AA (x:=(k:Int)+1) (by omega) (by omega)),tO⟩ [] I)))))))))))
  ·refine wP I ?_
   iterate 5 refine wP I ?_
   refine AM 57 I (fun h57=> ?_) (fun h57=> ?_)
   ·refine Af I I ?_
    iterate 7 refine Af I I ?_
    refine wP I (wP I (Aa ?_))
    have e:(C1&&(C2||C3||(C4&&C5)))=true:=by first|(rw[show C1=true from c1.symm.trans h47,show C2=true from c2.symm.trans h51];rfl)|(rw[show C1=true from c1.symm.trans h47,show C3=true from c3.symm.trans h57];cases C2<;>rfl)
    exact zE (zR I (zJ (zK (zL (zE (zB (wP I (wP I (wP I (Aa (Ak (k+1) ⟨hk,fin (skip (hC.trans e))⟩ (by omega) ⟨I,I,I,I,congrArg (fun z=>some (Value.int .i64 z)) (AA (x:=(k:Int)+1) (by omega) (by omega)),tO⟩ [] I)))))))))))
   ·refine wP I (wP I (wP I ?_))
    refine AM 60 I (fun h60=> ?_) (fun h60=> ?_)
    ·refine wP I ?_
     iterate 6 refine wP I ?_
     refine Aa (zE ?_)
     refine Aj I (fun hx=> ?_) (fun hx=> ?_)
     ·have e:(C1&&(C2||C3||(C4&&C5)))=true:=by first|(rw[show C1=true from c1.symm.trans h47,show C3=true from c3.symm.trans h57];cases C2<;>rfl)|(rw[show C1=true from c1.symm.trans h47,show C4=true from c4.symm.trans h60,show C5=true from c5.symm.trans hx];cases C2<;>cases C3<;>rfl)|(rw[show C1=true from c1.symm.trans h47,show C3=true from c3.symm.trans hx];cases C2<;>rfl)
      exact zJ (zK (zL (zE (zB (wP I (wP I (wP I (Aa (Ak (k+1) ⟨hk,fin (skip (hC.trans e))⟩ (by omega) ⟨I,I,I,I,congrArg (fun z=>some (Value.int .i64 z)) (AA (x:=(k:Int)+1) (by omega) (by omega)),tO⟩ [] I)))))))))
     ·have e:(C1&&(C2||C3||(C4&&C5)))=false:=by first|(rw[show C2=false from c2.symm.trans h51,show C3=false from c3.symm.trans h57,show C5=false from c5.symm.trans hx,Bool.and_false];cases C1<;>rfl)
      refine zI (zE (zA (zU (qP I (qP I ?_)))))
      refine qJ ?_
      refine qL 0 I I (fun W hp=>hq1.hp hp) I (qP I (qP I (qP I ?_)))
      refine qJ ?_
      refine qL 0 I I (fun W hp=>hq3.hp hp) I (qP I (qC I I (fun W hp=>Hh W q q' cap2 cap3 (rg rs r) (rg rs s) i k hlr hls (hq2.hp hp) (hq4.hp hp) hi hk) (A7 (Aa (zE ?_)))))
      refine Aj I (fun h=> ?_) (fun h=> ?_)
      ·refine zA (zB (wP I (Aa (zE (zO (zQ (zP (zP (zQ (zQ (zP (zP (zQ (zQ ?_))))))))))))))
       refine zP (zP (zQ (zQ (zP (zP (zQ (zP ?_)))))))
       have hc:crs rs=true:=LO hr hi hs hk ((test (hC.trans e)).trans h)
       exact wR1 I I (by rw[hc])
      ·exact zI (zN (zE (zB (wP I (wP I (wP I (Aa (Ak (k+1) ⟨hk,fin ((test (hC.trans e)).trans h)⟩ (by omega) ⟨I,I,I,I,congrArg (fun z=>some (Value.int .i64 z)) (AA (x:=(k:Int)+1) (by omega) (by omega)),tO⟩ [] I))))))))
    ·refine Af I I ?_
     iterate 3 refine Af I I ?_
     refine wP I (wP I (wP I (Aa ?_)))
     have e:(C1&&(C2||C3||(C4&&C5)))=false:=by first|(rw[show C1=false from c1.symm.trans h47];rfl)|(rw[show C2=false from c2.symm.trans h51,show C3=false from c3.symm.trans h57,show C4=false from c4.symm.trans h60,Bool.false_and];cases C1<;>rfl)
     refine zE (zS I (zI (zE (zA (zU (qP I (qP I ?_)))))))
     refine qJ ?_
     refine qL 0 I I (fun W hp=>hq1.hp hp) I (qP I (qP I (qP I ?_)))
     refine qJ ?_
     refine qL 0 I I (fun W hp=>hq3.hp hp) I (qP I (qC I I (fun W hp=>Hh W q q' cap2 cap3 (rg rs r) (rg rs s) i k hlr hls (hq2.hp hp) (hq4.hp hp) hi hk) (A7 (Aa (zE ?_)))))
     refine Aj I (fun h=> ?_) (fun h=> ?_)
     ·refine zA (zB (wP I (Aa (zE (zO (zQ (zP (zP (zQ (zQ (zP (zP (zQ (zQ ?_))))))))))))))
      refine zP (zP (zQ (zQ (zP (zP (zQ (zP ?_)))))))
      have hc:crs rs=true:=LO hr hi hs hk ((test (hC.trans e)).trans h)
      exact wR1 I I (by rw[hc])
     ·exact zI (zN (zE (zB (wP I (wP I (wP I (Aa (Ak (k+1) ⟨hk,fin ((test (hC.trans e)).trans h)⟩ (by omega) ⟨I,I,I,I,congrArg (fun z=>some (Value.int .i64 z)) (AA (x:=(k:Int)+1) (by omega) (by omega)),tO⟩ [] I))))))))
 ·refine Af I I ?_
  iterate 18 refine Af I I ?_
  refine wP I (Aa ?_)
  have e:(C1&&(C2||C3||(C4&&C5)))=false:=by first|(rw[show C1=false from c1.symm.trans h47];rfl)|(rw[show C2=false from c2.symm.trans h51,show C3=false from c3.symm.trans h57,show C4=false from c4.symm.trans h60,Bool.false_and];cases C1<;>rfl)
  refine zE (zS I (zI (zE (zA (zU (qP I (qP I ?_)))))))
  refine qJ ?_
  refine qL 0 I I (fun W hp=>hq1.hp hp) I (qP I (qP I (qP I ?_)))
  refine qJ ?_
  refine qL 0 I I (fun W hp=>hq3.hp hp) I (qP I (qC I I (fun W hp=>Hh W q q' cap2 cap3 (rg rs r) (rg rs s) i k hlr hls (hq2.hp hp) (hq4.hp hp) hi hk) (A7 (Aa (zE ?_)))))
  refine Aj I (fun h=> ?_) (fun h=> ?_)
  ·refine zA (zB (wP I (Aa (zE (zO (zQ (zP (zP (zQ (zQ (zP (zP (zQ (zQ ?_))))))))))))))
   refine zP (zP (zQ (zQ (zP (zP (zQ (zP ?_)))))))
   have hc:crs rs=true:=LO hr hi hs hk ((test (hC.trans e)).trans h)
   exact wR1 I I (by rw[hc])
  ·exact zI (zN (zE (zB (wP I (wP I (wP I (Aa (Ak (k+1) ⟨hk,fin ((test (hC.trans e)).trans h)⟩ (by omega) ⟨I,I,I,I,congrArg (fun z=>some (Value.int .i64 z)) (AA (x:=(k:Int)+1) (by omega) (by omega)),tO⟩ [] I))))))))
-- BOXES 2
def M8 (rs:List (List Sd)) (r s:Nat):Bool:=(s==r)||(Gk (rg rs s) (sd (rg rs r) 0).x (sd (rg rs r) 0).y (rg rs s).length==(s==0))
def QO (rs:List (List Sd)) (r:Nat):Bool:=(r==0)||(!decide (twR (rg rs r) (rg rs r).length≥0)&&(List.range rs.length).all (M8 rs r))
def GL (rs:List (List Sd)):Bool:= !decide (twR (rg rs 0) (rg rs 0).length≤0)&&(List.range rs.length).all (QO rs)
theorem MA (W:World) (p:Option Addr) (cap:Nat) (rs:List (List Sd)) (hn:rs.length<4611686018427387904) (hl: ∀l∈rs,l.length<4611686018427387904) (hne: ∀l∈rs,l≠[]) (h0:0<rs.length) (hR:Bh W p rs):
  Ad Tryz.prog 49 #[slv p rs.length cap] W (fun _:Unit=> .bool (GL rs)) (fun _=>True) (fun _=>[]):=by
 obtain⟨b,off,rfl,hrow⟩:=hR.row h0
 obtain⟨q0,cap0,hq1,hq2⟩:=hrow 0 h0
 refine Ab (args:=[slv (some ⟨b,off,none⟩) rs.length cap]) Tryz.func49 I I I ?_
 refine zA (zB (wP I (Aa (zE (zA (zA (zB (wP I ?_))))))))
 refine wJ ?_
 refine wL 0 I I (fun W hp=>hq1.hp hp) I (wC I I (fun W hp=>Kc W q0 cap0 (rg rs 0) (hl _ (List.mem_of_getElem? (Bf h0))) (hq2.hp hp)) (wP I (Aa (zE ?_))))
 refine Aj I (fun h=> ?_) (fun h=> ?_)
 ·refine zA (zB (wP I (Aa (zE (zO (zP ?_))))))
  have hf:GL rs=false:=by unfold GL;rw[show decide (twR (rg rs 0) (rg rs 0).length≤0)=true from h];rfl
  exact wR1 I I (by rw[hf])
 have hA:decide (twR (rg rs 0) (rg rs 0).length≤0)=false:=h
 clear h
 refine zI (zE (zA (zA (zB (wP I (Aa (zE (zH ?_))))))))
 refine At (X:=Nat) (fun r=>[(0,slv (some ⟨b,off,none⟩) rs.length cap),(3, .int .i64 (r:Nat))]) (fun _=>[]) (fun r=>1≤r∧r≤rs.length∧ ∀j,j<r→QO rs j=true) (fun r=>rs.length-r) 1
  ⟨Nat.le_refl _,h0,fun j hj=>by rw[show j=0 by omega];rfl⟩ ⟨rfl,rfl,trivial⟩ [] rfl ?_
 rintro r ⟨hr1,hr,hok⟩
 refine zA (zA (zB (wP I (wP I (wP I (wP I (Aa (zE ?_))))))))
 refine Aj I (fun h=> ?_) (fun h=> ?_)
 rotate_left
 ·have e:r=rs.length:=by simp at h;omega
  subst e
  refine zJ (zK (zK (zL (zE (zA (zB (wP I (Aa (zE (zO ?_))))))))))
  have ht:GL rs=true:=by unfold GL;rw[hA,List.all_eq_true.2 fun j hj=>hok j (List.mem_range.1 hj)];rfl
  exact wR1 I I (by rw[ht])
 have hr:r<rs.length:=by simp at h;omega
 clear h
 obtain⟨q,cap2,hq3,hq4⟩:=hrow r hr
 have hlr:=hl _ (List.mem_of_getElem? (Bf hr))
 have hner:0<(rg rs r).length:=List.length_pos_iff.2 (hne _ (List.mem_of_getElem? (Bf hr)))
 have hr0:(r==0)=false:=beq_eq_false_iff_ne.2 (by omega)
 refine zI (zE (zA (zH (zA (zA (zB (wP I (wP I ?_))))))))
 refine wJ ?_
 refine wL 0 I I (fun W hp=>hq3.hp hp) I (wC I I (fun W hp=>Kc W q cap2 (rg rs r) hlr (hq4.hp hp)) (wP I (Aa (zE ?_))))
 refine Aj I (fun h=> ?_) (fun h=> ?_)
 ·refine zA (zB (wP I (Aa (zE (zO (zP (zQ (zP (zP (zQ (zP ?_)))))))))))
  have hf:GL rs=false:=by unfold GL;rw[By hr (by unfold QO;rw[hr0,show decide (twR (rg rs r) (rg rs r).length≥0)=true from h];rfl),Bool.and_false]
  exact wR1 I I (by rw[hf])
 have hB:decide (twR (rg rs r) (rg rs r).length≥0)=false:=h
 clear h
 refine zI (zE (zA (zB (wP I (Aa (zE (zH ?_)))))))
 refine At (X:=Nat) (fun s=>[(0,slv (some ⟨b,off,none⟩) rs.length cap),(3, .int .i64 (r:Nat)),(4, .int .i64 (s:Nat))]) (fun _=>[]) (fun s=>s≤rs.length∧ ∀j,j<s→M8 rs r j=true) (fun s=>rs.length-s) 0
  ⟨Nat.zero_le _,fun j hj=>absurd hj (Nat.not_lt_zero _)⟩ ⟨rfl,rfl,rfl,trivial⟩ [] rfl ?_
 rintro s ⟨hs,hoks⟩
 refine zA (zA (zB (wP I (wP I (wP I (wP I (Aa (zE ?_))))))))
 refine Aj I (fun h=> ?_) (fun h=> ?_)
 rotate_left
 ·have e:s=rs.length:=by simp at h;omega
  subst e
  refine zJ (zK (zK (zL (zN (zE (zB (wP I (wP I (wP I (Aa ?_))))))))))
  refine Ak (r+1) ⟨by omega,hr,fun j hj=> ?_⟩ (by omega) ⟨I,congrArg (fun z=>some (Value.int .i64 z)) (AA (x:=(r:Int)+1) (by omega) (by omega)),tO⟩ [] I
  by_cases e:j=r
  ·subst e
   unfold QO
   rw[hB,List.all_eq_true.2 fun m hm=>hoks m (List.mem_range.1 hm),hr0];rfl
  ·exact hok j (by omega)
 have hs:s<rs.length:=by simp at h;omega
 clear h
 obtain⟨q',cap3,hq5,hq6⟩:=hrow s hs
 have hls:=hl _ (List.mem_of_getElem? (Bf hs))
 have next:M8 rs r s=true→ ∀j,j<s+1→M8 rs r j=true:=fun h j hj=>by
  by_cases e:j=s
  ·subst e;exact h
  ·exact hoks j (by omega)
 obtain⟨b3,off3,rfl,hrow3⟩:=hq4.row hner
 refine zI (zE (zA (zH (zA (zU (qP I (qP I (qP I (qP I ?_)))))))))
 refine Gv 31 I (fun h31=> ?_) (fun h31=> ?_)
 ·refine qP I (qP I ?_)
  refine qJ ?_
  refine qL 0 I I (fun W hp=>hq5.hp hp) I (qP I (qP I ?_))
  refine qJ ?_
  refine qL 0 I I (fun W hp=>hq3.hp hp) I ?_
  refine qJ ?_
  refine qP I (qL 0 I I (fun W hp=>(hrow3 0 hner).hp hp) I (qP I (qP I ?_)))
  refine qJ ?_
  refine qL 0 I I (fun W hp=>hq3.hp hp) I ?_
  refine qJ ?_
  refine qP I (qL 1 I I (fun W hp=>(hrow3 0 hner).hp hp) I (qC I I (fun W hp=>MI W q' cap3 (rg rs s) _ _ hls (hq6.hp hp)) (qP I (qP I ?_))))
  refine UM Tryz.underlying4 I I I I I I ?_
  refine qP I (A7 (Aa ?_))
  have e:(s==r)=false:=by have h':((s:Int) !=(r:Int))=true:=h31;rw[bne_iff_ne] at h';rw[beq_eq_false_iff_ne];omega
  refine zE ?_
  refine Aj I (fun h=> ?_) (fun h=> ?_)
  ·refine zA (zB (wP I (Aa (zE (zO (zQ (zP (zP (zQ (zQ (zP (zP (zQ ?_)))))))))))))
   refine zP ?_
   have h':(Gk (rg rs s) (sd (rg rs r) 0).x (sd (rg rs r) 0).y (rg rs s).length==(s==0))=false:=by
    rw[←Co s 0]
    have h2:(!(Gk (rg rs s) (sd (rg rs r) 0).x (sd (rg rs r) 0).y (rg rs s).length==((s:Int)==0)))=true:=h
    simpa using h2
   have hf:GL rs=false:=by unfold GL;rw[By hr (by unfold QO;rw[hr0,By hs (by unfold M8;rw[e,h'];rfl),Bool.and_false];rfl),Bool.and_false]
   exact wR1 I I (by rw[hf])
  ·have h':(Gk (rg rs s) (sd (rg rs r) 0).x (sd (rg rs r) 0).y (rg rs s).length==(s==0))=true:=by
    rw[←Co s 0]
    have h2:(!(Gk (rg rs s) (sd (rg rs r) 0).x (sd (rg rs r) 0).y (rg rs s).length==((s:Int)==0)))=false:=h
    simpa using h2
   exact zI (zN (zE (zB (wP I (wP I (wP I (Aa (Ak (s+1) ⟨hs,next (by unfold M8;rw[h',Bool.or_true])⟩ (by omega) ⟨I,I,congrArg (fun z=>some (Value.int .i64 z)) (AA (x:=(s:Int)+1) (by omega) (by omega)),tO⟩ [] I))))))))
 ·refine BM I I ?_
  iterate 21 refine BM I I ?_
  refine qP I (A7 (Aa ?_))
  have e:(s==r)=true:=by have h':((s:Int) !=(r:Int))=false:=h31;rw[bne_eq_false_iff_eq] at h';rw[beq_iff_eq];omega
  exact zE (zS I (zI (zN (zE (zB (wP I (wP I (wP I (Aa (Ak (s+1) ⟨hs,next (by unfold M8;rw[e];rfl)⟩ (by omega) ⟨I,I,congrArg (fun z=>some (Value.int .i64 z)) (AA (x:=(s:Int)+1) (by omega) (by omega)),tO⟩ [] I))))))))))
def GX (l:List Sd) (k:Nat):Bool:= !(decide (JO l k<0)&&((sd l (prv l.length k)).gable||(sd l k).gable||((sd l (prv l.length k)).plate !=(sd l k).plate)))
def JV (rs:List (List Sd)):Bool:=rs.all (fun l=>(List.range l.length).all (GX l))&&AW rs rs.length
theorem Ob (W:World) (p:Option Addr) (cap:Nat) (rs:List (List Sd)) (hn:rs.length<4611686018427387904) (hl: ∀l∈rs,l.length<4611686018427387904) (hR:Bh W p rs):
  Ad Tryz.prog 50 #[slv p rs.length cap] W (fun _:Unit=> .bool (JV rs)) (fun _=>True) (fun _=>[]):=by
 refine Ab (args:=[slv p rs.length cap]) Tryz.func50 I I I ?_
 refine zA (zB (wP I (Aa (zE (zA (zB (wP I (Aa (zE (zA (zA (zB (wP I ?_)))))))))))))
 refine Aa (zE (zH ?_))
 refine At (X:=Nat) (fun r=>[(0,slv p rs.length cap),(3, .bool (AW rs r)),(4, .int .i64 (r:Nat))]) (fun _=>[]) (fun r=>r≤rs.length∧ ∀j,j<r→(List.range (rg rs j).length).all (GX (rg rs j))=true) (fun r=>rs.length-r) 0
  ⟨Nat.zero_le _,fun j hj=>absurd hj (Nat.not_lt_zero _)⟩ ⟨rfl,rfl,rfl,trivial⟩ [] rfl ?_
 rintro r ⟨hr,hok⟩
 refine zA (zA (zB (wP I (wP I (wP I (wP I (Aa (zE ?_))))))))
 refine Aj I (fun h=> ?_) (fun h=> ?_)
 rotate_left
 ·have e:r=rs.length:=by simp at h;omega
  subst e
  refine zJ (zK (zK (zL (zE (zA (zB (wP I (wP I (Aa (zE (zO ?_)))))))))))
  have ht:JV rs=AW rs rs.length:=by
   unfold JV
   rw[List.all_eq_true.2 fun l hl=> ?_,Bool.true_and]
   obtain⟨j,hj,e⟩:=List.getElem_of_mem hl
   have:=hok j hj
   rw[show rg rs j=l by simp[rg,hj,e]] at this
   exact this
  exact wR1 I I (by rw[ht])
 have hr:r<rs.length:=by simp at h;omega
 clear h
 obtain⟨b,off,rfl,hrow⟩:=hR.row hr
 obtain⟨q,cap2,hq1,hq2⟩:=hrow r hr
 have hlr:=hl _ (List.mem_of_getElem? (Bf hr))
 refine zI (zE (zA (zH (zA (zB (wP I (wP I ?_)))))))
 refine wJ ?_
 refine wL 0 I I (fun W hp=>hq1.hp hp) I (wP I (Aa (zE (zA (zB (wP I (Aa (zE (zH ?_)))))))))
 refine At (X:=Nat) (fun i=>[(0,slv (some ⟨b,off,none⟩) rs.length cap),(3, .bool (Bj (rg rs r) (AW rs r) i)),(4, .int .i64 (r:Nat)),(5,slv q (rg rs r).length cap2),(6, .int .i64 (i:Nat))]) (fun _=>[]) (fun i=>i≤(rg rs r).length∧ ∀j,j<i→GX (rg rs r) j=true) (fun i=>(rg rs r).length-i) 0
  ⟨Nat.zero_le _,fun j hj=>absurd hj (Nat.not_lt_zero _)⟩ ⟨rfl,rfl,rfl,rfl,rfl,trivial⟩ [] rfl ?_
 rintro i ⟨hi,hoki⟩
 refine zA (zA (zB (wP I (wP I (wP I (wP I (Aa (zE ?_))))))))
 refine Aj I (fun h=> ?_) (fun h=> ?_)
 rotate_left
 ·have e:i=(rg rs r).length:=by simp at h;omega
  subst e
  refine zJ (zK (zK (zL (zN (zE (zB (wP I (wP I (wP I (Aa ?_))))))))))
  refine Ak (r+1) ⟨hr,fun j hj=> ?_⟩ (by omega) ⟨I,I,congrArg (fun z=>some (Value.int .i64 z)) (AA (x:=(r:Int)+1) (by omega) (by omega)),tO⟩ [] I
  by_cases e:j=r
  ·subst e;exact List.all_eq_true.2 fun m hm=>hoki m (List.mem_range.1 hm)
  ·exact hok j (by omega)
 have hi:i<(rg rs r).length:=by simp at h;omega
 clear h
 have hi2:=FK hi
 obtain⟨b3,off3,rfl,hrow3⟩:=hq2.row hi
 have bad:GX (rg rs r) i=false→JV rs=false:=fun h=>by
  unfold JV
  have:rs.all (fun l=>(List.range l.length).all (GX l))=false:=Bool.eq_false_iff.2 fun e=>by
   have:=List.all_eq_true.1 e _ (List.mem_of_getElem? (Bf hr))
   rw[By hi h] at this;cases this
  rw[this];rfl
 have good:GX (rg rs r) i=true→ ∀j,j<i+1→GX (rg rs r) j=true:=fun h j hj=>by
  by_cases e:j=i
  ·subst e;exact h
  ·exact hoki j (by omega)
 refine zI (zE (A9 (Bt ?_)))
 repeat refine A9 ?_
 refine La (X:=Nat×Nat) (fun y=>[(0,slv (some ⟨b,off,none⟩) rs.length cap),(3, .bool (Bj (rg rs r) (AW rs r) i)),(4, .int .i64 (r:Nat)),(5,slv (some ⟨b3,off3,none⟩) (rg rs r).length cap2),(6, .int .i64 (i:Nat)),(7, .pointer (some ⟨y.1,0,none⟩)),(8, .pointer (some ⟨y.2,0,none⟩))])
  (fun y=>[⟨y.1,97,(sd (rg rs r) (prv (rg rs r).length i)).cells,true,none⟩,⟨y.2,97,(sd (rg rs r) i).cells,true,none⟩]) 4 Tryz.mixed (by kernel_rfl) ?_ ?_
 ·refine qP I ?_
  iterate 5 refine qP I ?_
  refine qV 30 ((i+(rg rs r).length-1:Nat):Int) I (show w64 (w64 ((i:Nat)+((rg rs r).length:Nat))-1)=((i+(rg rs r).length-1:Nat):Int) by rw[Ar (x:=(i:Nat)+((rg rs r).length:Nat)) (by omega) (by omega),Ar (by omega) (by omega)];omega) (qP I (qP I ?_))
  refine E6 I I I I I (by omega) ?_
  refine qV 33 (prv (rg rs r).length i:Nat) I (show Int.tmod ((i+(rg rs r).length-1:Nat):Int) ((rg rs r).length:Nat)=(prv (rg rs r).length i:Nat) from(Int.ofNat_tmod _ _).symm) ?_
  refine qJ ?_
  refine qL 0 I I (fun W hp=>(hrow3 _ hi2).hp hp) I (qP I (qP I ?_))
  refine qJ ?_
  refine qL 0 I I (fun W hp=>(hrow3 i hi).hp hp) I (Ca (wX ?_))
  refine RS.cons ?_ (RS.cons ?_ (RS.nil))
  ·refine Ae Tryz.hZ rfl rfl rfl rfl ?_;intro b7
   refine Aa (Ah (wX (wZ ?_)))
   refine Ae Tryz.hZ rfl rfl rfl rfl ?_;intro b8
   refine Aa (Ah (wX (wZ (wS 0 I I I (Aa (Ah (wX (wZ (wS 1 I I I (Aa (Ah ?_)))))))))))
   (first|refine AF rfl (by((repeat (first|refine AK.same ?_|refine AK.off rfl ?_));exact trivial)) ?_|refine AS rfl (by kernel_rfl) ?_);(first|exact Az (b7,b8) ⟨rfl,rfl,rfl,rfl,rfl,rfl,rfl,trivial⟩ [0,1] (by decide) rfl|exact Az (b7,b8) ⟨rfl,rfl,rfl,rfl,rfl,rfl,rfl,trivial⟩ [1,0] (by decide) rfl)
  ·refine Ae Tryz.hZ rfl rfl rfl rfl ?_;intro b8
   refine Aa (Ah (wX (wZ ?_)))
   refine Ae Tryz.hZ rfl rfl rfl rfl ?_;intro b7
   refine Aa (Ah (wX (wZ (wS 1 I I I (Aa (Ah (wX (wZ (wS 0 I I I (Aa (Ah ?_)))))))))))
   (first|refine AF rfl (by((repeat (first|refine AK.same ?_|refine AK.off rfl ?_));exact trivial)) ?_|refine AS rfl (by kernel_rfl) ?_);(first|exact Az (b7,b8) ⟨rfl,rfl,rfl,rfl,rfl,rfl,rfl,trivial⟩ [0,1] (by decide) rfl|exact Az (b7,b8) ⟨rfl,rfl,rfl,rfl,rfl,rfl,rfl,trivial⟩ [1,0] (by decide) rfl)
 rintro⟨b7,b8⟩
 obtain⟨C1,c1⟩: ∃b,decide (JO (rg rs r) i<0)=b:=⟨_,rfl⟩
 obtain⟨C4,c4⟩: ∃b,((sd (rg rs r) (prv (rg rs r).length i)).plate !=(sd (rg rs r) i).plate)=b:=⟨_,rfl⟩
 have hC:GX (rg rs r) i= !(C1&&((sd (rg rs r) (prv (rg rs r).length i)).gable||(sd (rg rs r) i).gable||C4)):=by unfold GX;rw[c1,c4]
 refine zE (zA (zA (zB (wP I (wP I (wC I I (fun W hp=>KW W _ cap2 (rg rs r) i hlr (hq2.hp hp) hi) (wP I (wP I ?_))))))))
 refine AM 44 I (fun h44=> ?_) (fun h44=> ?_)
 ·refine wP I (wB 0 I I I (wP I ?_))
  refine AM 47 I (fun h47=> ?_) (fun h47=> ?_)
  ·refine Af I I ?_
   refine Af I I ?_
   refine wP I (wP I ?_)
   iterate 5 refine Af I I ?_
   refine wP I (wP I (Aa ?_))
   have e:GX (rg rs r) i=false:=by
    rw[hC,show C1=true from c1.symm.trans h44]
    first
    |(rw[show(sd (rg rs r) (prv (rg rs r).length i)).gable=true from h47];rfl)
    |(rw[show(sd (rg rs r) i).gable=true from h51];cases(sd (rg rs r) (prv (rg rs r).length i)).gable<;>rfl)
   refine zE (zR I (zA (zB (wP I (Aa (zE (zO (zP (zQ (zP (zP (zQ (zQ ?_)))))))))))))
   exact zP (zP (zQ (zP (wR1 I I (by rw[bad e])))))
  ·refine wP I (wB 1 I I I (wP I (wP I ?_)))
   refine AM 51 I (fun h51=> ?_) (fun h51=> ?_)
   ·refine Af I I ?_
    iterate 4 refine Af I I ?_
    refine wP I (wP I (Aa ?_))
    have e:GX (rg rs r) i=false:=by
     rw[hC,show C1=true from c1.symm.trans h44]
     first
     |(rw[show(sd (rg rs r) (prv (rg rs r).length i)).gable=true from h47];rfl)
     |(rw[show(sd (rg rs r) i).gable=true from h51];cases(sd (rg rs r) (prv (rg rs r).length i)).gable<;>rfl)
    refine zE (zR I (zA (zB (wP I (Aa (zE (zO (zP (zQ (zP (zP (zQ (zQ ?_)))))))))))))
    exact zP (zP (zQ (zP (wR1 I I (by rw[bad e])))))
   ·refine wP I (wB 0 I I I (wP I (wB 1 I I I (wP I (wP I (wP I (Aa (zE ?_))))))))
    refine Aj I (fun hx=> ?_) (fun hx=> ?_)
    ·have e:GX (rg rs r) i=false:=by
      rw[hC,show C1=true from c1.symm.trans h44,show C4=true from c4.symm.trans hx]
      cases(sd (rg rs r) (prv (rg rs r).length i)).gable<;>cases(sd (rg rs r) i).gable<;>rfl
     refine zA (zB (wP I (Aa (zE (zO (zP (zQ (zP (zP (zQ (zQ (zP (zP ?_)))))))))))))
     exact zQ (zP (wR1 I I (by rw[bad e])))
    ·have e:GX (rg rs r) i=true:=by
      rw[hC,show(sd (rg rs r) (prv (rg rs r).length i)).gable=false from h47]
      rw[show(sd (rg rs r) i).gable=false from h51,show C4=false from c4.symm.trans hx]
      cases C1<;>rfl
     refine zI (zE (zB (wP I (wP I ?_))))
     refine AM 60 I (fun h60=> ?_) (fun h60=> ?_)
     ·refine Af I I ?_
      iterate 2 refine Af I I ?_
      exact wP I (wP I (Aa (zN (zE (zB (wP I (wP I (wP I (Aa (Ak (i+1) ⟨hi,good e⟩ (by omega) ⟨I,congrArg (fun z=>some (Value.bool z)) (show _=(Bj (rg rs r) (AW rs r) i|| !(sd (rg rs r) i).gable) by first|(rw[show Bj (rg rs r) (AW rs r) i=true from h60];rfl)|(rw[show Bj (rg rs r) (AW rs r) i=false from h60];rfl)),I,I,congrArg (fun z=>some (Value.int .i64 z)) (AA (x:=(i:Int)+1) (by omega) (by omega)),tO⟩ [_,_] I))))))))))
     ·exact wP I (wB 1 I I I (wP I (wP I (wP I (Aa (zN (zE (zB (wP I (wP I (wP I (Aa (Ak (i+1) ⟨hi,good e⟩ (by omega) ⟨I,congrArg (fun z=>some (Value.bool z)) (show _=(Bj (rg rs r) (AW rs r) i|| !(sd (rg rs r) i).gable) by first|(rw[show Bj (rg rs r) (AW rs r) i=true from h60];rfl)|(rw[show Bj (rg rs r) (AW rs r) i=false from h60];rfl)),I,I,congrArg (fun z=>some (Value.int .i64 z)) (AA (x:=(i:Int)+1) (by omega) (by omega)),tO⟩ [_,_] I)))))))))))))
 ·refine Af I I ?_
  iterate 12 refine Af I I ?_
  refine wP I (Aa ?_)
  have e:GX (rg rs r) i=true:=by rw[hC,show C1=false from c1.symm.trans h44];rfl
  refine zE (zS I (zI (zE (zB (wP I (wP I ?_))))))
  refine AM 60 I (fun h60=> ?_) (fun h60=> ?_)
  ·refine Af I I ?_
   iterate 2 refine Af I I ?_
   exact wP I (wP I (Aa (zN (zE (zB (wP I (wP I (wP I (Aa (Ak (i+1) ⟨hi,good e⟩ (by omega) ⟨I,congrArg (fun z=>some (Value.bool z)) (show _=(Bj (rg rs r) (AW rs r) i|| !(sd (rg rs r) i).gable) by first|(rw[show Bj (rg rs r) (AW rs r) i=true from h60];rfl)|(rw[show Bj (rg rs r) (AW rs r) i=false from h60];rfl)),I,I,congrArg (fun z=>some (Value.int .i64 z)) (AA (x:=(i:Int)+1) (by omega) (by omega)),tO⟩ [_,_] I))))))))))
  ·exact wP I (wB 1 I I I (wP I (wP I (wP I (Aa (zN (zE (zB (wP I (wP I (wP I (Aa (Ak (i+1) ⟨hi,good e⟩ (by omega) ⟨I,congrArg (fun z=>some (Value.bool z)) (show _=(Bj (rg rs r) (AW rs r) i|| !(sd (rg rs r) i).gable) by first|(rw[show Bj (rg rs r) (AW rs r) i=true from h60];rfl)|(rw[show Bj (rg rs r) (AW rs r) i=false from h60];rfl)),I,I,congrArg (fun z=>some (Value.int .i64 z)) (AA (x:=(i:Int)+1) (by omega) (by omega)),tO⟩ [_,_] I)))))))))))))
-- BOXES 1
def LN (rs:List (List Sd)):Int:=
 if rs.any (fun l=>l.length==0)=true then 5
 else if tot rs=0 then 5
 else if tot rs>24 then 4
 else if rs.flatten.any (fun s=> !rgd s)=true then 2
 else if rs.any (fun l=> !Ik l)=true then 14
 else if crs rs=true then 15
 else if (!GL rs|| !JV rs)=true then 14
 else 0
theorem OB (W:World) (p:Option Addr) (cap:Nat) (rs:List (List Sd)) (hn:rs.length<4611686018427387904) (hT:tot rs<1099511627776) (hR:Bh W p rs):
  Ad Tryz.prog 12 #[CN p rs.length cap] W (fun _:Unit=> .int .i64 (LN rs)) (fun _=>True) (fun _=>[]):=by
 have hl: ∀l∈rs,l.length<4611686018427387904:=fun l h=>by have:=GD h;omega
 refine Ab (args:=[CN p rs.length cap]) Tryz.func12 I I I ?_
 refine zA (zB ?_)
 (refine Al rfl rfl rfl rfl ?_;intro)
 refine wP I (Aa ?_)
 rename_i b1
 refine zE (zA (zA (zB (wP I (wB 0 I I I (wP I (wP I (Aa (zE ?_)))))))))
 refine Aj I (fun h=> ?_) (fun h=> ?_)
 ·refine zA (zB (wP I (Aa (zE (zO (zP ?_))))))
  have h0:rs=[]:=by have h':(((rs.length:Nat):Int)==0)=true:=h;rw[beq_iff_eq] at h';exact List.length_eq_zero_iff.1 (by omega)
  exact wR1 rfl rfl (by subst h0;rfl)
 have hpos:0<rs.length:=by have h':(((rs.length:Nat):Int)==0)=false:=h;rw[beq_eq_false_iff_ne] at h';omega
 clear h
 obtain⟨b,off,rfl,hrow⟩:=hR.row hpos
 refine zI (zE (zA (zB (wP I (Aa (zE (zA (zA (zB (wP I (Aa (zE (zH ?_)))))))))))))
 refine At (X:=Nat) (fun k=>[(1, .pointer (some ⟨b1,0,none⟩)),(3, .int .i64 (tot (rs.take k):Nat)),(4, .int .i64 (k:Nat))]) (fun _=>[⟨b1,36,[slv (some ⟨b,off,none⟩) rs.length cap],true,none⟩])
  (fun k=>k≤rs.length∧ ∀j,j<k→(rg rs j).length≠0) (fun k=>rs.length-k) 0 ⟨Nat.zero_le _,fun j hj=>absurd hj (Nat.not_lt_zero _)⟩ ⟨rfl,rfl,rfl,trivial⟩ [] rfl ?_
 rintro k ⟨hk,hok⟩
 refine zA (zA (zB (wP I (wP I (wB 0 I I I (wP I (wP I (Aa (zE ?_)))))))))
 refine Aj I (fun h=> ?_) (fun h=> ?_)
 ·have hk:k<rs.length:=by simp at h;omega
  clear h
  obtain⟨q,cap2,hq1,hq2⟩:=hrow k hk
  refine zI (zE (zA (zH (zA (zA (zB (wP I (wB 0 I I I (wP I ?_)))))))))
  refine wJ ?_
  refine wL 0 I I (fun W hp=>hq1.hp hp) I (wP I (wP I (Aa (zE ?_))))
  refine Aj I (fun h=> ?_) (fun h=> ?_)
  ·refine zA (zB (wP I (Aa (zE (zO (zP (zQ (zP (zP (zQ (zP ?_)))))))))))
   have he:rs.any (fun l=>l.length==0)=true:=List.any_eq_true.2 ⟨_,List.mem_of_getElem? (Bf hk),by have h':((((rg rs k).length:Nat):Int)==0)=true:=h;rw[beq_iff_eq] at h'⊢;omega⟩
   exact wR1 I I (by unfold LN;rw[if_pos he])
  have hz:(rg rs k).length≠0:=by
   have h':((((rg rs k).length:Nat):Int)==0)=false:=h
   rw[beq_eq_false_iff_ne] at h';omega
  clear h
  refine zI (zE (zB (wP I (wP I (wB 0 I I I (wP I ?_))))))
  refine wJ ?_
  refine wL 0 I I (fun W hp=>hq1.hp hp) I (wP I (wP I (wP I (Aa ?_))))
  have hs:w64 ((tot (rs.take k):Nat)+((rg rs k).length:Nat))=(tot (rs.take (k+1)):Nat):=by
   have h1:=Bk hk
   have h2:=Cu rs (k+1)
   rw[Ar (by omega) (by omega)];omega
  refine zN (zE (zB ?_))
  refine Ay 3 _ I (congrArg (Value.int .i64) hs) ?_
  refine wP I (wP I (wP I (Aa ?_)))
  refine Ak (k+1) ⟨hk,fun j hj=> ?_⟩ (by omega) ⟨I,I,congrArg (fun z=>some (Value.int .i64 z)) (AA (x:=(k:Int)+1) (by omega) (by omega)),tO⟩ [] I
  by_cases e:j=k
  ·subst e;exact hz
  ·exact hok j (by omega)
 have e:k=rs.length:=by simp at h;omega
 subst e
 clear h
 rw[List.take_length]
 have hne: ∀l∈rs,l≠[]:=fun l hl e=>by
  obtain⟨i,hi,e2⟩:=List.getElem_of_mem hl
  have:=hok i hi
  rw[show rg rs i=rs[i] by simp[rg,hi],e2,e] at this
  exact this I
 have he:rs.any (fun l=>l.length==0)=false:=Bool.eq_false_iff.2 fun h2=>by
  obtain⟨l,h3,h4⟩:=List.any_eq_true.1 h2
  rw[beq_iff_eq] at h4
  exact hne l h3 (List.length_eq_zero_iff.1 h4)
 have hN: ¬(rs.any (fun l=>l.length==0)=true):=by rw[he];decide
 have h0: ¬tot rs=0:=by
  have h1:=GD (List.mem_of_getElem? (Bf hpos))
  have h2:=hok 0 hpos
  omega
 refine zJ (zK (zK (zL (zE (zA (zA (zB (wP I (wP I (Aa (zE ?_)))))))))))
 refine Aj I (fun h=> ?_) (fun h=> ?_)
 ·refine zA (zB (wP I (Aa (zE (zO (zP ?_))))))
  have h1:tot rs>24:=by have h':decide (((tot rs:Nat):Int)>24)=true:=h;rw[decide_eq_true_iff] at h';omega
  exact wR1 I I (by unfold LN;rw[if_neg hN,if_neg h0,if_pos h1])
 have h1: ¬tot rs>24:=by have h':decide (((tot rs:Nat):Int)>24)=false:=h;rw[decide_eq_false_iff_not] at h';omega
 clear h
 refine zI (zE (zA (zA (zB (wP I (Aa (zE (zH ?_))))))))
 refine At (X:=Nat) (fun k=>[(1, .pointer (some ⟨b1,0,none⟩)),(5, .int .i64 (k:Nat))]) (fun _=>[⟨b1,36,[slv (some ⟨b,off,none⟩) rs.length cap],true,none⟩])
  (fun k=>k≤rs.length∧ ∀j,j<k→ ∀s∈rg rs j,rgd s=true) (fun k=>rs.length-k) 0 ⟨Nat.zero_le _,fun j hj=>absurd hj (Nat.not_lt_zero _)⟩ ⟨rfl,rfl,trivial⟩ [] rfl ?_
 rintro k ⟨hk,hok2⟩
 refine zA (zA (zB (wP I (wP I (wB 0 I I I (wP I (wP I (Aa (zE ?_)))))))))
 refine Aj I (fun h=> ?_) (fun h=> ?_)
 ·have hk:k<rs.length:=by simp at h;omega
  clear h
  obtain⟨q,cap2,hq1,hq2⟩:=hrow k hk
  have hlk:=hl _ (List.mem_of_getElem? (Bf hk))
  refine zI (zE (zA (zH (zA (zB (wP I (Aa (zE (zH ?_)))))))))
  refine At (X:=Nat) (fun i=>[(1, .pointer (some ⟨b1,0,none⟩)),(5, .int .i64 (k:Nat)),(6, .int .i64 (i:Nat))]) (fun _=>[⟨b1,36,[slv (some ⟨b,off,none⟩) rs.length cap],true,none⟩])
   (fun i=>i≤(rg rs k).length∧ ∀j,j<i→rgd (sd (rg rs k) j)=true) (fun i=>(rg rs k).length-i) 0 ⟨Nat.zero_le _,fun j hj=>absurd hj (Nat.not_lt_zero _)⟩ ⟨rfl,rfl,rfl,trivial⟩ [] rfl ?_
  rintro i ⟨hi,hoki⟩
  refine zA (zA (zB (wP I (wP I (wB 0 I I I (wP I ?_))))))
  refine wJ ?_
  refine wL 0 I I (fun W hp=>hq1.hp hp) I (wP I (wP I (Aa (zE ?_))))
  refine Aj I (fun h=> ?_) (fun h=> ?_)
  ·have hi:i<(rg rs k).length:=by simp at h;omega
   clear h
   obtain⟨b4,off4,rfl,hrow4⟩:=hq2.row hi
   refine zI (zE (zA (zH (zA (zB (wP I (wB 0 I I I (wP I ?_))))))))
   refine wJ ?_
   refine wL 0 I I (fun W hp=>hq1.hp hp) I (wP I ?_)
   refine wJ ?_
   refine wL 0 I I (fun W hp=>(hrow4 i hi).hp hp) I (wC I I (fun W _=>MX (sd (rg rs k) i) W) (wP I (Aa (zE ?_))))
   refine Aj I (fun h=> ?_) (fun h=> ?_)
   ·refine zA (zB (wP I (Aa (zE (zO (zQ (zP (zP (zQ (zQ (zP (zP (zQ ?_)))))))))))))
    refine zP ?_
    have h2:rs.flatten.any (fun s=> !rgd s)=true:=List.any_eq_true.2 ⟨sd (rg rs k) i,List.mem_flatten.2 ⟨rg rs k,List.mem_of_getElem? (Bf hk),List.mem_of_getElem? (H0 hi)⟩,h⟩
    exact wR1 I I (by unfold LN;rw[if_neg hN,if_neg h0,if_neg h1,if_pos h2])
   ·have hg:rgd (sd (rg rs k) i)=true:=by have h':(!rgd (sd (rg rs k) i))=false:=h;simpa using h'
    refine zI (zN (zE (zB (wP I (wP I (wP I (Aa ?_)))))))
    refine Ak (i+1) ⟨hi,fun j hj=> ?_⟩ (by omega) ⟨I,I,congrArg (fun z=>some (Value.int .i64 z)) (AA (x:=(i:Int)+1) (by omega) (by omega)),tO⟩ [] I
    by_cases e:j=i
    ·subst e;exact hg
    ·exact hoki j (by omega)
  ·have e:i=(rg rs k).length:=by simp at h;omega
   subst e
   refine zJ (zK (zK (zL (zN (zE (zB (wP I (wP I (wP I (Aa ?_))))))))))
   refine Ak (k+1) ⟨hk,fun j hj s hs=> ?_⟩ (by omega) ⟨I,congrArg (fun z=>some (Value.int .i64 z)) (AA (x:=(k:Int)+1) (by omega) (by omega)),tO⟩ [] I
   by_cases e:j=k
   ·subst e
    obtain⟨m,hm,e⟩:=List.getElem_of_mem hs
    have:=hoki m hm
    rw[show sd (rg rs j) m=s by simp[sd,hm,e]] at this
    exact this
   ·exact hok2 j (by omega) s hs
 have e:k=rs.length:=by simp at h;omega
 subst e
 clear h
 have hrg: ∀l∈rs, ∀s∈l,rgd s=true:=fun l hl s hs=>by
  obtain⟨i,hi,e2⟩:=List.getElem_of_mem hl
  have:=hok2 i hi
  rw[show rg rs i=l by simp[rg,hi,e2]] at this
  exact this s hs
 have h2: ¬(rs.flatten.any (fun s=> !rgd s)=true):=fun h=>by
  obtain⟨s,hs,h⟩:=List.any_eq_true.1 h
  obtain⟨l,hl,hs⟩:=List.mem_flatten.1 hs
  rw[hrg l hl s hs] at h;cases h
 refine zJ (zK (zK (zL (zE (zA (zA (zB (wP I (Aa (zE (zH ?_)))))))))))
 refine At (X:=Nat) (fun k=>[(1, .pointer (some ⟨b1,0,none⟩)),(7, .int .i64 (k:Nat))]) (fun _=>[⟨b1,36,[slv (some ⟨b,off,none⟩) rs.length cap],true,none⟩])
  (fun k=>k≤rs.length∧ ∀j,j<k→Ik (rg rs j)=true) (fun k=>rs.length-k) 0 ⟨Nat.zero_le _,fun j hj=>absurd hj (Nat.not_lt_zero _)⟩ ⟨rfl,rfl,trivial⟩ [] rfl ?_
 rintro k ⟨hk,hok3⟩
 refine zA (zA (zB (wP I (wP I (wB 0 I I I (wP I (wP I (Aa (zE ?_)))))))))
 refine Aj I (fun h=> ?_) (fun h=> ?_)
 ·have hk:k<rs.length:=by simp at h;omega
  clear h
  obtain⟨q,cap2,hq1,hq2⟩:=hrow k hk
  have hlk:=hl _ (List.mem_of_getElem? (Bf hk))
  refine zI (zE (zA (zH (zA (zB (wP I (wB 0 I I I (wP I ?_))))))))
  refine wJ ?_
  refine wL 0 I I (fun W hp=>hq1.hp hp) I (wC I I (fun W hp=>MS W q cap2 (rg rs k) hlk (hq2.hp hp)) (wP I (Aa (zE ?_))))
  refine Aj I (fun h=> ?_) (fun h=> ?_)
  ·refine zA (zB (wP I (Aa (zE (zO (zQ (zP (zP (zQ (zP ?_))))))))))
   have h3:rs.any (fun l=> !Ik l)=true:=List.any_eq_true.2 ⟨_,List.mem_of_getElem? (Bf hk),h⟩
   exact wR1 I I (by unfold LN;rw[if_neg hN,if_neg h0,if_neg h1,if_neg h2,if_pos h3])
  ·have hg:Ik (rg rs k)=true:=by have h':(!Ik (rg rs k))=false:=h;simpa using h'
   refine zI (zN (zE (zB (wP I (wP I (wP I (Aa ?_)))))))
   refine Ak (k+1) ⟨hk,fun j hj=> ?_⟩ (by omega) ⟨I,congrArg (fun z=>some (Value.int .i64 z)) (AA (x:=(k:Int)+1) (by omega) (by omega)),tO⟩ [] I
   by_cases e:j=k
   ·subst e;exact hg
   ·exact hok3 j (by omega)
 have e:k=rs.length:=by simp at h;omega
 subst e
 clear h
 have h3: ¬(rs.any (fun l=> !Ik l)=true):=fun h=>by
  obtain⟨l,hl,h⟩:=List.any_eq_true.1 h
  obtain⟨i,hi,e2⟩:=List.getElem_of_mem hl
  have:=hok3 i hi
  rw[show rg rs i=l by simp[rg,hi,e2]] at this
  rw[this] at h;cases h
 refine zJ (zK (zK (zL (zE (zA (zA (zB (wP I (wB 0 I I I (wC I I (fun W hp=>LQ W _ cap rs hn hl (hR.below (Nat.le_refl _) hp.below)) (Aa (zE ?_))))))))))))
 refine Aj I (fun h=> ?_) (fun h=> ?_)
 ·exact zA (zB (wP I (Aa (zE (zO (zP (wR1 I I (by unfold LN;rw[if_neg hN,if_neg h0,if_neg h1,if_neg h2,if_neg h3,if_pos h]))))))))
 have h4: ¬(crs rs=true):=by rw[h];decide
 clear h
 refine zI (zE (zA (zA (zB (wP I (wB 0 I I I (wC I I (fun W hp=>MA W _ cap rs hn hl hne hpos (hR.below (Nat.le_refl _) hp.below)) (wP I (wP I ?_)))))))))
 refine AM 84 I (fun h84=> ?_) (fun h84=> ?_)
 ·refine Af I I ?_
  iterate 3 refine Af I I ?_
  refine wP I (Aa ?_)
  have h5:(!GL rs|| !JV rs)=true:=by rw[show(!GL rs)=true from h84];rfl
  exact zE (zR I (zA (zB (wP I (Aa (zE (zO (zP (wR1 I I (by unfold LN;rw[if_neg hN,if_neg h0,if_neg h1,if_neg h2,if_neg h3,if_neg h4,if_pos h5]))))))))))
 ·refine wP I (wB 0 I I I (wC I I (fun W hp=>Ob W _ cap rs hn hl (hR.below (Nat.le_refl _) hp.below)) (wP I (wP I (Aa ?_)))))
  have h':(!GL rs)=false:=h84
  refine zE ?_
  refine Aj I (fun h=> ?_) (fun h=> ?_)
  ·refine zA (zB (wP I (Aa (zE (zO (zP ?_))))))
   have h5:(!GL rs|| !JV rs)=true:=by rw[h',show(!JV rs)=true from h];rfl
   exact wR1 I I (by unfold LN;rw[if_neg hN,if_neg h0,if_neg h1,if_neg h2,if_neg h3,if_neg h4,if_pos h5])
  ·refine zI (zE (zA (zB (wP I (Aa (zE (zO ?_)))))))
   have h5: ¬((!GL rs|| !JV rs)=true):=by rw[h',show(!JV rs)=false from h];decide
   exact wR1 I I (by unfold LN;rw[if_neg hN,if_neg h0,if_neg h1,if_neg h2,if_neg h3,if_neg h4,if_neg h5])
end
section
open Go Go.RowKit Go.Am
theorem ES (a:Int):(sgI a= -1∧a<0)∨(sgI a=0∧a=0)∨(sgI a=1∧a>0):=by
 unfold sgI
 rcases Int.lt_trichotomy a 0 with h|h|h
 ·rw[if_pos h];exact .inl ⟨rfl,h⟩
 ·rw[if_neg (by omega),if_neg (by omega)];exact .inr (.inl ⟨rfl,h⟩)
 ·rw[if_neg (by omega),if_pos h];exact .inr (.inr ⟨rfl,h⟩)
theorem RM {l:List Sd} (hr: ∀s∈l,inR s) {i:Nat} (hi:i<l.length):LU l i=sgI ((sd l (nxt l.length i)).x-(sd l i).x)∧Lc l i=sgI ((sd l (nxt l.length i)).y-(sd l i).y):=by
 obtain⟨s1,s2,s3,s4⟩:=CH hr hi
 obtain⟨n1,n2,n3,n4⟩:=CH hr (Ej hi)
 unfold LU Lc
 rw[d64 ⟨n1,n2⟩ ⟨s1,s2⟩,d64 ⟨n3,n4⟩ ⟨s3,s4⟩]
 exact⟨I,I⟩
theorem Mv {l:List Sd} (hr: ∀s∈l,inR s) {i:Nat} (hi:i<l.length):axR l i=true↔ ¬(((sd l (nxt l.length i)).x-(sd l i).x=0)↔((sd l (nxt l.length i)).y-(sd l i).y=0)):=by
 obtain⟨e1,e2⟩:=RM hr hi
 unfold axR
 rw[e1,e2]
 generalize (sd l (nxt l.length i)).x-(sd l i).x=a
 generalize (sd l (nxt l.length i)).y-(sd l i).y=b
 rcases ES a with⟨ea,ha⟩|⟨ea,ha⟩|⟨ea,ha⟩<;>rcases ES b with⟨eb,hb⟩|⟨eb,hb⟩|⟨eb,hb⟩<;>rw[ea,eb]
 ·rw[show(w64 (w64 (-1* -1)+w64 (-1* -1))==1)=false by decide];constructor<;>intro h;cases h;omega
 ·rw[show(w64 (w64 (-1* -1)+w64 (0*0))==1)=true by decide];constructor<;>intro h;omega;rfl
 ·rw[show(w64 (w64 (-1* -1)+w64 (1*1))==1)=false by decide];constructor<;>intro h;cases h;omega
 ·rw[show(w64 (w64 (0*0)+w64 (-1* -1))==1)=true by decide];constructor<;>intro h;omega;rfl
 ·rw[show(w64 (w64 (0*0)+w64 (0*0))==1)=false by decide];constructor<;>intro h;cases h;omega
 ·rw[show(w64 (w64 (0*0)+w64 (1*1))==1)=true by decide];constructor<;>intro h;omega;rfl
 ·rw[show(w64 (w64 (1*1)+w64 (-1* -1))==1)=false by decide];constructor<;>intro h;cases h;omega
 ·rw[show(w64 (w64 (1*1)+w64 (0*0))==1)=true by decide];constructor<;>intro h;omega;rfl
 ·rw[show(w64 (w64 (1*1)+w64 (1*1))==1)=false by decide];constructor<;>intro h;cases h;omega
theorem Jz {l:List Sd} (hr: ∀s∈l,inR s) {i:Nat} (hi:i<l.length) (h1:axR l i=true) (h2:axR l (prv l.length i)=true):
  (JO l i≠0↔ ¬(((sd l i).x-(sd l (prv l.length i)).x=0)↔((sd l (nxt l.length i)).x-(sd l i).x=0)))∧(JO l i≠0→(JO l i<0↔GT (sd l (prv l.length i)) (sd l i) (sd l (nxt l.length i))=false)):=by
 have a1:=(Mv hr hi).1 h1
 have a2:=(Mv hr (FK hi)).1 h2
 obtain⟨e1,e2⟩:=RM hr hi
 obtain⟨e3,e4⟩:=RM hr (FK hi)
 rw[Vx hi] at a2 e3 e4
 have i1:=CH hr hi
 have i2:=CH hr (Ej hi)
 have i3:=CH hr (FK hi)
 rw[U6 i3 i1 i2,decide_eq_false_iff_not]
 unfold JO
 rw[e1,e2,e3,e4]
 generalize (sd l (nxt l.length i)).x-(sd l i).x=c at*
 generalize (sd l (nxt l.length i)).y-(sd l i).y=d at*
 generalize (sd l i).x-(sd l (prv l.length i)).x=a at*
 generalize (sd l i).y-(sd l (prv l.length i)).y=b at*
 have pp: ∀x y:Int,x>0→y>0→x*y>0:=fun x y h h'=>Int.mul_pos h h'
 have pn: ∀x y:Int,x>0→y<0→x*y<0:=fun x y h h'=>Int.mul_neg_of_pos_of_neg h h'
 have np: ∀x y:Int,x<0→y>0→x*y<0:=fun x y h h'=>Int.mul_neg_of_neg_of_pos h h'
 have nn: ∀x y:Int,x<0→y<0→x*y>0:=fun x y h h'=>Int.mul_pos_of_neg_of_neg h h'
 by_cases ha:a=0
 ·subst ha
  have hb:b≠0:=by omega
  rw[show sgI 0=0 from rfl,Int.zero_mul,Int.zero_mul]
  by_cases hd:d=0
  ·subst hd
   have hc:c≠0:=by omega
   rcases ES b with⟨eb,hb'⟩|⟨eb,hb'⟩|⟨eb,hb'⟩<;>rcases ES c with⟨ec,hc'⟩|⟨ec,hc'⟩|⟨ec,hc'⟩<;>first|omega|skip
   ·rw[eb,ec,show w64 (w64 0-w64 (-1* -1))= -1 by decide];have:=nn b c hb' hc';omega
   ·rw[eb,ec,show w64 (w64 0-w64 (-1*1))=1 by decide];have:=np b c hb' hc';omega
   ·rw[eb,ec,show w64 (w64 0-w64 (1* -1))=1 by decide];have:=pn b c hb' hc';omega
   ·rw[eb,ec,show w64 (w64 0-w64 (1*1))= -1 by decide];have:=pp b c hb' hc';omega
  ·have hc:c=0:=by omega
   subst hc
   rw[show sgI 0=0 from rfl,Int.mul_zero,show w64 (w64 0-w64 0)=0 by decide]
   omega
 ·have hb:b=0:=by omega
  subst hb
  rw[show sgI 0=0 from rfl,Int.zero_mul,Int.zero_mul]
  by_cases hc:c=0
  ·subst hc
   have hd:d≠0:=by omega
   rcases ES a with⟨eb,hb'⟩|⟨eb,hb'⟩|⟨eb,hb'⟩<;>rcases ES d with⟨ec,hc'⟩|⟨ec,hc'⟩|⟨ec,hc'⟩<;>first|omega|skip
   ·rw[eb,ec,show w64 (w64 (-1* -1)-w64 0)=1 by decide];have:=nn a d hb' hc';omega
   ·rw[eb,ec,show w64 (w64 (-1*1)-w64 0)= -1 by decide];have:=np a d hb' hc';omega
   ·rw[eb,ec,show w64 (w64 (1* -1)-w64 0)= -1 by decide];have:=pn a d hb' hc';omega
   ·rw[eb,ec,show w64 (w64 (1*1)-w64 0)=1 by decide];have:=pp a d hb' hc';omega
  ·have hd:d=0:=by omega
   subst hd
   rw[show sgI 0=0 from rfl,Int.mul_zero,show w64 (w64 0-w64 0)=0 by decide]
   omega
theorem TY {l:List Sd} (hr: ∀s∈l,inR s):Ik l=shp l:=by
 rw[Bool.eq_iff_iff]
 constructor
 ·intro h
  unfold Ik at h
  obtain⟨h1,h2⟩:=Bool.and_eq_true_iff.1 h
  have ok: ∀i,i<l.length→axR l i=true∧JO l i≠0:=fun i hi=>by
   have:=List.all_eq_true.1 h1 i (List.mem_range.2 hi)
   unfold okR at this
   obtain⟨a,b⟩:=Bool.and_eq_true_iff.1 this
   exact⟨a,by simpa using b⟩
  exact Xg hr (of_decide_eq_true h2) fun i hi=>⟨(Mv hr hi).1 (ok i hi).1,(Jz hr hi (ok i hi).1 (ok _ (FK hi)).1).1.1 (ok i hi).2⟩
 ·intro h
  have ax: ∀i,i<l.length→axR l i=true:=fun i hi=>(Mv hr hi).2 (Fi hr h hi).1
  unfold Ik
  rw[dT (Sl h),Bool.and_true]
  refine List.all_eq_true.2 fun i hi=> ?_
  have hi:=List.mem_range.1 hi
  have:=(Jz hr hi (ax i hi) (ax _ (FK hi))).1.2 (Fi hr h hi).2
  unfold okR
  rw[ax i hi,beq_eq_false_iff_ne.2 this];rfl
theorem Us {l:List Sd} (hr: ∀s∈l,inR s) (h:shp l=true) {i:Nat} (hi:i<l.length):JO l i≠0∧(JO l i<0↔GT (sd l (prv l.length i)) (sd l i) (sd l (nxt l.length i))=false):=by
 have ax: ∀i,i<l.length→axR l i=true:=fun i hi=>(Mv hr hi).2 (Fi hr h hi).1
 have t:=Jz hr hi (ax i hi) (ax _ (FK hi))
 have hne:=t.1.2 (Fi hr h hi).2
 exact⟨hne,t.2 hne⟩
theorem XD {l:List Sd} (hr: ∀s∈l,inR s) (h:shp l=true) {i:Nat} (hi:i<l.length):GX l i=CB l i:=by
 have t:=(Us hr h hi).2
 unfold GX CB LK
 cases hl:GT (sd l (prv l.length i)) (sd l i) (sd l (nxt l.length i)) with
 |true=>rw[dF (fun e=>by rw[t.1 e] at hl;cases hl)];rfl
 |false=>
  rw[dT (t.2 hl),Bool.true_and,Bool.false_or]
  have e: ∀a b:Int,(!(false||false||(a !=b)))=(!false&& !false&&(b==a)):=fun a b=>by
   by_cases h:a=b
   ·subst h;simp
   ·rw[bne_iff_ne.2 h,beq_eq_false_iff_ne.2 (fun x=>h x.symm)];rfl
  cases(sd l i).gable<;>cases(sd l (prv l.length i)).gable<;>first|rfl|exact e _ _
theorem Xj {rs:List (List Sd)} (hin:T9 rs) (hs: ∀l∈rs,shp l=true):JV rs=jnd rs:=by
 unfold JV jnd
 congr 1
 rw[Bool.eq_iff_iff,List.all_eq_true,List.all_eq_true]
 have e: ∀l∈rs,((List.range l.length).all (GX l))=Gc l:=fun l hl=>Ny fun i hi=>XD (hin l hl) (hs l hl) hi
 constructor<;>intro h l hl
 ·rw[←e l hl];exact h l hl
 ·rw[e l hl];exact h l hl
theorem WG {l:List Sd} (h: ∀s∈l,inR s): ∀k,k≤l.length→k≤1000000→twR l k=AC (Et l) k∧ -(k*4294967296:Int)≤twR l k∧twR l k≤k*4294967296
 |0,_,_=>⟨rfl,by simp[twR],by simp[twR]⟩
 |k+1,hk,hm=>by
  obtain⟨h1,h2,h3⟩:=WG h k (by omega) (by omega)
  have hs:=CH h (show k<l.length by omega)
  have hn:=CH h (Ej (show k<l.length by omega))
  obtain⟨a1,a2⟩:=H7 hs.1 hs.2.1 hn.2.2.1 hn.2.2.2
  obtain⟨b1,b2⟩:=H7 hs.2.2.1 hs.2.2.2 hn.1 hn.2.1
  have e:twR l (k+1)=twR l k+Et l k:=by
   show w64 (w64 (twR l k+w64 ((sd l k).x*(sd l (nxt l.length k)).y))-w64 ((sd l (nxt l.length k)).x*(sd l k).y))=_
   unfold Et
   rw[Int.mul_comm (sd l (nxt l.length k)).x,Ar (x:=(sd l k).x*_) (by omega) (by omega),Ar (x:=(sd l k).y*_) (by omega) (by omega),Ar (x:=twR l k+_) (by omega) (by omega)]
   rw[Ar (by omega) (by omega)];omega
  have ec:Et l k=(sd l k).x*(sd l (nxt l.length k)).y-(sd l k).y*(sd l (nxt l.length k)).x:=rfl
  refine⟨by rw[e,h1];rfl, ?_, ?_⟩<;>rw[e,ec]<;>push_cast<;>omega
theorem TV {l:List Sd} (h: ∀s∈l,inR s) (px py:Int): ∀k,k≤l.length→Gk l px py k=DA l px py k
 |0,_=>rfl
 |k+1,hk=>by
  have hs:=CH h (show k<l.length by omega)
  have hn:=CH h (Ej (show k<l.length by omega))
  have e:Kd (sd l k) (sd l (nxt l.length k)) px py=HX (sd l k) (sd l (nxt l.length k)) px py:=by
   unfold Kd HX
   rw[d64 ⟨hn.1,hn.2.1⟩ ⟨hs.1,hs.2.1⟩]
   generalize sd l k=t
   generalize sd l (nxt l.length k)=u
   by_cases hx:t.x=u.x
   ·rw[beq_iff_eq.2 hx,beq_iff_eq.2 (show u.x-t.x=0 by omega),hx]
    rw[Bool.true_and,Bool.and_assoc]
    congr 1
    unfold loy hiy
    by_cases h1:t.y>py<;>by_cases h2:u.y>py
    ·rw[dT h1,dT h2,dF (by split<;>omega)];rfl
    ·rw[dT h1,dF h2,dT (by split<;>omega),dT (by split<;>omega)];rfl
    ·rw[dF h1,dT h2,dT (by split<;>omega),dT (by split<;>omega)];rfl
    ·rw[dF h1,dF h2,dF (p:=py<_) (by split<;>omega),Bool.and_false];rfl
   ·rw[beq_eq_false_iff_ne.2 hx,beq_eq_false_iff_ne.2 (show u.x-t.x≠0 by omega)];rfl
  show(if Kd (sd l k) (sd l (nxt l.length k)) px py=true then !Gk l px py k else Gk l px py k)=(if HX (sd l k) (sd l (nxt l.length k)) px py=true then !DA l px py k else DA l px py k)
  rw[e,TV h px py k (by omega)]
theorem X9 {rs:List (List Sd)} (hin:T9 rs) (hs: ∀l∈rs,shp l=true) (hc:crs rs=false) (hT:tot rs≤24) (hpos:0<rs.length):GL rs=plc rs:=by
 have ar: ∀r,r<rs.length→twR (rg rs r) (rg rs r).length=C0 (rg rs r) (rg rs r).length∧C0 (rg rs r) (rg rs r).length≠0:=fun r hr=>by
  have hm:rg rs r∈rs:=List.mem_of_getElem? (Bf hr)
  have hlen:=GD hm
  rw[(WG (hin _ hm) _ (Nat.le_refl _) (by omega)).1,(MZ (hin _ hm) _ (Nat.le_refl _) (by omega)).1]
  exact⟨I,WA hin hs hc hr⟩
 have pk: ∀r s,r<rs.length→s<rs.length→r≠0→M8 rs r s=Fk rs r s:=fun r s hr hs' h0=>by
  unfold M8 Fk
  rw[TV (hin _ (List.mem_of_getElem? (Bf hs'))) _ _ _ (Nat.le_refl _),beq_eq_false_iff_ne.2 h0,Bool.or_false]
 have all: ∀r,r<rs.length→r≠0→((List.range rs.length).all (M8 rs r))=((List.range rs.length).all (Fk rs r)):=fun r hr h0=>Ny fun s hs'=>pk r s hr hs' h0
 rw[Bool.eq_iff_iff]
 constructor
 ·intro h
  unfold GL at h
  obtain⟨h1,h2⟩:=Bool.and_eq_true_iff.1 h
  refine List.all_eq_true.2 fun r hr=> ?_
  have hr:=List.mem_range.1 hr
  have hr2:=List.all_eq_true.1 h2 r (List.mem_range.2 hr)
  obtain⟨a1,a2⟩:=ar r hr
  unfold Dc
  by_cases e:r=0
  ·subst e
   rw[a1] at h1
   have h1: ¬C0 (rg rs 0) (rg rs 0).length≤0:=by simpa using h1
   rw[dT (by omega)]
   exact Bool.and_eq_true_iff.2 ⟨I,List.all_eq_true.2 fun k _=>by unfold Fk;simp⟩
  ·unfold QO at hr2
   rw[beq_eq_false_iff_ne.2 e,Bool.false_or,a1] at hr2
   obtain⟨b1,b2⟩:=Bool.and_eq_true_iff.1 hr2
   have b1: ¬C0 (rg rs r) (rg rs r).length≥0:=by simpa using b1
   rw[dF (by omega),beq_eq_false_iff_ne.2 e, ←all r hr e,b2];rfl
 ·intro h
  have pr: ∀r,r<rs.length→Dc rs r=true:=fun r hr=>List.all_eq_true.1 h r (List.mem_range.2 hr)
  unfold GL
  have h0:=pr 0 hpos
  unfold Dc at h0
  obtain⟨c1,_⟩:=Bool.and_eq_true_iff.1 h0
  obtain⟨a1,a2⟩:=ar 0 hpos
  have c2:C0 (rg rs 0) (rg rs 0).length>0:=by simpa using c1
  rw[a1,dF (by omega),Bool.not_false,Bool.true_and]
  refine List.all_eq_true.2 fun r hr=> ?_
  have hr:=List.mem_range.1 hr
  unfold QO
  by_cases e:r=0
  ·subst e;rfl
  ·have h1:=pr r hr
   unfold Dc at h1
   obtain⟨d1,d2⟩:=Bool.and_eq_true_iff.1 h1
   obtain⟨a1,a2⟩:=ar r hr
   rw[beq_eq_false_iff_ne.2 e,beq_iff_eq,decide_eq_false_iff_not] at d1
   rw[a1,dF (by omega),all r hr e,d2]
   simp
theorem VR (rs:List (List Sd)):LN rs=chk rs:=by
 unfold LN chk
 by_cases hN:rs.any (fun l=>l.length==0)=true
 ·rw[if_pos hN,if_pos hN]
 rw[if_neg hN,if_neg hN]
 by_cases h0:tot rs=0
 ·rw[if_pos h0,if_pos h0]
 rw[if_neg h0,if_neg h0]
 by_cases h1:tot rs>24
 ·rw[if_pos h1,if_pos h1]
 rw[if_neg h1,if_neg h1]
 by_cases h2:rs.flatten.any (fun s=> !rgd s)=true
 ·rw[if_pos h2,if_pos h2]
 rw[if_neg h2,if_neg h2]
 have hg: ∀l∈rs, ∀s∈l,rgd s=true:=Wx (by simpa using h2)
 have hin:T9 rs:=fun l hl s hs=>Vy (hg l hl s hs)
 have e3:rs.any (fun l=> !Ik l)=rs.any (fun l=> !shp l):=by
  rw[Bool.eq_iff_iff,List.any_eq_true,List.any_eq_true]
  constructor<;>rintro⟨l,hl,h⟩
  ·exact⟨l,hl,by rw[←TY (hin l hl)];exact h⟩
  ·exact⟨l,hl,by rw[TY (hin l hl)];exact h⟩
 rw[e3]
 by_cases h3:rs.any (fun l=> !shp l)=true
 ·rw[if_pos h3,if_pos h3]
 rw[if_neg h3,if_neg h3]
 have hs: ∀l∈rs,shp l=true:=fun l hl=>by
  cases h:shp l with
  |true=>rfl
  |false=>exact absurd (List.any_eq_true.2 ⟨l,hl,by rw[h];rfl⟩) h3
 by_cases h4:crs rs=true
 ·rw[if_pos h4,if_pos h4]
 rw[if_neg h4,if_neg h4]
 have hpos:0<rs.length:=by
  cases rs with
  |nil=>exact absurd rfl h0
  |cons x rs=>simp
 rw[X9 hin hs (by simpa using h4) (by omega) hpos,Xj hin hs]
end
section
open Go Go.RowKit Go.Am Go.Lib
set_option maxRecDepth 10000
-- BOXES 5
-- CODE2
theorem Wz {rs:List (List Sd)} {r:Nat} (hr:r<rs.length) (i:Nat) (hi:i<(rg rs r).length):rs.flatten[tot (rs.take r)+i]? =some (sd (rg rs r) i):=by
 have e:rs.flatten=(rs.take r).flatten++(rg rs r++(rs.drop (r+1)).flatten):=by
  conv=>lhs;rw[←List.take_append_drop r rs,List.drop_eq_getElem_cons hr,List.flatten_append,List.flatten_cons]
  rw[show rs[r]=rg rs r by unfold rg;rw[List.getD_eq_getElem?_getD,List.getElem?_eq_getElem hr];rfl]
 have hl:(rs.take r).flatten.length=tot (rs.take r):=List.length_flatten
 rw[e,List.getElem?_append_right (by omega),hl,Nat.add_sub_cancel_left,List.getElem?_append_left hi]
 exact H0 hi
theorem VK {rs:List (List Sd)} {r:Nat} (hr:r<rs.length) {i:Nat} (hi:i<(rg rs r).length):sd rs.flatten (tot (rs.take r)+i)=sd (rg rs r) i:=by
 have h1:=Wz hr i hi
 have h2:=H0 (l:=rs.flatten) (List.getElem?_eq_some_iff.1 h1).1
 rw[h1] at h2
 exact(Option.some.inj h2).symm
theorem Vec.frs {V:Vec} {l:List FrP} (hV:V.OK 5 l.length (frC l)) (h0:0<l.length): ∃g cap,V.val l.length= .slice (some ⟨g,0,none⟩) l.length cap∧
  ∀ {W0 W:World} {bxs:List Bx},Hp W0 bxs W→ ∀k,nth bxs k=some (V.bx 56 (frC l))→ ∀m f,l[m]? =some f→Ag W g (0+m*5) (frV f).cells.toList:=by
 obtain⟨p,cap,junk⟩:=V
 cases p with
 |none=>have:=hV.nil rfl;omega
 |some g=>
  refine⟨g,cap,I,fun {W0 W bxs} hp k hk m f hf=> ?_⟩
  obtain⟨hm,rfl⟩:=List.getElem?_eq_some_iff.1 hf
  refine Gu hp k (A:=frC (l.take m)) (C:=frC (l.drop (m+1))++junk) hk ?_ (by rw[Wi,List.length_take];omega)
  have e:frC l=frC (l.take m)++((frV l[m]).cells.toList++frC (l.drop (m+1))):=by
   conv=>lhs;rw[←List.take_append_drop m l,List.drop_eq_getElem_cons hm,SE]
   rfl
  rw[e,List.append_assoc,List.append_assoc]
theorem Vec.sds {V:Vec} {l:List Sd} (hV:V.OK 7 l.length (cellsOf l)) (h0:0<l.length): ∃g cap,V.val l.length=slv (some ⟨g,0,none⟩) l.length cap∧
  ∀ {W0 W:World} {bxs:List Bx},Hp W0 bxs W→ ∀k,nth bxs k=some (V.bx 97 (cellsOf l))→ ∀m,m<l.length→Ag W g (0+m*7) (sd l m).cells:=by
 obtain⟨p,cap,junk⟩:=V
 cases p with
 |none=>have:=hV.nil rfl;omega
 |some g=>
  refine⟨g,cap,I,fun {W0 W bxs} hp k hk m hm=> ?_⟩
  have hrow:=Ag.of_bx hp k hk rfl
  have hring:FN W g 0 l:=FN.of_cells hrow.lt fun j u hj=>by
   refine hrow.get j u ?_
   show(cellsOf l++junk)[j]? =some u
   rw[List.getElem?_append_left (List.getElem?_eq_some_iff.1 hj).1]
   exact hj
  exact hring.get m _ (H0 hm)
-- BOXES 7
-- CODE2
def rdQ (a:List UInt8):Rat:=match frm a with
 |some (z,d)=>nrm z d
 |none=>0
theorem IG (q:Rat):rdQ (Ac q)=q:=by
 have hd:=q.den_pos
 unfold rdQ Ac
 rw[FU q.num q.den_pos]
 show nrm q.num q.den=q
 rw[HE _ (by omega)]
 exact Rat.num_divInt_den q
def flt (rs:List (List Sd)) (m:Nat):Sd:=sd rs.flatten m
def frs (rs:List (List Sd)) (m:Nat):FrP:=(E3 rs).getD m ⟨false,0,1,0,0⟩
theorem KE {rs:List (List Sd)} {m:Nat} (h:m<tot rs):(E3 rs)[m]? =some (frs rs m):=by
 have hl:=Jb rs
 unfold frs
 rw[List.getD_eq_getElem?_getD,List.getElem?_eq_getElem (by omega)]
 rfl
theorem Ur {rs:List (List Sd)} (hc:chk rs=0) {m:Nat} (h:m<tot rs) (hg:(flt rs m).gable=false):(frs rs m).Go:=by
 obtain⟨hrg,_⟩:=Ng hc
 obtain⟨r,i,hr,hi,rfl⟩:=U8 h
 have e:=KE h
 rw[Sy hr hi] at e
 have e:=(Option.some.inj e).symm
 have hs: ∀s∈rg rs r,rgd s=true:=hrg _ (List.mem_of_getElem? (Bf hr))
 have h1:=hs _ (List.mem_of_getElem? (H0 hi))
 unfold flt at hg
 rw[VK hr hi] at hg
 obtain⟨_,_,hp,hb⟩:=HC h1
 have hb:=hb hg
 rw[e]
 unfold Nd
 refine⟨Xs h1, ?_, ?_,fun h0=> ?_⟩
 ·show szQ (if _ then(0:Rat) else nrm _ _) 2
  rw[if_neg (by rw[hg];decide)]
  exact FR hb.2 hb.1
 ·exact ID (by show(sd (rg rs r) i).plate.natAbs<100000;omega) (by decide)
 ·have:=(Xk h1).1 h0
  rw[hg] at this
  cases this
def bsE (rs:List (List Sd)) (s:Int) (x h e:List UInt8) (a b:Int):Int:=
 if s<0∨(tot rs:Int)≤s then 2
 else if (flt rs s.toNat).gable=true then 18
 else if ner [x,h,e]≠0 then ner [x,h,e]
 else if rdQ h≤0∨rdQ e<(frs rs s.toNat).st∨Q8 a b=false then 2 else 0
def bsV (rs:List (List Sd)) (s:Int) (x h e:List UInt8) (a b:Int):Value:=
 if bsE rs s x h e a b=0 then frV (frs rs s.toNat) else .agg #[.bool false, .int .i64 0, .int .i64 0,str [],str []]
theorem F2 (W:World) (p:Option Addr) (cap:Nat) (rs:List (List Sd)) (hn:rs.length<4611686018427387904) (hR:Bh W p rs) (hc:chk rs=0) (hd:Gy W) (hv:AE W) (ht:A6 W)
  (s a b:Int) (x h e:List UInt8) (hx:x.length≤8) (hh:h.length≤8) (he:e.length≤8):
  Ad Tryz.prog 51 #[CN p rs.length cap,dmS s x h e a b, .slice none 0 0] W (fun _:Unit=> .tuple #[bsV rs s x h e a b, .int .i64 (bsE rs s x h e a b)]) (fun _=>True) (fun _=>[]):=by
 obtain⟨_,hT,hT0⟩:=QR hc
 have hfl:rs.flatten.length=tot rs:=List.length_flatten
 have hal:=Jb rs
 refine Ab (args:=[CN p rs.length cap,dmS s x h e a b, .slice none 0 0]) Tryz.func51 I I I ?_
 refine zA (zB ?_)
 (refine Al rfl rfl rfl rfl ?_;intro)
 (refine Al rfl rfl rfl rfl ?_;intro)
 (refine Ae Tryz.hZ rfl rfl rfl rfl ?_;intro)
 refine wP I (Aa ?_)
 rename_i b3 b4 b6
 refine zE (zA (zB (wB 0 I I I ?_)))
 refine wD (X:=Vec) I I (fun W1 hp=>Uz W1 p cap rs hn (hR.hp hp) hc) ?_
 intro S hS
 have hS:S.OK 7 rs.flatten.length (cellsOf rs.flatten):=hS
 obtain⟨gS,cS,hSv,hSr⟩:=Vec.sds hS (by omega)
 rw[hSv]
 iterate 5 refine wP I ?_
 refine Aa (zE (zA (zA (zB (wP I (wP I (Aa (zE (zS I (zI (zE (zA (zA ?_)))))))))))))
 refine zB (wP I (wB 1 I I I (wP I ?_)))
 by_cases h0:s<0
 ·have hE:bsE rs s x h e a b=2:=by unfold bsE;rw[if_pos (.inl h0)]
  refine wU 23 true I (dT h0) (wP I ?_)
  iterate 5 refine Af I I ?_
  refine wP I (Aa (zE (zR I (zA (zB ?_)))))
  refine Au Tryz.hZ tH I I I I I I I I ?_
  exact wS 2 I I I (wP I (Aa (zE (zO (zP (A4 tH I (.cell 2 I I I I I) (.tmp I) () (by rw[bsV,hE];rfl) tO fun W _=>Ap.nil _ _))))))
 refine wU 23 false I (dF h0) ?_
 obtain⟨m,rfl⟩: ∃m:Nat,s=m:=⟨s.toNat,by omega⟩
 refine wP I (wP I (wB 1 I I I (wP I (wP I (wP I ?_)))))
 by_cases h1:m<tot rs
 rotate_left
 ·have hE:bsE rs (m:Int) x h e a b=2:=by unfold bsE;rw[if_pos (.inr (by omega))]
  refine wU 29 true I (dT (by omega)) (wP I (Aa (zE (zR I (zA (zB ?_))))))
  refine Au Tryz.hZ tH I I I I I I I I ?_
  exact wS 2 I I I (wP I (Aa (zE (zO (zP (A4 tH I (.cell 2 I I I I I) (.tmp I) () (by rw[bsV,hE];rfl) tO fun W _=>Ap.nil _ _))))))
 refine wU 29 false I (dF (by omega)) (wP I (Aa (zE (zS I (zI (zE (zA (zA (zB ?_)))))))))
 have hE:bsE rs (m:Int) x h e a b=if (flt rs m).gable=true then 18 else if ner [x,h,e]≠0 then ner [x,h,e] else if rdQ h≤0∨rdQ e<(frs rs m).st∨Q8 a b=false then 2 else 0:=by
  unfold bsE;rw[if_neg (by omega)];rfl
 refine wP I (wP I (wB 1 I I I ?_))
 refine wJ ?_
 refine wP I (wL 0 I I (fun W1 hp=>(hSr hp 3 I m (by omega)).sub 4) I ?_)
 by_cases hg:(flt rs m).gable=true
 ·rw[if_pos hg] at hE
  refine wU 37 true I hg (Aa (zE (zR I (zA (zB ?_)))))
  refine Au Tryz.hZ tH I I I I I I I I ?_
  exact wS 2 I I I (wP I (Aa (zE (zO (zP (A4 tH I (.cell 2 I I I I I) (.tmp I) () (by rw[bsV,hE];rfl) tO fun W _=>Ap.nil _ _))))))
 rw[if_neg hg] at hE
 have hg:(flt rs m).gable=false:=by simpa using hg
 refine wU 37 false I hg (Aa (zE (zS I (zI (zE (zA (zA (zB (wP I (wB 1 I I I (wP I (wB 1 I I I (wP I ?_)))))))))))))
 refine wB 1 I I I ?_
 refine As Tryz.hZ tH I I I I I I I I I I I fun bS=> ?_
 refine wC I I (fun W1 hp=>GZ W1 (some ⟨bS,0,none⟩) 3 [x,h,e] (.inr ⟨bS,0,I,Ag.of_bx hp 4 I I⟩) (show 3≤100000 by decide) (fun y hy=>by
  rcases List.mem_cons.1 hy with rfl|hy
  ·omega
  rcases List.mem_cons.1 hy with rfl|hy
  ·omega
  obtain rfl:=List.mem_singleton.1 hy
  omega) (hv.hp hp) (ht.hp hp)) ?_
 refine wP I (Aa (zE (zA (zB (wP I (wP I ?_))))))
 by_cases hz:ner [x,h,e]=0
 rotate_left
 ·rw[if_pos hz] at hE
  refine wU 48 true I (bne_iff_ne.2 hz) (Aa (zE (zR I (zA (zB ?_)))))
  refine Au Tryz.hZ tH I I I I I I I I ?_
  exact wP I (wS 2 I I I (wP I (Aa (zE (zO (zP (A4 tH I (.cell 2 I I I I I) (.tmp I) () (by rw[bsV,hE,if_neg hz];rfl) tO fun W _=>Ap.nil _ _)))))))
 rw[if_neg (fun h=>h hz)] at hE
 refine wU 48 false I (bne_eq_false_iff_eq.2 hz) (Aa (zE (zS I (zI (zE (zA (zB ?_)))))))
 have hzm:=Jv hz
 obtain⟨x',_,rfl⟩:=EY (hzm x (by simp))
 obtain⟨h',_,rfl⟩:=EY (hzm h (by simp))
 obtain⟨e',_,rfl⟩:=EY (hzm e (by simp))
 rw[IG,IG] at hE
 have zh:=DW hh (by decide)
 have ze:=DW he (by decide)
 have hgo:=Ur hc h1 hg
 obtain⟨f,hf⟩: ∃f,f=frs rs m:=⟨_,rfl⟩
 have hfm:=KE h1
 rw[←hf] at hfm hgo hE
 refine wB 0 I I I ?_
 refine wD (X:=Vec) I I (fun W1 hp=>Gq W1 p cap rs hn (hR.hp hp) hc (hd.hp hp) (ht.hp hp)) ?_
 intro F hF
 have hF:F.OK 5 (E3 rs).length (frC (E3 rs)):=hF
 obtain⟨gF,cF,hFv,hFr⟩:=Vec.frs hF (by omega)
 rw[hFv]
 iterate 5 refine wP I ?_
 refine Aa (zE (zA (zA (zB (wP I (wP I (Aa (zE (zS I (zI (zE (zA (zB ?_)))))))))))))
 refine wP I (wP I (wB 1 I I I ?_))
 refine wJ ?_
 refine wL 0 I I (fun W1 hp=>hFr hp 5 I m f hfm) I ?_
 (refine Ae Tryz.hZ rfl rfl rfl rfl ?_;intro)
 refine wS 6 I I I (Aa ?_)
 rename_i b12
 refine zE (zA (zA (zB (wP I (wB 1 I I I ?_)))))
 refine wC I I (fun W1 hp=>(show Ad Tryz.prog 82 #[str (Ac h'),str [48]] W1 (fun _:Unit=> .int .i64 (C9 h' 0)) (fun _=>True) (fun _=>[]) by
  have h2:=Cb h' 0 (sz2 zh szo (by decide)) W1 (hv.hp hp) (ht.hp hp)
  rwa [BE] at h2)) ?_
 refine wP I ?_
 by_cases h2:h'≤0
 ·rw[if_pos (.inl h2)] at hE
  refine wU 68 true I ((IC _ _).trans (dT h2)) (wP I ?_)
  iterate 6 refine Af I I ?_
  refine wP I (wP I ?_)
  iterate 6 refine Af I I ?_
  refine wP I (Aa (zE (zR I (zA (zB ?_)))))
  refine Au Tryz.hZ tH I I I I I I I I ?_
  exact wS 2 I I I (wP I (Aa (zE (zO (zP (A4 tH I (.cell 2 I I I I I) (.tmp I) () (by rw[bsV,hE];rfl) tO fun W _=>Ap.nil _ _))))))
 refine wU 68 false I ((IC _ _).trans (dF h2)) (wP I (wP I (wB 1 I I I (wP I (wB 6 I I I (wC I I (fun W1 hp=>Cb e' f.st (sz2 ze hgo.st (by decide)) W1 (hv.hp hp) (ht.hp hp)) (wP I ?_)))))))
 by_cases h3:e'<f.st
 ·rw[if_pos (.inr (.inl h3))] at hE
  refine wU 75 true I ((BT _ _).trans (dT h3)) (wP I (wP I ?_))
  iterate 6 refine Af I I ?_
  refine wP I (Aa (zE (zR I (zA (zB ?_)))))
  refine Au Tryz.hZ tH I I I I I I I I ?_
  exact wS 2 I I I (wP I (Aa (zE (zO (zP (A4 tH I (.cell 2 I I I I I) (.tmp I) () (by rw[bsV,hE];rfl) tO fun W _=>Ap.nil _ _))))))
 refine wU 75 false I ((BT _ _).trans (dF h3)) (wP I (wP I (wP I (wB 1 I I I (wP I (wB 1 I I I (wC I I (fun W1 _=>Oh a b W1) (wP I ?_))))))))
 by_cases h4:Q8 a b=true
 rotate_left
 ·have h4:Q8 a b=false:=by simpa using h4
  rw[if_pos (.inr (.inr h4))] at hE
  refine wU 83 true I (by rw[h4];rfl) (wP I (Aa (zE (zR I (zA (zB ?_))))))
  refine Au Tryz.hZ tH I I I I I I I I ?_
  exact wS 2 I I I (wP I (Aa (zE (zO (zP (A4 tH I (.cell 2 I I I I I) (.tmp I) () (by rw[bsV,hE];rfl) tO fun W _=>Ap.nil _ _))))))
 rw[if_neg (by rw[h4];exact fun hh=>by rcases hh with hh|hh|hh;exact h2 hh;exact h3 hh;cases hh)] at hE
 refine wU 83 false I (by rw[h4];rfl) (wP I (Aa (zE (zS I (zI (zE (A9 ?_)))))))
 refine AZ (X:=Unit) [true,true,true,false,false] (fun _=>[(6,Ai b6),(7, .int .i64 0)]) (fun _=>[⟨b6,56,(frV f).cells.toList,true,none⟩])
   2 [⟨b3,36,[slv p rs.length cap],true,none⟩,⟨b4,38,(dmS m (Ac x') (Ac h') (Ac e') a b).cells.toList,true,none⟩,⟨b6,56,(frV f).cells.toList,false,none⟩,S.bx 97 (cellsOf rs.flatten),⟨bS,25,[str (Ac x'),str (Ac h'),str (Ac e')],true,none⟩,F.bx 56 (frC (E3 rs)),⟨b12,56,(frV f).cells.toList,true,none⟩] Tryz.mixed (by kernel_rfl) ?_ ?_
 ·refine qB 6 I I I (qP I (qC I I (fun W1 hp=>GZ W1 none 0 [] (.inl I) (by decide) (fun y hy=>absurd hy List.not_mem_nil) (hv.hp hp) (ht.hp hp)) (Ca (wX (wZ (wS 2 I I I (Aa (Ah (wX (wZ (wP I (Aa (Ah ?_)))))))))))))
  refine AF I (by((repeat (first|refine AK.same ?_|refine AK.off I ?_));exact tO)) ?_
  exact Az () ⟨I,I,tO⟩ [2] (by decide) I
 intro _
 exact zE (zO (A4 tH rfl (.cell 0 rfl rfl rfl rfl rfl) (.tmp rfl) () (by rw[bsV,hE,if_pos rfl];subst hf;rfl) trivial fun W _=>Ap.nil _ _))
-- BOXES 8
-- CODE2
structure VC (rs:List (List Sd)) (s:Int) (x h e:List UInt8) (a b:Int) (f:FrP) (x' h' e':Rat):Prop where
 s0:0≤s
 s1:s<tot rs
 hf:f=frs rs s.toNat
 hx:x=Ac x'
 hh:h=Ac h'
 he:e=Ac e'
 zx:szQ x' 8
 zh:szQ h' 8
 ze:szQ e' 8
 go:f.Go
 h0:0<h'
 e0:f.st≤e'
 ha:1≤a∧a≤48
 hb:1≤b∧b≤48
 v:bsV rs s x h e a b=frV f
theorem X2 {rs:List (List Sd)} (hc:chk rs=0) {s a b:Int} {x h e:List UInt8} (hE:bsE rs s x h e a b=0) (lx:x.length≤8) (lh:h.length≤8) (le:e.length≤8): ∃f x' h' e',VC rs s x h e a b f x' h' e':=by
 have hV:bsV rs s x h e a b=frV (frs rs s.toNat):=by rw[bsV,if_pos hE]
 unfold bsE at hE
 by_cases h1:s<0∨(tot rs:Int)≤s
 ·rw[if_pos h1] at hE;cases hE
 rw[if_neg h1] at hE
 by_cases h2:(flt rs s.toNat).gable=true
 ·rw[if_pos h2] at hE;cases hE
 rw[if_neg h2] at hE
 by_cases h3:ner [x,h,e]=0
 rotate_left
 ·rw[if_pos h3] at hE;exact absurd hE h3
 rw[if_neg (fun h=>h h3)] at hE
 by_cases h4:rdQ h≤0∨rdQ e<(frs rs s.toNat).st∨Q8 a b=false
 ·rw[if_pos h4] at hE;cases hE
 have hzm:=Jv h3
 obtain⟨x',_,rfl⟩:=EY (hzm x (by simp))
 obtain⟨h',_,rfl⟩:=EY (hzm h (by simp))
 obtain⟨e',_,rfl⟩:=EY (hzm e (by simp))
 rw[IG,IG] at h4
 have hp:Q8 a b=true:=by
  cases hp:Q8 a b with
  |true=>rfl
  |false=>exact absurd (.inr (.inr hp)) h4
 have hp:=of_decide_eq_true hp
 exact⟨_,x',h',e',by omega,by omega,I,I,I,I,DW lx (by decide),DW lh (by decide),DW le (by decide),Ur hc (by omega) (by simpa using h2),
  Rat.not_le.1 fun h=>h4 (.inl h),Rat.not_lt.1 fun h=>h4 (.inr (.inl h)),⟨hp.1,hp.2.1⟩,⟨hp.2.2.1,hp.2.2.2⟩,hV⟩
theorem LD (W:World) (p:Option Addr) (cap:Nat) (rs:List (List Sd)) (hn:rs.length<4611686018427387904) (hR:Bh W p rs) (hc:chk rs=0) (hd:Gy W) (hv:AE W) (ht:A6 W)
  (s a b:Int) (x h e:List UInt8) (hx:x.length≤8) (hh:h.length≤8) (he:e.length≤8) (hE:bsE rs s x h e a b≠0):
  Ad Tryz.prog 14 #[CN p rs.length cap,dmS s x h e a b] W (fun _:Unit=> .tuple #[str [], .agg #[str [],str [],str []], .int .i64 (bsE rs s x h e a b)]) (fun _=>True) (fun _=>[]):=by
 have hV:bsV rs s x h e a b= .agg #[.bool false, .int .i64 0, .int .i64 0,str [],str []]:=if_neg hE
 refine Ab (args:=[CN p rs.length cap,dmS s x h e a b]) Tryz.func14 I I I ?_
 refine zA (zB ?_)
 (refine Al rfl rfl rfl rfl ?_;intro)
 (refine Al rfl rfl rfl rfl ?_;intro)
 refine wP I ?_
 (refine Ae Tryz.hZ rfl rfl rfl rfl ?_;intro)
 refine wP I (Aa (zE (zA (zB (wB 0 I I I (wB 1 I I I (wC I I (fun W1 hp=>(F2 W1 p cap rs hn (hR.hp hp) hc (hd.hp hp) (hv.hp hp) (ht.hp hp) s a b x h e hx hh he).cast (by rw[hV])) (wP I (wP I (wP I ?_))))))))))
 (refine Ae Tryz.hZ rfl rfl rfl rfl ?_;intro)
 refine wS 3 I I I (wP I (Aa (zE (zA (zA (zB (wP I (wP I (wU 18 true I (bne_iff_ne.2 hE) (Aa (zE (zR I (zA ?_)))))))))))))
 refine zB ?_
 refine Au Tryz.hZ tH I I I I I I I I ?_
 exact wP I (wP I (wS 2 I I I (wP I (Aa (zE (zO (zP (N9 tH I (.tmp I) (.cell 2 I I I I I) (.tmp I) () I tO fun W _=>Ap.nil _ _))))))))
def RF (h e:Rat) (a b:Int):Rat:=e+h*nrm a b
theorem Fa (W:World) (p:Option Addr) (cap:Nat) (rs:List (List Sd)) (hn:rs.length<4611686018427387904) (hR:Bh W p rs) (hc:chk rs=0) (hd:Gy W) (hv:AE W) (ht:A6 W)
  (s a b:Int) (x h e:List UInt8) (hx:x.length≤8) (hh:h.length≤8) (he:e.length≤8) (hE:bsE rs s x h e a b=0) (f:FrP) (x' h' e':Rat) (ho:VC rs s x h e a b f x' h' e'):
  Ad Tryz.prog 14 #[CN p rs.length cap,dmS s x h e a b] W (fun _:Unit=> .tuple #[str (Ac (RF h' e' a b)),f.spot x' ((RF h' e' a b-f.st)*f.sp), .int .i64 0]) (fun _=>True) (fun _=>[]):=by
 have hV:=ho.v
 obtain⟨_,_,_,rfl,rfl,rfl,zx,zh,ze,hgo,_,_,ha,hb,_⟩:=ho
 obtain⟨z,hz⟩: ∃z,z=RF h' e' a b:=⟨_,rfl⟩
 have zz:szQ z 19:=by rw[hz];exact ze.add (zh.mul (FR ha hb))
 rw[←hz]
 refine Ab (args:=[CN p rs.length cap,dmS s (Ac x') (Ac h') (Ac e') a b]) Tryz.func14 I I I ?_
 refine zA (zB ?_)
 (refine Al rfl rfl rfl rfl ?_;intro)
 (refine Al rfl rfl rfl rfl ?_;intro)
 refine wP I ?_
 (refine Ae Tryz.hZ rfl rfl rfl rfl ?_;intro)
 refine wP I (Aa ?_)
 rename_i b2 b3 b5
 refine zE (zA (zB (wB 0 I I I (wB 1 I I I (wC I I (fun W1 hp=>(F2 W1 p cap rs hn (hR.hp hp) hc (hd.hp hp) (hv.hp hp) (ht.hp hp) s a b (Ac x') (Ac h') (Ac e') hx hh he).cast (v':= .tuple #[frV f, .int .i64 0]) (by rw[hV,hE])) (wP I (wP I (wP I ?_))))))))
 (refine Ae Tryz.hZ rfl rfl rfl rfl ?_;intro)
 refine wS 3 I I I (wP I (Aa ?_))
 rename_i b7
 refine zE (zA (zA (zB (wP I (wP I (Aa (zE (zS I (zI (zE (zA (zB (wB 1 I I I ?_)))))))))))))
 refine wC I I (fun W1 hp=>(OG s a b (Ac x') h' e' ha hb zh ze W1 (hv.hp hp) (ht.hp hp)).cast (v':= .tuple #[str (Ac z), .int .i64 0]) (by rw[hz];rfl)) ?_
 iterate 5 refine wP I ?_
 refine Aa (zE (zA (zA (zB (wP I (wP I (Aa (zE (zS I (zI (zE (zA (zB ?_)))))))))))))
 refine wB 3 I I I (wP I (wB 1 I I I (wP I (wC I I (fun W1 hp=>JE f hgo x' z (zx.mono (by decide)) zz W1 (hv.hp hp) (ht.hp hp)) (wP I (wP I (wP I ?_)))))))
 (refine Ae Tryz.hZ rfl rfl rfl rfl ?_;intro)
 refine wS 4 I I I (wP I (Aa ?_))
 rename_i b10
 refine zE (zA (zA (zB (wP I (wP I (Aa (zE (zS I (zI (zE (A9 ?_)))))))))))
 refine AZ (X:=Unit) [true,true,true,false,false] (fun _=>[(4,str (Ac z)),(5,Ai b5),(6, .int .i64 0)]) (fun _=>[⟨b5,45,(f.spot x' ((z-f.st)*f.sp)).cells.toList,true,none⟩])
   2 [⟨b2,36,[slv p rs.length cap],true,none⟩,⟨b3,38,(dmS s (Ac x') (Ac h') (Ac e') a b).cells.toList,true,none⟩,⟨b5,45,[str [],str [],str []],false,none⟩,⟨b7,56,(frV f).cells.toList,true,none⟩,⟨b10,45,(f.spot x' ((z-f.st)*f.sp)).cells.toList,true,none⟩] Tryz.mixed (by kernel_rfl) ?_ ?_
 ·refine qP I (qB 4 I I I (qP I (Ca (wX (wZ (wS 2 I I I (Aa (Ah (wX (wZ (wP I (Aa (Ah ?_)))))))))))))
  refine AF I (by((repeat (first|refine AK.same ?_|refine AK.off I ?_));exact tO)) ?_
  exact Az () ⟨I,I,I,tO⟩ [2] (by decide) I
 intro _
 exact zE (zO (N9 tH I (.tmp I) (.cell 0 I I I I I) (.tmp I) () I tO fun W _=>Ap.nil _ _))
theorem Oq (W:World) (p:Option Addr) (cap:Nat) (rs:List (List Sd)) (hn:rs.length<4611686018427387904) (hR:Bh W p rs) (hc:chk rs=0) (hd:Gy W) (hv:AE W) (ht:A6 W)
  (s a b:Int) (x h e:List UInt8) (hx:x.length≤8) (hh:h.length≤8) (he:e.length≤8) (hE:bsE rs s x h e a b≠0):
  Ad Tryz.prog 13 #[CN p rs.length cap,dmS s x h e a b] W (fun _:Unit=> .tuple #[.slice none 0 0, .int .i64 (bsE rs s x h e a b)]) (fun _=>True) (fun _=>[]):=by
 have hV:bsV rs s x h e a b= .agg #[.bool false, .int .i64 0, .int .i64 0,str [],str []]:=if_neg hE
 refine Ab (args:=[CN p rs.length cap,dmS s x h e a b]) Tryz.func13 I I I ?_
 refine zA (zB ?_)
 (refine Al rfl rfl rfl rfl ?_;intro)
 (refine Al rfl rfl rfl rfl ?_;intro)
 refine wP I (wP I (Aa (zE (zA (zB (wB 0 I I I (wB 1 I I I (wC I I (fun W1 hp=>(F2 W1 p cap rs hn (hR.hp hp) hc (hd.hp hp) (hv.hp hp) (ht.hp hp) s a b x h e hx hh he).cast (by rw[hV])) (wP I (wP I (wP I ?_)))))))))))
 (refine Ae Tryz.hZ rfl rfl rfl rfl ?_;intro)
 refine wS 2 I I I (wP I (Aa (zE (zA (zA (zB (wP I (wP I (wU 21 true I (bne_iff_ne.2 hE) (Aa (zE (zR I (zA ?_)))))))))))))
 exact zB (wP I (wP I (wP I (Aa (zE (zO (zP (wR2 I I I))))))))
def Po (f:FrP) (x h e z:Rat):List Value:=(f.spot (x-h) ((e-f.st)*f.sp)).cells.toList++(f.spot x ((z-f.st)*f.sp)).cells.toList++(f.spot (x+h) ((e-f.st)*f.sp)).cells.toList
theorem Og (W:World) (p:Option Addr) (cap:Nat) (rs:List (List Sd)) (hn:rs.length<4611686018427387904) (hR:Bh W p rs) (hc:chk rs=0) (hd:Gy W) (hv:AE W) (ht:A6 W)
  (s a b:Int) (x h e:List UInt8) (hx:x.length≤8) (hh:h.length≤8) (he:e.length≤8) (hE:bsE rs s x h e a b=0) (f:FrP) (x' h' e':Rat) (ho:VC rs s x h e a b f x' h' e'):
  Ad Tryz.prog 13 #[CN p rs.length cap,dmS s x h e a b] W (fun g:Nat=> .tuple #[slv (some ⟨g,0,none⟩) 3 3, .int .i64 0]) (fun _=>True) (fun g=>[⟨g,45,Po f x' h' e' (RF h' e' a b),true,none⟩]):=by
 have ho2:=ho
 have hV:=ho.v
 obtain⟨_,_,_,rfl,rfl,rfl,zx,zh,ze,hgo,_,_,ha,hb,_⟩:=ho
 obtain⟨z,hz⟩: ∃z,z=RF h' e' a b:=⟨_,rfl⟩
 have zl:szQ (x'-h') 17:=zx.sub zh
 have zr:szQ (x'+h') 17:=zx.add zh
 rw[←hz]
 refine Ab (args:=[CN p rs.length cap,dmS s (Ac x') (Ac h') (Ac e') a b]) Tryz.func13 I I I ?_
 refine zA (zB ?_)
 (refine Al rfl rfl rfl rfl ?_;intro)
 (refine Al rfl rfl rfl rfl ?_;intro)
 refine wP I (wP I (Aa (zE (zA (zB (wB 0 I I I (wB 1 I I I (wC I I (fun W1 hp=>(F2 W1 p cap rs hn (hR.hp hp) hc (hd.hp hp) (hv.hp hp) (ht.hp hp) s a b (Ac x') (Ac h') (Ac e') hx hh he).cast (v':= .tuple #[frV f, .int .i64 0]) (by rw[hV,hE])) (wP I (wP I (wP I ?_)))))))))))
 (refine Ae Tryz.hZ rfl rfl rfl rfl ?_;intro)
 refine wS 2 I I I (wP I (Aa (zE (zA (zA (zB (wP I (wP I (Aa (zE (zS I (zI (zE ?_)))))))))))))
 refine zA (zB (wB 1 I I I (wC I I (fun W1 hp=>MU s a b (Ac e') x' h' zx zh W1 (hv.hp hp) (ht.hp hp)) ?_)))
 iterate 7 refine wP I ?_
 refine Aa (zE (zA (zA (zB (wP I (wP I (Aa (zE (zS I (zI (zE (zA (zB ?_)))))))))))))
 refine wB 2 I I I (wP I (wP I (wB 1 I I I (wC I I (fun W1 hp=>JE f hgo (x'-h') e' zl (ze.mono (by decide)) W1 (hv.hp hp) (ht.hp hp)) (wP I (wP I (wP I ?_)))))))
 (refine Ae Tryz.hZ rfl rfl rfl rfl ?_;intro)
 refine wS 3 I I I (wP I (Aa (zE (zA (zA (zB (wP I (wP I (Aa (zE (zS I (zI (zE ?_)))))))))))))
 refine zA (zB (wB 0 I I I (wB 1 I I I (wC I I (fun W1 hp=>(Fa W1 p cap rs hn (hR.hp hp) hc (hd.hp hp) (hv.hp hp) (ht.hp hp) s a b (Ac x') (Ac h') (Ac e') hx hh he hE f x' h' e' ho2).cast (v':= .tuple #[str (Ac z),f.spot x' ((z-f.st)*f.sp), .int .i64 0]) (by rw[hz])) (wP I (wP I (wP I (wP I ?_))))))))
 (refine Ae Tryz.hZ rfl rfl rfl rfl ?_;intro)
 refine wP I (wS 4 I I I (wP I (Aa (zE (zA (zA (zB (wP I (wP I (Aa (zE (zS I (zI ?_)))))))))))))
 refine zE (zA (zB (wB 2 I I I (wP I (wP I (wB 1 I I I (wC I I (fun W1 hp=>JE f hgo (x'+h') e' zr (ze.mono (by decide)) W1 (hv.hp hp) (ht.hp hp)) (wP I (wP I (wP I ?_))))))))))
 (refine Ae Tryz.hZ rfl rfl rfl rfl ?_;intro)
 refine wS 5 I I I (wP I (Aa (zE (zA (zA (zB (wP I (wP I (Aa (zE (zS I (zI (zE ?_)))))))))))))
 refine zA (zB (wB 3 I I I (wB 4 I I I (wB 5 I I I ?_))))
 refine As Tryz.hZ tH I I I I I I I I I I I fun bS=> ?_
 exact wP I (wP I (Aa (zE (zO (A4 tH I (.tmp I) (.tmp I) bS I tO fun W1 hp=>Ap.of_hp (hp.pick (l:=[⟨bS,45,Po f x' h' e' z,true,none⟩]) [6] (by decide) I))))))
-- BOXES 5
-- CODE2
def sqS (x y:Int):Sd:=⟨x,y,1,1,false,0,0⟩
def sqL:List Sd:=[sqS 0 0,sqS 10 0,sqS 10 10,sqS 0 10]
def stL:List Value:=[.int .i64 0,str (Ac 0),str (Ac 5),str (Ac 0),str (Ac 10),str (Ac 5),str (Ac 5)]
abbrev F1 (r t:Nat):Value:= .agg #[slv (some ⟨r,0,none⟩) 1 1,slv (some ⟨t,0,none⟩) 1 1, .slice none 0 0, .slice none 0 0]
theorem F4 (x y:Int) (W:World):Ad Tryz.prog 99 #[.int .i64 x, .int .i64 y] W (fun _:Unit=>(sqS x y).val) (fun _=>True) (fun _=>[]):=by
 refine Ab (args:=[.int .i64 x, .int .i64 y]) Tryz.func99 I I I ?_
 refine zA (zB ?_)
 (refine Ae Tryz.hZ rfl rfl rfl rfl ?_;intro)
 refine Aa (zE (zA (zB (wP I (wP I ?_)))))
 refine Au Tryz.hZ tH I I I I I I I I ?_
 exact wS 0 I I I (Aa (zE (zO (Aw tH I (.cell 0 I I I I I) () I tO fun W _=>Ap.nil _ _))))
theorem XK:stL=[.int .i64 0,str [48],str [53],str [48],str [49,48],str [53],str [53]]:=by
 have h0:Ac 0=[48]:=by decide+kernel
 have h5:Ac 5=[53]:=by decide+kernel
 have h10:Ac 10=[49,48]:=by decide+kernel
 unfold stL
 rw[h0,h5,h10]
theorem EN (W:World):Ad Tryz.prog 37 #[] W (fun x:Nat×Nat×Nat=>F1 x.2.1 x.2.2) (fun _=>True)
  (fun x=>[⟨x.1,97,cellsOf sqL,true,none⟩,⟨x.2.1,94,[slv (some ⟨x.1,0,none⟩) 4 4],true,none⟩,⟨x.2.2,145,stL,true,none⟩]):=by
 refine Ab (args:=[]) Tryz.func37 I I I ?_
 refine zA (zB ?_)
 (refine Ae Tryz.hZ rfl rfl rfl rfl ?_;intro)
 refine Aa (zE (zA (zB (wP I (Aa (zE (zA (zB (wP I ?_)))))))))
 refine Bc (capt:=[]) I I I I I I (by kernel_rfl) (fun W _=>F4 0 0 W) ?_
 refine wP I ?_
 refine Bc (capt:=[]) I I I I I I (by kernel_rfl) (fun W _=>F4 10 0 W) ?_
 refine wP I ?_
 refine Bc (capt:=[]) I I I I I I (by kernel_rfl) (fun W _=>F4 10 10 W) ?_
 refine wP I ?_
 refine Bc (capt:=[]) I I I I I I (by kernel_rfl) (fun W _=>F4 0 10 W) ?_
 refine As Tryz.hZ tH I I I I I I I I I I I fun bS=> ?_
 refine As Tryz.hZ tH I I I I I I I I I I I fun bR=> ?_
 iterate 2 refine Au Tryz.hZ tH I I I I I I I I ?_
 refine As Tryz.hZ tH I I I I I I I I I I I fun bT=> ?_
 refine Au Tryz.hZ tH I I I I I I I I ?_
 refine wS 0 I I I (Aa (zE (zO ?_)))
 refine Aw tH I (.cell 0 I I I I I) (bS,bR,bT) I tO fun W1 hp=> ?_
 exact Ap.of_hp (hp.pick (l:=[⟨bS,97,cellsOf sqL,true,none⟩,⟨bR,94,[slv (some ⟨bS,0,none⟩) 4 4],true,none⟩,⟨bT,145,stL,true,none⟩]) [1,2,3] (by decide) (by rw[XK];rfl))
theorem Da {W0 W:World} {bxs:List Bx} (hp:Hp W0 bxs W) (i k:Nat) {bS bR:Nat} (h1:nth bxs i=some ⟨bS,97,cellsOf sqL,true,none⟩) (h2:nth bxs k=some ⟨bR,94,[slv (some ⟨bS,0,none⟩) 4 4],true,none⟩):
  Bh W (some ⟨bR,0,none⟩) [sqL]:=by
 have r1:=Ag.of_bx hp i h1 rfl
 have r2:=Ag.of_bx hp k h2 rfl
 refine .inr ⟨bR,0,I,⟨fun j l hl=> ?_⟩⟩
 have hj:j=0:=by have:=(List.getElem?_eq_some_iff.1 hl).1;simpa using this
 subst hj
 obtain rfl:sqL=l:=by simpa using hl
 exact⟨some ⟨bS,0,none⟩,4,r2, .inr ⟨bS,0,I,FN.of_cells r1.lt fun j u hj=>r1.get j u hj⟩⟩
theorem Is:chk [sqL]=0:=by decide+kernel
-- BOXES 4
-- CODE2
theorem CC (p q:Rat) (h:Sz2 p q) (W:World) (hv:AE W) (ht:A6 W):
  Ad Tryz.prog 238 #[str (Ac p),str (Ac q)] W (fun _:Unit=> .int .i64 (C9 p q)) (fun _=>True) (fun _=>[]):=by
 refine Ab (args:=[str (Ac p),str (Ac q)]) Tryz.func238 I I I ?_
 refine zA (zB (wP I (Aa (zE (zA (zA (zB (wP I (wP I ?_)))))))))
 by_cases e:p=q
 ·subst e
  exact wP I (wU 9 true I (XJ _ _ I) (Aa (zE (zR I (zA (zB (wP I (Aa (zE (zO (zP (wR1 I I (by rw[show C9 p p=0 by unfold C9;rw[if_neg (Rat.lt_irrefl),if_pos I]])))))))))))))
 refine wP I (wU 9 false I ((AX _ _).trans (dF fun h=>e (IE.1 h))) (Aa (zE (zS I (zI (zE (zA (zB (wP I (wP I (wC I I (fun W hp=>(DR p q h W (hv.hp hp) (ht.hp hp)).cast (by rw[Mw])) ?_)))))))))))
 iterate 5 refine wP I ?_
 exact Aa (zE (zA (zB (wP I (wP I (Aa (zE (zO (wR1 I I I)))))))))
theorem NZ (q:Rat) (h:szQ q 36) (W:World) (hv:AE W) (ht:A6 W):
  Ad Tryz.prog 336 #[str (Ac q)] W (fun _:Unit=> .bool false) (fun _=>True) (fun _=>[]):=by
 have hk:=h.ok (by decide)
 have l1:=D2 36 q.num.natAbs (by decide) h.1
 have l2:=D2 36 q.den (by decide) h.2
 refine Ab (args:=[str (Ac q)]) Tryz.func336 I I I ?_
 refine zA (zB (wP I (Aa (zE (zA (zB (wP I (wC I I (fun W hp=>EE q hk W (hv.hp hp) (ht.hp hp)) ?_))))))))
 iterate 7 refine wP I ?_
 refine Aa (zE (zA (zB (wP I (wC I I (fun W _=>(BA (itoa q.num) [45] W).cast (by rw[AQ])) (wP I ?_))))))
 refine Ay 14 (.int .i64 ((decDigits q.num.natAbs).length:Nat)) I (congrArg (fun n:Nat=>Value.int .i64 (n:Int)) (AN _)) ?_
 refine wP I (wP I ?_)
 refine Ay 16 (.int .i64 ((decDigits q.den).length:Nat)) I (congrArg (fun n:Nat=>Value.int .i64 (n:Int)) ((AN _).trans (by rw[OA]))) ?_
 refine wP I (wP I ?_)
 refine Ay 18 (.bool false) I (congrArg Value.bool (dF (by
  show¬((if _>_ then _ else _)>_)
  split<;>omega))) ?_
 exact wP I (Aa (zE (zO (wR1 I I I))))
theorem KT (q:Rat) (h:szQ q 36) (W:World) (hv:AE W) (ht:A6 W):
  Ad Tryz.prog 290 #[str (Ac q)] W (fun _:Unit=> .int .i64 0) (fun _=>True) (fun _=>[]):=by
 have hk:=h.ok (by decide)
 have hl:=AO hk
 refine Ab (args:=[str (Ac q)]) Tryz.func290 I I I ?_
 refine zA (zB (wP I (Aa (zE (zA (zA (zB (wP I (wC I I (fun W hp=>(Bu (Ac q) (by omega) W (hv.hp hp) (ht.hp hp)).cast (by rw[Di hk])) (wP I (Aa (zE (zA ?_)))))))))))))
 refine zB (wP I (wP I (Aa (zE (zS I (zI (zE (zA (zA (zB (wP I (wC I I (fun W hp=>NZ q h W (hv.hp hp) (ht.hp hp)) (Aa ?_)))))))))))))
 exact zE (zS I (zI (zE (zA (zB (wP I (Aa (zE (zO (wR1 I I I))))))))))
structure StR where
 z0:Rat
 z1:Rat
 a:Rat
 b:Rat
 c:Rat
 d:Rat
abbrev StR.nums (S:StR):List Rat:=[S.z0,S.z1,S.a,S.b,S.c,S.d]
abbrev stV (s:Int) (S:StR):Value:= .agg #[.int .i64 s,str (Ac S.z0),str (Ac S.z1),str (Ac S.a),str (Ac S.b),str (Ac S.c),str (Ac S.d)]
structure StR.OK (S:StR):Prop where
 z: ∀q∈S.nums,szQ q 8
 h1:S.z0<S.z1
 h2:S.a<S.b
 h3:S.c≤S.d
theorem M5 (s:Int) (S:StR) (h:S.OK) (W:World) (hv:AE W) (ht:A6 W):
  Ad Tryz.prog 237 #[stV s S] W (fun _:Unit=> .bool true) (fun _=>True) (fun _=>[]):=by
 obtain⟨hz,h1,h2,h3⟩:=h
 have z0:=hz S.z0 (by simp)
 have z1:=hz S.z1 (by simp)
 have za:=hz S.a (by simp)
 have zb:=hz S.b (by simp)
 have zc:=hz S.c (by simp)
 have zd:=hz S.d (by simp)
 refine Ab (args:=[stV s S]) Tryz.func237 I I I ?_
 refine zA (zB ?_)
 (refine Al rfl rfl rfl rfl ?_;intro)
 refine wP I (Aa ?_)
 rename_i b1
 refine zE (zA (zA (zB (wP I (wB 0 I I I (wP I (wB 0 I I I (wP I (wB 0 I I I (wP I (wB 0 I I I (wP I (wB 0 I I I ?_)))))))))))))
 refine wP I (wB 0 I I I ?_)
 refine As Tryz.hZ tH I I I I I I I I I I I fun bS=> ?_
 refine wP I (wP I (Aa (zE (zH ?_))))
 refine At (X:=Nat) (fun i=>[(1,Ai b1),(2, .bool false),(17, .slice (some ⟨bS,0,none⟩) 6 6),(18, .int .i64 6),(19, .int .i64 (i:Nat))]) (fun _=>[⟨b1,145,(stV s S).cells.toList,true,none⟩,⟨bS,25,S.nums.map fun q=>str (Ac q),true,none⟩]) (fun i=>i≤6) (fun i=>6-i) 0 (Nat.zero_le _) ⟨I,I,I,I,I,tO⟩ [] I ?_
 intro i hi
 have hi:i≤6:=hi
 refine zA (zB (wP I ?_))
 by_cases hlt:i<6
 ·refine wU 20 true I (dT (by omega)) (Aa (zE (zA (zR I (zI (zE (zA (zH (zA (zB ?_))))))))))
  have hl:i<S.nums.length:=hlt
  have hq:=hz S.nums[i] (List.getElem_mem hl)
  obtain⟨q,hqe⟩: ∃q,q=S.nums[i]:=⟨_,rfl⟩
  rw[←hqe] at hq
  have hrow: ∀ {W0 W:World} {bxs:List Bx},Hp W0 bxs W→nth bxs 1=some ⟨bS,25,S.nums.map fun q=>str (Ac q),true,none⟩→Ag W bS (0+i*1) [str (Ac q)]:=fun hp h1=>by
   have r:=Ag.of_bx hp 1 h1 rfl
   refine⟨r.lt,fun j u hu=> ?_⟩
   have hj:j=0:=by have:=(List.getElem?_eq_some_iff.1 hu).1;simpa using this
   subst hj
   have h2:=r.get i (str (Ac q)) (by show(S.nums.map fun q=>str (Ac q))[i]? =_;rw[List.getElem?_map,List.getElem?_eq_getElem hl,hqe];rfl)
   rw[Nat.mul_one,Nat.add_zero,h2]
   simpa using hu
  refine wJ ?_
  refine wL 0 I I (fun W1 hp=>hrow hp I) I (wP I (Aa (zE (zA (zB (wP I (wC I I (fun W1 hp=>KT q (hq.mono (by decide)) W1 (hv.hp hp) (ht.hp hp)) (wP I (Aa (zE (zS I (zI (zN ?_)))))))))))))
  exact zE (zB (wP I (wV 26 ((i+1:Nat):Int) I (A0 (by omega)) (wP I (Aa (Ak (i+1) hlt (by show 6-(i+1)<6-i;omega) ⟨I,I,I,I,I,tO⟩ [] I))))))
 refine wU 20 false I (dF (by omega)) (Aa (zE (zA (zS I (zJ (zK (zK (zL (zE (zA (zB (wP I (wB 0 I I I ?_)))))))))))))
 refine wP I (wB 0 I I I (wC I I (fun W1 hp=>CC S.z0 S.z1 (sz2 z0 z1 (by decide)) W1 (hv.hp hp) (ht.hp hp)) (wP I (wU 32 true I ((BT _ _).trans (dT h1)) (wP I (wP I (wB 0 I I I (wP I (wB 0 I I I (wC I I (fun W1 hp=>CC S.a S.b (sz2 za zb (by decide)) W1 (hv.hp hp) (ht.hp hp)) (wP I (wU 39 true I ((BT _ _).trans (dT h2)) (wP I (wP I (wP I ?_)))))))))))))))
 exact wB 0 I I I (wP I (wB 0 I I I (wC I I (fun W1 hp=>CC S.c S.d (sz2 zc zd (by decide)) W1 (hv.hp hp) (ht.hp hp)) (wP I (wU 47 true I ((IC _ _).trans (dT h3)) (wP I (wP I (Aa (zE (zO (wR1 I I I)))))))))))
theorem Ib (f:FrP) (hf:f.Go) (s:Int) (S:StR) (h:S.OK) (hs:f.st≤S.z0) (W:World) (hv:AE W) (ht:A6 W):
  Ad Tryz.prog 171 #[frV f,stV s S] W (fun _:Unit=> .int .i64 0) (fun _=>True) (fun _=>[]):=by
 have z0:=h.z S.z0 (by simp)
 refine Ab (args:=[frV f,stV s S]) Tryz.func171 I I I ?_
 refine zA (zB ?_)
 (refine Al rfl rfl rfl rfl ?_;intro)
 (refine Al rfl rfl rfl rfl ?_;intro)
 refine wP I (Aa (zE (zA (zA (zB (wB 0 I I I (wC I I (fun W1 hp=>G7 f hf.ok W1 (hv.hp hp) (ht.hp hp)) (wP I (wP I (wB 1 I I I (wC I I (fun W1 hp=>M5 s S h W1 (hv.hp hp) (ht.hp hp)) (wP I (wP I ?_)))))))))))))
 refine Aa (zE (zS I (zI (zE (zA (zA (zB (wP I (wB 0 I I I (wP I (wU 15 false I ((AX _ _).trans ((Qj f.sp).trans (dF hf.h0))) (wP I (wP I ?_)))))))))))))
 refine wB 0 I I I (wP I (wB 1 I I I (wC I I (fun W1 hp=>CC f.st S.z0 (sz2 hf.st z0 (by decide)) W1 (hv.hp hp) (ht.hp hp)) (wP I (wU 22 false I ((Mc _ _).trans (dF (Rat.not_lt.2 hs))) (wP I (Aa (zE (zS I (zI (zE (zA (zB ?_)))))))))))))
 exact wP I (Aa (zE (zO (wR1 I I I))))
-- BOXES 4
-- CODE2
theorem PF (p q:Rat) (h:Sz2 p q) (W:World) (hv:AE W) (ht:A6 W):
  Ad Tryz.prog 174 #[str (Ac p),str (Ac q)] W (fun _:Unit=>str (Ac (p+q))) (fun _=>True) (fun _=>[]):=by
 refine Ab (args:=[str (Ac p),str (Ac q)]) Tryz.func174 I I I ?_
 refine zA (zB (wP I (Aa (zE (zA (zB (wP I (wP I (wC I I (fun W hp=>Cp p q h W (hv.hp hp) (ht.hp hp)) ?_)))))))))
 iterate 5 refine wP I ?_
 exact Aa (zE (zA (zB (wP I (wP I (Aa (zE (zO (wR1 I I I)))))))))
theorem Hn (p q:Rat) (h:Sz2 p q) (W:World) (hv:AE W) (ht:A6 W):
  Ad Tryz.prog 173 #[str (Ac p),str (Ac q)] W (fun _:Unit=>str (Ac (p-q))) (fun _=>True) (fun _=>[]):=by
 refine Ab (args:=[str (Ac p),str (Ac q)]) Tryz.func173 I I I ?_
 refine zA (zB (wP I (Aa (zE (zA (zB (wP I (wP I (wC I I (fun W hp=>Cm p q h W (hv.hp hp) (ht.hp hp)) ?_)))))))))
 iterate 5 refine wP I ?_
 exact Aa (zE (zA (zB (wP I (wP I (Aa (zE (zO (wR1 I I I)))))))))
theorem QI (p q:Rat) (h:Sz2 p q) (W:World) (hv:AE W) (ht:A6 W):
  Ad Tryz.prog 172 #[str (Ac p),str (Ac q)] W (fun _:Unit=>str (Ac (p*q))) (fun _=>True) (fun _=>[]):=by
 refine Ab (args:=[str (Ac p),str (Ac q)]) Tryz.func172 I I I ?_
 refine zA (zB (wP I (Aa (zE (zA (zB (wP I (wP I (wC I I (fun W hp=>Ch p q h W (hv.hp hp) (ht.hp hp)) ?_)))))))))
 iterate 5 refine wP I ?_
 exact Aa (zE (zA (zB (wP I (wP I (Aa (zE (zO (wR1 I I I)))))))))
def StR.area (S:StR) (f:FrP):Rat:=(S.b-S.a+(S.d-S.c))*(f.sp*(S.z1-S.z0))*(1/2)
theorem TH:Ac (1/2)=[49,47,50]:=by decide+kernel
theorem NN (f:FrP) (hf:f.Go) (s:Int) (S:StR) (h:S.OK) (hs:f.st≤S.z0) (W:World) (hv:AE W) (ht:A6 W):
  Ad Tryz.prog 103 #[frV f,stV s S] W (fun _:Unit=> .tuple #[str (Ac (S.area f)), .int .i64 0]) (fun _=>True) (fun _=>[]):=by
 have z0:=h.z S.z0 (by simp)
 have z1:=h.z S.z1 (by simp)
 have za:=h.z S.a (by simp)
 have zb:=h.z S.b (by simp)
 have zc:=h.z S.c (by simp)
 have zd:=h.z S.d (by simp)
 have zw:=z1.sub z0
 have zm:=hf.sp.mul zw
 have zs:=(zb.sub za).add (zd.sub zc)
 have zn:=zs.mul zm
 have zh:szQ (1/2:Rat) 1:=by unfold szQ;decide+kernel
 refine Ab (args:=[frV f,stV s S]) Tryz.func103 I I I ?_
 refine zA (zB ?_)
 (refine Al rfl rfl rfl rfl ?_;intro)
 (refine Al rfl rfl rfl rfl ?_;intro)
 refine wP I (wP I (Aa (zE (zA (zA (zB (wB 0 I I I (wB 1 I I I (wC I I (fun W1 hp=>Ib f hf s S h hs W1 (hv.hp hp) (ht.hp hp)) (wP I (Aa (zE (zA ?_)))))))))))))
 refine zB (wP I (wP I (Aa (zE (zS I (zI (zE (zA (zU (qP I (qB 0 I I I (qP I (qB 1 I I I ?_)))))))))))))
 refine qP I (qB 1 I I I (qC I I (fun W1 hp=>Hn S.z1 S.z0 (sz2 z1 z0 (by decide)) W1 (hv.hp hp) (ht.hp hp)) (qC I I (fun W1 hp=>QI f.sp (S.z1-S.z0) (sz2 hf.sp zw (by decide)) W1 (hv.hp hp) (ht.hp hp)) (qP I (A7 (Aa (zE (zA (zU (qP I (qB 1 I I I (qP I (qB 1 I I I ?_)))))))))))))
 refine qC I I (fun W1 hp=>Hn S.b S.a (sz2 zb za (by decide)) W1 (hv.hp hp) (ht.hp hp)) (qP I (qB 1 I I I (qP I (qB 1 I I I (qC I I (fun W1 hp=>Hn S.d S.c (sz2 zd zc (by decide)) W1 (hv.hp hp) (ht.hp hp)) (qC I I (fun W1 hp=>PF (S.b-S.a) (S.d-S.c) (sz2 (zb.sub za) (zd.sub zc) (by decide)) W1 (hv.hp hp) (ht.hp hp)) (qP I (qC I I (fun W1 hp=>Ch (S.b-S.a+(S.d-S.c)) (f.sp*(S.z1-S.z0)) (sz2 zs zm (by decide)) W1 (hv.hp hp) (ht.hp hp)) ?_))))))))
 iterate 5 refine qP I ?_
 refine A7 (Aa (zE (zA (zA (zB (wP I (wP I (Aa (zE (zS I (zI (zE (zA ?_)))))))))))))
 refine zB (wP I ?_)
 refine wC I I (fun W1 hp=>(show Ad Tryz.prog 18 #[str (Ac ((S.b-S.a+(S.d-S.c))*(f.sp*(S.z1-S.z0)))),str [49,47,50]] W1 (fun _:Unit=> .tuple #[str (Ac (S.area f)), .int .i64 0]) (fun _=>True) (fun _=>[]) by
  have h2:=Ch ((S.b-S.a+(S.d-S.c))*(f.sp*(S.z1-S.z0))) (1/2) (sz2 zn zh (by decide)) W1 (hv.hp hp) (ht.hp hp)
  rw[TH] at h2
  exact h2)) ?_
 exact wP I (wP I (wP I (wP I (Aa (zE (zO (wR2 I I I)))))))
end
section
theorem Ew (a b:Rat):a<b∨b≤a:=by grind
abbrev An:=Rat×Rat
def Ey (p q r:An):Rat:=(q.1-p.1)*(r.2-p.2)-(q.2-p.2)*(r.1-p.1)
def QM (t:Rat) (p q:An):An:=(p.1+t*(q.1-p.1),p.2+t*(q.2-p.2))
structure DX where
 a:Rat
 b:Rat
 c:Rat
def DX.at (f:DX) (p:An):Rat:=f.a*p.1+f.b*p.2-f.c
theorem Mn (p q r:An):Ey p q r=Ey q r p:=by unfold Ey;grind
theorem VU (p q:An):Ey p p q=0:=by unfold Ey;grind
theorem Wr (p q:An):Ey p q q=0:=by unfold Ey;grind
theorem VW (p q:An):Ey p q p=0:=by unfold Ey;grind
theorem Xz (p q:An):QM 0 p q=p:=by unfold QM;ext<;>grind
theorem IU {a b:Rat} (ha:0<a) (h:0<a*b):0<b:=by
 rcases Ew 0 b with h1|h1
 ·exact h1
 ·have:=Rat.mul_le_mul_of_nonneg_left h1 (Rat.le_of_lt ha)
  grind
structure Fq (P:Nat→An) (n:Nat):Prop where
 n3:3≤n
 cl:P n=P 0
 tri: ∀i j k,i<j→j<k→k<n→0<Ey (P i) (P j) (P k)
theorem Fq.str {P:Nat→An} {n:Nat} (h:Fq P n) {i j k:Nat} (h1:i<j) (h2:j<k) (h3:k≤n) (h4: ¬(i=0∧k=n)):0<Ey (P i) (P j) (P k):=by
 by_cases e:k=n
 ·subst e
  rw[h.cl, ←Mn]
  exact h.tri 0 i j (by omega) h1 h2
 ·exact h.tri i j k h1 h2 (by omega)
theorem Fq.nn {P:Nat→An} {n:Nat} (h:Fq P n) {i j k:Nat} (h1:i≤j) (h2:j≤k) (h3:k≤n):0≤Ey (P i) (P j) (P k):=by
 by_cases a:i=j
 ·subst a;rw[VU];grind
 by_cases b:j=k
 ·subst b;rw[Wr];grind
 by_cases c:i=0∧k=n
 ·obtain⟨rfl,rfl⟩:=c;rw[h.cl,VW];grind
 exact Rat.le_of_lt (h.str (by omega) (by omega) h3 c)
theorem Fq.side {P:Nat→An} {n:Nat} (h:Fq P n) {i k:Nat} (hi:i<n) (hk:k≤n):0≤Ey (P i) (P (i+1)) (P k):=by
 rcases Nat.lt_or_ge i k with a|a
 ·exact h.nn (by omega) (by omega) hk
 ·rw[←Mn];exact h.nn a (by omega) (by omega)
theorem Fq.sideS {P:Nat→An} {n:Nat} (h:Fq P n) {i k:Nat} (hi:i<n) (hk:k<n) (h1:k≠i) (h2:k≠i+1) (h3: ¬(k=0∧i+1=n)):0<Ey (P i) (P (i+1)) (P k):=by
 rcases Nat.lt_or_ge i k with a|a
 ·exact h.str (by omega) (by omega) (by omega) (by omega)
 ·rw[←Mn];exact h.str (by omega) (by omega) (by omega) (by omega)
abbrev Vz:=Nat×Rat
def SG (P:Nat→An) (k:Vz):An:=QM k.2 (P k.1) (P (k.1+1))
def Tc (P:Nat→An) (n:Nat) (f:DX) (k:Vz):Prop:=k.1<n∧(k.2=0∧f.at (P k.1)≤0∨f.at (P k.1)*f.at (P (k.1+1))<0∧k.2=f.at (P k.1)/(f.at (P k.1)-f.at (P (k.1+1))))
theorem Tc.cut {P:Nat→An} {n i:Nat} {f:DX} (hi:i<n) (h:f.at (P i)*f.at (P (i+1))<0):Tc P n f (i,f.at (P i)/(f.at (P i)-f.at (P (i+1)))):=⟨hi,Or.inr ⟨h,rfl⟩⟩
theorem Tt {u v:Rat} (h:u*v<0):0<u/(u-v)∧u/(u-v)<1∧(1-u/(u-v))*u+u/(u-v)*v=0:=by
 have hd:u-v≠0:=by
  intro e
  have e2:u=v:=by grind
  subst e2
  have:0≤u*u:=by
   rcases Ew u 0 with a|a
   ·have:=Rat.mul_pos (show 0< -u by grind) (show 0< -u by grind)
    grind
   ·exact Rat.mul_nonneg a a
  grind
 have e:u/(u-v)*(u-v)=u:=Rat.div_mul_cancel hd
 have key:0<u/(u-v)∧u/(u-v)<1:=by
  rcases Ew 0 (u-v) with a|a
  ·have u0:0<u:=by
    rcases Ew 0 u with b|b
    ·exact b
    ·exfalso
     have:=Rat.mul_nonneg (show 0≤ -u by grind) (show 0≤ -v by grind)
     grind
   have v0:v<0:=by
    rcases Ew v 0 with b|b
    ·exact b
    ·exfalso
     have:=Rat.mul_nonneg (Rat.le_of_lt u0) b
     grind
   constructor
   ·exact IU a (by grind)
   ·have:0<1-u/(u-v):=IU a (by grind)
    grind
  ·have b:u-v<0:=by grind
   have u0:u<0:=by
    rcases Ew u 0 with b|b
    ·exact b
    ·exfalso
     have:=Rat.mul_nonneg b (show 0≤v by grind)
     grind
   have v0:0<v:=by
    rcases Ew 0 v with b|b
    ·exact b
    ·exfalso
     have:=Rat.mul_nonneg (show 0≤ -u by grind) (show 0≤ -v by grind)
     grind
   constructor
   ·exact IU (show 0< -(u-v) by grind) (by grind)
   ·have:0<1-u/(u-v):=IU (show 0< -(u-v) by grind) (by grind)
    grind
 refine⟨key.1,key.2,by grind⟩
end
section
def Ao (l:List An) (i:Nat):An:=(l[i%l.length]?).getD (0,0)
theorem CS {l:List An} {i:Nat} (h:i<l.length):Ao l i=l[i]:=by
 unfold Ao;rw[Nat.mod_eq_of_lt h,List.getElem?_eq_getElem h];rfl
theorem JY (l:List An) (i:Nat):Ao l (i%l.length)=Ao l i:=by
 unfold Ao;simp
def HI (l:List An):Prop:=Fq (Ao l) l.length
def Dv (P:Nat→An) (n:Nat) (f:DX):List Vz:=(List.range n).flatMap fun i=>
 (if f.at (P i)≤0 then[(i,0)] else[])++(if f.at (P i)*f.at (P (i+1))<0 then[(i,f.at (P i)/(f.at (P i)-f.at (P (i+1))))] else[])
theorem D6 {P:Nat→An} {n:Nat} {f:DX} (k:Vz):k∈Dv P n f↔Tc P n f k:=by
 unfold Dv Tc
 rw[List.mem_flatMap]
 constructor
 ·rintro⟨i,hi,hk⟩
  rw[List.mem_range] at hi
  rw[List.mem_append] at hk
  rcases hk with hk|hk
  ·split at hk
   ·rename_i c
    rw[List.mem_singleton] at hk;subst hk
    exact⟨hi,Or.inl ⟨I,c⟩⟩
   ·exact absurd hk (by simp)
  ·split at hk
   ·rename_i c
    rw[List.mem_singleton] at hk;subst hk
    exact⟨hi,Or.inr ⟨c,I⟩⟩
   ·exact absurd hk (by simp)
 ·obtain⟨i,t⟩:=k
  rintro⟨hi,hk⟩
  refine⟨i,List.mem_range.2 hi, ?_⟩
  rw[List.mem_append]
  rcases hk with⟨a,b⟩|⟨a,b⟩
  ·left;simp only at a b;rw[if_pos b,a];simp
  ·right;simp only at a b;rw[if_pos a,b];simp
def Cc (f:DX) (l:List An):List An:=(Dv (Ao l) l.length f).map (SG (Ao l))
theorem Xr {α:Type} {l:List α} {a b c:α} (ha:a∈l) (hb:b∈l) (hc:c∈l) (h1:a≠b) (h2:a≠c) (h3:b≠c):3≤l.length:=by
 match l,ha,hb,hc with
 |[x],ha,hb,_=>simp at ha hb;exact absurd (ha.trans hb.symm) h1
 |[x,y],ha,hb,hc=>
  simp at ha hb hc
  rcases ha with rfl|rfl<;>rcases hb with rfl|rfl<;>rcases hc with rfl|rfl<;>simp_all
 |_::_::_::l,_,_,_=>simp
theorem Vt {P:Nat→An} {n:Nat} {f:DX} (h:Fq P n) {i:Nat} (hi:i<n) (hf:f.at (P i)<0):3≤(Dv P n f).length:=by
 have n3:=h.n3
 have k1:(i,(0:Rat))∈Dv P n f:=(D6 _).2 ⟨hi,Or.inl ⟨rfl,Rat.le_of_lt hf⟩⟩
 -- the next one
 have nx: ∃k∈Dv P n f,(k.1=i∧0<k.2)∨(k.2=0∧(k.1=i+1∨k.1=0∧i+1=n)):=by
  rcases Ew 0 (f.at (P (i+1))) with c|c
  ·have pr:f.at (P i)*f.at (P (i+1))<0:=by
    have:=Rat.mul_pos (show 0< -f.at (P i) by grind) c;grind
   exact⟨_,(D6 _).2 (Tc.cut hi pr),Or.inl ⟨I,(Tt pr).1⟩⟩
  ·by_cases e:i+1=n
   ·exact⟨(0,0),(D6 _).2 ⟨show 0<n by omega,Or.inl ⟨I,by rw[e,h.cl] at c;exact c⟩⟩,Or.inr ⟨I,Or.inr ⟨I,e⟩⟩⟩
   ·exact⟨(i+1,0),(D6 _).2 ⟨show i+1<n by omega,Or.inl ⟨I,c⟩⟩,Or.inr ⟨I,Or.inl I⟩⟩
 have pv: ∃k∈Dv P n f,(k.1+1=i∨k.1+1=n∧i=0):=by
  obtain⟨j,hj,e1,e2⟩: ∃j,j<n∧(j+1=i∨j+1=n∧i=0)∧P (j+1)=P i:=by
   rcases Nat.eq_zero_or_pos i with rfl|c
   ·exact⟨n-1,by omega,Or.inr ⟨by omega,I⟩,by rw[show n-1+1=n by omega];exact h.cl⟩
   ·exact⟨i-1,by omega,Or.inl (by omega),by rw[show i-1+1=i by omega]⟩
  rcases Ew 0 (f.at (P j)) with c|c
  ·have pr:f.at (P j)*f.at (P (j+1))<0:=by
    rw[e2]
    have:=Rat.mul_pos c (show 0< -f.at (P i) by grind);grind
   exact⟨_,(D6 _).2 (Tc.cut hj pr),e1⟩
  ·exact⟨(j,0),(D6 _).2 ⟨hj,Or.inl ⟨I,c⟩⟩,e1⟩
 obtain⟨k2,m2,h2⟩:=nx
 obtain⟨k3,m3,h3⟩:=pv
 refine Xr k1 m2 m3 ?_ ?_ ?_
 ·rintro rfl
  rcases h2 with⟨_,b⟩|⟨_,b|b⟩
  ·simp only at b;grind
  ·simp only at b;omega
  ·simp only at b;omega
 ·rintro rfl
  simp only at h3;omega
 ·rintro rfl
  rcases h2 with⟨b,_⟩|⟨_,b|b⟩<;>omega
theorem P0 (f:DX) (l:List An):(Cc f l).length=(Dv (Ao l) l.length f).length:=by unfold Cc;rw[List.length_map]
end
section
def QT (k:Nat) (l:List An):List An:=l.drop k++l.take k
theorem R6 {k:Nat} {l:List An} (hk:k≤l.length):(QT k l).length=l.length:=by
 unfold QT;rw[List.length_append,List.length_drop,List.length_take];omega
def BU (p q:An):Prop:=p.1<q.1∨p.1=q.1∧p.2<q.2
theorem JA (p q:An):BU p q∨p=q∨BU q p:=by
 unfold BU
 rcases Ew p.1 q.1 with a|a
 ·exact Or.inl (Or.inl a)
 rcases Ew q.1 p.1 with b|b
 ·exact Or.inr (Or.inr (Or.inl b))
 have e:p.1=q.1:=by grind
 rcases Ew p.2 q.2 with c|c
 ·exact Or.inl (Or.inr ⟨e,c⟩)
 rcases Ew q.2 p.2 with d|d
 ·exact Or.inr (Or.inr (Or.inr ⟨e.symm,d⟩))
 ·refine Or.inr (Or.inl ?_)
  ext
  ·exact e
  ·grind
theorem Ij {p q:An} (h:BU p q): ¬BU q p:=by
 unfold BU at*
 rintro(c|⟨c,d⟩)<;>rcases h with a|⟨a,b⟩<;>grind
theorem Tu (p:An): ¬BU p p:=fun h=>Ij h h
theorem HA {l:List An} (h:0<l.length) (i:Nat):Ao l i∈l:=by
 rw[←JY,CS (Nat.mod_lt i h)]
 exact List.getElem_mem _
theorem EQ {l:List An} {x:An} (h:x∈l): ∃i,i<l.length∧Ao l i=x:=by
 obtain⟨i,hi,rfl⟩:=List.getElem_of_mem h
 exact⟨i,hi,CS hi⟩
end
section
def E5 (p q:An):Bool:=decide (p.1<q.1)||(decide (p.1=q.1)&&decide (p.2<q.2))
theorem CO {p q:An}:E5 p q=true↔BU p q:=by unfold E5 BU;simp
def Cj (l:List An):Nat→Nat
 |0=>0
 |k+1=>if E5 (Ao l k) (Ao l (Cj l k)) then k else Cj l k
theorem Kp (l:List An): ∀k,(Cj l k=0∨Cj l k<k)∧ ∀i,i<k→ ¬BU (Ao l i) (Ao l (Cj l k)):=by
 intro k
 induction k with
 |zero=>exact⟨Or.inl rfl,fun i h=>by omega⟩
 |succ k ih=>
  unfold Cj
  split
  ·rename_i c
   refine⟨Or.inr (by omega),fun i hi=> ?_⟩
   rcases Nat.eq_or_lt_of_le (show i≤k by omega) with rfl|q
   ·exact Tu _
   ·intro hp
    have hc:=CO.1 c
    have a:=ih.2 i q
    -- i < k < the least one
    apply a
    unfold BU at*
    rcases hp with hp|⟨hp,hp2⟩<;>rcases hc with hc|⟨hc,hc2⟩<;>grind
  ·rename_i c
   refine⟨by rcases ih.1 with a|a<;>omega,fun i hi=> ?_⟩
   rcases Nat.eq_or_lt_of_le (show i≤k by omega) with rfl|q
   ·intro hp;exact c (CO.2 hp)
   ·exact ih.2 i q
def CP (l:List An):List An:=QT (Cj l l.length) l
theorem Tx (l:List An):Cj l l.length≤l.length:=by
 rcases(Kp l l.length).1 with a|a<;>omega
def JS (f:DX) (l:List An):Bool:=l.any fun p=>decide (f.at p<0)
theorem Rd {f:DX} {l:List An}:JS f l=true↔ ∃p∈l,f.at p<0:=by unfold JS;simp
def FM (f:DX) (l:List An):List An:=if JS f l then CP (Cc f l) else[]
end
section
def Rf (F:Nat→Rat):Nat→Rat
 |0=>0
 |n+1=>Rf F n+F n
def Tv (p q:An):Rat:=p.1*q.2-q.1*p.2
def NL (l:List An):Rat:=Rf (fun i=>Tv (Ao l i) (Ao l (i+1))) l.length
theorem M1 {u v:Rat}:u*v<0↔(u<0∧0<v)∨(0<u∧v<0):=by
 constructor
 ·intro h
  rcases Ew u 0 with a|a
  ·rcases Ew 0 v with b|b
   ·exact Or.inl ⟨a,b⟩
   ·have:=Rat.mul_nonneg (show 0≤ -u by grind) (show 0≤ -v by grind);grind
  ·rcases Ew v 0 with b|b
   ·refine Or.inr ⟨?_,b⟩
    rcases Ew 0 u with c|c
    ·exact c
    ·have e:u=0:=by grind
     rw[e] at h;grind
   ·have:=Rat.mul_nonneg a b;grind
 ·rintro(⟨a,b⟩|⟨a,b⟩)
  ·have:=Rat.mul_pos (show 0< -u by grind) b;grind
  ·have:=Rat.mul_pos a (show 0< -v by grind);grind
def OM (f:DX) (p q:An):List An:=(if f.at p≤0 then[p] else[])++(if f.at p*f.at q<0 then[QM (f.at p/(f.at p-f.at q)) p q] else[])
theorem O0 (P:Nat→An) (n:Nat) (f:DX):(Dv P (n+1) f).map (SG P)=(Dv P n f).map (SG P)++OM f (P n) (P (n+1)):=by
 unfold Dv OM
 rw[List.range_succ,List.flatMap_append,List.map_append]
 congr 1
 rw[List.flatMap_cons,List.flatMap_nil,List.append_nil,List.map_append]
 congr 1
 ·split
  ·show[SG P (n,0)]=_
   unfold SG;rw[Xz]
  ·rfl
 ·split<;>rfl
end
section
theorem PM {p q r:An} (h1:BU p q) (h2:BU q r):BU p r:=by
 unfold BU at*
 rcases h1 with h1|⟨h1,h3⟩<;>rcases h2 with h2|⟨h2,h4⟩<;>grind
def Cl (p:An):List An→List An
 |b::a::t=>if Ey a b p≤0 then Cl p (a::t) else b::a::t
 |l=>l
def DL (l:List An):List An:=l.foldl (fun r p=>p::Cl p r) []
end
section
def RU (S:List An):List An:=(DL S).tail.reverse++(DL S.reverse).tail.reverse
end
section
open Go Go.RowKit Go.Am Go.Lib
set_option maxRecDepth 10000
-- BOXES 3
-- CODE2
section
variable {r:Option Nat} {n:Nat} {P:Program} {N:Nat} {D:List Deferred} {ops:List Oper} {Q:Exit→Act→World→Prop} {o:Oper} {rest:List Oper} {env:Env} {A:World→Prop} {A2:World→Prop} {R:Act→World→Prop}
end
section
variable {n:Nat} {P:Program} {W0:World} {N:Nat} {env:Env} {bxs:List Bx}
end
theorem Wj {z:Int} {d:Nat} (_hd:1≤d):hasPrefix (F8 z d) [45]=decide (z<0)∧cut (trimPrefix (F8 z d) [45]) [47]=(decDigits z.natAbs,if d=1 then[] else decDigits d,decide (d≠1)):=by
 have hn47:(47:UInt8)∉decDigits z.natAbs:=fun h=>by have:=EV _ _ h;exact absurd this.1 (by decide)
 have hp: ∀r,hasPrefix (itoa z++r) [45]=decide (z<0):=fun r=>by
  rw[CW]
  unfold itoa
  split
  ·rename_i h;rw[dT h];rfl
  ·rename_i h
   rw[dF h]
   obtain⟨b,t,hb,h3,_⟩:=Cv z.toNat
   rw[hb]
   refine dF fun e=> ?_
   have e:b=45:=by simpa using e
   rw[e] at h3;exact absurd h3 (by decide)
 have ht: ∀r,trimPrefix (itoa z++r) [45]=decDigits z.natAbs++r:=fun r=>by
  have h1:=hp r
  rw[BB]
  rw[CW] at h1
  by_cases hz:z<0
  ·rw[dT hz] at h1
   rw[if_pos (of_decide_eq_true h1)]
   unfold itoa
   rw[if_pos hz];rfl
  ·rw[dF hz] at h1
   rw[if_neg (of_decide_eq_false h1)]
   unfold itoa
   rw[if_neg hz,show z.toNat=z.natAbs by omega]
 unfold F8
 by_cases h1:d=1
 ·rw[if_pos h1]
  have e1:=hp []
  have e2:=ht []
  rw[List.append_nil] at e1 e2
  rw[List.append_nil] at e2
  exact⟨e1,by rw[e2,Lf hn47,if_pos h1,h1];rfl⟩
 ·rw[if_neg h1]
  exact⟨hp _,by rw[ht,Li _ hn47,if_neg h1,dT (show d≠1 from h1)]⟩
-- BOXES 5
-- CODE2
abbrev cvV (p:An):Value:= .agg #[str (Ac p.1),str (Ac p.2)]
def Dh (W:World) (c:Nat):Prop:=W.heap[c]? =some (.cells #[.int .i64 0] 317 (0,0))
theorem Dh.hp {W0 W:World} {bxs:List Bx} {c:Nat} (h:Dh W0 c) (hp:Hp W0 bxs W):Dh W c:=
 (hp.below.block c (Array.getElem?_eq_some_iff.1 h).1).trans h
theorem Dh.row {W:World} {c:Nat} (h:Dh W c):Ag W c 0 [.int .i64 0]:=Ag.of_block h
theorem HH (c g:Nat) (a b v:List UInt8) (W:World) (hc:Dh W c) (hE:AJ Tryz.prog g=true) (hg: ∀W1,Below W.heap.size W W1→Ad Tryz.prog g #[str a,str b] W1 (fun _:Unit=> .tuple #[str v, .int .i64 0]) (fun _=>True) (fun _=>[])):
  Ad Tryz.prog 329 #[Ai c, .func (.func g) #[] #[],str a,str b] W (fun _:Unit=>str v) (fun _=>True) (fun _=>[]):=by
 refine Ab (args:=[Ai c, .func (.func g) #[] #[],str a,str b]) Tryz.func329 I I I ?_
 refine zA (zB (wP I (Aa (zE (zA (zA (zB (wP I ?_))))))))
 refine AG I I I I ?_
 refine wP I (wL 0 I I (fun W1 hp=>(hc.hp hp).row) I (wP I (Aa (zE (zS I (zI (zE (zA (zB (wP I (wP I (wP I ?_))))))))))))
 refine Bc (capt:=[]) I I I I I I hE (fun W1 h=>hg W1 h.below) ?_
 iterate 5 refine wP I ?_
 refine Aa (zE (zA (zA (zB (wP I (wP I ?_))))))
 refine AG I I I I ?_
 refine wP I ?_
 refine G5 (c:=[.int .i64 0]) (ty:=317) tH I I I I I I I I I I (fun W1 hp=>hc.hp hp) ?_
 refine Aa (zE (zA (zB (wP I (wP I (Aa (zE (zS I (zI (zE (zA (zB (wP I (wP I ?_))))))))))))))
 exact Aa (zE (zO (wR1 I I I)))
theorem Fb (c:Nat) (p q:Rat) (hz:Sz2 p q) (W:World) (hc:Dh W c) (hv:AE W) (ht:A6 W):
  Ad Tryz.prog 285 #[Ai c,str (Ac p),str (Ac q)] W (fun _:Unit=>str (Ac (p+q))) (fun _=>True) (fun _=>[]):=by
 refine Ab (args:=[Ai c,str (Ac p),str (Ac q)]) Tryz.func285 I I I ?_
 refine zA (zB (wP I (Aa (zE (zA (zB (wP I (wP I (wP I (wC I I (fun W hp=>HH c 19 (Ac p) (Ac q) (Ac (p+q)) W (hc.hp hp) (by kernel_rfl) (fun W1 hb=>Cp p q hz W1 ((hv.hp hp).below hb) ((ht.hp hp).below hb))) (wP I (Aa (zE ?_)))))))))))))
 exact zO (wR1 I I I)
theorem BV (c:Nat) (p q:Rat) (hz:Sz2 p q) (W:World) (hc:Dh W c) (hv:AE W) (ht:A6 W):
  Ad Tryz.prog 283 #[Ai c,str (Ac p),str (Ac q)] W (fun _:Unit=>str (Ac (p-q))) (fun _=>True) (fun _=>[]):=by
 refine Ab (args:=[Ai c,str (Ac p),str (Ac q)]) Tryz.func283 I I I ?_
 refine zA (zB (wP I (Aa (zE (zA (zB (wP I (wP I (wP I (wC I I (fun W hp=>HH c 21 (Ac p) (Ac q) (Ac (p-q)) W (hc.hp hp) (by kernel_rfl) (fun W1 hb=>Cm p q hz W1 ((hv.hp hp).below hb) ((ht.hp hp).below hb))) (wP I (Aa (zE ?_)))))))))))))
 exact zO (wR1 I I I)
theorem Cn (c:Nat) (p q:Rat) (hz:Sz2 p q) (W:World) (hc:Dh W c) (hv:AE W) (ht:A6 W):
  Ad Tryz.prog 286 #[Ai c,str (Ac p),str (Ac q)] W (fun _:Unit=>str (Ac (p*q))) (fun _=>True) (fun _=>[]):=by
 refine Ab (args:=[Ai c,str (Ac p),str (Ac q)]) Tryz.func286 I I I ?_
 refine zA (zB (wP I (Aa (zE (zA (zB (wP I (wP I (wP I (wC I I (fun W hp=>HH c 18 (Ac p) (Ac q) (Ac (p*q)) W (hc.hp hp) (by kernel_rfl) (fun W1 hb=>Ch p q hz W1 ((hv.hp hp).below hb) ((ht.hp hp).below hb))) (wP I (Aa (zE ?_)))))))))))))
 exact zO (wR1 I I I)
theorem Le (c:Nat) (p q:Rat) (hz:Sz2 p q) (h0:q.num≠0) (W:World) (hc:Dh W c) (hv:AE W) (ht:A6 W):
  Ad Tryz.prog 289 #[Ai c,str (Ac p),str (Ac q)] W (fun _:Unit=>str (Ac (p/q))) (fun _=>True) (fun _=>[]):=by
 refine Ab (args:=[Ai c,str (Ac p),str (Ac q)]) Tryz.func289 I I I ?_
 refine zA (zB (wP I (Aa (zE (zA (zB (wP I (wP I (wP I (wC I I (fun W hp=>HH c 26 (Ac p) (Ac q) (Ac (p/q)) W (hc.hp hp) (by kernel_rfl) (fun W1 hb=>(Mx p q hz W1 ((hv.hp hp).below hb) ((ht.hp hp).below hb)).cast (by rw[KR,if_neg h0]))) (wP I (Aa (zE ?_)))))))))))))
 exact zO (wR1 I I I)
theorem Eb (c:Nat) (p q:Rat) (hz:Sz2 p q) (W:World) (hc:Dh W c) (hv:AE W) (ht:A6 W):
  Ad Tryz.prog 356 #[Ai c,str (Ac p),str (Ac q)] W (fun _:Unit=> .int .i64 (C9 p q)) (fun _=>True) (fun _=>[]):=by
 refine Ab (args:=[Ai c,str (Ac p),str (Ac q)]) Tryz.func356 I I I ?_
 refine zA (zB (wP I (Aa (zE (zA (zA (zB (wP I ?_))))))))
 refine AG I I I I ?_
 refine wP I (wL 0 I I (fun W1 hp=>(hc.hp hp).row) I (wP I (Aa (zE (zS I (zI (zE (zA (zB (wP I (wP I (wC I I (fun W hp=>(DR p q hz W (hv.hp hp) (ht.hp hp)).cast (v':= .tuple #[.int .i64 (C9 p q), .int .i64 0]) (by rw[Mw])) ?_))))))))))))
 iterate 5 refine wP I ?_
 refine Aa (zE (zA (zB (wP I (wP I ?_)))))
 refine AG I I I I ?_
 refine wP I ?_
 refine G5 (c:=[.int .i64 0]) (ty:=317) tH I I I I I I I I I I (fun W1 hp=>hc.hp hp) ?_
 exact Aa (zE (zA (zB (wP I (wP I (Aa (zE (zO (wR1 I I I)))))))))
structure X6 (p q r:An):Prop where
 s1:Sz2 q.1 p.1
 s2:Sz2 r.2 p.2
 s3:Sz2 q.2 p.2
 s4:Sz2 r.1 p.1
 m1:Sz2 (q.1-p.1) (r.2-p.2)
 m2:Sz2 (q.2-p.2) (r.1-p.1)
 o:Sz2 ((q.1-p.1)*(r.2-p.2)) ((q.2-p.2)*(r.1-p.1))
def Rc (p q r:An):Int:=C9 ((q.1-p.1)*(r.2-p.2)) ((q.2-p.2)*(r.1-p.1))
theorem Qy (c:Nat) (p q r:An) (hz:X6 p q r) (W:World) (hc:Dh W c) (hv:AE W) (ht:A6 W):
  Ad Tryz.prog 325 #[Ai c,cvV p,cvV q,cvV r] W (fun _:Unit=> .int .i64 (Rc p q r)) (fun _=>True) (fun _=>[]):=by
 refine Ab (args:=[Ai c,cvV p,cvV q,cvV r]) Tryz.func325 I I I ?_
 refine zA (zB ?_)
 (refine Al rfl rfl rfl rfl ?_;intro)
 (refine Al rfl rfl rfl rfl ?_;intro)
 (refine Al rfl rfl rfl rfl ?_;intro)
 refine wP I (Aa (zE (zA (zU (qP I (qP I (qB 1 I I I (qP I (qB 0 I I I (qC I I (fun W hp=>BV c q.1 p.1 hz.s1 W (hc.hp hp) (hv.hp hp) (ht.hp hp)) (qP I (qP I (qB 2 I I I ?_)))))))))))))
 refine qP I (qB 0 I I I (qC I I (fun W hp=>BV c r.2 p.2 hz.s2 W (hc.hp hp) (hv.hp hp) (ht.hp hp)) (qP I (qP I (A7 (Aa (zE (zA (zU (qP I (qP I (qB 1 I I I (qP I ?_)))))))))))))
 refine qB 0 I I I (qC I I (fun W hp=>BV c q.2 p.2 hz.s3 W (hc.hp hp) (hv.hp hp) (ht.hp hp)) (qP I (qP I (qB 2 I I I (qP I (qB 0 I I I (qC I I (fun W hp=>BV c r.1 p.1 hz.s4 W (hc.hp hp) (hv.hp hp) (ht.hp hp)) (qP I (qP I (A7 (Aa (zE (zA ?_)))))))))))))
 refine zB (wP I (wP I (wP I (wP I (wC I I (fun W hp=>Cn c (q.1-p.1) (r.2-p.2) hz.m1 W (hc.hp hp) (hv.hp hp) (ht.hp hp)) (wP I (wP I (wP I (wC I I (fun W hp=>Cn c (q.2-p.2) (r.1-p.1) hz.m2 W (hc.hp hp) (hv.hp hp) (ht.hp hp)) (wC I I (fun W hp=>Eb c _ _ hz.o W (hc.hp hp) (hv.hp hp) (ht.hp hp)) (wP I (Aa (zE ?_)))))))))))))
 exact zO (wR1 I I I)
def J6 (p q:An):Int:=if C9 p.1 q.1=0 then C9 p.2 q.2 else C9 p.1 q.1
theorem GF (p q:Rat):C9 p q= -1∨C9 p q=0∨C9 p q=1:=by
 unfold C9
 split
 ·exact Or.inl I
 ·split
  ·exact Or.inr (Or.inl I)
  ·exact Or.inr (Or.inr I)
theorem Qs (c:Nat) (p q:An) (h1:Sz2 p.1 q.1) (h2:Sz2 p.2 q.2) (W:World) (hc:Dh W c) (hv:AE W) (ht:A6 W):
  Ad Tryz.prog 323 #[Ai c,cvV p,cvV q] W (fun _:Unit=> .int .i64 (J6 p q)) (fun _=>True) (fun _=>[]):=by
 refine Ab (args:=[Ai c,cvV p,cvV q]) Tryz.func323 I I I ?_
 refine zA (zB ?_)
 (refine Al rfl rfl rfl rfl ?_;intro)
 (refine Al rfl rfl rfl rfl ?_;intro)
 refine wP I (Aa (zE (zA (zA (zB (wP I (wP I (wB 0 I I I (wP I (wB 1 I I I ?_))))))))))
 rcases GF p.1 q.1 with e|e|e
 ·refine wC I I (fun W hp=>(Eb c p.1 q.1 h1 W (hc.hp hp) (hv.hp hp) (ht.hp hp)).cast (congrArg (Value.int .i64) e)) (wP I (Aa (zE (zA (zB (wP I (wP I (Aa (zE (zR I (zA (zB (wP I (wP I ?_))))))))))))))
  exact Aa (zE (zO (zP (wR1 I I (by rw[J6,e,if_neg (by decide)])))))
 ·refine wC I I (fun W hp=>(Eb c p.1 q.1 h1 W (hc.hp hp) (hv.hp hp) (ht.hp hp)).cast (congrArg (Value.int .i64) e)) (wP I (Aa (zE (zA (zB (wP I (wP I (Aa (zE (zS I (zI (zE (zA ?_)))))))))))))
  exact zB (wP I (wP I (wB 0 I I I (wP I (wB 1 I I I (wC I I (fun W hp=>Eb c p.2 q.2 h2 W (hc.hp hp) (hv.hp hp) (ht.hp hp)) (wP I (Aa (zE (zO (wR1 I I (by rw[J6,if_pos e]))))))))))))
 ·refine wC I I (fun W hp=>(Eb c p.1 q.1 h1 W (hc.hp hp) (hv.hp hp) (ht.hp hp)).cast (congrArg (Value.int .i64) e)) (wP I (Aa (zE (zA (zB (wP I (wP I (Aa (zE (zR I (zA (zB (wP I (wP I ?_))))))))))))))
  exact Aa (zE (zO (zP (wR1 I I (by rw[J6,e,if_neg (by decide)])))))
def FX (q:Rat):Int:=if q.num=0 then 0 else if q.num<0 then -1 else 1
theorem Hg (q:Rat):Bo Tryz.prog 332 [str (Ac q)] (.int .i64 (FX q)):=by
 intro W
 refine Ab Tryz.func332 I I I ?_
 refine zA (zB (wP I (Aa (zE (zA (zH (zA (zB (wP I (wP I (wU 5 (decide (Ac q=[48])) I (AX _ _) (wP I (Aa ?_)))))))))))))
 refine zE ?_
 refine Aj I (fun h=> ?_) (fun h=> ?_)
 ·have h:q.num=0:=Ih.1 (of_decide_eq_true h)
  exact zA (zB (wP I (Aa (zE (zO (zQ (zP (wR1 I I (by rw[FX,if_pos h])))))))))
 have h: ¬q.num=0:=fun e=>of_decide_eq_false h (Ih.2 e)
 have hpre:=(Wj (z:=q.num) q.den_pos).1
 rw[CW] at hpre
 obtain⟨c,hc⟩: ∃c,(Ac q)[0]? =some c:=by
  cases e:Ac q with
  |nil=>
   have:=congrArg List.length e
   unfold Ac F8 at this
   have h2:itoa q.num≠[]:=by unfold itoa;split;simp;exact Kg _
   split at this
   ·exact absurd (List.length_eq_zero_iff.1 this) h2
   ·rw[List.length_append] at this;simp at this
  |cons c t=>exact⟨c,rfl⟩
 have hc45:decide (c=45)=decide (q.num<0):=by
  rw[←hpre]
  show _=decide ((Ac q)[0]? =some 45)
  exact decide_eq_decide.2 (by rw[hc];simp)
 refine zA (zB (wP I ?_))
 refine Dt 0 tH I I I I I I I I hc ?_
 refine wP I (wU 9 (decide (q.num<0)) I ((P5 c 45).trans hc45) (wP I (Aa (zE ?_))))
 refine Aj I (fun hn=> ?_) (fun hn=> ?_)
 ·have hn:q.num<0:=of_decide_eq_true hn
  exact zA (zB (wP I (Aa (zE (zO (zQ (zP (wR1 I I (by rw[FX,if_neg h,if_pos hn])))))))))
 ·have hn: ¬q.num<0:=of_decide_eq_false hn
  exact zI (zN (zE (zA (zB (wP I (Aa (zE (zO (wR1 I I (by rw[FX,if_neg h,if_neg hn]))))))))))
-- BOXES 6
-- CODE2
theorem HB {z:Int} (h: ¬okN z):JG z= .tuple #[str [], .int .i64 4]:=if_neg h
-- BOXES 1
-- CODE2
def opV (ok:Prop) [Decidable ok] (r:Rat):Value:=if ok then .tuple #[str (Ac r), .int .i64 0] else .tuple #[str [], .int .i64 4]
theorem L9 {ok:Prop} [Decidable ok] {r:Rat} (h:ok):opV ok r= .tuple #[str (Ac r), .int .i64 0]:=if_pos h
theorem Ri {ok:Prop} [Decidable ok] {r:Rat} (h: ¬ok):opV ok r= .tuple #[str [], .int .i64 4]:=if_neg h
instance (z:Int):Decidable (okN z):=inferInstanceAs (Decidable (z.natAbs<Bp))
def HT (p q:Rat):Prop:=okN (p.num*(q.den:Nat))∧okN (q.num*(p.den:Nat))∧okN ((p.den:Nat)*(q.den:Nat))∧okN (p.num*(q.den:Nat)+q.num*(p.den:Nat))
instance (p q:Rat):Decidable (HT p q):=inferInstanceAs (Decidable (_∧_∧_∧_))
-- BOXES 1
-- CODE2
def GJ (p q:Rat):Prop:=okN (p.num*q.num)∧okN ((p.den:Nat)*(q.den:Nat))
def BD (p q:Rat):Prop:=okN (p.num*(q.den:Nat))∧okN (q.num*(p.den:Nat))
instance (p q:Rat):Decidable (GJ p q):=inferInstanceAs (Decidable (_∧_))
instance (p q:Rat):Decidable (BD p q):=inferInstanceAs (Decidable (_∧_))
def cmV (p q:Rat):Value:=if BD p q then .tuple #[.int .i64 (C9 p q), .int .i64 0] else .tuple #[.int .i64 0, .int .i64 4]
-- BOXES 5
theorem K2 (p q:Rat) (hp:okQ p) (hq:okQ q) (h1: ¬okN (p.num*(q.den:Nat))) (W:World) (ht:A6 W):
  Ad Tryz.prog 85 #[Ck p,Ck q] W (fun _:Unit=> .tuple #[str [],str [], .int .i64 4]) (fun _=>True) (fun _=>[]):=by
 refine Ab (args:=[Ck p,Ck q]) Tryz.func85 I I I ?_
 refine zA (zB ?_)
 (refine Al rfl rfl rfl rfl ?_;intro)
 (refine Al rfl rfl rfl rfl ?_;intro)
 refine wP I (wP I (wP I (Aa (zE (zA (zB (wP I (wB 0 I I I (wP I (wB 1 I I I (wC I I (fun W h=>(BG p.num (q.den:Nat) hp.1 hq.2 W (ht.hp h)).cast (HB h1)) ?_)))))))))))
 iterate 5 refine wP I ?_
 refine Aa (zE (zA (zA (zB (wP I (wP I (Aa (zE (zR I (zA (zB (wP I (wP I (wP I (wP I ?_)))))))))))))))
 exact Aa (zE (zO (zP (wR3 I I I))))
theorem K9 (p q:Rat) (hp:okQ p) (hq:okQ q) (h1:okN (p.num*(q.den:Nat))) (h2: ¬okN (q.num*(p.den:Nat))) (W:World) (ht:A6 W):
  Ad Tryz.prog 85 #[Ck p,Ck q] W (fun _:Unit=> .tuple #[str (itoa (p.num*(q.den:Nat))),str [], .int .i64 4]) (fun _=>True) (fun _=>[]):=by
 refine Ab (args:=[Ck p,Ck q]) Tryz.func85 I I I ?_
 refine zA (zB ?_)
 (refine Al rfl rfl rfl rfl ?_;intro)
 (refine Al rfl rfl rfl rfl ?_;intro)
 refine wP I (wP I (wP I (Aa (zE (zA (zB (wP I (wB 0 I I I (wP I (wB 1 I I I (wC I I (fun W h=>(BG p.num (q.den:Nat) hp.1 hq.2 W (ht.hp h)).cast (Fl h1)) ?_)))))))))))
 iterate 5 refine wP I ?_
 refine Aa (zE (zA (zA (zB (wP I (wP I (Aa (zE (zS I (zI (zE (zA (zB ?_)))))))))))))
 refine wP I (wB 1 I I I (wP I (wB 0 I I I (wC I I (fun W h=>(BG q.num (p.den:Nat) hq.1 hp.2 W (ht.hp h)).cast (HB h2)) ?_))))
 iterate 5 refine wP I ?_
 refine Aa (zE (zA (zB ?_)))
 iterate 6 refine wP I ?_
 exact Aa (zE (zO (wR3 I I I)))
theorem Hv (p q:Rat) (hp:okQ p) (hq:okQ q) (h: ¬BD p q): ∃s, ∀(W:World) (_:A6 W),
  Ad Tryz.prog 85 #[Ck p,Ck q] W (fun _:Unit=> .tuple #[str s,str [], .int .i64 4]) (fun _=>True) (fun _=>[]):=by
 by_cases h1:okN (p.num*(q.den:Nat))
 ·exact⟨_,fun W ht=>K9 p q hp hq h1 (fun h2=>h ⟨h1,h2⟩) W ht⟩
 ·exact⟨_,fun W ht=>K2 p q hp hq h1 W ht⟩
theorem Ox (p q r:Rat) (b h:Nat) (z:Int) (hp:okQ p) (hq:okQ q) (hr:nrm z ((p.den:Nat)*(q.den:Nat))=r) (hE:AJ Tryz.prog h=true)
  (hop:BD p q→ ∀W,A6 W→Ad Tryz.prog h #[str (itoa (p.num*(q.den:Nat))),str (itoa (q.num*(p.den:Nat)))] W (fun _:Unit=>JG z) (fun _=>True) (fun _=>[])) (W:World) (ht:A6 W) (hrow:Ag W b 0 [.func (.func h) #[] #[]]):
  Ad Tryz.prog 150 #[Ck p,Ck q,Ai b] W (fun _:Unit=>if BD p q∧okN z∧okN ((p.den:Nat)*(q.den:Nat)) then .tuple #[str (Ac r), .int .i64 0] else .tuple #[str [], .int .i64 4]) (fun _=>True) (fun _=>[]):=by
 by_cases hx:BD p q
 ·by_cases hz:okN z
  ·by_cases hd:okN ((p.den:Nat)*(q.den:Nat))
   ·rw[if_pos ⟨hx,hz,hd⟩]
    exact(Hl p q b h z hp hq hx.1 hx.2 hz hd hE (fun W2 h2=>(hop hx W2 h2).cast (Fl hz)) W ht hrow).cast (by rw[hr])
   ·rw[if_neg fun e=>hd e.2.2]
    refine Ab (args:=[Ck p,Ck q,Ai b]) Tryz.func150 I I I ?_
    refine zA (zB ?_)
    (refine Al rfl rfl rfl rfl ?_;intro)
    (refine Al rfl rfl rfl rfl ?_;intro)
    refine wP I (wP I (Aa (zE (zA (zB (wB 0 I I I (wB 1 I I I (wC I I (fun W h=>CD p q hp hq hx.1 hx.2 W (ht.hp h)) ?_))))))))
    iterate 7 refine wP I ?_
    refine Aa (zE (zA (zA (zB (wP I (wP I (Aa (zE (zS I (zI (zE (zA (zB ?_)))))))))))))
    refine wL 0 I I (fun W h=>hrow.hp h) I (wP I (wP I ?_))
    refine Bc (capt:=[]) I I I I I I hE (fun W h=>(hop hx W (ht.hp h)).cast (Fl hz)) ?_
    iterate 5 refine wP I ?_
    refine Aa (zE (zA (zA (zB (wP I (wP I (Aa (zE (zS I (zI (zE (zA (zB ?_)))))))))))))
    refine wP I (wB 0 I I I (wP I (wB 1 I I I (wC I I (fun W h=>(BG (p.den:Nat) (q.den:Nat) hp.2 hq.2 W (ht.hp h)).cast (HB hd)) ?_))))
    iterate 5 refine wP I ?_
    refine Aa (zE (zA (zA (zB (wP I (wP I (Aa (zE (zR I (zA (zB (wP I (wP I (wP I ?_))))))))))))))
    exact Aa (zE (zO (zP (wR2 I I I))))
  ·rw[if_neg fun e=>hz e.2.1]
   refine Ab (args:=[Ck p,Ck q,Ai b]) Tryz.func150 I I I ?_
   refine zA (zB ?_)
   (refine Al rfl rfl rfl rfl ?_;intro)
   (refine Al rfl rfl rfl rfl ?_;intro)
   refine wP I (wP I (Aa (zE (zA (zB (wB 0 I I I (wB 1 I I I (wC I I (fun W h=>CD p q hp hq hx.1 hx.2 W (ht.hp h)) ?_))))))))
   iterate 7 refine wP I ?_
   refine Aa (zE (zA (zA (zB (wP I (wP I (Aa (zE (zS I (zI (zE (zA (zB ?_)))))))))))))
   refine wL 0 I I (fun W h=>hrow.hp h) I (wP I (wP I ?_))
   refine Bc (capt:=[]) I I I I I I hE (fun W h=>(hop hx W (ht.hp h)).cast (HB hz)) ?_
   iterate 5 refine wP I ?_
   refine Aa (zE (zA (zA (zB (wP I (wP I (Aa (zE (zR I (zA (zB (wP I (wP I (wP I ?_))))))))))))))
   exact Aa (zE (zO (zP (wR2 I I I))))
 ·rw[if_neg fun e=>hx e.1]
  obtain⟨s,hs⟩:=Hv p q hp hq hx
  refine Ab (args:=[Ck p,Ck q,Ai b]) Tryz.func150 I I I ?_
  refine zA (zB ?_)
  (refine Al rfl rfl rfl rfl ?_;intro)
  (refine Al rfl rfl rfl rfl ?_;intro)
  refine wP I (wP I (Aa (zE (zA (zB (wB 0 I I I (wB 1 I I I (wC I I (fun W h=>hs W (ht.hp h)) ?_))))))))
  iterate 7 refine wP I ?_
  refine Aa (zE (zA (zA (zB (wP I (wP I (Aa (zE (zR I (zA (zB (wP I (wP I (wP I ?_))))))))))))))
  exact Aa (zE (zO (zP (wR2 I I I))))
theorem Tw {p q:Rat}:HT p q↔BD p q∧okN (p.num*(q.den:Nat)+q.num*(p.den:Nat))∧okN ((p.den:Nat)*(q.den:Nat)):=⟨fun h=>⟨⟨h.1,h.2.1⟩,h.2.2.2,h.2.2.1⟩,fun h=>⟨h.1.1,h.1.2,h.2.2,h.2.1⟩⟩
theorem En {p q:Rat}:HT p (-q)↔BD p q∧okN (p.num*(q.den:Nat)-q.num*(p.den:Nat))∧okN ((p.den:Nat)*(q.den:Nat)):=by
 have e:(-q).num= -q.num:=rfl
 have d:(-q).den=q.den:=rfl
 unfold HT BD okN
 rw[e,d,Int.neg_mul,Int.natAbs_neg, ←Int.sub_eq_add_neg]
 exact⟨fun h=>⟨⟨h.1,h.2.1⟩,h.2.2.2,h.2.2.1⟩,fun h=>⟨h.1.1,h.1.2,h.2.2,h.2.1⟩⟩
theorem VN {a ok:Prop} [Decidable a] [Decidable ok] (h:ok↔a) (r:Rat):(if a then Value.tuple #[str (Ac r), .int .i64 0] else .tuple #[str [], .int .i64 4])=opV ok r:=by
 by_cases c:a
 ·rw[if_pos c,L9 (h.2 c)]
 ·rw[if_neg c,Ri fun e=>c (h.1 e)]
theorem RQ (ok:Prop) [Decidable ok] (r:Rat): ∃s e,opV ok r= .tuple #[str s, .int .i64 e]:=by unfold opV;split<;>exact⟨_,_,rfl⟩
theorem RG {p q:Rat} (hs:smQ p∧smQ q):HT p q∧HT p (-q)∧GJ p q∧BD p q:=by
 have m1:=CJ hs.1.1 (CA q hs.2)
 have m2:=CJ hs.2.1 (CA p hs.1)
 have m3:=CJ (CA p hs.1) (CA q hs.2)
 have m4:=CJ hs.1.1 hs.2.1
 have k: ∀z:Int,z.natAbs<10^18→okN z:=fun z h=>Me (Nat.lt_trans h (by decide))
 have d1:BD p q:=⟨k _ (by omega),k _ (by omega)⟩
 exact⟨Tw.2 ⟨d1,k _ (by omega),k _ (by omega)⟩,En.2 ⟨d1,k _ (by omega),k _ (by omega)⟩,⟨k _ (by omega),k _ (by omega)⟩,d1⟩
theorem QE (p q:Rat) (hkp:okQ p) (hkq:okQ q) (W0:World) (hv:AE W0) (ht:A6 W0):
  Ad Tryz.prog 21 #[str (Ac p),str (Ac q)] W0 (fun _:Unit=>opV (HT p (-q)) (p-q)) (fun _=>True) (fun _=>[]):=by
 obtain⟨rs,re,hr⟩:=RQ (HT p (-q)) (p-q)
 have hlp:=AO hkp
 have hlq:=AO hkq
 refine Ab (args:=[str (Ac p),str (Ac q)]) Tryz.func21 I I I ?_
 refine zA (zB (wP I (wP I (Aa (zE (zA (zA (zB (wP I (wP I ?_))))))))))
 have hquick: ∀W,A6 W→Ad Tryz.prog 64 #[str (Ac p),str (Ac q), .func (.func 76) #[] #[]] W (fun _:Unit=>if smQ p∧smQ q then .tuple #[str (Ac (p-q)), .bool true] else .tuple #[str [], .bool false]) (fun _=>True) (fun _=>[]):=
  fun W ht=>D5 p q (p-q) (p.num*(q.den:Nat)-q.num*(p.den:Nat)) ((p.den:Nat)*(q.den:Nat)) _ (by kernel_rfl) (by omega) (by omega) (fun hp hq=>by
   have m1:=CJ hp.1 (CA q hq)
   have m2:=CJ hq.1 (CA p hp)
   have m3:=CJ (CA p hp) (CA q hq)
   exact⟨Mf _ _ _ _ hp.1 (CA p hp) hq.1 (CA q hq),Dw,by omega,by omega,HF p q⟩) W ht
 by_cases hs:smQ p∧smQ q
 ·refine wC I I (fun W h=>(hquick W (ht.hp h)).cast (if_pos hs)) ?_
  iterate 5 refine wP I ?_
  refine Aa (zE (zA (zB (wP I (Aa (zE (zR I (zA (zB (wP I (wP I (wP I (Aa ?_)))))))))))))
  exact zE (zO (zP (A4 tH I (.tmp I) (.tmp I) () (L9 (RG hs).2.1).symm tO fun W _=>Ap.nil _ _)))
 ·refine wC I I (fun W h=>(hquick W (ht.hp h)).cast (if_neg hs)) ?_
  iterate 5 refine wP I ?_
  refine Aa (zE (zA (zB (wP I (Aa (zE (zS I (zI (zE (zA (zB (wP I (wP I ?_)))))))))))))
  refine wD (X:=Nat) I I (fun W _=>Ff 77 W) ?_
  intro b18 _
  exact wC I I (fun W hp=>DE p q rs re 150 [Ai b18] hkp hkq W (hv.hp hp) (ht.hp hp) (by kernel_rfl) (fun W' hb=>(Ox p q (p-q) b18 77 (p.num*(q.den:Nat)-q.num*(p.den:Nat)) hkp hkq (HF p q) (by kernel_rfl) (fun hx W2 ht2=>Mh _ _ hx.1 hx.2 W2 ht2) W' ((ht.hp hp).below hb) ((Ag.of_bx hp 0 I I).below (Nat.le_refl _) hb)).cast ((VN En _).trans hr))) (wP I (wP I (wP I (wP I (Aa (zE (zO (wR2 I I hr.symm))))))))
theorem QB (p q:Rat) (hp:okQ p) (hq:okQ q) (hno: ¬GJ p q) (W:World) (ht:A6 W):
  Ad Tryz.prog 67 #[Ck p,Ck q] W (fun _:Unit=> .tuple #[str [], .int .i64 4]) (fun _=>True) (fun _=>[]):=by
 refine Ab (args:=[Ck p,Ck q]) Tryz.func67 I I I ?_
 refine zA (zB ?_)
 (refine Al rfl rfl rfl rfl ?_;intro)
 (refine Al rfl rfl rfl rfl ?_;intro)
 refine wP I (wP I (Aa (zE (zA (zB (wP I (wB 0 I I I (wP I (wB 1 I I I ?_)))))))))
 by_cases hz:okN (p.num*q.num)
 ·refine wC I I (fun W h=>(BG p.num q.num hp.1 hq.1 W (ht.hp h)).cast (Fl hz)) ?_
  iterate 5 refine wP I ?_
  refine Aa (zE (zA (zA (zB (wP I (wP I (Aa (zE (zS I (zI (zE (zA (zB ?_)))))))))))))
  refine wP I (wB 0 I I I (wP I (wB 1 I I I (wC I I (fun W h=>(BG (p.den:Nat) (q.den:Nat) hp.2 hq.2 W (ht.hp h)).cast (HB fun hd=>hno ⟨hz,hd⟩)) ?_))))
  iterate 5 refine wP I ?_
  refine Aa (zE (zA (zA (zB (wP I (wP I (Aa (zE (zR I (zA (zB (wP I (wP I (wP I ?_))))))))))))))
  exact Aa (zE (zO (zP (wR2 I I I))))
 ·refine wC I I (fun W h=>(BG p.num q.num hp.1 hq.1 W (ht.hp h)).cast (HB hz)) ?_
  iterate 5 refine wP I ?_
  refine Aa (zE (zA (zA (zB (wP I (wP I (Aa (zE (zR I (zA (zB (wP I (wP I (wP I ?_))))))))))))))
  exact Aa (zE (zO (zP (wR2 I I I))))
theorem Pj (p q:Rat) (hp:okQ p) (hq:okQ q) (W:World) (ht:A6 W):
  Ad Tryz.prog 67 #[Ck p,Ck q] W (fun _:Unit=>opV (GJ p q) (p*q)) (fun _=>True) (fun _=>[]):=by
 by_cases h:GJ p q
 ·exact(Ln p q hp hq h.1 h.2 W ht).cast (L9 h).symm
 ·exact(QB p q hp hq h W ht).cast (Ri h).symm
theorem Qt (p q:Rat) (hkp:okQ p) (hkq:okQ q) (W0:World) (hv:AE W0) (ht:A6 W0):
  Ad Tryz.prog 18 #[str (Ac p),str (Ac q)] W0 (fun _:Unit=>opV (GJ p q) (p*q)) (fun _=>True) (fun _=>[]):=by
 obtain⟨rs,re,hr⟩:=RQ (GJ p q) (p*q)
 have hlp:=AO hkp
 have hlq:=AO hkq
 refine Ab (args:=[str (Ac p),str (Ac q)]) Tryz.func18 I I I ?_
 refine zA (zB (wP I (wP I (Aa (zE (zA (zA (zB (wP I (wP I ?_))))))))))
 have hquick: ∀W,A6 W→Ad Tryz.prog 64 #[str (Ac p),str (Ac q), .func (.func 65) #[] #[]] W (fun _:Unit=>if smQ p∧smQ q then .tuple #[str (Ac (p*q)), .bool true] else .tuple #[str [], .bool false]) (fun _=>True) (fun _=>[]):=
  fun W ht=>D5 p q (p*q) (p.num*q.num) ((p.den:Nat)*(q.den:Nat)) _ (by kernel_rfl) (by omega) (by omega) (fun hp hq=>by
   have m1:=CJ hp.1 hq.1
   have m3:=CJ (CA p hp) (CA q hq)
   exact⟨L4 _ _ _ _ hp.1 (CA p hp) hq.1 (CA q hq),Dw,by omega,by omega,IR p q⟩) W ht
 by_cases hs:smQ p∧smQ q
 ·refine wC I I (fun W h=>(hquick W (ht.hp h)).cast (if_pos hs)) ?_
  iterate 5 refine wP I ?_
  refine Aa (zE (zA (zB (wP I (Aa (zE (zR I (zA (zB (wP I (wP I (wP I (Aa ?_)))))))))))))
  exact zE (zO (zP (A4 tH I (.tmp I) (.tmp I) () (L9 (RG hs).2.2.1).symm tO fun W _=>Ap.nil _ _)))
 ·refine wC I I (fun W h=>(hquick W (ht.hp h)).cast (if_neg hs)) ?_
  iterate 5 refine wP I ?_
  refine Aa (zE (zA (zB (wP I (Aa (zE (zS I (zI (zE (zA (zB (wP I (wP I ?_)))))))))))))
  exact wC I I (fun W hp=>DE p q rs re 67 [] hkp hkq W (hv.hp hp) (ht.hp hp) (by kernel_rfl) (fun W' hb=>(Pj p q hkp hkq W' ((ht.hp hp).below hb)).cast hr)) (wP I (wP I (wP I (wP I (Aa (zE (zO (wR2 I I hr.symm))))))))
-- BOXES 5
-- CODE2
def Ks (p q:Rat):Prop:=HT p (-q)
instance (p q:Rat):Decidable (Ks p q):=inferInstanceAs (Decidable (HT p (-q)))
-- BOXES 5
-- CODE2
theorem Si {z d:Int} (hd:d≠0) (hz:okN z) (hk:okN d):okQ (nrm z d):=(G0 (k:=mxd) z hd hz hk).ok (by decide)
theorem SR {p q:Rat} (h:Ks p q):okQ (p-q):=by
 rw[←HF]
 have h':=En.1 h
 exact Si Dw h'.2.1 h'.2.2
theorem SP {p q:Rat} (h:GJ p q):okQ (p*q):=by
 rw[←IR]
 exact Si Dw h.1 h.2
def okP (p:An):Prop:=okQ p.1∧okQ p.2
-- BOXES 5
-- CODE2
abbrev PtS:=List UInt8×List UInt8
def Pv (W:World) (p:Option Addr) (l:List PtS):Prop:=l=[]∨ ∃b off,p=some ⟨b,off,none⟩∧ ∀i (hi:i<l.length),Ag W b (off+i*2) [str l[i].1,str l[i].2]
theorem Pv.hp {W0 W:World} {bxs:List Bx} {p:Option Addr} {l:List PtS} (h:Pv W0 p l) (hp:Hp W0 bxs W):Pv W p l:=by
 rcases h with h|⟨b,off,e,h⟩
 ·exact Or.inl h
 ·exact Or.inr ⟨b,off,e,fun i hi=>(h i hi).hp hp⟩
-- BOXES 5
-- CODE2
def MR:List PtS→Int
 |[]=>0
 |x::l=>if (rdR x.1).2≠0 then(rdR x.1).2 else if (rdR x.2).2≠0 then(rdR x.2).2 else MR l
theorem TJ {l:List PtS} {i:Nat} (h:i<l.length):MR (l.drop i)=if (rdR l[i].1).2≠0 then(rdR l[i].1).2 else if (rdR l[i].2).2≠0 then(rdR l[i].2).2 else MR (l.drop (i+1)):=by
 rw[List.drop_eq_getElem_cons h]
 rfl
-- BOXES 4
-- CODE2
section
variable {P:Program} {N:Nat} {D:List Deferred} {ops:List Oper} {o:Oper} {rest:List Oper} {env:Env} {A A2:World→Prop} {R:Act→World→Prop}
theorem TF (k:Nat) {d:Nat} {t e:TypeId} {m:Nat} {parts:Array (Nat×Operand)} {vs:List (Nat×Value)} (z:Value) {c:List Value} (ht:P.underlying t=some (.array m e)) (hz: ∀W,(zeroValue t).run P W= .ok z W) (hs: ∀W,(Go.sizeOf e).run P W= .ok k W)
  (hg:Ax ops N env o=some true) (hd:o.dst=some d) (ho:o.op= .build t parts) (hp:Dx (evO N env) parts.toList=some vs) (hc:F3 (Iu k) z.cells.toList vs=some c)
  (h:WQ P N D ops A2 R rest ((d, .agg c.toArray)::env) A):WQ P N D ops A2 R (o::rest) env A:=
 DV hg hd (fun c e=>by rw[ho] at e;cases e) (fun ρ W hρ _=>by
  have hparts:(parts.map fun(i,x)=>(i,ρ x)).toList=vs:=by rw[←DF hρ hp];simp
  have hfill:=I5 hc
  simp only[Array.toArray_toList] at hfill
  have hfill':Instr.fill (fun i=>some (i*k,k)) z.cells (parts.map fun(i,x)=>(i,ρ x)).toList=some c.toArray:=by rw[hparts];exact hfill
  simp only[execOp,ho,Instr.build,Sem.run_bind,hz,Result.andThen_ok,run_underlying ht,hs,Sem.run_pure]
  rw[hfill']
  simp) h
end
section
variable {r:Option Nat} {n:Nat} {P:Program} {N:Nat} {D:List Deferred} {ops:List Oper} {Q:Exit→Act→World→Prop} {o:Oper} {rest:List Oper} {env:Env} {A A2:World→Prop} {R:Act→World→Prop}
theorem HW {ρ:Operand→Value} {t e:TypeId} {m c:Nat} {x y:Operand} {k:IntKind} {b off:Nat} {z:Int} (ht:P.underlying t=some (.array m e)) (hs: ∀W,(Go.sizeOf e).run P W= .ok c W) (ho:o.op= .indexAddr t x y)
  (hx:ρ x= .pointer (some ⟨b,off,none⟩)) (hy:ρ y= .int k z) (h0:0≤z∧z<m) (W:World):(execOp ρ o).run P W= .ok (.value (.pointer (some ⟨b,off+z.toNat*c,none⟩))) W:=by
 simp[execOp,ho,hx,hy,Instr.indexAt,Instr.sureAddr,asIntOf,run_underlying ht,hs,h0.1,h0.2,Addr.add_none]
theorem DP {d:Nat} {t e:TypeId} {m c:Nat} {x y:Operand} {k:IntKind} {b off:Nat} {z:Int} (ht:P.underlying t=some (.array m e)) (hs: ∀W,(Go.sizeOf e).run P W= .ok c W) (hg:Ax ops N env o=some true) (hd:o.dst=some d) (ho:o.op= .indexAddr t x y)
  (hx:evO N env x=some (.pointer (some ⟨b,off,none⟩))) (hy:evO N env y=some (.int k z)) (h0:0≤z∧z<m)
  (h:WL r n P N D ops Q rest ((d, .pointer (some ⟨b,off+z.toNat*c,none⟩))::env) A):WL r n P N D ops Q (o::rest) env A:=
 Cx hg hd (fun c e=>by rw[ho] at e;cases e) (fun _ W hρ _=>HW ht hs ho (hρ _ _ hx) (hρ _ _ hy) h0 W) h
theorem Bn {d:Nat} {t e:TypeId} {m c:Nat} {x y:Operand} {k:IntKind} {b off:Nat} {z:Int} (ht:P.underlying t=some (.array m e)) (hs: ∀W,(Go.sizeOf e).run P W= .ok c W) (hg:Ax ops N env o=some true) (hd:o.dst=some d) (ho:o.op= .indexAddr t x y)
  (hx:evO N env x=some (.pointer (some ⟨b,off,none⟩))) (hy:evO N env y=some (.int k z)) (h0:0≤z∧z<m)
  (h:WQ P N D ops A2 R rest ((d, .pointer (some ⟨b,off+z.toNat*c,none⟩))::env) A):WQ P N D ops A2 R (o::rest) env A:=
 DV hg hd (fun c e=>by rw[ho] at e;cases e) (fun _ W hρ _=>HW ht hs ho (hρ _ _ hx) (hρ _ _ hy) h0 W) h
end
def BH (W:World) (p:Option Addr) (l:List An):Prop:=l=[]∨ ∃b off,p=some ⟨b,off,none⟩∧ ∀i (hi:i<l.length),Ag W b (off+i*2) [str (Ac l[i].1),str (Ac l[i].2)]
theorem BH.below {W W':World} {p:Option Addr} {l:List An} {n:Nat} (h:BH W p l) (hn:W.heap.size≤n) (hb:Below n W W'):BH W' p l:=by
 rcases h with h|⟨b,off,h1,h2⟩
 ·exact .inl h
 ·exact .inr ⟨b,off,h1,fun i hi=>(h2 i hi).below hn hb⟩
theorem BH.hp {W0 W:World} {bxs:List Bx} {p:Option Addr} {l:List An} (h:BH W0 p l) (hp:Hp W0 bxs W):BH W p l:=h.below (Nat.le_refl _) hp.below
theorem BH.at_ {W:World} {p:Option Addr} {l:List An} (h:BH W p l) {i:Nat} (hi:i<l.length): ∃g off,p=some ⟨g,off,none⟩∧ ∀k (hk:k<l.length),Ag W g (off+k*2) [str (Ac l[k].1),str (Ac l[k].2)]:=by
 rcases h with h|⟨g,off,e,h⟩
 ·rw[h] at hi;exact absurd hi (Nat.not_lt_zero _)
 ·exact⟨g,off,e,h⟩
abbrev ptS (q:An):PtS:=(Ac q.1,Ac q.2)
structure UH (b:Nat) (p:Option Addr) (cap:Nat) (l:List An) (W:World):Prop where
 var:Ag W b 0 [slv p l.length cap]
 pts:BH W p l
abbrev sdV (p q:An):Value:= .agg #[str (Ac p.1),str (Ac p.2),str (Ac q.1),str (Ac q.2)]
abbrev Xq (l:List An) (k:Nat):List Value:=[.int .i64 (k:Nat),sdV (Ao l k) (Ao l (k+1))]
theorem EF (p:Option Addr) (n cap:Nat) (W:World):Ad Tryz.prog 282 #[slv p n cap] W (fun b:Nat=> .func (.func 328) #[] #[Ai b]) (fun _=>True) (fun b=>[⟨b,210,[slv p n cap],true,none⟩]):=by
 refine Ab (args:=[slv p n cap]) Tryz.func282 I I I ?_
 refine zA (zB ?_)
 (refine Al rfl rfl rfl rfl ?_;intro)
 refine wP I (Aa ?_)
 rename_i b
 exact zE (zA (zB (wP I (wP I (Aa (zE (zO (Aw tH I (.tmp I) b I tO fun W1 hp=>Ap.of_hp hp))))))))
abbrev MG (b:Nat) (q:An):List (Nat×Obj):=[(b, .cells (cvV q).cells 62 (0,0))]
theorem Fv (l:List An) (b1:Nat) (p:Option Addr) (cap:Nat) (hn:l.length<1099511627776):N0 Tryz.prog 328 [Ai b1] l.length (Xq l) (fun _=>UH b1 p cap l):=by
 refine⟨fun y J Jx hN hB hA hU hY W hJ=> ?_⟩
 have hdr: ∀k L W,J k L W→J k L { W with drawn:=W.drawn+1 }:=fun k L W h=>hB k L W _ h ⟨rfl,rfl,rfl,Nat.le_refl _,fun _ _=>rfl⟩
 have hp0:=(hN _ _ W hJ).1.pts
 refine C8 (args:=[.func (.yield y) #[] #[],Ai b1]) (J0:=J 0 []) (Jm:=fun W=> ∃L,J l.length L W) Tryz.func328 I I I hJ ?_
 refine zA (zB (wL 0 I I (fun W hp=>(hN _ _ W hp).1.var) I (wP I (wP I (Aa (zE (zH ?_)))))))
 refine Do (X:=Nat×List (Nat×Obj)) (fun s=>[(0, .func (.yield y) #[] #[]),(1,Ai b1),(5,slv p l.length cap),(6, .int .i64 (l.length:Nat)),(7, .int .i64 (s.1:Nat))]) (fun s W=>J s.1 s.2 W)
  (fun s=>s.1≤l.length) (fun s=>l.length-s.1) (0,[]) (Nat.zero_le _) ⟨rfl,rfl,rfl,rfl,rfl,trivial⟩ (fun W hp=>hp) ?_
 rintro⟨i,L⟩ hi
 have hi:i≤l.length:=hi
 refine zA (zB (wP I ?_))
 by_cases hlt:i<l.length
 rotate_left
 ·refine wU 8 false I (dF (by omega)) (Aa (zE (zA (zS I (zJ (zK (zK (zL ?_))))))))
  exact EG I fun W hp=>⟨L,by
   have e:i=l.length:=by omega
   have hp:J i L W:=hp
   rw[e] at hp
   exact hp⟩
 refine wU 8 true I (dT (by omega)) (Aa (zE (zA (zR I (zI (zE (zA (zH (zA (zB ?_))))))))))
 have hn0:0<l.length:=by omega
 have l2:(i+1)%l.length<l.length:=Nat.mod_lt _ hn0
 obtain⟨g,off,hpe,hrow⟩: ∃g off,p=some ⟨g,off,none⟩∧ ∀W k L,J k L W→ ∀j,j<l.length→Ag W g (off+j*2) [str (Ac (Ao l j).1),str (Ac (Ao l j).2)]:=by
  obtain⟨g,off,e,_⟩:=hp0.at_ hlt
  refine⟨g,off,e,fun W1 k L1 h1 j hj=> ?_⟩
  obtain⟨g',off',e',h2⟩:=(hN _ _ W1 h1).1.pts.at_ hj
  rw[e] at e'
  cases e'
  rw[CS hj]
  exact h2 j hj
 subst hpe
 have hz:(l.length:Int)≠0:=by omega
 have e2:(w64 ((i:Int)+1)).tmod (l.length:Int)=(((i+1)%l.length:Nat):Int):=by
  rw[Ar (x:=(i:Int)+1) (by omega) (by omega)]
  rfl
 refine wP I ?_
 refine wJ ?_
 refine wL 0 I I (fun W hp=>hrow W _ _ hp i hlt) I ?_
 refine JD (fun b W=>J i [(b, .cells (Value.agg #[str [],str []]).cells 62 (0,0))] W) I I I (Tryz.hZ.get I) (fun W W' b hp hb hl ho=>hA _ _ W W' b _ hp hb hl ho) fun b=> ?_
 refine wP I ?_
 refine Ka (cs:=[str [],str []]) (ty:=62) (fun W=>J i (MG b (Ao l i)) W) tH I I I I I I (fun W hp=>(hN _ _ W hp).2 (b,_) (List.mem_cons_self ..)) I I I (fun W W' hp hu=>hU _ _ _ _ W W' hp hu) ?_
 refine Aa (zE (A9 ?_))
 refine NI 12 (hdr _ _) Tryz.mixed (by kernel_rfl) I ?_
 refine qP I (qP I (qL 0 I I (fun W hp=>show Ag W b 0 (cvV (Ao l i)).cells.toList from Ag.of_block ((hN _ _ W hp).2 (b,_) (List.mem_cons_self ..))) I (qL 0 I I (fun W hp=>(hN _ _ W hp).1.var) I (qP I (qP I (qL 0 I I (fun W hp=>(hN _ _ W hp).1.var) I (qP I ?_)))))))
 refine E6 I I I I I hz ?_
 refine qV 20 (((i+1)%l.length:Nat):Int) I e2 ?_
 refine qJ ?_
 refine qL 0 I I (fun W hp=>hrow W _ _ hp ((i+1)%l.length) l2) I ?_
 refine TF 2 (.agg #[str [],str [],str [],str []]) Tryz.underlying321 (fun W=>by kernel_rfl) Tryz.sizeOf62 I I I I I ?_
 refine A7 ?_
 have hYk: ∀W,J i (MG b (Ao l i)) W→YieldAt (Fw none) 0 Tryz.prog y (Xq l i).toArray W fun e W'=>(e= .returned (.bool true)∧J (i+1) (MG b (Ao l i)) W')∨(e= .returned (.bool false)∧Jx W'):=fun W h=>hY _ _ W hlt h
 unfold Xq at hYk
 rw[←JY l (i+1)] at hYk
 refine Ec (A1:=fun W=>J (i+1) (MG b (Ao l i)) W) (A2:=Jx) I I I I I I hYk ?_ ?_
 rotate_left
 ·exact wP I (Aa (zE (zR I (zO (zQ (zP (zP (zQ (BO I (fun W h=>h))))))))))
 exact wP I (Aa (zE (zS I (zI (zN (zE (zB (wP I (wV 26 ((i+1:Nat):Int) I (A0 (by omega)) (wP I (Aa (Dn (i+1,MG b (Ao l i)) hlt (by show l.length-(i+1)<l.length-i;omega) ⟨I,I,I,I,I,tO⟩ (fun W hp=>hp)))))))))))))
theorem Mi (W:World) (p:Option Addr) (cap:Nat) (l:List PtS) (hA:Pv W p l) (hn:l.length<4611686018427387904) (hs: ∀x∈l,x.1.length≤4000000000∧x.2.length≤4000000000) (hv:AE W) (ht:A6 W):
  Ad Tryz.prog 318 #[slv p l.length cap] W (fun _:Unit=> .int .i64 (MR l)) (fun _=>True) (fun _=>[]):=by
 refine Ab (args:=[slv p l.length cap]) Tryz.func318 I I I ?_
 refine zA (zB (wP I (Aa (zE (zA (zA (zB (wP I (wP I (wP I (Aa (zE (zH ?_)))))))))))))
 refine At (X:=Nat) (fun i=>[(2, .int .i64 0),(8,slv p l.length cap),(9, .int .i64 (l.length:Nat)),(10, .int .i64 (i:Nat))]) (fun _=>[]) (fun i=>i≤l.length∧MR l=MR (l.drop i)) (fun i=>l.length-i) 0 ⟨Nat.zero_le _,I⟩ ⟨I,I,I,I,tO⟩ [] I ?_
 rintro i ⟨hi,he⟩
 have hi:i≤l.length:=hi
 have he:MR l=MR (l.drop i):=he
 refine zA (zB (wP I ?_))
 by_cases hlt:i<l.length
 rotate_left
 ·refine wU 11 false I (dF (by omega)) (Aa (zE (zA (zS I (zJ (zK (zK (zL (zE (zA (zB (wP I (Aa ?_)))))))))))))
  exact zE (zO (wR1 I I (by rw[he,List.drop_of_length_le (by omega)];rfl)))
 refine wU 11 true I (dT (by omega)) (Aa (zE (zA (zR I (zI (zE (zA (zH (zA (zB ?_))))))))))
 obtain⟨b,off,rfl,hrow⟩: ∃b off,p=some ⟨b,off,none⟩∧ ∀i (hi:i<l.length),Ag W b (off+i*2) [str l[i].1,str l[i].2]:=by
  rcases hA with h|h
  ·rw[h] at hlt;exact absurd hlt (by simp)
  ·exact h
 have hr:=hrow i hlt
 have hz:=hs l[i] (List.getElem_mem _)
 rw[TJ hlt] at he
 obtain⟨⟨x,y⟩,hx⟩: ∃x,x=l[i]:=⟨_,rfl⟩
 rw[←hx] at hr hz he
 simp only at hr hz he
 refine wJ ?_
 refine wL 0 I I (fun W1 hp=>hr.hp hp) I ?_
 (refine Ae Tryz.hZ rfl rfl rfl rfl ?_;intro)
 refine wS 0 I I I (Aa (zE (zA (zB (wP I (wB 0 I I I (wP I (wB 0 I I I ?_))))))))
 refine As Tryz.hZ tH I I I I I I I I I I I fun bS=> ?_
 refine wP I (wP I (Aa ?_))
 rename_i b4
 refine zE (zH ?_)
 refine At (X:=Nat) (fun k=>[(2, .int .i64 0),(8,slv (some ⟨b,off,none⟩) l.length cap),(9, .int .i64 (l.length:Nat)),(10, .int .i64 (i:Nat)),(18,slv (some ⟨bS,0,none⟩) 2 2),(19, .int .i64 2),(20, .int .i64 (k:Nat))]) (fun _=>[⟨b4,62,[str x,str y],true,none⟩,⟨bS,25,[str x,str y],true,none⟩]) (fun k=>k=0∨k=1∧(rdR x).2=0∨k=2∧(rdR x).2=0∧(rdR y).2=0) (fun k=>2-k) 0 (Or.inl I) ⟨I,I,I,I,I,I,I,tO⟩ [] I ?_
 rintro k (rfl|⟨rfl,h1⟩|⟨rfl,h1,h2⟩)
 ·refine zA (zB (wP I (Aa (zE (zA (zR I (zI (zE (zA (zH (zA (zB (wI I I (by decide) (by decide) ?_)))))))))))))
  refine wB 1 I I I (wP I (Aa (zE (zA (zB (wP I (wC I I (fun W1 hp=>Bu x hz.1 W1 (hv.hp hp) (ht.hp hp)) (wP I (Aa (zE (zA (zB (wP I (wP I ?_))))))))))))))
  by_cases h1:(rdR x).2=0
  rotate_left
  ·refine wU 27 true I (bne_iff_ne.2 h1) (Aa (zE (zR I (zA (zB (wP I (wP I (Aa (zE (zO (zQ (zP (zP ?_)))))))))))))
   refine zQ (zQ (zP (zP (zQ (zP ?_)))))
   rw[if_pos h1] at he
   exact wR1 I I (by rw[he])
  exact wU 27 false I (bne_eq_false_iff_eq.2 h1) (Aa (zE (zS I (zI (zN (zE (zB (wP I (wP I (Aa (Ak 1 (Or.inr (Or.inl ⟨I,h1⟩)) (by decide) ⟨I,I,I,I,I,I,I,tO⟩ [] I)))))))))))
 ·rw[if_neg (fun h=>h h1)] at he
  refine zA (zB (wP I (Aa (zE (zA (zR I (zI (zE (zA (zH (zA (zB (wI I I (by decide) (by decide) ?_)))))))))))))
  refine wB 1 I I I (wP I (Aa (zE (zA (zB (wP I (wC I I (fun W1 hp=>Bu y hz.2 W1 (hv.hp hp) (ht.hp hp)) (wP I (Aa (zE (zA (zB (wP I (wP I ?_))))))))))))))
  by_cases h2:(rdR y).2=0
  rotate_left
  ·refine wU 27 true I (bne_iff_ne.2 h2) (Aa (zE (zR I (zA (zB (wP I (wP I (Aa (zE (zO (zQ (zP (zP ?_)))))))))))))
   refine zQ (zQ (zP (zP (zQ (zP ?_)))))
   rw[if_pos h2] at he
   exact wR1 I I (by rw[he])
  exact wU 27 false I (bne_eq_false_iff_eq.2 h2) (Aa (zE (zS I (zI (zN (zE (zB (wP I (wP I (Aa (Ak 2 (Or.inr (Or.inr ⟨I,h1,h2⟩)) (by decide) ⟨I,I,I,I,I,I,I,tO⟩ [] I)))))))))))
 ·rw[if_neg (fun h=>h h1),if_neg (fun h=>h h2)] at he
  refine zA (zB (wP I (Aa (zE (zA (zS I (zJ (zK (zK (zL (zN (zE (zB ?_)))))))))))))
  exact wP I (wV 30 ((i+1:Nat):Int) I (A0 (by omega)) (wP I (Aa (Ak (i+1) ⟨hlt,he⟩ (by show l.length-(i+1)<l.length-i;omega) ⟨I,I,I,I,tO⟩ [_,_] I))))
-- BOXES 12
-- CODE2
def IV (k:Nat) (l:List An):Prop:= ∀p∈l,szQ p.1 k∧szQ p.2 k
theorem IV.at_ {k:Nat} {l:List An} (h:IV k l) (h0:0<l.length) (i:Nat):szQ (Ao l i).1 k∧szQ (Ao l i).2 k:=h _ (HA h0 i)
theorem Se {p q r:An} {k:Nat} (hp:szQ p.1 k∧szQ p.2 k) (hq:szQ q.1 k∧szQ q.2 k) (hr:szQ r.1 k∧szQ r.2 k) (hk:k≤36):X6 p q r:=by
 have a:=hq.1.sub hp.1
 have b:=hr.2.sub hp.2
 have c:=hq.2.sub hp.2
 have d:=hr.1.sub hp.1
 exact⟨sz2 hq.1 hp.1 (by omega),sz2 hr.2 hp.2 (by omega),sz2 hq.2 hp.2 (by omega),sz2 hr.1 hp.1 (by omega),sz2 a b (by omega),sz2 c d (by omega),sz2 (a.mul b) (c.mul d) (by omega)⟩
theorem Xp {x y:Rat} (h:y<x):C9 x y=1:=by
 have h1:=Mc x y
 rw[dT h] at h1
 have h2:=of_decide_eq_true h1
 rcases GF x y with e|e|e<;>omega
theorem US {p q r:An} (h:0<Ey p q r):Rc p q r=1:=Xp (by unfold Ey at h;grind)
theorem TR {l:List An} (h:HI l) {k i:Nat} (hk:k<l.length) (hi:i<l.length) (h1:i≠k) (h2:i≠(k+1)%l.length):Rc (Ao l k) (Ao l (k+1)) (Ao l i)=1:=by
 refine US (Fq.sideS h hk hi h1 ?_ ?_)
 ·intro e
  rw[e,Nat.mod_eq_of_lt (by omega)] at h2
  exact h2 I
 ·rintro⟨e,e2⟩
  rw[e,e2,Nat.mod_self] at h2
  exact h2 I
theorem Er {W0 W:World} {bxs:List Bx} (hp:Hp W0 bxs W) (k:Nat) {c:Nat} (h:bxs[k]? =some ⟨c,317,[.int .i64 0],true,none⟩):Dh W c:=
 (hp.own.cell k _ h (c,_) (List.mem_cons_self ..)).1
theorem BH.b {W:World} {p:Option Addr} {l:List An} (h:BH W p l):Pv W p (l.map ptS):=by
 rcases h with e|⟨g,off,e,hr⟩
 ·exact .inl (by rw[e];rfl)
 ·refine .inr ⟨g,off,e,fun i hi=> ?_⟩
  rw[List.getElem_map]
  exact hr i (by rw[List.length_map] at hi;exact hi)
theorem Sh: ∀ {l:List An},(∀p∈l,okQ p.1∧okQ p.2)→MR (l.map ptS)=0
 |[],_=>rfl
 |p::l,h=>by
  obtain⟨h1,h2⟩:=h p (List.mem_cons_self ..)
  show(if (rdR (Ac p.1)).2≠0 then _ else if (rdR (Ac p.2)).2≠0 then _ else MR (l.map ptS))=0
  rw[Di h1,Di h2,if_neg (fun h=>h rfl),if_neg (fun h=>h rfl)]
  exact Sh fun q hq=>h q (List.mem_cons_of_mem _ hq)
theorem GI (W:World) (p:Option Addr) (cap:Nat) (l:List An) (hA:BH W p l) (hn:l.length≤100000) (hk: ∀p∈l,okQ p.1∧okQ p.2) (hv:AE W) (ht:A6 W):
  Ad Tryz.prog 318 #[slv p l.length cap] W (fun _:Unit=> .int .i64 0) (fun _=>True) (fun _=>[]):=by
 have h:=Mi W p cap (l.map ptS) hA.b (by rw[List.length_map];omega) (fun x hx=>by
  obtain⟨q,hq,rfl⟩:=List.mem_map.1 hx
  have h1:=AO (hk q hq).1
  have h2:=AO (hk q hq).2
  show(Ac q.1).length≤_∧(Ac q.2).length≤_
  omega) hv ht
 rwa [Sh hk,List.length_map] at h
theorem OW (l:List An) (hP:HI l) (h3:3≤l.length) (hn:l.length≤4096) (hs:IV 36 l) (p:Option Addr) (cap:Nat) (W:World) (hA:BH W p l) (hv:AE W) (ht:A6 W):
  Ad Tryz.prog 281 #[slv p l.length cap] W (fun _:Unit=> .int .i64 0) (fun _=>True) (fun _=>[]):=by
 have hn0:0<l.length:=by omega
 have hz:(l.length:Int)≠0:=by omega
 refine Ab (args:=[slv p l.length cap]) Tryz.func281 I I I ?_
 refine zA (zB ?_)
 (refine Al rfl rfl rfl rfl ?_;intro)
 (refine Ae Tryz.hZ rfl rfl rfl rfl ?_;intro)
 refine Aa ?_
 rename_i b1 b2
 refine zE (zA (zH (zA (zB (wB 0 I I I (wP I (wP I (wU 13 false I (dF (by omega)) (wP I (Aa (zE (zS I (zA ?_)))))))))))))
 refine zB (wB 0 I I I (wP I (wP I (wU 17 false I (dF (by omega)) (wP I (Aa (zE (zS I (zI (zN (zE (zA (zA ?_)))))))))))))
 refine zB (wB 0 I I I (wC I I (fun W1 hp=>GI W1 p cap l (hA.hp hp) (by omega) (fun q hq=>⟨(hs q hq).1.ok (by decide),(hs q hq).2.ok (by decide)⟩) (hv.hp hp) (ht.hp hp)) (wP I (Aa (zE (zA (zB (wP I (wP I (Aa (zE (zS I (zI ?_)))))))))))))
 refine zE (zA (zB ?_))
 refine Au Tryz.hZ tH I I I I I I I I ?_
 (refine Al rfl rfl rfl rfl ?_;intro)
 (refine Ae Tryz.hZ rfl rfl rfl rfl ?_;intro)
 (refine Ae Tryz.hZ rfl rfl rfl rfl ?_;intro)
 refine wS 3 I I I (wS 4 I I I (Aa ?_))
 rename_i bC b4 b5
 refine zE (zA (zA (zB (wB 0 I I I ?_))))
 refine wD (X:=Nat) I I (fun W1 _=>EF p l.length cap W1) ?_
 intro bp _
 refine Aa (zE (zH ?_))
 refine El (X:=Unit) (fun _=>[⟨b1,210,[slv p l.length cap],true,none⟩,⟨b2,28,[.int .i64 0],true,none⟩,⟨bC,317,[.int .i64 0],true,none⟩,⟨b4,315,[Ai bC],true,none⟩,⟨b5,4,[.bool false],true,none⟩,⟨bp,210,[slv p l.length cap],true,none⟩])
  (fun _ _=>True) (fun _ _=>False) () rfl (by kernel_rfl) (Fv l bp p cap (by omega)) (fun _=>rfl)
  trivial [] rfl (fun k x W1 _ hp=>⟨Ag.of_bx hp 5 rfl rfl,hA.hp hp⟩) ?_ ?_ (fun _ _ _ _ _ h=>h.elim)
 ·rintro k ⟨⟩ d l' rec L hk _ hrec
  have hk:k<l.length:=hk
  refine zA (zB (wP I (Aa (zE (zB ?_)))))
  (refine Ae Tryz.hZ rfl rfl rfl rfl ?_;intro)
  refine wS 9 I I I (Aa ?_)
  rename_i b7
  refine B5 8 hrec I ?_
  refine Bt (zA (zB (wB 1 I I I (wP I (wP I (Aa (zE (zH ?_))))))))
  refine At (X:=Nat) (fun i=>[(1,Ai b1),(2,Ai b2),(4,Ai b4),(5,Ai b5),(6, .int .i64 (k:Nat)),(7,Ai b7),(29,slv p l.length cap),(30, .int .i64 (l.length:Nat)),(31, .int .i64 (i:Nat))])
   (fun _=>[AP L,⟨b1,210,[slv p l.length cap],true,none⟩,⟨b2,28,[.int .i64 0],true,none⟩,⟨bC,317,[.int .i64 0],true,none⟩,⟨b4,315,[Ai bC],true,none⟩,⟨b5,4,[.bool false],true,none⟩,⟨bp,210,[slv p l.length cap],true,none⟩,Bw d,AU l' rec .busy none,⟨b7,321,(sdV (Ao l k) (Ao l (k+1))).cells.toList,true,none⟩])
   (fun i=>i≤l.length) (fun i=>l.length-i) 0 (Nat.zero_le _) ⟨rfl,rfl,rfl,rfl,rfl,rfl,rfl,rfl,rfl,trivial⟩ [] rfl ?_
  intro i hi
  have hi:i≤l.length:=hi
  refine zA (zB (wP I ?_))
  by_cases hlt:i<l.length
  rotate_left
  ·exact wU 32 false I (dF (by omega)) (Aa (zE (zA (zS I (zJ (zK (zK (zL (zN (Ba 8 () hrec I tO [_] I))))))))))
  refine wU 32 true I (dT (by omega)) (Aa (zE (zA (zR I (zI (zE (zA (zH (zA (zB ?_))))))))))
  obtain⟨g,off,hpe,hrow⟩:=hA.at_ hlt
  have hrow:=hrow i hlt
  rw[←CS hlt] at hrow
  subst hpe
  refine wP I ?_
  refine wJ ?_
  refine wL 0 I I (fun W1 hp=>hrow.hp hp) I ?_
  (refine Ae Tryz.hZ rfl rfl rfl rfl ?_;intro)
  refine wP I (wS 10 I I I (Aa ?_))
  rename_i b9
  refine zE (zA (zA (zB (wP I (wP I (wP I ?_))))))
  by_cases h1:i=k
  ·refine wU 38 false I (bne_eq_false_iff_eq.2 (by omega)) (wP I ?_)
   iterate 7 refine Af I I ?_
   refine wP I (wP I ?_)
   iterate 8 refine Af I I ?_
   refine wP I (Aa (zE (zS I (zI (zE (zA (zB (wB 4 I I I ?_))))))))
   refine AG I I I I ?_
   exact wP I (wB 3 I I I (wP I (Aa (zE (zS I (zI (zN (zE (zB (wP I (wV 67 ((i+1:Nat):Int) I (A0 (by omega)) (wP I (Aa (Ak (i+1) hlt (by show l.length-(i+1)<l.length-i;omega) ⟨I,I,I,I,I,I,I,I,I,tO⟩ [_] I))))))))))))))
  refine wU 38 true I (bne_iff_ne.2 (by omega)) (wP I (wP I (wP I (wP I (wV 42 ((k+1:Nat):Int) I (A0 (by omega)) (wB 1 I I I (wP I ?_)))))))
  refine Iz I I I I I hz ?_
  refine wV 45 (((k+1)%l.length:Nat):Int) I I (wP I ?_)
  by_cases h2:i=(k+1)%l.length
  ·refine wU 46 false I (bne_eq_false_iff_eq.2 (by omega)) (wP I (wP I ?_))
   iterate 8 refine Af I I ?_
   refine wP I (Aa (zE (zS I (zI (zE (zA (zB (wB 4 I I I ?_))))))))
   refine AG I I I I ?_
   exact wP I (wB 3 I I I (wP I (Aa (zE (zS I (zI (zN (zE (zB (wP I (wV 67 ((i+1:Nat):Int) I (A0 (by omega)) (wP I (Aa (Ak (i+1) hlt (by show l.length-(i+1)<l.length-i;omega) ⟨I,I,I,I,I,I,I,I,I,tO⟩ [_] I))))))))))))))
  refine wU 46 true I (bne_iff_ne.2 (by omega)) (wP I (wP I (wB 4 I I I ?_)))
  refine DP Tryz.underlying321 Tryz.sizeOf62 I I I I I ⟨by decide,by decide⟩ ?_
  refine wB 9 I I I ?_
  refine DP Tryz.underlying321 Tryz.sizeOf62 I I I I I ⟨by decide,by decide⟩ ?_
  refine wB 9 I I I (wB 10 I I I (wC I I (fun W1 hp=>(Qy bC (Ao l k) (Ao l (k+1)) (Ao l i) (Se (hs.at_ hn0 _) (hs.at_ hn0 _) (hs.at_ hn0 _) (by decide)) W1 (Er hp 3 I) (hv.hp hp) (ht.hp hp)).cast (v':= .int .i64 1) (by rw[TR hP hk hlt h1 h2])) (wP I (wP I (Aa (zE (zS I (zI (zE (zA (zB (wB 4 I I I ?_))))))))))))
  refine AG I I I I ?_
  exact wP I (wB 3 I I I (wP I (Aa (zE (zS I (zI (zN (zE (zB (wP I (wV 67 ((i+1:Nat):Int) I (A0 (by omega)) (wP I (Aa (Ak (i+1) hlt (by show l.length-(i+1)<l.length-i;omega) ⟨I,I,I,I,I,I,I,I,I,tO⟩ [_] I))))))))))))))
 ·rintro⟨⟩ d l' rec _
  refine zN (zE (zA (zA (zB (wB 4 I I I (Aa (zE (zS I (zI (zE (zA (zB (wS 1 I I I ?_)))))))))))))
  refine Aa (zE (zO ?_))
  refine BN 6 I ?_
  exact Aw tH I (.cell 1 I I I I I) () I tO fun W _=>Ap.nil _ _
end
end Go.Proofs.YtndkgionklmdfaaGreatDoor
