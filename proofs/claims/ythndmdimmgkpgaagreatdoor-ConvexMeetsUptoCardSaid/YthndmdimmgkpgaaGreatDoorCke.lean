/-
  Lemmas that the theorem convexMeets_upto_card needs (part 5 of 7).
-/
import Derived.Test.YthndmdimmgkpgaaGreatDoorCkd
import Derived.Shelf.Lays
import Derived.Shelf.SlLaysN
import Derived.Shelf.Small.Bits
import Derived.Laws.StructEq
set_option maxHeartbeats 64000000
namespace Go.Proofs.YthndmdimmgkpgaaGreatDoor
section
open Go Go.RowKit Go.Am Go.Lib
set_option maxRecDepth 10000
-- BOXES 1
-- CODE2
theorem Qi {n m k:Nat} (h:n≤m) (hk:0<k) (hm:(decDigits m).length≤k):(decDigits n).length≤k:=
 D9 k n (by omega) (Nat.lt_of_le_of_lt h (Nat.lt_of_lt_of_le (DG m) (Nat.pow_le_pow_right (by decide) hm)))
theorem H4 {z:Int} (h:z<0):itoa z=45::itoa (-z):=by
 unfold itoa
 rw[if_pos h,if_neg (by omega),show(-z).toNat=z.natAbs by omega]
theorem Kk {z:Int} (h: ¬z<0):itoa z=decDigits z.natAbs:=by rw[Co];unfold FT;rw[if_neg h];rfl
theorem QE {z:Int} (h:(itoa z).length≤18):z.natAbs<1000000000000000000:=by
 rw[Co,List.length_append] at h
 exact Nat.lt_of_lt_of_le (DG _) (show _≤10^18 from Nat.pow_le_pow_right (by decide) (by omega))
theorem Ju (z d:Int) (hd:d≠0) (hz:okN z) (hdk:okN d) (W:World) (ht:AI W):
  Ai Tryz.prog 150 #[str (itoa z),str (itoa d)] W (fun _:Unit=> .tuple #[str (Ad (nrm z d)), .int .i64 0]) (fun _=>True) (fun _=>[]):=by
 have lz:=Fg hz.dd
 have ld:=Fg hdk.dd
 obtain⟨c0,hc0,hc45⟩:=E0 d
 obtain⟨u,hu⟩: ∃u,u=if d<0 then -z else z:=⟨_,rfl⟩
 obtain⟨e,he⟩: ∃e,e=d.natAbs:=⟨_,rfl⟩
 have he0:0<e:=by omega
 have hnr:nrm z d=mkRat u e:=by unfold nrm;rw[hu,he]
 have hua:u.natAbs=z.natAbs:=by rw[hu];split<;>omega
 have huk:okN u:=by unfold okN;rw[hua];exact hz
 have hek:okN (e:Int):=by unfold okN;rw[Int.natAbs_natCast,he];exact hdk
 have hel:(decDigits e).length≤300:=by have:=hek.dd;rwa [Int.natAbs_natCast] at this
 have hie:itoa (e:Int)=decDigits e:=Gz e
 rw[hnr]
 refine Ac (args:=[str (itoa z),str (itoa d)]) Tryz.func150 I I I ?_
 refine zA (zB (wP I (wP I (Aa (zE (zA (zA (zB (wP I ?_)))))))))
 refine AV 0 tH I I I I I I I I hc0 ?_
 refine wP I (wU 11 (decide (d<0)) I ((Dt c0 45).trans hc45) (Aa (AH ?_)))
 try refine Ar ?_
 refine AC (X:=Unit) (fun _=>[(0,str (itoa u)),(1,str (itoa (e:Int)))]) (fun _=>[]) (fun _=>True) ?_ ?_
 ·refine Aw I (fun h=> ?_) (fun h=> ?_)
  ·have h:d<0:=of_decide_eq_true h
   have ed:itoa d=45::itoa (e:Int):=by rw[H4 h,show -d=(e:Int) by omega]
   have eu:u= -z:=by rw[hu,if_pos h]
   obtain⟨c1,hc1,hc2⟩:=E0 z
   refine zA (zB (wP I ?_))
   refine EI 1 tH I I I I I I I I (by rw[ed,List.length_cons];omega) ?_
   refine Ah 13 (str (itoa (e:Int))) I (by rw[ed];rfl) ?_
   refine wP I (Aa (zE (zA (zB (wP I ?_)))))
   refine AV 0 tH I I I I I I I I hc1 ?_
   refine wP I (wU 16 (decide (z<0)) I ((Dt c1 45).trans hc2) (Aa (zE ?_)))
   refine Aw I (fun hzn=> ?_) (fun hzn=> ?_)
   ·have hzn:z<0:=of_decide_eq_true hzn
    refine zB (wP I ?_)
    refine EI 1 tH I I I I I I I I (by rw[H4 hzn,List.length_cons];omega) ?_
    exact wP I (Aa (An () tO ⟨by rw[H4 hzn,eu];rfl,I,tO⟩ [] I))
   ·have hzn: ¬z<0:=of_decide_eq_false hzn
    refine zA (zB (wP I (wP I ?_)))
    by_cases hz0:z=0
    ·exact wU 20 false I (by show(!_)=false;rw[Be,hz0,Ck];rfl) (Aa (zE (zS I (zI (An () tO ⟨by rw[eu,hz0];rfl,I,tO⟩ [] I)))))
    ·refine wU 20 true I (by show(!_)=true;rw[Be,dF fun h=>hz0 (Hb.1 h)];rfl) (Aa (zE (zR I (zB (wP I ?_)))))
     refine BX I I I I I (a:=[45]) (b:=itoa z) (by decide) (by omega) ?_
     exact wP I (Aa (An () tO ⟨by rw[eu,H4 (show -z<0 by omega),Int.neg_neg];rfl,I,tO⟩ [] I))
  ·have h: ¬d<0:=of_decide_eq_false h
   exact zI (An () tO ⟨by rw[hu,if_neg h];rfl,by rw[show(e:Int)=d by omega];rfl,tO⟩ [] I)
 intro _ _
 have lu:=Fg huk.dd
 have le:=Fg hek.dd
 obtain⟨c1,hc1,hc2⟩:=E0 u
 refine Ar (Ar ?_)
 refine AC (X:=Unit) (fun _=>[(0,str (itoa u)),(1,str (itoa (e:Int))),(30, .bool (decide ((itoa u).length≤18∧(itoa (e:Int)).length≤18)))]) (fun _=>[]) (fun _=>True) ?_ ?_
 ·refine zB (wP I (wP I ?_))
  refine Ah 24 (.int .i64 ((itoa u).length:Nat)) I (congrArg (fun n:Nat=>Value.int .i64 (n:Int)) (A5 _)) ?_
  refine wP I ?_
  by_cases h1:(itoa u).length≤18
  ·refine wU 25 true I (dT (by omega)) (wP I (wP I (wP I ?_)))
   refine Ah 28 (.int .i64 ((itoa (e:Int)).length:Nat)) I (congrArg (fun n:Nat=>Value.int .i64 (n:Int)) (A5 _)) ?_
   exact wP I (wU 29 (decide ((itoa u).length≤18∧(itoa (e:Int)).length≤18)) I (decide_eq_decide.2 (by omega)) (wP I (Aa (An () tO ⟨I,I,I,tO⟩ [] I))))
  ·refine wU 25 false I (dF (by omega)) (wP I ?_)
   iterate 3 refine Ao I I ?_
   exact wP I (Aa (An () tO ⟨I,I,by rw[dF (fun h:(itoa u).length≤18∧(itoa (e:Int)).length≤18=>h1 h.1)];rfl,tO⟩ [] I))
 intro _ _
 refine Aw I (fun h18=> ?_) (fun h18=> ?_)
 ·obtain⟨h1,h2⟩:=of_decide_eq_true h18
  have u18:=QE h1
  have e18:=QE h2
  rw[Int.natAbs_natCast] at e18
  rw[hie] at h2
  refine zA (zA (zB (wP I ?_)))
  refine AV 0 tH I I I I I I I I hc1 ?_
  refine wP I (wU 33 (decide (u<0)) I ((Dt c1 45).trans hc2) (Aa (zE ?_)))
  refine Aw I (fun hn=> ?_) (fun hn=> ?_)
  ·have hn:u<0:=of_decide_eq_true hn
   have eu:itoa u=45::decDigits u.natAbs:=by rw[H4 hn,Kk (by omega),Int.natAbs_neg]
   have hdl:(decDigits u.natAbs).length≤18:=by rw[eu,List.length_cons] at h1;omega
   refine zA (zB (wP I ?_))
   refine EI 1 tH I I I I I I I I (by rw[eu,List.length_cons];omega) ?_
   refine Ah 35 (str (decDigits u.natAbs)) I (by rw[eu];rfl) ?_
   refine wC I I (fun W _=>(Ch (decDigits u.natAbs) hdl (ED _).all W).cast (v':= .int .i64 (u.natAbs:Nat)) (by rw[BP])) (wP I (wV 37 u I (by show w64 (0-((u.natAbs:Nat):Int))=_;rw[A0 (by omega) (by omega)];omega) (wP I ?_)))
   refine Ah 38 (str (decDigits e)) I (by rw[hie]) ?_
   exact wC I I (fun W _=>(Ch (decDigits e) h2 (ED _).all W).cast (v':= .int .i64 (e:Nat)) (by rw[BP])) (wC I I (fun W _=>DU u e (by omega) he0 (by omega) W) (wP I (wP I (Aa (zE (zO (zP (zP (wR2 I I I)))))))))
  ·have hn: ¬u<0:=of_decide_eq_false hn
   have eu:itoa u=decDigits u.natAbs:=Kk hn
   rw[eu] at h1
   refine zI (zE (zA (zB (wP I ?_))))
   refine Ah 41 (str (decDigits u.natAbs)) I (by rw[eu]) ?_
   refine wC I I (fun W _=>(Ch (decDigits u.natAbs) h1 (ED _).all W).cast (v':= .int .i64 u) (by rw[BP];exact congrArg (Value.int .i64) (by omega))) (wP I ?_)
   refine Ah 43 (str (decDigits e)) I (by rw[hie]) ?_
   exact wC I I (fun W _=>(Ch (decDigits e) h2 (ED _).all W).cast (v':= .int .i64 (e:Nat)) (by rw[BP])) (wC I I (fun W _=>DU u e (by omega) he0 (by omega) W) (wP I (wP I (Aa (zE (zO (zP (wR2 I I I))))))))
 obtain⟨g,hg⟩: ∃g,Nat.gcd u.natAbs e=g:=⟨_,rfl⟩
 have hg0:0<g:=by rw[←hg];exact Nat.gcd_pos_of_pos_right _ he0
 have hgu:(g:Int)∣u:=Int.natAbs_dvd_natAbs.1 (by rw[Int.natAbs_natCast, ←hg];exact Nat.gcd_dvd_left ..)
 have hge:g∣e:=by rw[←hg];exact Nat.gcd_dvd_right ..
 have hgle:g≤e:=Nat.le_of_dvd he0 hge
 have hgl:(decDigits g).length≤300:=Qi hgle (by decide) hel
 obtain⟨x,hx⟩: ∃x,x=u/(g:Int):=⟨_,rfl⟩
 have hxe:=M4 hg0 hgu
 have hxl:(decDigits x.natAbs).length≤300:=by
  rw[hx,hxe.1]
  exact Qi (Nat.div_le_self ..) (by decide) huk.dd
 obtain⟨y,hy⟩: ∃y,y=e/g:=⟨_,rfl⟩
 have hyl:(decDigits y).length≤300:=by
  rw[hy]
  exact Qi (Nat.div_le_self ..) (by decide) hel
 have hyI:(e:Int)/(g:Int)=(y:Int):=by rw[hy];exact(Int.natCast_ediv _ _).symm
 have hnum:Ad (mkRat u e)=if y=1 then itoa x else itoa x++[47]++decDigits y:=by
  by_cases h1:y=1
  ·rw[if_pos h1,I1 (by omega) (by rw[hg, ←hy];exact h1),hg, ←hx]
  ·rw[if_neg h1,IE (by omega) (by rw[hg, ←hy];exact h1),hg, ←hx, ←hy,Gz]
 have lx:=Fg hxl
 obtain⟨c3,hc3,hc4⟩:=E0 x
 refine zI (zE (zA (zB (wP I (wP I (wC I I (fun W1 hp=>(L7 u (e:Int) huk.dd hek.dd W1 (ht.hp hp)).cast (v':= .tuple #[str (itoa (g:Int)), .int .i64 0]) (by rw[Int.natAbs_natCast,hg])) ?_))))))
 iterate 5 refine wP I ?_
 refine Aa (zE (zA (zA (zB (wP I (wP I (Aa (zE (zS I (zI (zE (zA (zB ?_)))))))))))))
 refine wP I (wP I (wC I I (fun W1 hp=>(Lh u g hg0 hgu huk.dd hgl W1 (ht.hp hp)).cast (v':= .tuple #[str (itoa x),str [48], .int .i64 0]) (by rw[hx])) ?_))
 iterate 6 refine wP I ?_
 refine Aa (zE (zA (zA (zB (wP I (wP I (Aa (zE (zS I (zI (zE (zA (zB ?_)))))))))))))
 refine wP I (wP I (wC I I (fun W1 hp=>(Lh (e:Int) g hg0 (Int.natCast_dvd_natCast.2 hge) hek.dd hgl W1 (ht.hp hp)).cast (v':= .tuple #[str (decDigits y),str [48], .int .i64 0]) (by rw[hyI,Gz])) ?_))
 iterate 6 refine wP I ?_
 refine Aa (zE (zA (zA (zB (wP I (wP I (Aa (zE (zS I (zI (zE (zA (zB ?_)))))))))))))
 refine wP I (wP I (Aa (zE (zA (zA (zB (wP I ?_)))))))
 refine AV 0 tH I I I I I I I I hc3 ?_
 refine wP I (wU 78 (decide (x<0)) I ((Dt c3 45).trans hc4) (Aa (AH ?_)))
 try refine Ar ?_
 refine AC (X:=Unit) (fun _=>[(0,str (itoa x)),(1,str (decDigits y)),(8,str (decDigits x.natAbs))]) (fun _=>[]) (fun _=>True) ?_ ?_
 ·refine Aw I (fun hn=> ?_) (fun hn=> ?_)
  ·have hn:x<0:=of_decide_eq_true hn
   have ex:itoa x=45::decDigits x.natAbs:=by rw[H4 hn,Kk (by omega),Int.natAbs_neg]
   refine zB (wP I ?_)
   refine EI 1 tH I I I I I I I I (by rw[ex,List.length_cons];omega) ?_
   refine Ah 80 (str (decDigits x.natAbs)) I (by rw[ex];rfl) ?_
   exact wP I (Aa (An () tO ⟨I,I,I,tO⟩ [] I))
  ·have hn: ¬x<0:=of_decide_eq_false hn
   exact zI (An () tO ⟨I,I,by rw[←Kk hn];rfl,tO⟩ [] I)
 intro _ _
 refine zA (zA (zB (wP I (wP I ?_))))
 refine Ah 82 (.int .i64 ((decDigits x.natAbs).length:Nat)) I (congrArg (fun n:Nat=>Value.int .i64 (n:Int)) (A5 _)) ?_
 refine wP I (wU 83 false I (dF (by omega)) (wP I (wP I (wP I ?_))))
 refine Ah 86 (.int .i64 ((decDigits y).length:Nat)) I (congrArg (fun n:Nat=>Value.int .i64 (n:Int)) (A5 _)) ?_
 refine wP I (wU 87 false I (dF (by omega)) (wP I (Aa (zE (zS I (zI (zE (zA (zA (zB (wP I (wP I ?_))))))))))))
 by_cases h1:y=1
 ·exact wU 90 true I (by rw[Be,h1,Fi];rfl) (Aa (zE (zR I (zA (zB (wP I (wP I (wP I (Aa (zE (zO (zP (wR2 I I (by rw[hnum,if_pos h1]))))))))))))))
 ·refine wU 90 false I (by rw[Be];exact dF fun h=>h1 (by have:=congrArg AN h;rw[BP] at this;exact this)) (Aa (zE (zS I (zI (zE (zA (zB (wP I ?_))))))))
  refine BX I I I I I (a:=itoa x) (b:=[47]) (by omega) (by decide) ?_
  refine wP I ?_
  refine BX I I I I I (by rw[List.length_append];show _+1≤_;omega) (by omega) ?_
  exact wP I (wP I (Aa (zE (zO (wR2 I I (by rw[hnum,if_neg h1]))))))
theorem KI (n d m c:Int) (hn:okN n) (hd:okN d) (hm:okN m) (hc:okN c) (hnm:okN (n*m)) (hdc:okN (d*c)) (h0:d*c≠0) (W:World) (ht:AI W):
  Ai Tryz.prog 180 #[str (itoa n),str (itoa d),str (itoa m),str (itoa c)] W (fun _:Unit=> .tuple #[str (Ad (nrm (n*m) (d*c))), .int .i64 0]) (fun _=>True) (fun _=>[]):=by
 refine Ac (args:=[str (itoa n),str (itoa d),str (itoa m),str (itoa c)]) Tryz.func180 I I I ?_
 refine zA (zB (wP I (wP I (Aa (zE (zA (zB (wP I (wP I (wP I (wP I (wC I I (fun W1 hp=>EQ n m d c hn hm hd hc hnm hdc W1 (ht.hp hp)) ?_))))))))))))
 iterate 7 refine wP I ?_
 refine Aa (zE (zA (zA (zB (wP I (wP I (Aa (zE (zS I (zI (zE (zA (zB ?_)))))))))))))
 exact wP I (wP I (wC I I (fun W1 hp=>Ju (n*m) (d*c) h0 hnm hdc W1 (ht.hp hp)) (wP I (wP I (wP I (wP I (Aa (zE (zO (wR2 I I I))))))))))
-- BOXES 1
-- CODE2
theorem Hy {q:Rat} (h:okQ q):(Ad q).length≤1000:=by
 have:=AX h
 omega
theorem M0 {q:Rat} (h:okQ q) (W:World) (ht:AI W):Ai Tryz.prog 31 #[str (Ad q)] W (fun _:Unit=> .int .i64 0) (fun _=>True) (fun _=>[]):=
 (G9 (Ad q) (by have:=Hy h;omega) W ht).cast (by rw[IX h])
theorem Cg {p q:Rat} (hp':okQ p) (hq:okQ q) (W:World) (ht:AI W):Ai Tryz.prog 100 #[str (Ad p),str (Ad q)] W (fun _:Unit=> .int .i64 0) (fun _=>True) (fun _=>[]):=by
 refine Ac (args:=[str (Ad p),str (Ad q)]) Tryz.func100 I I I ?_
 refine zA (zB (wP I (Aa (zE (zA (zA (zB (wP I (wC I I (fun W1 hp=>M0 hp' W1 (ht.hp hp)) (wP I (Aa (zE (zA ?_)))))))))))))
 refine zB (wP I (wP I (Aa (zE (zS I (zI (zE (zA (zB (wP I (wC I I (fun W1 hp=>M0 hq W1 (ht.hp hp)) (wP I (Aa ?_)))))))))))))
 exact zE (zO (wR1 I I I))
def iN (q:Rat):Int:=if E9 q=true then q.num else 0
def iD (q:Rat):Int:=if E9 q=true then((q.den:Nat):Int) else 0
theorem B1 {q:Rat} (h:okQ q):B0 Tryz.prog 120 [str (Ad q)] (.tuple #[.int .i64 (iN q), .int .i64 (iD q), .bool (E9 q)]):=fun W=>
 (PQ q (by have:=Hy h;omega) W).cast (by
  unfold iN iD
  cases E9 q<;>rfl)
theorem JT {x y:Int} (hx:x.natAbs<1000000000) (hy:y.natAbs<1000000000):(x*y).natAbs<1000000000000000000:=by
 rw[Int.natAbs_mul]
 have:=Nat.mul_lt_mul'' hx hy
 omega
theorem Ef {x y:Int} (hx:x.natAbs<1000000000) (hy:y.natAbs<1000000000):w64 (x*y)=x*y:=by
 have:=JT hx hy
 exact A0 (by omega) (by omega)
theorem Fz {n:Nat} (h:n<1000000000):((n:Nat):Int).natAbs<1000000000:=by rw[Int.natAbs_natCast];exact h
def sh2 (p q:Rat):Bool:=E9 p&&E9 q
theorem Gq {p q:Rat} (h:sh2 p q=true):iN p=p.num∧iD p=(p.den:Nat)∧iN q=q.num∧iD q=(q.den:Nat)∧p.num.natAbs<1000000000∧p.den<1000000000∧q.num.natAbs<1000000000∧q.den<1000000000:=by
 obtain⟨h1,h2⟩:=Bool.and_eq_true_iff.1 h
 obtain⟨a1,a2⟩:=Jl h1
 obtain⟨b1,b2⟩:=Jl h2
 exact⟨if_pos h1,if_pos h1,if_pos h2,if_pos h2,a1,a2,b1,b2⟩
theorem Rm (z:Int) {d:Nat} (hd:0<d):nrm z (d:Int)=mkRat z d:=by
 unfold nrm
 rw[if_neg (by omega),Int.natAbs_natCast]
theorem Br {q:Rat} (h:okQ q):B0 Tryz.prog 121 [str (Ad q)] (.tuple #[str (itoa q.num),str (itoa ((q.den:Nat):Int))]):=fun W=>
 (NY q (Hy h) W).cast (by rw[Gz])
-- BOXES 1
-- CODE2
theorem Ev (a b c d:Int) (ha:okN a) (hb:okN b) (hab: ¬okN (a*b)) (W:World) (ht:AI W):
  Ai Tryz.prog 122 #[str (itoa a),str (itoa b),str (itoa c),str (itoa d)] W (fun _:Unit=> .tuple #[str [],str [], .int .i64 4]) (fun _=>True) (fun _=>[]):=by
 refine Ac (args:=[str (itoa a),str (itoa b),str (itoa c),str (itoa d)]) Tryz.func122 I I I ?_
 refine zA (zB (wP I (wP I (wP I (Aa (zE (zA (zB (wP I (wP I (wC I I (fun W1 hp=>(LL a b ha.dd hb.dd W1 (ht.hp hp)).cast (Es hab)) ?_)))))))))))
 iterate 5 refine wP I ?_
 refine Aa (zE (zA (zA (zB (wP I (wP I (Aa (zE (zR I (zA (zB (wP I (wP I (wP I (wP I ?_)))))))))))))))
 exact Aa (zE (zO (zP (wR3 I I I))))
theorem FO (a b c d:Int) (ha:okN a) (hb:okN b) (hc:okN c) (hd:okN d) (hab:okN (a*b)) (hcd: ¬okN (c*d)) (W:World) (ht:AI W):
  Ai Tryz.prog 122 #[str (itoa a),str (itoa b),str (itoa c),str (itoa d)] W (fun _:Unit=> .tuple #[str (itoa (a*b)),str [], .int .i64 4]) (fun _=>True) (fun _=>[]):=by
 refine Ac (args:=[str (itoa a),str (itoa b),str (itoa c),str (itoa d)]) Tryz.func122 I I I ?_
 refine zA (zB (wP I (wP I (wP I (Aa (zE (zA (zB (wP I (wP I (wC I I (fun W1 hp=>HQ a b ha.dd hb.dd hab.dd W1 (ht.hp hp)) ?_)))))))))))
 iterate 5 refine wP I ?_
 refine Aa (zE (zA (zA (zB (wP I (wP I (Aa (zE (zS I (zI (zE (zA (zB ?_)))))))))))))
 refine wP I (wP I (wC I I (fun W1 hp=>(LL c d hc.dd hd.dd W1 (ht.hp hp)).cast (Es hcd)) ?_))
 iterate 5 refine wP I ?_
 refine Aa (zE (zA (zB ?_)))
 iterate 6 refine wP I ?_
 exact Aa (zE (zO (wR3 I I I)))
def opV (ok:Prop) [Decidable ok] (r:Rat):Value:=if ok then .tuple #[str (Ad r), .int .i64 0] else .tuple #[str [], .int .i64 4]
theorem E7 {ok:Prop} [Decidable ok] {r:Rat} (h:ok):opV ok r= .tuple #[str (Ad r), .int .i64 0]:=if_pos h
theorem FJ {ok:Prop} [Decidable ok] {r:Rat} (h: ¬ok):opV ok r= .tuple #[str [], .int .i64 4]:=if_neg h
instance (z:Int):Decidable (okN z):=inferInstanceAs (Decidable (z.natAbs<Bo))
def Cj (p q:Rat):Prop:=okN (p.num*(q.den:Nat))∧okN (q.num*(p.den:Nat))∧okN ((p.den:Nat)*(q.den:Nat))∧okN (p.num*(q.den:Nat)+q.num*(p.den:Nat))
instance (p q:Rat):Decidable (Cj p q):=inferInstanceAs (Decidable (_∧_∧_∧_))
theorem Jy (p q:Rat) (hkp:okQ p) (hkq:okQ q) (W:World) (ht:AI W):
  Ai Tryz.prog 101 #[str (Ad p),str (Ad q)] W (fun _:Unit=>opV (Cj p q) (p+q)) (fun _=>True) (fun _=>[]):=by
 have hpn:=p.den_pos
 have hqn:=q.den_pos
 have ra:=GA p q
 refine Ac (args:=[str (Ad p),str (Ad q)]) Tryz.func101 I I I ?_
 refine zA (zB (wP I (wP I (Aa (zE (zA (zB (wP I (wC I I (fun W _=>B1 hkp W) ?_)))))))))
 iterate 7 refine wP I ?_
 refine Aa (zE (zA (zB (wP I (wC I I (fun W _=>B1 hkq W) ?_)))))
 iterate 7 refine wP I ?_
 refine Aa (AH (Ar (Ar ?_)))
 refine AC (X:=Unit) (fun _=>[(0,str (Ad p)),(1,str (Ad q)),(6, .int .i64 (iN p)),(7, .int .i64 (iD p)),(9, .int .i64 (iN q)),(10, .int .i64 (iD q)),(37, .bool (sh2 p q))]) (fun _=>[]) (fun _=>True) ?_ ?_
 ·refine zB (wP I (wP I ?_))
  refine CI 35 I (fun h35=> ?_) (fun h35=> ?_)
  ·exact wP I (wP I (Aa (An () tO ⟨I,I,I,I,I,I,congrArg (fun b=>some (Value.bool b)) (by unfold sh2;simp_all),tO⟩ [] I)))
  ·refine Ao I I ?_
   exact wP I (Aa (An () tO ⟨I,I,I,I,I,I,congrArg (fun b=>some (Value.bool b)) (by unfold sh2;simp_all),tO⟩ [] I))
 intro _ _
 refine Aw I (fun hs=> ?_) (fun hs=> ?_)
 ·obtain⟨e1,e2,e3,e4,l1,l2,l3,l4⟩:=Gq hs
  have m1:=JT l1 (Fz l4)
  have m2:=JT l3 (Fz l2)
  have m3:=JT (Fz l2) (Fz l4)
  have hdd:((p.den:Nat):Int)*((q.den:Nat):Int)=((p.den*q.den:Nat):Int):=(Int.natCast_mul _ _).symm
  rw[hdd,Int.natAbs_natCast] at m3
  have hpq:=Nat.mul_pos hpn hqn
  rw[hdd,Rm _ hpq] at ra
  have hok:Cj p q:=⟨Dh (Nat.lt_trans (show(p.num*(q.den:Nat)).natAbs<1000000000000000000 by omega) (by decide)),Dh (Nat.lt_trans (show(q.num*(p.den:Nat)).natAbs<1000000000000000000 by omega) (by decide)),Dh (Nat.lt_trans (show(((p.den:Nat):Int)*((q.den:Nat):Int)).natAbs<1000000000000000000 by rw[hdd,Int.natAbs_natCast];omega) (by decide)),Dh (Nat.lt_trans (show(p.num*(q.den:Nat)+q.num*(p.den:Nat)).natAbs<2000000000000000001 by omega) (by decide))⟩
  refine zA (zB (wP I (wP I (wP I (wV 40 (p.num*(q.den:Nat)) I (by rw[e1,e4];exact Ef l1 (Fz l4)) (wP I (wP I (wP I (wV 43 (q.num*(p.den:Nat)) I (by rw[e3,e2];exact Ef l3 (Fz l2)) (wP I (wV 44 (p.num*(q.den:Nat)+q.num*(p.den:Nat)) I (A0 (by omega) (by omega)) (wP I (wP I (wP I ?_))))))))))))))
  exact wV 47 ((p.den*q.den:Nat):Int) I (by rw[e2,e4, ←hdd];exact Ef (Fz l2) (Fz l4)) (wC I I (fun W _=>(DU (p.num*(q.den:Nat)+q.num*(p.den:Nat)) (p.den*q.den) (by omega) hpq (by omega) W).cast (v':=str (Ad (p+q))) (by rw[ra])) (wP I (wP I (Aa (zE (zO (zP (A7 tH I (.tmp I) (.tmp I) () (E7 hok).symm tO fun W _=>Ap.nil _ _))))))))
 ·have hd0:((p.den:Nat):Int)*((q.den:Nat):Int)≠0:=Int.mul_ne_zero (by omega) (by omega)
  refine zI (zE (zA (zB (wP I (wC I I (fun W _=>Br hkp W) ?_)))))
  iterate 5 refine wP I ?_
  refine Aa (zE (zA (zB (wP I (wC I I (fun W _=>Br hkq W) ?_)))))
  iterate 5 refine wP I ?_
  refine Aa ?_
  by_cases h1:okN (p.num*(q.den:Nat))
  ·by_cases h2:okN (q.num*(p.den:Nat))
   ·refine zE (zA (zB (wP I (wP I (wP I (wP I (wC I I (fun W1 hp=>EQ p.num (q.den:Nat) q.num (p.den:Nat) hkp.1 hkq.2 hkq.1 hkp.2 h1 h2 W1 (ht.hp hp)) ?_)))))))
    iterate 7 refine wP I ?_
    refine Aa (zE (zA (zA (zB (wP I (wP I (Aa (zE (zS I (zI (zE (zA (zB ?_)))))))))))))
    by_cases h3:okN ((p.den:Nat)*(q.den:Nat))
    ·skip
     refine wP I (wP I ?_)
     refine wC I I (fun W1 hp=>by
      have h1:=EQ (p.den:Nat) (q.den:Nat) 1 1 hkp.2 hkq.2 (Dh (by decide)) (Dh (by decide)) h3 (Dh (by decide)) W1 (ht.hp hp)
      rw[show(1:Int)*1=1 from rfl,Pp] at h1
      exact h1) ?_
     iterate 7 refine wP I ?_
     refine Aa (zE (zA (zA (zB ?_))))
     iterate 5 refine wP I ?_
     refine wU 82 false I (by show(!_)=false;rw[Be,dT I];rfl) (wP I (Aa (zE (zS I (zI (zE (zA (zB ?_))))))))
     by_cases h4:okN (p.num*(q.den:Nat)+q.num*(p.den:Nat))
     ·have hok:Cj p q:=⟨h1,h2,h3,h4⟩
      refine wP I (wP I (wC I I (fun W1 hp=>Pq (p.num*(q.den:Nat)) (q.num*(p.den:Nat)) h1.dd h2.dd h4.dd W1 (ht.hp hp)) ?_))
      iterate 5 refine wP I ?_
      refine Aa (zE (zA (zA (zB (wP I (wP I (Aa (zE (zS I (zI (zE (zA (zB ?_)))))))))))))
      exact wP I (wP I (wC I I (fun W1 hp=>(Ju _ _ hd0 h4 h3 W1 (ht.hp hp)).cast (v':= .tuple #[str (Ad (p+q)), .int .i64 0]) (by rw[ra])) (wP I (wP I (wP I (wP I (Aa (zE (zO (A7 tH I (.tmp I) (.tmp I) () (E7 hok).symm tO fun W _=>Ap.nil _ _))))))))))
     ·have hno: ¬Cj p q:=fun h=>h4 h.2.2.2
      refine wP I (wP I (wC I I (fun W1 hp=>(PP (p.num*(q.den:Nat)) (q.num*(p.den:Nat)) h1.dd h2.dd W1 (ht.hp hp)).cast (Es h4)) ?_))
      iterate 5 refine wP I ?_
      refine Aa (zE (zA (zA (zB (wP I (wP I (Aa (zE (zR I (zA (zB (wP I (wP I (wP I ?_))))))))))))))
      exact Aa (zE (zO (zP (A7 tH I (.tmp I) (.tmp I) () (FJ hno).symm tO fun W _=>Ap.nil _ _))))
    ·have hno: ¬Cj p q:=fun h=>h3 h.2.2.1
     refine wP I (wP I ?_)
     refine wC I I (fun W1 hp=>by
      have h1:=Ev (p.den:Nat) (q.den:Nat) 1 1 hkp.2 hkq.2 h3 W1 (ht.hp hp)
      rw[Pp] at h1
      exact h1) ?_
     iterate 7 refine wP I ?_
     refine Aa (zE (zA (zA (zB (wP I (wP I (wP I ?_)))))))
     iterate 2 refine Ao I I ?_
     exact wP I (Aa (zE (zR I (zA (zB (wP I (wP I (wP I (Aa (zE (zO (zP (A7 tH I (.tmp I) (.tmp I) () (FJ hno).symm tO fun W _=>Ap.nil _ _)))))))))))))
   ·have hno: ¬Cj p q:=fun h=>h2 h.2.1
    refine zE (zA (zB (wP I (wP I (wP I (wP I (wC I I (fun W1 hp=>FO p.num (q.den:Nat) q.num (p.den:Nat) hkp.1 hkq.2 hkq.1 hkp.2 h1 h2 W1 (ht.hp hp)) ?_)))))))
    iterate 7 refine wP I ?_
    refine Aa (zE (zA (zA (zB (wP I (wP I (Aa (zE (zR I (zA (zB (wP I (wP I (wP I ?_))))))))))))))
    exact Aa (zE (zO (zP (A7 tH I (.tmp I) (.tmp I) () (FJ hno).symm tO fun W _=>Ap.nil _ _))))
  ·have hno: ¬Cj p q:=fun h=>h1 h.1
   refine zE (zA (zB (wP I (wP I (wP I (wP I (wC I I (fun W1 hp=>Ev p.num (q.den:Nat) q.num (p.den:Nat) hkp.1 hkq.2 h1 W1 (ht.hp hp)) ?_)))))))
   iterate 7 refine wP I ?_
   refine Aa (zE (zA (zA (zB (wP I (wP I (Aa (zE (zR I (zA (zB (wP I (wP I (wP I ?_))))))))))))))
   exact Aa (zE (zO (zP (A7 tH I (.tmp I) (.tmp I) () (FJ hno).symm tO fun W _=>Ap.nil _ _))))
theorem Pv (p q:Rat) (hkp:okQ p) (hkq:okQ q) (W:World) (ht:AI W):
  Ai Tryz.prog 127 #[str (Ad p),str (Ad q)] W (fun _:Unit=>opV (Cj p q) (p+q)) (fun _=>True) (fun _=>[]):=by
 obtain⟨rs,re,hr⟩: ∃s e,opV (Cj p q) (p+q)= .tuple #[str s, .int .i64 e]:=by unfold opV;split<;>exact⟨_,_,rfl⟩
 refine Ac (args:=[str (Ad p),str (Ad q)]) Tryz.func127 I I I ?_
 refine zA (zB (wP I (wP I (Aa (zE (zA (zA (zB (wP I (wP I (wC I I (fun W1 hp=>Cg hkp hkq W1 (ht.hp hp)) (wP I (Aa ?_)))))))))))))
 refine zE (zA (zB (wP I (wP I (Aa (zE (zS I (zI (zE (zA (zB (wP I (wP I ?_)))))))))))))
 exact wC I I (fun W1 hp=>(Jy p q hkp hkq W1 (ht.hp hp)).cast hr) (wP I (wP I (wP I (wP I (Aa (zE (zO (wR2 I I hr.symm))))))))
theorem TT {q:Rat} (h:okQ q):okQ (-q):=⟨QT h.1,h.2⟩
theorem Qp (p q:Rat) (hkp:okQ p) (hkq:okQ q) (W:World) (ht:AI W):
  Ai Tryz.prog 43 #[str (Ad p),str (Ad q)] W (fun _:Unit=>opV (Cj p (-q)) (p-q)) (fun _=>True) (fun _=>[]):=by
 obtain⟨rs,re,hr⟩: ∃s e,opV (Cj p (-q)) (p-q)= .tuple #[str s, .int .i64 e]:=by unfold opV;split<;>exact⟨_,_,rfl⟩
 refine Ac (args:=[str (Ad p),str (Ad q)]) Tryz.func43 I I I ?_
 refine zA (zB (wP I (wP I (Aa (zE (zA (zA (zB (wP I (wP I (wC I I (fun W1 hp=>Cg hkp hkq W1 (ht.hp hp)) (wP I (Aa ?_)))))))))))))
 refine zE (zA (zB (wP I (wP I (Aa (zE (zS I (zI (zE (zA (zB (wP I (wP I ?_)))))))))))))
 exact wC I I (fun W _=>Qh q (Hy hkq) W) (wC I I (fun W1 hp=>(Jy p (-q) hkp (TT hkq) W1 (ht.hp hp)).cast ((congrArg (opV _) (Rat.sub_eq_add_neg p q).symm).trans hr)) (wP I (wP I (wP I (wP I (Aa (zE (zO (wR2 I I hr.symm)))))))))
-- BOXES 1
-- CODE2
def BY (p q:Rat):Prop:=okN (p.num*q.num)∧okN ((p.den:Nat)*(q.den:Nat))
def Bg (p q:Rat):Prop:=okN (p.num*(q.den:Nat))∧okN (q.num*(p.den:Nat))
instance (p q:Rat):Decidable (BY p q):=inferInstanceAs (Decidable (_∧_))
instance (p q:Rat):Decidable (Bg p q):=inferInstanceAs (Decidable (_∧_))
theorem Je {p q:Rat} (hs:sh2 p q=true):okN (p.num*(q.den:Nat))∧okN (q.num*(p.den:Nat))∧okN ((p.den:Nat)*(q.den:Nat))∧okN (p.num*q.num):=by
 obtain⟨e1,e2,e3,e4,l1,l2,l3,l4⟩:=Gq hs
 exact⟨Dh (Nat.lt_trans (JT l1 (Fz l4)) (by decide)),Dh (Nat.lt_trans (JT l3 (Fz l2)) (by decide)),Dh (Nat.lt_trans (JT (Fz l2) (Fz l4)) (by decide)),Dh (Nat.lt_trans (JT l1 l3) (by decide))⟩
theorem Jr (n d m c:Int) (hn:okN n) (hd:okN d) (hm:okN m) (hc:okN c) (hno:okN (n*m)→okN (d*c)→False) (W:World) (ht:AI W):
  Ai Tryz.prog 180 #[str (itoa n),str (itoa d),str (itoa m),str (itoa c)] W (fun _:Unit=> .tuple #[str [], .int .i64 4]) (fun _=>True) (fun _=>[]):=by
 refine Ac (args:=[str (itoa n),str (itoa d),str (itoa m),str (itoa c)]) Tryz.func180 I I I ?_
 refine zA (zB (wP I (wP I (Aa (zE (zA (zB (wP I (wP I (wP I (wP I ?_)))))))))))
 by_cases h1:okN (n*m)
 ·refine wC I I (fun W1 hp=>FO n m d c hn hm hd hc h1 (hno h1) W1 (ht.hp hp)) ?_
  iterate 7 refine wP I ?_
  refine Aa (zE (zA (zA (zB (wP I (wP I (Aa (zE (zR I (zA (zB (wP I (wP I (wP I ?_))))))))))))))
  exact Aa (zE (zO (zP (wR2 I I I))))
 ·refine wC I I (fun W1 hp=>Ev n m d c hn hm h1 W1 (ht.hp hp)) ?_
  iterate 7 refine wP I ?_
  refine Aa (zE (zA (zA (zB (wP I (wP I (Aa (zE (zR I (zA (zB (wP I (wP I (wP I ?_))))))))))))))
  exact Aa (zE (zO (zP (wR2 I I I))))
theorem P8 (p q:Rat) (hkp:okQ p) (hkq:okQ q) (h:BY p q) (W:World) (ht:AI W):
  Ai Tryz.prog 128 #[str (Ad p),str (Ad q)] W (fun _:Unit=> .tuple #[str (Ad (p*q)), .int .i64 0]) (fun _=>True) (fun _=>[]):=by
 have hpn:=p.den_pos
 have hqn:=q.den_pos
 have ra:=H3 p q
 refine Ac (args:=[str (Ad p),str (Ad q)]) Tryz.func128 I I I ?_
 refine zA (zB (wP I (wP I (Aa (zE (zA (zA (zB (wP I (wP I (wC I I (fun W1 hp=>Cg hkp hkq W1 (ht.hp hp)) (wP I (Aa ?_)))))))))))))
 refine zE (zA (zB (wP I (wP I (Aa (zE (zS I (zI (zE (zA (zB (wP I (wC I I (fun W _=>B1 hkp W) ?_)))))))))))))
 iterate 7 refine wP I ?_
 refine Aa (zE (zA (zB (wP I (wC I I (fun W _=>B1 hkq W) ?_)))))
 iterate 7 refine wP I ?_
 refine Aa (AH (Ar (Ar ?_)))
 refine AC (X:=Unit) (fun _=>[(0,str (Ad p)),(1,str (Ad q)),(7, .int .i64 (iN p)),(8, .int .i64 (iD p)),(10, .int .i64 (iN q)),(11, .int .i64 (iD q)),(38, .bool (sh2 p q))]) (fun _=>[]) (fun _=>True) ?_ ?_
 ·refine zB (wP I (wP I ?_))
  refine CI 36 I (fun h36=> ?_) (fun h36=> ?_)
  ·exact wP I (wP I (Aa (An () tO ⟨I,I,I,I,I,I,congrArg (fun b=>some (Value.bool b)) (by unfold sh2;simp_all),tO⟩ [] I)))
  ·refine Ao I I ?_
   exact wP I (Aa (An () tO ⟨I,I,I,I,I,I,congrArg (fun b=>some (Value.bool b)) (by unfold sh2;simp_all),tO⟩ [] I))
 intro _ _
 refine Aw I (fun hs=> ?_) (fun hs=> ?_)
 ·obtain⟨e1,e2,e3,e4,l1,l2,l3,l4⟩:=Gq hs
  have m1:=JT l1 l3
  have m3:=JT (Fz l2) (Fz l4)
  have hdd:((p.den:Nat):Int)*((q.den:Nat):Int)=((p.den*q.den:Nat):Int):=(Int.natCast_mul _ _).symm
  rw[hdd,Int.natAbs_natCast] at m3
  have hpq:=Nat.mul_pos hpn hqn
  rw[hdd,Rm _ hpq] at ra
  refine zA (zB (wP I (wP I (wP I (wV 41 (p.num*q.num) I (by rw[e1,e3];exact Ef l1 l3) (wP I (wP I (wP I (wV 44 ((p.den*q.den:Nat):Int) I (by rw[e2,e4, ←hdd];exact Ef (Fz l2) (Fz l4)) (wC I I (fun W _=>(DU (p.num*q.num) (p.den*q.den) (by omega) hpq (by omega) W).cast (v':=str (Ad (p*q))) (by rw[ra])) (wP I (wP I (Aa ?_)))))))))))))
  exact zE (zO (zP (wR2 I I I)))
 ·have hd0:((p.den:Nat):Int)*((q.den:Nat):Int)≠0:=Int.mul_ne_zero (by omega) (by omega)
  refine zI (zE (zA (zB (wP I (wC I I (fun W _=>Br hkp W) ?_)))))
  iterate 5 refine wP I ?_
  refine Aa (zE (zA (zB (wP I (wC I I (fun W _=>Br hkq W) ?_)))))
  iterate 5 refine wP I ?_
  refine Aa (zE (zA (zB (wP I (wP I (wP I (wP I (wC I I (fun W1 hp=>(KI p.num (p.den:Nat) q.num (q.den:Nat) hkp.1 hkp.2 hkq.1 hkq.2 h.1 h.2 hd0 W1 (ht.hp hp)).cast (v':= .tuple #[str (Ad (p*q)), .int .i64 0]) (by rw[ra])) (wP I (wP I (wP I (wP I (Aa ?_)))))))))))))
  exact zE (zO (wR2 I I I))
theorem PZ (p q:Rat) (hkp:okQ p) (hkq:okQ q) (hno: ¬BY p q) (W:World) (ht:AI W):
  Ai Tryz.prog 128 #[str (Ad p),str (Ad q)] W (fun _:Unit=> .tuple #[str [], .int .i64 4]) (fun _=>True) (fun _=>[]):=by
 refine Ac (args:=[str (Ad p),str (Ad q)]) Tryz.func128 I I I ?_
 refine zA (zB (wP I (wP I (Aa (zE (zA (zA (zB (wP I (wP I (wC I I (fun W1 hp=>Cg hkp hkq W1 (ht.hp hp)) (wP I (Aa ?_)))))))))))))
 refine zE (zA (zB (wP I (wP I (Aa (zE (zS I (zI (zE (zA (zB (wP I (wC I I (fun W _=>B1 hkp W) ?_)))))))))))))
 iterate 7 refine wP I ?_
 refine Aa (zE (zA (zB (wP I (wC I I (fun W _=>B1 hkq W) ?_)))))
 iterate 7 refine wP I ?_
 refine Aa (AH (Ar (Ar ?_)))
 refine AC (X:=Unit) (fun _=>[(0,str (Ad p)),(1,str (Ad q)),(7, .int .i64 (iN p)),(8, .int .i64 (iD p)),(10, .int .i64 (iN q)),(11, .int .i64 (iD q)),(38, .bool (sh2 p q))]) (fun _=>[]) (fun _=>True) ?_ ?_
 ·refine zB (wP I (wP I ?_))
  refine CI 36 I (fun h36=> ?_) (fun h36=> ?_)
  ·exact wP I (wP I (Aa (An () tO ⟨I,I,I,I,I,I,congrArg (fun b=>some (Value.bool b)) (by unfold sh2;simp_all),tO⟩ [] I)))
  ·refine Ao I I ?_
   exact wP I (Aa (An () tO ⟨I,I,I,I,I,I,congrArg (fun b=>some (Value.bool b)) (by unfold sh2;simp_all),tO⟩ [] I))
 intro _ _
 refine Aw I (fun hs=> ?_) (fun hs=> ?_)
 ·exact absurd (⟨(Je hs).2.2.2,(Je hs).2.2.1⟩) hno
 ·refine zI (zE (zA (zB (wP I (wC I I (fun W _=>Br hkp W) ?_)))))
  iterate 5 refine wP I ?_
  refine Aa (zE (zA (zB (wP I (wC I I (fun W _=>Br hkq W) ?_)))))
  iterate 5 refine wP I ?_
  refine Aa (zE (zA (zB (wP I (wP I (wP I (wP I (wC I I (fun W1 hp=>Jr p.num (p.den:Nat) q.num (q.den:Nat) hkp.1 hkp.2 hkq.1 hkq.2 (fun h1 h2=>hno ⟨h1,h2⟩) W1 (ht.hp hp)) (wP I (wP I (wP I (wP I (Aa ?_)))))))))))))
  exact zE (zO (wR2 I I I))
theorem Qf (p q:Rat) (hkp:okQ p) (hkq:okQ q) (h:Bg p q) (h0:q.num≠0) (W:World) (ht:AI W):
  Ai Tryz.prog 146 #[str (Ad p),str (Ad q)] W (fun _:Unit=> .tuple #[str (Ad (p/q)), .int .i64 0]) (fun _=>True) (fun _=>[]):=by
 have hpn:=p.den_pos
 have hqn:=q.den_pos
 have ra:=IV p q h0
 refine Ac (args:=[str (Ad p),str (Ad q)]) Tryz.func146 I I I ?_
 refine zA (zB (wP I (wP I (Aa (zE (zA (zA (zB (wP I (wP I (wC I I (fun W1 hp=>Cg hkp hkq W1 (ht.hp hp)) (wP I (Aa ?_)))))))))))))
 refine zE (zA (zB (wP I (wP I (Aa (zE (zS I (zI (zE (zA (zA (zB (wP I (wP I ?_))))))))))))))
 refine wU 24 false I ((Be _ _).trans (dF fun e=>h0 (EB.1 e))) (Aa (zE (zS I (zI (zE (zA (zB (wP I (wC I I (fun W _=>B1 hkp W) ?_)))))))))
 iterate 7 refine wP I ?_
 refine Aa (zE (zA (zB (wP I (wC I I (fun W _=>B1 hkq W) ?_)))))
 iterate 7 refine wP I ?_
 refine Aa (AH (Ar (Ar ?_)))
 refine AC (X:=Unit) (fun _=>[(0,str (Ad p)),(1,str (Ad q)),(7, .int .i64 (iN p)),(8, .int .i64 (iD p)),(10, .int .i64 (iN q)),(11, .int .i64 (iD q)),(40, .bool (sh2 p q))]) (fun _=>[]) (fun _=>True) ?_ ?_
 ·refine zB (wP I (wP I ?_))
  refine CI 38 I (fun h38=> ?_) (fun h38=> ?_)
  ·exact wP I (wP I (Aa (An () tO ⟨I,I,I,I,I,I,congrArg (fun b=>some (Value.bool b)) (by unfold sh2;simp_all),tO⟩ [] I)))
  ·refine Ao I I ?_
   exact wP I (Aa (An () tO ⟨I,I,I,I,I,I,congrArg (fun b=>some (Value.bool b)) (by unfold sh2;simp_all),tO⟩ [] I))
 intro _ _
 refine Aw I (fun hs=> ?_) (fun hs=> ?_)
 ·obtain⟨e1,e2,e3,e4,l1,l2,l3,l4⟩:=Gq hs
  obtain⟨m,hm⟩: ∃m,m=q.num.natAbs:=⟨_,rfl⟩
  obtain⟨c,hc⟩: ∃c:Int,c=if q.num<0 then -((q.den:Nat):Int) else((q.den:Nat):Int):=⟨_,rfl⟩
  have hca:c.natAbs<1000000000:=by rw[hc];split<;>omega
  have hm9:m<1000000000:=by omega
  have m1:=JT l1 hca
  have m3:=JT (Fz l2) (Fz hm9)
  have hdd:((p.den:Nat):Int)*((m:Nat):Int)=((p.den*m:Nat):Int):=(Int.natCast_mul _ _).symm
  rw[hdd,Int.natAbs_natCast] at m3
  have hpq:0<p.den*m:=Nat.mul_pos hpn (by omega)
  have hr:mkRat (p.num*c) (p.den*m)=p/q:=by
   rw[←ra]
   unfold nrm
   have hn1:(((p.den:Nat):Int)*q.num).natAbs=p.den*m:=by rw[Int.natAbs_mul,Int.natAbs_natCast,hm]
   rw[hn1]
   by_cases hq:q.num<0
   ·rw[if_pos (Int.mul_neg_of_pos_of_neg (by omega) hq),hc,if_pos hq,Int.mul_neg]
   ·rw[if_neg (by have:=Int.mul_nonneg (show(0:Int)≤(p.den:Nat) by omega) (show 0≤q.num by omega);omega),hc,if_neg hq]
  refine zA (zA (zB (wP I (wP I (wU 42 (decide (q.num<0)) I (by rw[e3]) (Aa (AH ?_)))))))
  try refine Ar ?_
  refine AC (X:=Unit) (fun _=>[(7, .int .i64 (iN p)),(8, .int .i64 (iD p)),(10, .int .i64 (m:Nat)),(11, .int .i64 c)]) (fun _=>[]) (fun _=>True) ?_ ?_
  ·refine Aw I (fun hq=> ?_) (fun hq=> ?_)
   ·have hq:q.num<0:=of_decide_eq_true hq
    exact zB (wP I (wP I (wV 44 (m:Nat) I (by rw[e3];show w64 (0-q.num)=_;rw[A0 (by omega) (by omega)];omega) (wP I (wP I (wV 46 c I (by rw[e4];show w64 (0-((q.den:Nat):Int))=_;rw[A0 (by omega) (by omega),hc,if_pos hq];omega) (wP I (wP I (Aa (An () tO ⟨I,I,I,I,tO⟩ [] I))))))))))
   ·have hq: ¬q.num<0:=of_decide_eq_false hq
    exact zI (An () tO ⟨I,I,congrArg (fun z=>some (Value.int .i64 z)) (by rw[e3];omega),congrArg (fun z=>some (Value.int .i64 z)) (by rw[e4,hc,if_neg hq]),tO⟩ [] I)
  intro _ _
  refine zA (zB (wP I (wP I (wP I (wV 49 (p.num*c) I (by rw[e1];exact Ef l1 hca) (wP I (wP I (wP I (wV 52 ((p.den*m:Nat):Int) I (by rw[e2, ←hdd];exact Ef (Fz l2) (Fz hm9)) (wC I I (fun W _=>(DU (p.num*c) (p.den*m) (by omega) hpq (by omega) W).cast (v':=str (Ad (p/q))) (by rw[hr])) (wP I (wP I (Aa ?_)))))))))))))
  exact zE (zO (zP (wR2 I I I)))
 ·have hd0:((p.den:Nat):Int)*q.num≠0:=Int.mul_ne_zero (by omega) h0
  have hc2:okN (((p.den:Nat):Int)*q.num):=by rw[Int.mul_comm];exact h.2
  refine zI (zE (zA (zB (wP I (wC I I (fun W _=>Br hkp W) ?_)))))
  iterate 5 refine wP I ?_
  refine Aa (zE (zA (zB (wP I (wC I I (fun W _=>Br hkq W) ?_)))))
  iterate 5 refine wP I ?_
  refine Aa (zE (zA (zB (wP I (wP I (wP I (wP I (wC I I (fun W1 hp=>(KI p.num (p.den:Nat) (q.den:Nat) q.num hkp.1 hkp.2 hkq.2 hkq.1 h.1 hc2 hd0 W1 (ht.hp hp)).cast (v':= .tuple #[str (Ad (p/q)), .int .i64 0]) (by rw[ra])) (wP I (wP I (wP I (wP I (Aa ?_)))))))))))))
  exact zE (zO (wR2 I I I))
theorem Qe (p q:Rat) (hkp:okQ p) (hkq:okQ q) (hno: ¬Bg p q) (h0:q.num≠0) (W:World) (ht:AI W):
  Ai Tryz.prog 146 #[str (Ad p),str (Ad q)] W (fun _:Unit=> .tuple #[str [], .int .i64 4]) (fun _=>True) (fun _=>[]):=by
 refine Ac (args:=[str (Ad p),str (Ad q)]) Tryz.func146 I I I ?_
 refine zA (zB (wP I (wP I (Aa (zE (zA (zA (zB (wP I (wP I (wC I I (fun W1 hp=>Cg hkp hkq W1 (ht.hp hp)) (wP I (Aa ?_)))))))))))))
 refine zE (zA (zB (wP I (wP I (Aa (zE (zS I (zI (zE (zA (zA (zB (wP I (wP I ?_))))))))))))))
 refine wU 24 false I ((Be _ _).trans (dF fun e=>h0 (EB.1 e))) (Aa (zE (zS I (zI (zE (zA (zB (wP I (wC I I (fun W _=>B1 hkp W) ?_)))))))))
 iterate 7 refine wP I ?_
 refine Aa (zE (zA (zB (wP I (wC I I (fun W _=>B1 hkq W) ?_)))))
 iterate 7 refine wP I ?_
 refine Aa (AH (Ar (Ar ?_)))
 refine AC (X:=Unit) (fun _=>[(0,str (Ad p)),(1,str (Ad q)),(7, .int .i64 (iN p)),(8, .int .i64 (iD p)),(10, .int .i64 (iN q)),(11, .int .i64 (iD q)),(40, .bool (sh2 p q))]) (fun _=>[]) (fun _=>True) ?_ ?_
 ·refine zB (wP I (wP I ?_))
  refine CI 38 I (fun h38=> ?_) (fun h38=> ?_)
  ·exact wP I (wP I (Aa (An () tO ⟨I,I,I,I,I,I,congrArg (fun b=>some (Value.bool b)) (by unfold sh2;simp_all),tO⟩ [] I)))
  ·refine Ao I I ?_
   exact wP I (Aa (An () tO ⟨I,I,I,I,I,I,congrArg (fun b=>some (Value.bool b)) (by unfold sh2;simp_all),tO⟩ [] I))
 intro _ _
 refine Aw I (fun hs=> ?_) (fun hs=> ?_)
 ·exact absurd (⟨(Je hs).1,(Je hs).2.1⟩) hno
 ·refine zI (zE (zA (zB (wP I (wC I I (fun W _=>Br hkp W) ?_)))))
  iterate 5 refine wP I ?_
  refine Aa (zE (zA (zB (wP I (wC I I (fun W _=>Br hkq W) ?_)))))
  iterate 5 refine wP I ?_
  refine Aa (zE (zA (zB (wP I (wP I (wP I (wP I (wC I I (fun W1 hp=>Jr p.num (p.den:Nat) (q.den:Nat) q.num hkp.1 hkp.2 hkq.2 hkq.1 (fun h1 h2=>hno ⟨h1,by rw[Int.mul_comm];exact h2⟩) W1 (ht.hp hp)) (wP I (wP I (wP I (wP I (Aa ?_)))))))))))))
  exact zE (zO (wR2 I I I))
theorem Ql (p q:Rat) (hkp:okQ p) (hkq:okQ q) (h:Bg p q) (W:World) (ht:AI W):
  Ai Tryz.prog 56 #[str (Ad p),str (Ad q)] W (fun _:Unit=> .tuple #[.int .i64 (CV p q), .int .i64 0]) (fun _=>True) (fun _=>[]):=by
 have hpn:=p.den_pos
 have hqn:=q.den_pos
 rw[←Qc]
 obtain⟨x,hx⟩: ∃x,p.num*((q.den:Nat):Int)=x:=⟨_,rfl⟩
 obtain⟨y,hy⟩: ∃y,q.num*((p.den:Nat):Int)=y:=⟨_,rfl⟩
 rw[hx,hy]
 refine Ac (args:=[str (Ad p),str (Ad q)]) Tryz.func56 I I I ?_
 refine zA (zB (wP I (wP I (Aa (zE (zA (zA (zB (wP I (wP I (wC I I (fun W1 hp=>Cg hkp hkq W1 (ht.hp hp)) (wP I (Aa ?_)))))))))))))
 refine zE (zA (zB (wP I (wP I (Aa (zE (zS I (zI (zE (zA (zB (wP I (wC I I (fun W _=>B1 hkp W) ?_)))))))))))))
 iterate 7 refine wP I ?_
 refine Aa (zE (zA (zB (wP I (wC I I (fun W _=>B1 hkq W) ?_)))))
 iterate 7 refine wP I ?_
 refine Aa (AH (Ar (Ar ?_)))
 refine AC (X:=Unit) (fun _=>[(0,str (Ad p)),(1,str (Ad q)),(7, .int .i64 (iN p)),(8, .int .i64 (iD p)),(10, .int .i64 (iN q)),(11, .int .i64 (iD q)),(41, .bool (sh2 p q))]) (fun _=>[]) (fun _=>True) ?_ ?_
 ·refine zB (wP I (wP I ?_))
  refine CI 39 I (fun h39=> ?_) (fun h39=> ?_)
  ·exact wP I (wP I (Aa (An () tO ⟨I,I,I,I,I,I,congrArg (fun b=>some (Value.bool b)) (by unfold sh2;simp_all),tO⟩ [] I)))
  ·refine Ao I I ?_
   exact wP I (Aa (An () tO ⟨I,I,I,I,I,I,congrArg (fun b=>some (Value.bool b)) (by unfold sh2;simp_all),tO⟩ [] I))
 intro _ _
 refine Aw I (fun hs=> ?_) (fun hs=> ?_)
 ·obtain⟨e1,e2,e3,e4,l1,l2,l3,l4⟩:=Gq hs
  have w1:w64 (iN p*iD q)=x:=by rw[e1,e4, ←hx];exact Ef l1 (Fz l4)
  have w2:w64 (iN q*iD p)=y:=by rw[e3,e2, ←hy];exact Ef l3 (Fz l2)
  refine zA (zH (zA (zB (wP I (wP I (wP I (wV 45 x I w1 (wP I (wP I (wP I (wV 48 y I w2 (wP I ?_))))))))))))
  by_cases h1:x<y
  ·exact wU 49 true I (dT h1) (wP I (Aa (zE (zR I (zA (zB (wP I (wP I (Aa (zE (zO (zQ (zP (zP (wR2 I I (by rw[FE,if_pos h1]))))))))))))))))
  refine wU 49 false I (dF h1) (wP I (Aa (zE (zS I (zA (zB (wP I (wP I (wP I (wV 53 x I w1 (wP I (wP I (wP I ?_)))))))))))))
  refine wV 56 y I w2 (wP I ?_)
  by_cases h2:y<x
  ·exact wU 57 true I (dT h2) (wP I (Aa (zE (zR I (zA (zB (wP I (wP I (Aa (zE (zO (zQ (zP (zP (wR2 I I (by rw[FE,if_neg h1,if_neg (by omega)]))))))))))))))))
  refine wU 57 false I (dF h2) (wP I (Aa (zE (zS I (zI (zN (zE (zA (zB (wP I (wP I (Aa (zE ?_)))))))))))))
  exact zO (zP (wR2 I I (by rw[FE,if_neg h1,if_pos (by omega)])))
 ·refine zI (zE (zA (zB (wP I (wC I I (fun W _=>Br hkp W) ?_)))))
  iterate 5 refine wP I ?_
  refine Aa (zE (zA (zB (wP I (wC I I (fun W _=>Br hkq W) ?_)))))
  iterate 5 refine wP I ?_
  refine Aa (zE (zA (zB (wP I (wP I (wP I (wP I (wC I I (fun W1 hp=>(EQ p.num (q.den:Nat) q.num (p.den:Nat) hkp.1 hkq.2 hkq.1 hkp.2 h.1 h.2 W1 (ht.hp hp)).cast (v':= .tuple #[str (itoa x),str (itoa y), .int .i64 0]) (by rw[hx,hy])) ?_))))))))
  iterate 7 refine wP I ?_
  refine Aa (zE (zA (zA (zB (wP I (wP I (Aa (zE (zS I (zI (zE (zA (zB ?_)))))))))))))
  exact wP I (wP I (wC I I (fun W1 hp=>Qg x y (by rw[←hx];exact h.1.dd) (by rw[←hy];exact h.2.dd) W1) (wP I (wP I (wP I (wP I (Aa (zE (zO (wR2 I I I))))))))))
theorem Qs (p q:Rat) (hkp:okQ p) (hkq:okQ q) (hno: ¬Bg p q) (W:World) (ht:AI W):
  Ai Tryz.prog 56 #[str (Ad p),str (Ad q)] W (fun _:Unit=> .tuple #[.int .i64 0, .int .i64 4]) (fun _=>True) (fun _=>[]):=by
 refine Ac (args:=[str (Ad p),str (Ad q)]) Tryz.func56 I I I ?_
 refine zA (zB (wP I (wP I (Aa (zE (zA (zA (zB (wP I (wP I (wC I I (fun W1 hp=>Cg hkp hkq W1 (ht.hp hp)) (wP I (Aa ?_)))))))))))))
 refine zE (zA (zB (wP I (wP I (Aa (zE (zS I (zI (zE (zA (zB (wP I (wC I I (fun W _=>B1 hkp W) ?_)))))))))))))
 iterate 7 refine wP I ?_
 refine Aa (zE (zA (zB (wP I (wC I I (fun W _=>B1 hkq W) ?_)))))
 iterate 7 refine wP I ?_
 refine Aa (AH (Ar (Ar ?_)))
 refine AC (X:=Unit) (fun _=>[(0,str (Ad p)),(1,str (Ad q)),(7, .int .i64 (iN p)),(8, .int .i64 (iD p)),(10, .int .i64 (iN q)),(11, .int .i64 (iD q)),(41, .bool (sh2 p q))]) (fun _=>[]) (fun _=>True) ?_ ?_
 ·refine zB (wP I (wP I ?_))
  refine CI 39 I (fun h39=> ?_) (fun h39=> ?_)
  ·exact wP I (wP I (Aa (An () tO ⟨I,I,I,I,I,I,congrArg (fun b=>some (Value.bool b)) (by unfold sh2;simp_all),tO⟩ [] I)))
  ·refine Ao I I ?_
   exact wP I (Aa (An () tO ⟨I,I,I,I,I,I,congrArg (fun b=>some (Value.bool b)) (by unfold sh2;simp_all),tO⟩ [] I))
 intro _ _
 refine Aw I (fun hs=> ?_) (fun hs=> ?_)
 ·exact absurd (⟨(Je hs).1,(Je hs).2.1⟩) hno
 ·refine zI (zE (zA (zB (wP I (wC I I (fun W _=>Br hkp W) ?_)))))
  iterate 5 refine wP I ?_
  refine Aa (zE (zA (zB (wP I (wC I I (fun W _=>Br hkq W) ?_)))))
  iterate 5 refine wP I ?_
  refine Aa (zE (zA (zB (wP I (wP I (wP I (wP I ?_)))))))
  by_cases h1:okN (p.num*(q.den:Nat))
  ·refine wC I I (fun W1 hp=>FO p.num (q.den:Nat) q.num (p.den:Nat) hkp.1 hkq.2 hkq.1 hkp.2 h1 (fun h2=>hno ⟨h1,h2⟩) W1 (ht.hp hp)) ?_
   iterate 7 refine wP I ?_
   refine Aa (zE (zA (zA (zB (wP I (wP I (Aa (zE (zR I (zA (zB (wP I (wP I (wP I ?_))))))))))))))
   exact Aa (zE (zO (zP (wR2 I I I))))
  ·refine wC I I (fun W1 hp=>Ev p.num (q.den:Nat) q.num (p.den:Nat) hkp.1 hkq.2 h1 W1 (ht.hp hp)) ?_
   iterate 7 refine wP I ?_
   refine Aa (zE (zA (zA (zB (wP I (wP I (Aa (zE (zR I (zA (zB (wP I (wP I (wP I ?_))))))))))))))
   exact Aa (zE (zO (zP (wR2 I I I))))
def cmV (p q:Rat):Value:=if Bg p q then .tuple #[.int .i64 (CV p q), .int .i64 0] else .tuple #[.int .i64 0, .int .i64 4]
theorem Qx (p q:Rat) (hkp:okQ p) (hkq:okQ q) (W:World) (ht:AI W):
  Ai Tryz.prog 128 #[str (Ad p),str (Ad q)] W (fun _:Unit=>opV (BY p q) (p*q)) (fun _=>True) (fun _=>[]):=by
 by_cases h:BY p q
 ·exact(P8 p q hkp hkq h W ht).cast (E7 h).symm
 ·exact(PZ p q hkp hkq h W ht).cast (FJ h).symm
theorem Py (p q:Rat) (hkp:okQ p) (hkq:okQ q) (h0:q.num≠0) (W:World) (ht:AI W):
  Ai Tryz.prog 146 #[str (Ad p),str (Ad q)] W (fun _:Unit=>opV (Bg p q) (p/q)) (fun _=>True) (fun _=>[]):=by
 by_cases h:Bg p q
 ·exact(Qf p q hkp hkq h h0 W ht).cast (E7 h).symm
 ·exact(Qe p q hkp hkq h h0 W ht).cast (FJ h).symm
theorem G5 (p q:Rat) (hkp:okQ p) (hkq:okQ q) (W:World) (ht:AI W):
  Ai Tryz.prog 56 #[str (Ad p),str (Ad q)] W (fun _:Unit=>cmV p q) (fun _=>True) (fun _=>[]):=by
 by_cases h:Bg p q
 ·exact(Ql p q hkp hkq h W ht).cast (if_pos h).symm
 ·exact(Qs p q hkp hkq h W ht).cast (if_neg h).symm
-- BOXES 5
theorem JP (p q:Rat) (hp:okQ p) (hq:okQ q) (h1: ¬okN (p.num*(q.den:Nat))) (W:World) (ht:AI W):
  Ai Tryz.prog 110 #[Cd p,Cd q] W (fun _:Unit=> .tuple #[str [],str [], .int .i64 4]) (fun _=>True) (fun _=>[]):=by
 refine Ac (args:=[Cd p,Cd q]) Tryz.func110 I I I ?_
 refine zA (zB ?_)
 (refine At rfl rfl rfl rfl ?_;intro)
 (refine At rfl rfl rfl rfl ?_;intro)
 refine wP I (wP I (wP I (Aa (zE (zA (zB (wP I (wB 0 I I I (wP I (wB 1 I I I (wC I I (fun W h=>(Ca p.num (q.den:Nat) hp.1 hq.2 W (ht.hp h)).cast (Es h1)) ?_)))))))))))
 iterate 5 refine wP I ?_
 refine Aa (zE (zA (zA (zB (wP I (wP I (Aa (zE (zR I (zA (zB (wP I (wP I (wP I (wP I ?_)))))))))))))))
 exact Aa (zE (zO (zP (wR3 I I I))))
theorem JV (p q:Rat) (hp:okQ p) (hq:okQ q) (h1:okN (p.num*(q.den:Nat))) (h2: ¬okN (q.num*(p.den:Nat))) (W:World) (ht:AI W):
  Ai Tryz.prog 110 #[Cd p,Cd q] W (fun _:Unit=> .tuple #[str (itoa (p.num*(q.den:Nat))),str [], .int .i64 4]) (fun _=>True) (fun _=>[]):=by
 refine Ac (args:=[Cd p,Cd q]) Tryz.func110 I I I ?_
 refine zA (zB ?_)
 (refine At rfl rfl rfl rfl ?_;intro)
 (refine At rfl rfl rfl rfl ?_;intro)
 refine wP I (wP I (wP I (Aa (zE (zA (zB (wP I (wB 0 I I I (wP I (wB 1 I I I (wC I I (fun W h=>(Ca p.num (q.den:Nat) hp.1 hq.2 W (ht.hp h)).cast (Fq h1)) ?_)))))))))))
 iterate 5 refine wP I ?_
 refine Aa (zE (zA (zA (zB (wP I (wP I (Aa (zE (zS I (zI (zE (zA (zB ?_)))))))))))))
 refine wP I (wB 1 I I I (wP I (wB 0 I I I (wC I I (fun W h=>(Ca q.num (p.den:Nat) hq.1 hp.2 W (ht.hp h)).cast (Es h2)) ?_))))
 iterate 5 refine wP I ?_
 refine Aa (zE (zA (zB ?_)))
 iterate 6 refine wP I ?_
 exact Aa (zE (zO (wR3 I I I)))
theorem Fy (p q:Rat) (hp:okQ p) (hq:okQ q) (h: ¬Bg p q): ∃s, ∀(W:World) (_:AI W),
  Ai Tryz.prog 110 #[Cd p,Cd q] W (fun _:Unit=> .tuple #[str s,str [], .int .i64 4]) (fun _=>True) (fun _=>[]):=by
 by_cases h1:okN (p.num*(q.den:Nat))
 ·exact⟨_,fun W ht=>JV p q hp hq h1 (fun h2=>h ⟨h1,h2⟩) W ht⟩
 ·exact⟨_,fun W ht=>JP p q hp hq h1 W ht⟩
theorem IM (p q r:Rat) (b h:Nat) (z:Int) (hp:okQ p) (hq:okQ q) (hr:nrm z ((p.den:Nat)*(q.den:Nat))=r) (hE:Bi Tryz.prog h=true)
  (hop:Bg p q→ ∀W,AI W→Ai Tryz.prog h #[str (itoa (p.num*(q.den:Nat))),str (itoa (q.num*(p.den:Nat)))] W (fun _:Unit=>H7 z) (fun _=>True) (fun _=>[])) (W:World) (ht:AI W) (hrow:Aj W b 0 [.func (.func h) #[] #[]]):
  Ai Tryz.prog 109 #[Cd p,Cd q,Ag b] W (fun _:Unit=>if Bg p q∧okN z∧okN ((p.den:Nat)*(q.den:Nat)) then .tuple #[str (Ad r), .int .i64 0] else .tuple #[str [], .int .i64 4]) (fun _=>True) (fun _=>[]):=by
 by_cases hx:Bg p q
 ·by_cases hz:okN z
  ·by_cases hd:okN ((p.den:Nat)*(q.den:Nat))
   ·rw[if_pos ⟨hx,hz,hd⟩]
    exact(Ht p q b h z hp hq hx.1 hx.2 hz hd hE (fun W2 h2=>(hop hx W2 h2).cast (Fq hz)) W ht hrow).cast (by rw[hr])
   ·rw[if_neg fun e=>hd e.2.2]
    refine Ac (args:=[Cd p,Cd q,Ag b]) Tryz.func109 I I I ?_
    refine zA (zB ?_)
    (refine At rfl rfl rfl rfl ?_;intro)
    (refine At rfl rfl rfl rfl ?_;intro)
    refine wP I (wP I (Aa (zE (zA (zB (wB 0 I I I (wB 1 I I I (wC I I (fun W h=>CU p q hp hq hx.1 hx.2 W (ht.hp h)) ?_))))))))
    iterate 7 refine wP I ?_
    refine Aa (zE (zA (zA (zB (wP I (wP I (Aa (zE (zS I (zI (zE (zA (zB ?_)))))))))))))
    refine wL 0 I I (fun W h=>hrow.hp h) I (wP I (wP I ?_))
    refine B7 (capt:=[]) I I I I I I hE (fun W h=>(hop hx W (ht.hp h)).cast (Fq hz)) ?_
    iterate 5 refine wP I ?_
    refine Aa (zE (zA (zA (zB (wP I (wP I (Aa (zE (zS I (zI (zE (zA (zB ?_)))))))))))))
    refine wP I (wB 0 I I I (wP I (wB 1 I I I (wC I I (fun W h=>(Ca (p.den:Nat) (q.den:Nat) hp.2 hq.2 W (ht.hp h)).cast (Es hd)) ?_))))
    iterate 5 refine wP I ?_
    refine Aa (zE (zA (zA (zB (wP I (wP I (Aa (zE (zR I (zA (zB (wP I (wP I (wP I ?_))))))))))))))
    exact Aa (zE (zO (zP (wR2 I I I))))
  ·rw[if_neg fun e=>hz e.2.1]
   refine Ac (args:=[Cd p,Cd q,Ag b]) Tryz.func109 I I I ?_
   refine zA (zB ?_)
   (refine At rfl rfl rfl rfl ?_;intro)
   (refine At rfl rfl rfl rfl ?_;intro)
   refine wP I (wP I (Aa (zE (zA (zB (wB 0 I I I (wB 1 I I I (wC I I (fun W h=>CU p q hp hq hx.1 hx.2 W (ht.hp h)) ?_))))))))
   iterate 7 refine wP I ?_
   refine Aa (zE (zA (zA (zB (wP I (wP I (Aa (zE (zS I (zI (zE (zA (zB ?_)))))))))))))
   refine wL 0 I I (fun W h=>hrow.hp h) I (wP I (wP I ?_))
   refine B7 (capt:=[]) I I I I I I hE (fun W h=>(hop hx W (ht.hp h)).cast (Es hz)) ?_
   iterate 5 refine wP I ?_
   refine Aa (zE (zA (zA (zB (wP I (wP I (Aa (zE (zR I (zA (zB (wP I (wP I (wP I ?_))))))))))))))
   exact Aa (zE (zO (zP (wR2 I I I))))
 ·rw[if_neg fun e=>hx e.1]
  obtain⟨s,hs⟩:=Fy p q hp hq hx
  refine Ac (args:=[Cd p,Cd q,Ag b]) Tryz.func109 I I I ?_
  refine zA (zB ?_)
  (refine At rfl rfl rfl rfl ?_;intro)
  (refine At rfl rfl rfl rfl ?_;intro)
  refine wP I (wP I (Aa (zE (zA (zB (wB 0 I I I (wB 1 I I I (wC I I (fun W h=>hs W (ht.hp h)) ?_))))))))
  iterate 7 refine wP I ?_
  refine Aa (zE (zA (zA (zB (wP I (wP I (Aa (zE (zR I (zA (zB (wP I (wP I (wP I ?_))))))))))))))
  exact Aa (zE (zO (zP (wR2 I I I))))
theorem My {p q:Rat}:Cj p q↔Bg p q∧okN (p.num*(q.den:Nat)+q.num*(p.den:Nat))∧okN ((p.den:Nat)*(q.den:Nat)):=⟨fun h=>⟨⟨h.1,h.2.1⟩,h.2.2.2,h.2.2.1⟩,fun h=>⟨h.1.1,h.1.2,h.2.2,h.2.1⟩⟩
theorem Jb {p q:Rat}:Cj p (-q)↔Bg p q∧okN (p.num*(q.den:Nat)-q.num*(p.den:Nat))∧okN ((p.den:Nat)*(q.den:Nat)):=by
 have e:(-q).num= -q.num:=rfl
 have d:(-q).den=q.den:=rfl
 unfold Cj Bg okN
 rw[e,d,Int.neg_mul,Int.natAbs_neg, ←Int.sub_eq_add_neg]
 exact⟨fun h=>⟨⟨h.1,h.2.1⟩,h.2.2.2,h.2.2.1⟩,fun h=>⟨h.1.1,h.1.2,h.2.2,h.2.1⟩⟩
theorem QL {a ok:Prop} [Decidable a] [Decidable ok] (h:ok↔a) (r:Rat):(if a then Value.tuple #[str (Ad r), .int .i64 0] else .tuple #[str [], .int .i64 4])=opV ok r:=by
 by_cases c:a
 ·rw[if_pos c,E7 (h.2 c)]
 ·rw[if_neg c,FJ fun e=>c (h.1 e)]
theorem F4 (ok:Prop) [Decidable ok] (r:Rat): ∃s e,opV ok r= .tuple #[str s, .int .i64 e]:=by unfold opV;split<;>exact⟨_,_,rfl⟩
theorem K7 {p q:Rat} (hs:smQ p∧smQ q):Cj p q∧Cj p (-q)∧BY p q∧Bg p q:=by
 have m1:=C6 hs.1.1 (Cl q hs.2)
 have m2:=C6 hs.2.1 (Cl p hs.1)
 have m3:=C6 (Cl p hs.1) (Cl q hs.2)
 have m4:=C6 hs.1.1 hs.2.1
 have k: ∀z:Int,z.natAbs<10^18→okN z:=fun z h=>Dh (Nat.lt_trans h (by decide))
 have d1:Bg p q:=⟨k _ (by omega),k _ (by omega)⟩
 exact⟨My.2 ⟨d1,k _ (by omega),k _ (by omega)⟩,Jb.2 ⟨d1,k _ (by omega),k _ (by omega)⟩,⟨k _ (by omega),k _ (by omega)⟩,d1⟩
theorem NA (p q:Rat) (hkp:okQ p) (hkq:okQ q) (W0:World) (hv:BO W0) (ht:AI W0):
  Ai Tryz.prog 16 #[str (Ad p),str (Ad q)] W0 (fun _:Unit=>opV (Cj p q) (p+q)) (fun _=>True) (fun _=>[]):=by
 obtain⟨rs,re,hr⟩:=F4 (Cj p q) (p+q)
 have hlp:=AX hkp
 have hlq:=AX hkq
 refine Ac (args:=[str (Ad p),str (Ad q)]) Tryz.func16 I I I ?_
 refine zA (zB (wP I (wP I (Aa (zE (zA (zA (zB (wP I (wP I ?_))))))))))
 have hquick: ∀W,AI W→Ai Tryz.prog 48 #[str (Ad p),str (Ad q), .func (.func 49) #[] #[]] W (fun _:Unit=>if smQ p∧smQ q then .tuple #[str (Ad (p+q)), .bool true] else .tuple #[str [], .bool false]) (fun _=>True) (fun _=>[]):=
  fun W ht=>CB p q (p+q) (p.num*(q.den:Nat)+q.num*(p.den:Nat)) ((p.den:Nat)*(q.den:Nat)) _ (by kernel_rfl) (by omega) (by omega) (fun hp hq=>by
   have m1:=C6 hp.1 (Cl q hq)
   have m2:=C6 hq.1 (Cl p hp)
   have m3:=C6 (Cl p hp) (Cl q hq)
   exact⟨Lx _ _ _ _ hp.1 (Cl p hp) hq.1 (Cl q hq),CW,by omega,by omega,GA p q⟩) W ht
 by_cases hs:smQ p∧smQ q
 ·refine wC I I (fun W h=>(hquick W (ht.hp h)).cast (if_pos hs)) ?_
  iterate 5 refine wP I ?_
  refine Aa (zE (zA (zB (wP I (Aa (zE (zR I (zA (zB (wP I (wP I (wP I (Aa ?_)))))))))))))
  exact zE (zO (zP (A7 tH I (.tmp I) (.tmp I) () (E7 (K7 hs).1).symm tO fun W _=>Ap.nil _ _)))
 ·refine wC I I (fun W h=>(hquick W (ht.hp h)).cast (if_neg hs)) ?_
  iterate 5 refine wP I ?_
  refine Aa (zE (zA (zB (wP I (Aa (zE (zS I (zI (zE (zA (zB (wP I (wP I ?_)))))))))))))
  refine wD (X:=Nat) I I (fun W _=>DR 52 W) ?_
  intro b18 _
  exact wC I I (fun W hp=>CG p q rs re 109 [Ag b18] hkp hkq W (hv.hp hp) (ht.hp hp) (by kernel_rfl) (fun W' hb=>(IM p q (p+q) b18 52 (p.num*(q.den:Nat)+q.num*(p.den:Nat)) hkp hkq (GA p q) (by kernel_rfl) (fun hx W2 ht2=>J7 _ _ hx.1 hx.2 W2 ht2) W' ((ht.hp hp).below hb) ((Aj.of_bx hp 0 I I).below (Nat.le_refl _) hb)).cast ((QL My _).trans hr))) (wP I (wP I (wP I (wP I (Aa (zE (zO (wR2 I I hr.symm))))))))
theorem N8 (p q:Rat) (hkp:okQ p) (hkq:okQ q) (W0:World) (hv:BO W0) (ht:AI W0):
  Ai Tryz.prog 126 #[str (Ad p),str (Ad q)] W0 (fun _:Unit=>opV (Cj p (-q)) (p-q)) (fun _=>True) (fun _=>[]):=by
 obtain⟨rs,re,hr⟩:=F4 (Cj p (-q)) (p-q)
 have hlp:=AX hkp
 have hlq:=AX hkq
 refine Ac (args:=[str (Ad p),str (Ad q)]) Tryz.func126 I I I ?_
 refine zA (zB (wP I (wP I (Aa (zE (zA (zA (zB (wP I (wP I ?_))))))))))
 have hquick: ∀W,AI W→Ai Tryz.prog 48 #[str (Ad p),str (Ad q), .func (.func 178) #[] #[]] W (fun _:Unit=>if smQ p∧smQ q then .tuple #[str (Ad (p-q)), .bool true] else .tuple #[str [], .bool false]) (fun _=>True) (fun _=>[]):=
  fun W ht=>CB p q (p-q) (p.num*(q.den:Nat)-q.num*(p.den:Nat)) ((p.den:Nat)*(q.den:Nat)) _ (by kernel_rfl) (by omega) (by omega) (fun hp hq=>by
   have m1:=C6 hp.1 (Cl q hq)
   have m2:=C6 hq.1 (Cl p hp)
   have m3:=C6 (Cl p hp) (Cl q hq)
   exact⟨LF _ _ _ _ hp.1 (Cl p hp) hq.1 (Cl q hq),CW,by omega,by omega,Hw p q⟩) W ht
 by_cases hs:smQ p∧smQ q
 ·refine wC I I (fun W h=>(hquick W (ht.hp h)).cast (if_pos hs)) ?_
  iterate 5 refine wP I ?_
  refine Aa (zE (zA (zB (wP I (Aa (zE (zR I (zA (zB (wP I (wP I (wP I (Aa ?_)))))))))))))
  exact zE (zO (zP (A7 tH I (.tmp I) (.tmp I) () (E7 (K7 hs).2.1).symm tO fun W _=>Ap.nil _ _)))
 ·refine wC I I (fun W h=>(hquick W (ht.hp h)).cast (if_neg hs)) ?_
  iterate 5 refine wP I ?_
  refine Aa (zE (zA (zB (wP I (Aa (zE (zS I (zI (zE (zA (zB (wP I (wP I ?_)))))))))))))
  refine wD (X:=Nat) I I (fun W _=>DR 179 W) ?_
  intro b18 _
  exact wC I I (fun W hp=>CG p q rs re 109 [Ag b18] hkp hkq W (hv.hp hp) (ht.hp hp) (by kernel_rfl) (fun W' hb=>(IM p q (p-q) b18 179 (p.num*(q.den:Nat)-q.num*(p.den:Nat)) hkp hkq (Hw p q) (by kernel_rfl) (fun hx W2 ht2=>Ll _ _ hx.1 hx.2 W2 ht2) W' ((ht.hp hp).below hb) ((Aj.of_bx hp 0 I I).below (Nat.le_refl _) hb)).cast ((QL Jb _).trans hr))) (wP I (wP I (wP I (wP I (Aa (zE (zO (wR2 I I hr.symm))))))))
theorem NI (p q:Rat) (hp:okQ p) (hq:okQ q) (hno: ¬BY p q) (W:World) (ht:AI W):
  Ai Tryz.prog 136 #[Cd p,Cd q] W (fun _:Unit=> .tuple #[str [], .int .i64 4]) (fun _=>True) (fun _=>[]):=by
 refine Ac (args:=[Cd p,Cd q]) Tryz.func136 I I I ?_
 refine zA (zB ?_)
 (refine At rfl rfl rfl rfl ?_;intro)
 (refine At rfl rfl rfl rfl ?_;intro)
 refine wP I (wP I (Aa (zE (zA (zB (wP I (wB 0 I I I (wP I (wB 1 I I I ?_)))))))))
 by_cases hz:okN (p.num*q.num)
 ·refine wC I I (fun W h=>(Ca p.num q.num hp.1 hq.1 W (ht.hp h)).cast (Fq hz)) ?_
  iterate 5 refine wP I ?_
  refine Aa (zE (zA (zA (zB (wP I (wP I (Aa (zE (zS I (zI (zE (zA (zB ?_)))))))))))))
  refine wP I (wB 0 I I I (wP I (wB 1 I I I (wC I I (fun W h=>(Ca (p.den:Nat) (q.den:Nat) hp.2 hq.2 W (ht.hp h)).cast (Es fun hd=>hno ⟨hz,hd⟩)) ?_))))
  iterate 5 refine wP I ?_
  refine Aa (zE (zA (zA (zB (wP I (wP I (Aa (zE (zR I (zA (zB (wP I (wP I (wP I ?_))))))))))))))
  exact Aa (zE (zO (zP (wR2 I I I))))
 ·refine wC I I (fun W h=>(Ca p.num q.num hp.1 hq.1 W (ht.hp h)).cast (Es hz)) ?_
  iterate 5 refine wP I ?_
  refine Aa (zE (zA (zA (zB (wP I (wP I (Aa (zE (zR I (zA (zB (wP I (wP I (wP I ?_))))))))))))))
  exact Aa (zE (zO (zP (wR2 I I I))))
theorem Of (p q:Rat) (hp:okQ p) (hq:okQ q) (W:World) (ht:AI W):
  Ai Tryz.prog 136 #[Cd p,Cd q] W (fun _:Unit=>opV (BY p q) (p*q)) (fun _=>True) (fun _=>[]):=by
 by_cases h:BY p q
 ·exact(KR p q hp hq h.1 h.2 W ht).cast (E7 h).symm
 ·exact(NI p q hp hq h W ht).cast (FJ h).symm
theorem Pk (p q:Rat) (hkp:okQ p) (hkq:okQ q) (W0:World) (hv:BO W0) (ht:AI W0):
  Ai Tryz.prog 72 #[str (Ad p),str (Ad q)] W0 (fun _:Unit=>opV (BY p q) (p*q)) (fun _=>True) (fun _=>[]):=by
 obtain⟨rs,re,hr⟩:=F4 (BY p q) (p*q)
 have hlp:=AX hkp
 have hlq:=AX hkq
 refine Ac (args:=[str (Ad p),str (Ad q)]) Tryz.func72 I I I ?_
 refine zA (zB (wP I (wP I (Aa (zE (zA (zA (zB (wP I (wP I ?_))))))))))
 have hquick: ∀W,AI W→Ai Tryz.prog 48 #[str (Ad p),str (Ad q), .func (.func 135) #[] #[]] W (fun _:Unit=>if smQ p∧smQ q then .tuple #[str (Ad (p*q)), .bool true] else .tuple #[str [], .bool false]) (fun _=>True) (fun _=>[]):=
  fun W ht=>CB p q (p*q) (p.num*q.num) ((p.den:Nat)*(q.den:Nat)) _ (by kernel_rfl) (by omega) (by omega) (fun hp hq=>by
   have m1:=C6 hp.1 hq.1
   have m3:=C6 (Cl p hp) (Cl q hq)
   exact⟨KC _ _ _ _ hp.1 (Cl p hp) hq.1 (Cl q hq),CW,by omega,by omega,H3 p q⟩) W ht
 by_cases hs:smQ p∧smQ q
 ·refine wC I I (fun W h=>(hquick W (ht.hp h)).cast (if_pos hs)) ?_
  iterate 5 refine wP I ?_
  refine Aa (zE (zA (zB (wP I (Aa (zE (zR I (zA (zB (wP I (wP I (wP I (Aa ?_)))))))))))))
  exact zE (zO (zP (A7 tH I (.tmp I) (.tmp I) () (E7 (K7 hs).2.2.1).symm tO fun W _=>Ap.nil _ _)))
 ·refine wC I I (fun W h=>(hquick W (ht.hp h)).cast (if_neg hs)) ?_
  iterate 5 refine wP I ?_
  refine Aa (zE (zA (zB (wP I (Aa (zE (zS I (zI (zE (zA (zB (wP I (wP I ?_)))))))))))))
  exact wC I I (fun W hp=>CG p q rs re 136 [] hkp hkq W (hv.hp hp) (ht.hp hp) (by kernel_rfl) (fun W' hb=>(Of p q hkp hkq W' ((ht.hp hp).below hb)).cast hr)) (wP I (wP I (wP I (wP I (Aa (zE (zO (wR2 I I hr.symm))))))))
-- BOXES 5
-- CODE2
def nmV:Option Rat→Value
 |some q=> .agg #[str (Ad q), .int .i64 0]
 |none=> .agg #[str [], .int .i64 4]
def okO:Option Rat→Prop
 |some q=>okQ q
 |none=>True
@[irreducible] def opO (ok : Prop) [Decidable ok] (r : Rat) : Option Rat := if ok then some r else none
theorem Nt {ok:Prop} [Decidable ok] {r:Rat} {s:List UInt8} {e:Int} (h:opV ok r= .tuple #[str s, .int .i64 e]):Value.agg #[str s, .int .i64 e]=nmV (opO ok r):=by
 unfold opV at h
 unfold opO
 split at h
 ·rename_i c
  rw[if_pos c]
  injection h with h
  rw[nmV, ←h]
 ·rename_i c
  rw[if_neg c]
  injection h with h
  rw[nmV, ←h]
def BE (p q:Rat):Prop:=Cj p (-q)
instance (p q:Rat):Decidable (BE p q):=inferInstanceAs (Decidable (Cj p (-q)))
def FQ:Option Rat→Option Rat→Option Rat
 |some p,some q=>opO (Cj p q) (p+q)
 |_,_=>none
def AF:Option Rat→Option Rat→Option Rat
 |some p,some q=>opO (BE p q) (p-q)
 |_,_=>none
def Bd:Option Rat→Option Rat→Option Rat
 |some p,some q=>opO (BY p q) (p*q)
 |_,_=>none
def Ts:Option Rat→Option Rat→Option Rat
 |some p,some q=>opO (Bg p q) (p/q)
 |_,_=>none
theorem AY (q:Rat) (W:World):Ai Tryz.prog 62 #[str (Ad q)] W (fun _:Unit=>nmV (some q)) (fun _=>True) (fun _=>[]):=by
 refine Ac (args:=[str (Ad q)]) Tryz.func62 I I I ?_
 refine zA (zB ?_)
 (refine Af Tryz.hZ rfl rfl rfl rfl ?_;intro)
 refine Aa (zE (zA (zB (wP I ?_))))
 refine Ay Tryz.hZ tH I I I I I I I I ?_
 exact wS 0 I I I (Aa (zE (zO (Av tH I (.cell 0 I I I I I) () I tO fun W _=>Ap.nil _ _))))
theorem F6 (a b:Option Rat) (ha:okO a) (hb:okO b) (W:World) (ht:AI W):
  Ai Tryz.prog 63 #[nmV a,nmV b] W (fun _:Unit=>nmV (FQ a b)) (fun _=>True) (fun _=>[]):=by
 cases a with
 |none=>
  refine Ac (args:=[nmV none,nmV b]) Tryz.func63 I I I ?_
  refine zA (zB ?_)
  (refine At rfl rfl rfl rfl ?_;intro)
  (refine At rfl rfl rfl rfl ?_;intro)
  (refine Af Tryz.hZ rfl rfl rfl rfl ?_;intro)
  refine Aa (zE (zA (zA (zB (wP I (wB 0 I I I (wP I (Aa (zE (zR I (zA (zB (wB 0 I I I ?_)))))))))))))
  exact wS 2 I I I (Aa (zE (zO (zP (Av tH I (.cell 2 I I I I I) () I tO fun W _=>Ap.nil _ _)))))
 |some p=>
  cases b with
  |none=>
   refine Ac (args:=[nmV (some p),nmV none]) Tryz.func63 I I I ?_
   refine zA (zB ?_)
   (refine At rfl rfl rfl rfl ?_;intro)
   (refine At rfl rfl rfl rfl ?_;intro)
   (refine Af Tryz.hZ rfl rfl rfl rfl ?_;intro)
   refine Aa (zE (zA (zA (zB (wP I (wB 0 I I I (wP I (Aa (zE (zS I (zI (zE (zA (zA ?_))))))))))))))
   refine zB (wP I (wB 1 I I I (wP I (Aa (zE (zR I (zA (zB (wB 1 I I I (wS 2 I I I (Aa (zE (zO ?_)))))))))))))
   exact zP (Av tH I (.cell 2 I I I I I) () I tO fun W _=>Ap.nil _ _)
  |some q=>
   obtain⟨rs,re,hr⟩:=F4 (Cj p q) (p+q)
   have hv:Value.agg #[str rs, .int .i64 re]=nmV (FQ (some p) (some q)):=Nt hr
   rw[←hv]
   refine Ac (args:=[nmV (some p),nmV (some q)]) Tryz.func63 I I I ?_
   refine zA (zB ?_)
   (refine At rfl rfl rfl rfl ?_;intro)
   (refine At rfl rfl rfl rfl ?_;intro)
   (refine Af Tryz.hZ rfl rfl rfl rfl ?_;intro)
   refine Aa (zE (zA (zA (zB (wP I (wB 0 I I I (wP I (Aa (zE (zS I (zI (zE (zA (zA ?_))))))))))))))
   refine zB (wP I (wB 1 I I I (wP I (Aa (zE (zS I (zI (zE (zA (zB (wP I (wB 0 I I I (wP I ?_)))))))))))))
   refine wB 1 I I I (wC I I (fun W hp=>(Pv p q ha hb W (ht.hp hp)).cast hr) ?_)
   iterate 5 refine wP I ?_
   refine Aa (zE (zA (zB (wP I (wP I ?_)))))
   refine Ay Tryz.hZ tH I I I I I I I I ?_
   exact wS 2 I I I (Aa (zE (zO (Av tH I (.cell 2 I I I I I) () I tO fun W _=>Ap.nil _ _))))
theorem BQ (a b:Option Rat) (ha:okO a) (hb:okO b) (W:World) (ht:AI W):
  Ai Tryz.prog 61 #[nmV a,nmV b] W (fun _:Unit=>nmV (AF a b)) (fun _=>True) (fun _=>[]):=by
 cases a with
 |none=>
  refine Ac (args:=[nmV none,nmV b]) Tryz.func61 I I I ?_
  refine zA (zB ?_)
  (refine At rfl rfl rfl rfl ?_;intro)
  (refine At rfl rfl rfl rfl ?_;intro)
  (refine Af Tryz.hZ rfl rfl rfl rfl ?_;intro)
  refine Aa (zE (zA (zA (zB (wP I (wB 0 I I I (wP I (Aa (zE (zR I (zA (zB (wB 0 I I I ?_)))))))))))))
  exact wS 2 I I I (Aa (zE (zO (zP (Av tH I (.cell 2 I I I I I) () I tO fun W _=>Ap.nil _ _)))))
 |some p=>
  cases b with
  |none=>
   refine Ac (args:=[nmV (some p),nmV none]) Tryz.func61 I I I ?_
   refine zA (zB ?_)
   (refine At rfl rfl rfl rfl ?_;intro)
   (refine At rfl rfl rfl rfl ?_;intro)
   (refine Af Tryz.hZ rfl rfl rfl rfl ?_;intro)
   refine Aa (zE (zA (zA (zB (wP I (wB 0 I I I (wP I (Aa (zE (zS I (zI (zE (zA (zA ?_))))))))))))))
   refine zB (wP I (wB 1 I I I (wP I (Aa (zE (zR I (zA (zB (wB 1 I I I (wS 2 I I I (Aa (zE (zO ?_)))))))))))))
   exact zP (Av tH I (.cell 2 I I I I I) () I tO fun W _=>Ap.nil _ _)
  |some q=>
   obtain⟨rs,re,hr⟩:=F4 (BE p q) (p-q)
   have hv:Value.agg #[str rs, .int .i64 re]=nmV (AF (some p) (some q)):=Nt hr
   rw[←hv]
   refine Ac (args:=[nmV (some p),nmV (some q)]) Tryz.func61 I I I ?_
   refine zA (zB ?_)
   (refine At rfl rfl rfl rfl ?_;intro)
   (refine At rfl rfl rfl rfl ?_;intro)
   (refine Af Tryz.hZ rfl rfl rfl rfl ?_;intro)
   refine Aa (zE (zA (zA (zB (wP I (wB 0 I I I (wP I (Aa (zE (zS I (zI (zE (zA (zA ?_))))))))))))))
   refine zB (wP I (wB 1 I I I (wP I (Aa (zE (zS I (zI (zE (zA (zB (wP I (wB 0 I I I (wP I ?_)))))))))))))
   refine wB 1 I I I (wC I I (fun W hp=>(Qp p q ha hb W (ht.hp hp)).cast hr) ?_)
   iterate 5 refine wP I ?_
   refine Aa (zE (zA (zB (wP I (wP I ?_)))))
   refine Ay Tryz.hZ tH I I I I I I I I ?_
   exact wS 2 I I I (Aa (zE (zO (Av tH I (.cell 2 I I I I I) () I tO fun W _=>Ap.nil _ _))))
theorem Cy (a b:Option Rat) (ha:okO a) (hb:okO b) (W:World) (ht:AI W):
  Ai Tryz.prog 64 #[nmV a,nmV b] W (fun _:Unit=>nmV (Bd a b)) (fun _=>True) (fun _=>[]):=by
 cases a with
 |none=>
  refine Ac (args:=[nmV none,nmV b]) Tryz.func64 I I I ?_
  refine zA (zB ?_)
  (refine At rfl rfl rfl rfl ?_;intro)
  (refine At rfl rfl rfl rfl ?_;intro)
  (refine Af Tryz.hZ rfl rfl rfl rfl ?_;intro)
  refine Aa (zE (zA (zA (zB (wP I (wB 0 I I I (wP I (Aa (zE (zR I (zA (zB (wB 0 I I I ?_)))))))))))))
  exact wS 2 I I I (Aa (zE (zO (zP (Av tH I (.cell 2 I I I I I) () I tO fun W _=>Ap.nil _ _)))))
 |some p=>
  cases b with
  |none=>
   refine Ac (args:=[nmV (some p),nmV none]) Tryz.func64 I I I ?_
   refine zA (zB ?_)
   (refine At rfl rfl rfl rfl ?_;intro)
   (refine At rfl rfl rfl rfl ?_;intro)
   (refine Af Tryz.hZ rfl rfl rfl rfl ?_;intro)
   refine Aa (zE (zA (zA (zB (wP I (wB 0 I I I (wP I (Aa (zE (zS I (zI (zE (zA (zA ?_))))))))))))))
   refine zB (wP I (wB 1 I I I (wP I (Aa (zE (zR I (zA (zB (wB 1 I I I (wS 2 I I I (Aa (zE (zO ?_)))))))))))))
   exact zP (Av tH I (.cell 2 I I I I I) () I tO fun W _=>Ap.nil _ _)
  |some q=>
   obtain⟨rs,re,hr⟩:=F4 (BY p q) (p*q)
   have hv:Value.agg #[str rs, .int .i64 re]=nmV (Bd (some p) (some q)):=Nt hr
   rw[←hv]
   refine Ac (args:=[nmV (some p),nmV (some q)]) Tryz.func64 I I I ?_
   refine zA (zB ?_)
   (refine At rfl rfl rfl rfl ?_;intro)
   (refine At rfl rfl rfl rfl ?_;intro)
   (refine Af Tryz.hZ rfl rfl rfl rfl ?_;intro)
   refine Aa (zE (zA (zA (zB (wP I (wB 0 I I I (wP I (Aa (zE (zS I (zI (zE (zA (zA ?_))))))))))))))
   refine zB (wP I (wB 1 I I I (wP I (Aa (zE (zS I (zI (zE (zA (zB (wP I (wB 0 I I I (wP I ?_)))))))))))))
   refine wB 1 I I I (wC I I (fun W hp=>(Qx p q ha hb W (ht.hp hp)).cast hr) ?_)
   iterate 5 refine wP I ?_
   refine Aa (zE (zA (zB (wP I (wP I ?_)))))
   refine Ay Tryz.hZ tH I I I I I I I I ?_
   exact wS 2 I I I (Aa (zE (zO (Av tH I (.cell 2 I I I I I) () I tO fun W _=>Ap.nil _ _))))
theorem OX (a b:Option Rat) (ha:okO a) (hb:okO b) (h0: ∀q,b=some q→q.num≠0) (W:World) (ht:AI W):
  Ai Tryz.prog 89 #[nmV a,nmV b] W (fun _:Unit=>nmV (Ts a b)) (fun _=>True) (fun _=>[]):=by
 cases a with
 |none=>
  refine Ac (args:=[nmV none,nmV b]) Tryz.func89 I I I ?_
  refine zA (zB ?_)
  (refine At rfl rfl rfl rfl ?_;intro)
  (refine At rfl rfl rfl rfl ?_;intro)
  (refine Af Tryz.hZ rfl rfl rfl rfl ?_;intro)
  refine Aa (zE (zA (zA (zB (wP I (wB 0 I I I (wP I (Aa (zE (zR I (zA (zB (wB 0 I I I ?_)))))))))))))
  exact wS 2 I I I (Aa (zE (zO (zP (Av tH I (.cell 2 I I I I I) () I tO fun W _=>Ap.nil _ _)))))
 |some p=>
  cases b with
  |none=>
   refine Ac (args:=[nmV (some p),nmV none]) Tryz.func89 I I I ?_
   refine zA (zB ?_)
   (refine At rfl rfl rfl rfl ?_;intro)
   (refine At rfl rfl rfl rfl ?_;intro)
   (refine Af Tryz.hZ rfl rfl rfl rfl ?_;intro)
   refine Aa (zE (zA (zA (zB (wP I (wB 0 I I I (wP I (Aa (zE (zS I (zI (zE (zA (zA ?_))))))))))))))
   refine zB (wP I (wB 1 I I I (wP I (Aa (zE (zR I (zA (zB (wB 1 I I I (wS 2 I I I (Aa (zE (zO ?_)))))))))))))
   exact zP (Av tH I (.cell 2 I I I I I) () I tO fun W _=>Ap.nil _ _)
  |some q=>
   obtain⟨rs,re,hr⟩:=F4 (Bg p q) (p/q)
   have hv:Value.agg #[str rs, .int .i64 re]=nmV (Ts (some p) (some q)):=Nt hr
   rw[←hv]
   refine Ac (args:=[nmV (some p),nmV (some q)]) Tryz.func89 I I I ?_
   refine zA (zB ?_)
   (refine At rfl rfl rfl rfl ?_;intro)
   (refine At rfl rfl rfl rfl ?_;intro)
   (refine Af Tryz.hZ rfl rfl rfl rfl ?_;intro)
   refine Aa (zE (zA (zA (zB (wP I (wB 0 I I I (wP I (Aa (zE (zS I (zI (zE (zA (zA ?_))))))))))))))
   refine zB (wP I (wB 1 I I I (wP I (Aa (zE (zS I (zI (zE (zA (zB (wP I (wB 0 I I I (wP I ?_)))))))))))))
   refine wB 1 I I I (wC I I (fun W hp=>(Py p q ha hb (h0 q I) W (ht.hp hp)).cast hr) ?_)
   iterate 5 refine wP I ?_
   refine Aa (zE (zA (zB (wP I (wP I ?_)))))
   refine Ay Tryz.hZ tH I I I I I I I I ?_
   exact wS 2 I I I (Aa (zE (zO (Av tH I (.cell 2 I I I I I) () I tO fun W _=>Ap.nil _ _))))
-- BOXES 5
-- CODE2
theorem Kf {z d:Int} (hd:d≠0) (hz:okN z) (hk:okN d):okQ (nrm z d):=(Iw (k:=mxd) z hd hz hk).ok (by decide)
theorem Db {q:Rat}:okO (some q)↔okQ q:=Iff.rfl
theorem Qd {ok:Prop} [Decidable ok] {r:Rat} (h:ok→okQ r):okO (opO ok r):=by
 unfold opO
 by_cases c:ok
 ·rw[if_pos c];exact Db.2 (h c)
 ·rw[if_neg c];trivial
theorem Od {p q:Rat} (h:Cj p q):okQ (p+q):=by
 rw[←GA]
 exact Kf CW h.2.2.2 h.2.2.1
theorem Mr {p q:Rat} (h:BE p q):okQ (p-q):=by
 rw[←Hw]
 have h':=Jb.1 h
 exact Kf CW h'.2.1 h'.2.2
theorem M1 {p q:Rat} (h:BY p q):okQ (p*q):=by
 rw[←H3]
 exact Kf CW h.1 h.2
theorem Tn (a b:Option Rat):okO (FQ a b):=by
 cases a with
 |none=>trivial
 |some p=>cases b with
  |none=>trivial
  |some q=>rw[FQ];exact Qd Od
theorem Di (a b:Option Rat):okO (AF a b):=by
 cases a with
 |none=>trivial
 |some p=>cases b with
  |none=>trivial
  |some q=>rw[AF];exact Qd Mr
theorem DJ (a b:Option Rat):okO (Bd a b):=by
 cases a with
 |none=>trivial
 |some p=>cases b with
  |none=>trivial
  |some q=>rw[Bd];exact Qd M1
theorem EG (a:Option Rat): ∃s e,nmV a= .agg #[str s, .int .i64 e]∧(a=none∧s=[]∧e=4∨ ∃x,a=some x∧s=Ad x∧e=0):=by
 cases a with
 |none=>exact⟨[],4,rfl,Or.inl ⟨rfl,rfl,rfl⟩⟩
 |some x=>exact⟨Ad x,0,rfl,Or.inr ⟨x,rfl,rfl,rfl⟩⟩
def tA (p q r:Ak):Option Rat:=Bd (AF (some q.1) (some p.1)) (AF (some r.2) (some p.2))
def tB (p q r:Ak):Option Rat:=Bd (AF (some q.2) (some p.2)) (AF (some r.1) (some p.1))
def tnV (p q r:Ak):Value:=match tA p q r,tB p q r with
 |some x,some y=>cmV x y
 |_,_=> .tuple #[.int .i64 0, .int .i64 4]
def okP (p:Ak):Prop:=okQ p.1∧okQ p.2
theorem Ug (x y:Rat): ∃s e,cmV x y= .tuple #[.int .i64 s, .int .i64 e]:=by unfold cmV;split<;>exact⟨_,_,rfl⟩
theorem OI (p q r:Ak) (hp:okP p) (hq:okP q) (hr:okP r) (W:World) (ht:AI W):
  Ai Tryz.prog 93 #[cvV p,cvV q,cvV r] W (fun _:Unit=>tnV p q r) (fun _=>True) (fun _=>[]):=by
 obtain⟨sa,ea,va,ca⟩:=EG (Bd (AF (some q.1) (some p.1)) (AF (some r.2) (some p.2)))
 obtain⟨sb,eb,vb,cb⟩:=EG (Bd (AF (some q.2) (some p.2)) (AF (some r.1) (some p.1)))
 refine Ac (args:=[cvV p,cvV q,cvV r]) Tryz.func93 I I I ?_
 refine zA (zB ?_)
 (refine At rfl rfl rfl rfl ?_;intro)
 (refine At rfl rfl rfl rfl ?_;intro)
 (refine At rfl rfl rfl rfl ?_;intro)
 refine wP I (wP I (Aa ?_))
 rename_i b3 b4 b5
 refine zE (Ar ?_)
 refine AE (X:=Nat) [true,true,true,true,true,true,true,true,true,true,true,true,true,true,true,false,false] (fun b=>[(3,Ag b3),(4,Ag b4),(5,Ag b5),(8,Ag b)]) (fun b=>[⟨b3,35,(cvV p).cells.toList,true,none⟩,⟨b4,35,(cvV q).cells.toList,true,none⟩,⟨b5,35,(cvV r).cells.toList,true,none⟩,⟨b,84,[str sa, .int .i64 ea],true,none⟩])
   2 [⟨b3,35,(cvV p).cells.toList,true,none⟩,⟨b4,35,(cvV q).cells.toList,true,none⟩,⟨b5,35,(cvV r).cells.toList,true,none⟩] Tryz.mixed (by kernel_rfl) ?_ ?_
 ·refine qP I (qB 1 I I I (qC I I (fun W hp=>AY q.1 W) (qP I (qB 0 I I I (qC I I (fun W hp=>AY p.1 W) (qC I I (fun W h=>BQ (some q.1) (some p.1) (Db.2 hq.1) (Db.2 hp.1) W (ht.hp h)) (qP I (qB 2 I I I (qC I I (fun W hp=>AY r.2 W) (qP I (qB 0 I I I (qC I I (fun W hp=>AY p.2 W) (qC I I (fun W h=>BQ (some r.2) (some p.2) (Db.2 hr.2) (Db.2 hp.2) W (ht.hp h)) ?_)))))))))))))
  refine qC I I (fun W h=>(Cy (AF (some q.1) (some p.1)) (AF (some r.2) (some p.2)) (Di _ _) (Di _ _) W (ht.hp h)).cast va) (Bq (wX (wZ ?_)))
  refine Af Tryz.hZ rfl rfl rfl rfl ?_;intro b
  refine Aa (Ab (wX (wZ (wS 3 I I I (Aa (Ab ?_))))))
  refine Au I (by((repeat (first|refine A3.same ?_|refine A3.off I ?_));exact tO)) ?_
  exact Al b ⟨I,I,I,I,tO⟩ [0,1,2,3] (by decide) I
 intro b8
 refine zE (Ar ?_)
 refine AE (X:=Nat) [true,true,true,true,true,true,true,true,true,true,true,true,true,true,true,false,false] (fun b=>[(8,Ag b8),(9,Ag b)]) (fun b=>[⟨b3,35,(cvV p).cells.toList,true,none⟩,⟨b4,35,(cvV q).cells.toList,true,none⟩,⟨b5,35,(cvV r).cells.toList,true,none⟩,⟨b8,84,[str sa, .int .i64 ea],true,none⟩,⟨b,84,[str sb, .int .i64 eb],true,none⟩])
   2 [⟨b3,35,(cvV p).cells.toList,true,none⟩,⟨b4,35,(cvV q).cells.toList,true,none⟩,⟨b5,35,(cvV r).cells.toList,true,none⟩,⟨b8,84,[str sa, .int .i64 ea],true,none⟩] Tryz.mixed (by kernel_rfl) ?_ ?_
 ·refine qP I (qB 1 I I I (qC I I (fun W hp=>AY q.2 W) (qP I (qB 0 I I I (qC I I (fun W hp=>AY p.2 W) (qC I I (fun W h=>BQ (some q.2) (some p.2) (Db.2 hq.2) (Db.2 hp.2) W (ht.hp h)) (qP I (qB 2 I I I (qC I I (fun W hp=>AY r.1 W) (qP I (qB 0 I I I (qC I I (fun W hp=>AY p.1 W) (qC I I (fun W h=>BQ (some r.1) (some p.1) (Db.2 hr.1) (Db.2 hp.1) W (ht.hp h)) ?_)))))))))))))
  refine qC I I (fun W h=>(Cy (AF (some q.2) (some p.2)) (AF (some r.1) (some p.1)) (Di _ _) (Di _ _) W (ht.hp h)).cast vb) (Bq (wX (wZ ?_)))
  refine Af Tryz.hZ rfl rfl rfl rfl ?_;intro b
  refine Aa (Ab (wX (wZ (wS 4 I I I (Aa (Ab ?_))))))
  refine Au I (by((repeat (first|refine A3.same ?_|refine A3.off I ?_));exact tO)) ?_
  exact Al b ⟨I,I,tO⟩ [0,1,2,3,4] (by decide) I
 intro b9
 refine zE (zA (zA (zB ?_)))
 rcases ca with⟨ha,rfl,rfl⟩|⟨x,ha,rfl,rfl⟩
 ·skip
  refine wP I (wB 3 I I I (wP I (Aa (zE (zR I (zA (zU (qP I (qB 3 I I I (qP I (qP I (AS (Aa ?_)))))))))))))
  exact zE (zO (zP (wR2 I I (by rw[tnV,tA,ha]))))
 rcases cb with⟨hb,rfl,rfl⟩|⟨y,hb,rfl,rfl⟩
 ·skip
  refine wP I (wB 3 I I I (wP I (Aa (zE (zS I (zI (zE (zA (zA (zB (wP I (wB 4 I I I (wP I ?_)))))))))))))
  exact Aa (zE (zR I (zA (zU (qP I (qB 4 I I I (qP I (qP I (AS (Aa (zE (zO (zP (wR2 I I (by rw[tnV,tA,tB,ha,hb])))))))))))))))
 obtain⟨rs,re,hv⟩:=Ug x y
 have hx:okQ x:=by have h:=DJ (AF (some q.1) (some p.1)) (AF (some r.2) (some p.2));rw[ha] at h;exact Db.1 h
 have hy:okQ y:=by have h:=DJ (AF (some q.2) (some p.2)) (AF (some r.1) (some p.1));rw[hb] at h;exact Db.1 h
 refine wP I (wB 3 I I I (wP I (Aa (zE (zS I (zI (zE (zA (zA (zB (wP I (wB 4 I I I (wP I ?_)))))))))))))
 refine Aa (zE (zS I (zI (zE (zA (zB (wP I (wB 3 I I I (wP I (wB 4 I I I (wC I I (fun W h=>(G5 x y hx hy W (ht.hp h)).cast hv) (wP I (wP I (wP I (wP I ?_)))))))))))))))
 exact Aa (zE (zO (wR2 I I (by rw[tnV,tA,tB,ha,hb];exact hv.symm))))
-- BOXES 5
-- CODE2
def GE (a:List UInt8):Bool:=(decide (12<a.length)&&decide (a.length<299))||decide (604<a.length)
theorem IN (a:List UInt8) (W:World):Ai Tryz.prog 125 #[str a] W (fun _:Unit=> .bool (GE a)) (fun _=>True) (fun _=>[]):=by
 refine Ac (args:=[str a]) Tryz.func125 I I I ?_
 refine zA (zB (wP I (Aa (zE (zA (zB (wP I (wP I ?_))))))))
 refine Ah 4 (.int .i64 (a.length:Nat)) I (congrArg (fun n:Nat=>Value.int .i64 (n:Int)) (A5 _)) ?_
 refine wP I ?_
 by_cases h1:12<a.length
 ·refine wU 5 true I (dT (by omega)) (wP I (wP I (wP I ?_)))
  refine Ah 8 (.int .i64 (a.length:Nat)) I (congrArg (fun n:Nat=>Value.int .i64 (n:Int)) (A5 _)) ?_
  refine wP I ?_
  by_cases h2:a.length<299
  ·refine wU 9 true I (dT (by omega)) (wP I (wP I ?_))
   iterate 3 refine Ao I I ?_
   exact wP I (wP I (Aa (zE (zO (wR1 I I (by unfold GE;rw[dT h1,dT h2];rfl))))))
  ·refine wU 9 false I (dF (by omega)) (wP I (wP I (wP I (wP I ?_))))
   refine Ah 13 (.int .i64 (a.length:Nat)) I (congrArg (fun n:Nat=>Value.int .i64 (n:Int)) (A5 _)) ?_
   exact wP I (wU 14 (decide (604<a.length)) I (decide_eq_decide.2 (by omega)) (wP I (wP I (Aa (zE (zO (wR1 I I (by unfold GE;rw[dT h1,dF h2];rfl))))))))
 ·refine wU 5 false I (dF (by omega)) (wP I ?_)
  iterate 3 refine Ao I I ?_
  refine wP I (wP I (wP I (wP I ?_)))
  refine Ah 13 (.int .i64 (a.length:Nat)) I (congrArg (fun n:Nat=>Value.int .i64 (n:Int)) (A5 _)) ?_
  exact wP I (wU 14 (decide (604<a.length)) I (decide_eq_decide.2 (by omega)) (wP I (wP I (Aa (zE (zO (wR1 I I (by unfold GE;rw[dF h1];rfl))))))))
abbrev PtS:=List UInt8×List UInt8
def Ek (W:World) (p:Option Addr) (l:List PtS):Prop:=l=[]∨ ∃b off,p=some ⟨b,off,none⟩∧ ∀i (hi:i<l.length),Aj W b (off+i*2) [str l[i].1,str l[i].2]
theorem Ek.hp {W0 W:World} {bxs:List Bx} {p:Option Addr} {l:List PtS} (h:Ek W0 p l) (hp:Hp W0 bxs W):Ek W p l:=by
 rcases h with h|⟨b,off,e,h⟩
 ·exact Or.inl h
 ·exact Or.inr ⟨b,off,e,fun i hi=>(h i hi).hp hp⟩
def JY (x:PtS):Bool:=GE x.1||GE x.2
def GV (l:List PtS):Bool:=l.any JY||decide (8<l.length)
theorem LX (W:World) (p:Option Addr) (cap:Nat) (l:List PtS) (hA:Ek W p l) (hn:l.length<4611686018427387904):Ai Tryz.prog 58 #[slv p l.length cap] W (fun _:Unit=> .bool (GV l)) (fun _=>True) (fun _=>[]):=by
 refine Ac (args:=[slv p l.length cap]) Tryz.func58 I I I ?_
 refine zA (zB (wP I (Aa (zE (zA (zA (zB (wP I (Aa (zE (zH ?_)))))))))))
 refine A9 (X:=Nat) (fun i=>[(0,slv p l.length cap),(3, .int .i64 (i:Nat))]) (fun _=>[]) (fun i=>i≤l.length∧ ∀j (hj:j<l.length),j<i→JY l[j]=false) (fun i=>l.length-i) 0 ⟨Nat.zero_le _,fun j _ h=>by omega⟩ ⟨I,I,tO⟩ [] I ?_
 rintro i ⟨hi,hno⟩
 have hi:i≤l.length:=hi
 refine zA (zA (zB (wP I (wP I (wP I (wP I ?_))))))
 by_cases hlt:i<l.length
 ·refine wU 7 true I (dT (by omega)) (Aa (zE (zR I (zI (zE (zA (zH (zA (zB ?_)))))))))
  obtain⟨b,off,rfl,hrow⟩: ∃b off,p=some ⟨b,off,none⟩∧ ∀i (hi:i<l.length),Aj W b (off+i*2) [str l[i].1,str l[i].2]:=by
   rcases hA with h|h
   ·rw[h] at hlt;exact absurd hlt (by simp)
   ·exact h
  have hr:=hrow i hlt
  obtain⟨x,hx⟩: ∃x,l[i]=x:=⟨_,rfl⟩
  rw[hx] at hr
  refine wP I (wP I ?_)
  refine wJ ?_
  refine wP I (wL 0 I I (fun W1 hp=>hr.hp hp) I (wC I I (fun W1 _=>IN x.1 W1) ?_))
  have next:GE x.1=false→GE x.2=false→ ∀j (hj:j<l.length),j<i+1→JY l[j]=false:=by
   intro h1 h2 j hj hji
   rcases Nat.lt_or_ge j i with q|q
   ·exact hno j hj q
   ·obtain rfl:j=i:=by omega
    rw[hx,JY,h1,h2];rfl
  cases h1:GE x.1 with
  |true=>
   refine wP I ?_
   iterate 6 refine Ao I I ?_
   refine wP I (Aa (zE (zR I (zA (zB (wP I (Aa (zE (zO (zQ (zP (zP (zQ ?_)))))))))))))
   refine zP ?_
   exact Av tH I (.tmp I) () (by
    have:l.any JY=true:=List.any_eq_true.2 ⟨l[i],List.getElem_mem _,by rw[hx,JY,h1];rfl⟩
    rw[GV,this];rfl) trivial fun W _=>Ap.nil _ _
  |false=>
   refine wP I (wP I (wP I ?_))
   refine wJ ?_
   refine wP I (wL 1 I I (fun W1 hp=>hr.hp hp) I (wC I I (fun W1 _=>IN x.2 W1) ?_))
   cases h2:GE x.2 with
   |true=>
    refine wP I (Aa (zE (zR I (zA (zB (wP I (Aa (zE (zO (zQ (zP (zP (zQ ?_)))))))))))))
    refine zP ?_
    exact Av tH I (.tmp I) () (by
     have:l.any JY=true:=List.any_eq_true.2 ⟨l[i],List.getElem_mem _,by rw[hx,JY,h1,h2];rfl⟩
     rw[GV,this];rfl) trivial fun W _=>Ap.nil _ _
   |false=>
    exact wP I (Aa (zE (zS I (zI (zN (zE (zB (wP I (wP I (wV 9 ((i+1:Nat):Int) I (Ax (by omega)) (wP I (Aa (A4 (i+1) ⟨hlt,next h1 h2⟩ (by show l.length-(i+1)<l.length-i;omega) ⟨I,I,tO⟩ [] I)))))))))))))
 ·refine wU 7 false I (dF (by omega)) (Aa (zE (zS I (zJ (zK (zK (zL (zE (zA (zB (wP I (wP I (wP I ?_)))))))))))))
  refine wU 26 (decide (8<l.length)) I (decide_eq_decide.2 (by omega)) (wP I (Aa (zE (zO ?_))))
  exact Av tH I (.tmp I) () (by
   have:l.any JY=false:=by
    rw[List.any_eq_false]
    intro x hx
    obtain⟨j,hj,rfl⟩:=List.getElem_of_mem hx
    rw[hno j hj (by omega)];decide
   rw[GV,this];rfl) trivial fun W _=>Ap.nil _ _
-- BOXES 5
-- CODE2
def nErr:List PtS→Int
 |[]=>0
 |x::l=>if (rdR x.1).2≠0 then(rdR x.1).2 else if (rdR x.2).2≠0 then(rdR x.2).2 else nErr l
theorem Mp {l:List PtS} {i:Nat} (h:i<l.length):nErr (l.drop i)=if (rdR l[i].1).2≠0 then(rdR l[i].1).2 else if (rdR l[i].2).2≠0 then(rdR l[i].2).2 else nErr (l.drop (i+1)):=by
 rw[List.drop_eq_getElem_cons h]
 rfl
theorem GD (W:World) (p:Option Addr) (cap:Nat) (l:List PtS) (hA:Ek W p l) (hn:l.length<4611686018427387904) (hs: ∀x∈l,x.1.length<4611686018427387904∧x.2.length<4611686018427387904) (ht:AI W):
  Ai Tryz.prog 92 #[slv p l.length cap] W (fun _:Unit=> .int .i64 (nErr l)) (fun _=>True) (fun _=>[]):=by
 refine Ac (args:=[slv p l.length cap]) Tryz.func92 I I I ?_
 refine zA (zB (wP I (Aa (zE (zA (zA (zB (wP I (Aa (zE (zH ?_)))))))))))
 refine A9 (X:=Nat) (fun i=>[(0,slv p l.length cap),(3, .int .i64 (i:Nat))]) (fun _=>[]) (fun i=>i≤l.length∧nErr l=nErr (l.drop i)) (fun i=>l.length-i) 0 ⟨Nat.zero_le _,I⟩ ⟨I,I,tO⟩ [] I ?_
 rintro i ⟨hi,he⟩
 have hi:i≤l.length:=hi
 have he:nErr l=nErr (l.drop i):=he
 refine zA (zA (zB (wP I (wP I (wP I (wP I ?_))))))
 by_cases hlt:i<l.length
 ·refine wU 9 true I (dT (by omega)) (Aa (zE (zR I (zI (zE (zA (zH (zA (zA (zB ?_))))))))))
  obtain⟨b,off,rfl,hrow⟩: ∃b off,p=some ⟨b,off,none⟩∧ ∀i (hi:i<l.length),Aj W b (off+i*2) [str l[i].1,str l[i].2]:=by
   rcases hA with h|h
   ·rw[h] at hlt;exact absurd hlt (by simp)
   ·exact h
  have hr:=hrow i hlt
  have hz:=hs l[i] (List.getElem_mem _)
  rw[Mp hlt] at he
  generalize l[i]=x at hr hz he
  generalize he1:(rdR x.1).2=e1 at he
  generalize he2:(rdR x.2).2=e2 at he
  refine wP I (wP I ?_)
  refine wJ ?_
  refine wP I (wL 0 I I (fun W1 hp=>hr.hp hp) I (wC I I (fun W1 hp=>(G9 x.1 hz.1 W1 (ht.hp hp)).cast (congrArg (Value.int .i64) he1)) (wP I (Aa (zE (zA (zB (wP I (wP I ?_)))))))))
  by_cases h1:e1=0
  ·subst h1
   refine Ah 19 (.bool false) I I ?_
   refine Aa (zE (zS I (zI (zE (zA (zB (wP I (wP I ?_))))))))
   refine wJ ?_
   refine wP I (wL 1 I I (fun W1 hp=>hr.hp hp) I (wC I I (fun W1 hp=>(G9 x.2 hz.2 W1 (ht.hp hp)).cast (congrArg (Value.int .i64) he2)) (wP I (Aa (zE (zA (zB (wP I (wP I ?_)))))))))
   by_cases h2:e2=0
   ·subst h2
    refine Ah 28 (.bool false) I I ?_
    exact Aa (zE (zS I (zI (zN (zE (zB (wP I (wP I (wV 11 ((i+1:Nat):Int) I (Ax (by omega)) (wP I (Aa (A4 (i+1) ⟨hlt,by rw[he];rfl⟩ (by show l.length-(i+1)<l.length-i;omega) ⟨I,I,tO⟩ [] I))))))))))))
   ·refine wU 28 true I (by show(!decide (e2=0))=true;rw[dF h2];rfl) (Aa (zE (zR I (zA (zB (wP I (wP I (Aa (zE (zO (zQ (zP (zP ?_)))))))))))))
    exact zQ (zP (wR1 I I (by rw[he,if_neg (by simp),if_pos h2])))
  ·refine wU 19 true I (by show(!decide (e1=0))=true;rw[dF h1];rfl) (Aa (zE (zR I (zA (zB (wP I (wP I (Aa (zE (zO (zP (zQ (zP (zP ?_))))))))))))))
   exact zQ (zP (wR1 I I (by rw[he,if_pos h1])))
 ·refine wU 9 false I (dF (by omega)) (Aa (zE (zS I (zJ (zK (zK (zL (zE (zA (zB (wP I (Aa (zE ?_)))))))))))))
  exact zO (wR1 I I (by rw[he,List.drop_of_length_le (by omega)];rfl))
-- BOXES 4
-- CODE2
section
variable {P:Program} {N:Nat} {D:List Deferred} {ops:List Oper} {o:Oper} {rest:List Oper} {env:Env} {A A2:World→Prop} {R:Act→World→Prop}
theorem Ro (k:Nat) {d:Nat} {t e:TypeId} {m:Nat} {parts:Array (Nat×Operand)} {vs:List (Nat×Value)} (z:Value) {c:List Value} (ht:P.underlying t=some (.array m e)) (hz: ∀W,(zeroValue t).run P W= .ok z W) (hs: ∀W,(Go.sizeOf e).run P W= .ok k W)
  (hg:A6 ops N env o=some true) (hd:o.dst=some d) (ho:o.op= .build t parts) (hp:Ed (evO N env) parts.toList=some vs) (hc:Gj (Ji k) z.cells.toList vs=some c)
  (h:WQ P N D ops A2 R rest ((d, .agg c.toArray)::env) A):WQ P N D ops A2 R (o::rest) env A:=
 Eg hg hd (fun c e=>by rw[ho] at e;cases e) (fun ρ W hρ _=>by
  have hparts:(parts.map fun(i,x)=>(i,ρ x)).toList=vs:=by rw[←Ez hρ hp];simp
  have hfill:=Kp hc
  simp only[Array.toArray_toList] at hfill
  have hfill':Instr.fill (fun i=>some (i*k,k)) z.cells (parts.map fun(i,x)=>(i,ρ x)).toList=some c.toArray:=by rw[hparts];exact hfill
  simp only[execOp,ho,Instr.build,Sem.run_bind,hz,Result.andThen_ok,run_underlying ht,hs,Sem.run_pure]
  rw[hfill']
  simp) h
end
section
variable {r:Option Nat} {n:Nat} {P:Program} {N:Nat} {D:List Deferred} {ops:List Oper} {Q:Exit→Act→World→Prop} {o:Oper} {rest:List Oper} {env:Env} {A A2:World→Prop} {R:Act→World→Prop}
theorem HC {ρ:Operand→Value} {t e:TypeId} {m c:Nat} {x y:Operand} {k:IntKind} {b off:Nat} {z:Int} (ht:P.underlying t=some (.array m e)) (hs: ∀W,(Go.sizeOf e).run P W= .ok c W) (ho:o.op= .indexAddr t x y)
  (hx:ρ x= .pointer (some ⟨b,off,none⟩)) (hy:ρ y= .int k z) (h0:0≤z∧z<m) (W:World):(execOp ρ o).run P W= .ok (.value (.pointer (some ⟨b,off+z.toNat*c,none⟩))) W:=by
 simp[execOp,ho,hx,hy,Instr.indexAt,Instr.sureAddr,asIntOf,run_underlying ht,hs,h0.1,h0.2,Addr.add_none]
theorem CJ {d:Nat} {t e:TypeId} {m c:Nat} {x y:Operand} {k:IntKind} {b off:Nat} {z:Int} (ht:P.underlying t=some (.array m e)) (hs: ∀W,(Go.sizeOf e).run P W= .ok c W) (hg:A6 ops N env o=some true) (hd:o.dst=some d) (ho:o.op= .indexAddr t x y)
  (hx:evO N env x=some (.pointer (some ⟨b,off,none⟩))) (hy:evO N env y=some (.int k z)) (h0:0≤z∧z<m)
  (h:WL r n P N D ops Q rest ((d, .pointer (some ⟨b,off+z.toNat*c,none⟩))::env) A):WL r n P N D ops Q (o::rest) env A:=
 Dy hg hd (fun c e=>by rw[ho] at e;cases e) (fun _ W hρ _=>HC ht hs ho (hρ _ _ hx) (hρ _ _ hy) h0 W) h
theorem AR {d:Nat} {t e:TypeId} {m c:Nat} {x y:Operand} {k:IntKind} {b off:Nat} {z:Int} (ht:P.underlying t=some (.array m e)) (hs: ∀W,(Go.sizeOf e).run P W= .ok c W) (hg:A6 ops N env o=some true) (hd:o.dst=some d) (ho:o.op= .indexAddr t x y)
  (hx:evO N env x=some (.pointer (some ⟨b,off,none⟩))) (hy:evO N env y=some (.int k z)) (h0:0≤z∧z<m)
  (h:WQ P N D ops A2 R rest ((d, .pointer (some ⟨b,off+z.toNat*c,none⟩))::env) A):WQ P N D ops A2 R (o::rest) env A:=
 Eg hg hd (fun c e=>by rw[ho] at e;cases e) (fun _ W hρ _=>HC ht hs ho (hρ _ _ hx) (hρ _ _ hy) h0 W) h
end
def Cf (W:World) (p:Option Addr) (l:List Ak):Prop:=l=[]∨ ∃b off,p=some ⟨b,off,none⟩∧ ∀i (hi:i<l.length),Aj W b (off+i*2) [str (Ad l[i].1),str (Ad l[i].2)]
theorem Cf.below {W W':World} {p:Option Addr} {l:List Ak} {n:Nat} (h:Cf W p l) (hn:W.heap.size≤n) (hb:Below n W W'):Cf W' p l:=by
 rcases h with h|⟨b,off,h1,h2⟩
 ·exact .inl h
 ·exact .inr ⟨b,off,h1,fun i hi=>(h2 i hi).below hn hb⟩
theorem Cf.hp {W0 W:World} {bxs:List Bx} {p:Option Addr} {l:List Ak} (h:Cf W0 p l) (hp:Hp W0 bxs W):Cf W p l:=h.below (Nat.le_refl _) hp.below
theorem Cf.at_ {W:World} {p:Option Addr} {l:List Ak} (h:Cf W p l) {i:Nat} (hi:i<l.length): ∃g off,p=some ⟨g,off,none⟩∧ ∀k (hk:k<l.length),Aj W g (off+k*2) [str (Ad l[k].1),str (Ad l[k].2)]:=by
 rcases h with h|⟨g,off,e,h⟩
 ·rw[h] at hi;exact absurd hi (Nat.not_lt_zero _)
 ·exact⟨g,off,e,h⟩
abbrev ptS (q:Ak):PtS:=(Ad q.1,Ad q.2)
theorem Ek.p {W:World} {p:Option Addr} {l:List Ak} (h:Ek W p (l.map ptS)):Cf W p l:=by
 rcases h with e|⟨g,off,e,hr⟩
 ·exact .inl (List.map_eq_nil_iff.1 e)
 ·refine .inr ⟨g,off,e,fun i hi=> ?_⟩
  have:=hr i (by rw[List.length_map];exact hi)
  rwa [List.getElem_map] at this
structure Ww (b:Nat) (p:Option Addr) (cap:Nat) (l:List Ak) (W:World):Prop where
 var:Aj W b 0 [slv p l.length cap]
 pts:Cf W p l
abbrev sdV (p q:Ak):Value:= .agg #[str (Ad p.1),str (Ad p.2),str (Ad q.1),str (Ad q.2)]
abbrev Va (l:List Ak) (k:Nat):List Value:=[.int .i64 (k:Nat),sdV (Ae l k) (Ae l (k+1))]
theorem C3 (p:Option Addr) (n cap:Nat) (W:World):Ai Tryz.prog 44 #[slv p n cap] W (fun b:Nat=> .func (.func 103) #[] #[Ag b]) (fun _=>True) (fun b=>[⟨b,22,[slv p n cap],true,none⟩]):=by
 refine Ac (args:=[slv p n cap]) Tryz.func44 I I I ?_
 refine zA (zB ?_)
 (refine At rfl rfl rfl rfl ?_;intro)
 refine wP I (Aa ?_)
 rename_i b
 exact zE (zA (zB (wP I (wP I (Aa (zE (zO (Av tH I (.tmp I) b I tO fun W1 hp=>Ap.of_hp hp))))))))
abbrev SO (b:Nat) (q:Ak):List (Nat×Obj):=[(b, .cells (cvV q).cells 35 (0,0))]
theorem CF (l:List Ak) (b1:Nat) (p:Option Addr) (cap:Nat) (hn:l.length<1099511627776):UG Tryz.prog 103 [Ag b1] l.length (Va l) (fun _=>Ww b1 p cap l):=by
 refine⟨fun y J Jx hN hB hA hU hY W hJ=> ?_⟩
 have hdr: ∀k L W,J k L W→J k L { W with drawn:=W.drawn+1 }:=fun k L W h=>hB k L W _ h ⟨rfl,rfl,rfl,Nat.le_refl _,fun _ _=>rfl⟩
 have hp0:=(hN _ _ W hJ).1.pts
 refine Gw (args:=[.func (.yield y) #[] #[],Ag b1]) (J0:=J 0 []) (Jm:=fun W=> ∃L,J l.length L W) Tryz.func103 I I I hJ ?_
 refine zA (zB (wL 0 I I (fun W hp=>(hN _ _ W hp).1.var) I (wP I (wP I (Aa (zE (zH ?_)))))))
 refine Fh (X:=Nat×List (Nat×Obj)) (fun s=>[(0, .func (.yield y) #[] #[]),(1,Ag b1),(5,slv p l.length cap),(6, .int .i64 (l.length:Nat)),(7, .int .i64 (s.1:Nat))]) (fun s W=>J s.1 s.2 W)
  (fun s=>s.1≤l.length) (fun s=>l.length-s.1) (0,[]) (Nat.zero_le _) ⟨rfl,rfl,rfl,rfl,rfl,trivial⟩ (fun W hp=>hp) ?_
 rintro⟨i,L⟩ hi
 have hi:i≤l.length:=hi
 refine zA (zB (wP I ?_))
 by_cases hlt:i<l.length
 rotate_left
 ·refine wU 8 false I (dF (by omega)) (Aa (zE (zA (zS I (zJ (zK (zK (zL ?_))))))))
  exact Kt I fun W hp=>⟨L,by
   have e:i=l.length:=by omega
   have hp:J i L W:=hp
   rw[e] at hp
   exact hp⟩
 refine wU 8 true I (dT (by omega)) (Aa (zE (zA (zR I (zI (zE (zA (zH (zA (zB ?_))))))))))
 have hn0:0<l.length:=by omega
 have l2:(i+1)%l.length<l.length:=Nat.mod_lt _ hn0
 obtain⟨g,off,hpe,hrow⟩: ∃g off,p=some ⟨g,off,none⟩∧ ∀W k L,J k L W→ ∀j,j<l.length→Aj W g (off+j*2) [str (Ad (Ae l j).1),str (Ad (Ae l j).2)]:=by
  obtain⟨g,off,e,_⟩:=hp0.at_ hlt
  refine⟨g,off,e,fun W1 k L1 h1 j hj=> ?_⟩
  obtain⟨g',off',e',h2⟩:=(hN _ _ W1 h1).1.pts.at_ hj
  rw[e] at e'
  cases e'
  rw[BM hj]
  exact h2 j hj
 subst hpe
 have hz:(l.length:Int)≠0:=by omega
 have e2:(w64 ((i:Int)+1)).tmod (l.length:Int)=(((i+1)%l.length:Nat):Int):=by
  rw[A0 (x:=(i:Int)+1) (by omega) (by omega)]
  rfl
 refine wP I ?_
 refine wJ ?_
 refine wL 0 I I (fun W hp=>hrow W _ _ hp i hlt) I ?_
 refine RP (fun b W=>J i [(b, .cells (Value.agg #[str [],str []]).cells 35 (0,0))] W) I I I (Tryz.hZ.get I) (fun W W' b hp hb hl ho=>hA _ _ W W' b _ hp hb hl ho) fun b=> ?_
 refine wP I ?_
 refine Rz (cs:=[str [],str []]) (ty:=35) (fun W=>J i (SO b (Ae l i)) W) tH I I I I I I (fun W hp=>(hN _ _ W hp).2 (b,_) (List.mem_cons_self ..)) I I I (fun W W' hp hu=>hU _ _ _ _ W W' hp hu) ?_
 refine Aa (zE (Ar ?_))
 refine Rk 12 (hdr _ _) Tryz.mixed (by kernel_rfl) I ?_
 refine qP I (qP I (qL 0 I I (fun W hp=>show Aj W b 0 (cvV (Ae l i)).cells.toList from Aj.of_block ((hN _ _ W hp).2 (b,_) (List.mem_cons_self ..))) I (qL 0 I I (fun W hp=>(hN _ _ W hp).1.var) I (qP I (qP I (qL 0 I I (fun W hp=>(hN _ _ W hp).1.var) I (qP I ?_)))))))
 refine Dv I I I I I hz ?_
 refine qV 20 (((i+1)%l.length:Nat):Int) I e2 ?_
 refine qJ ?_
 refine qL 0 I I (fun W hp=>hrow W _ _ hp ((i+1)%l.length) l2) I ?_
 refine Ro 2 (.agg #[str [],str [],str [],str []]) Tryz.underlying66 (fun W=>by kernel_rfl) Tryz.sizeOf35 I I I I I ?_
 refine AS ?_
 have hYk: ∀W,J i (SO b (Ae l i)) W→YieldAt (Fw none) 0 Tryz.prog y (Va l i).toArray W fun e W'=>(e= .returned (.bool true)∧J (i+1) (SO b (Ae l i)) W')∨(e= .returned (.bool false)∧Jx W'):=fun W h=>hY _ _ W hlt h
 unfold Va at hYk
 rw[←C8 l (i+1)] at hYk
 refine IJ (A1:=fun W=>J (i+1) (SO b (Ae l i)) W) (A2:=Jx) I I I I I I hYk ?_ ?_
 rotate_left
 ·exact wP I (Aa (zE (zR I (zO (zQ (zP (zP (zQ (EF I (fun W h=>h))))))))))
 exact wP I (Aa (zE (zS I (zI (zN (zE (zB (wP I (wV 26 ((i+1:Nat):Int) I (Ax (by omega)) (wP I (Aa (Fc (i+1,SO b (Ae l i)) hlt (by show l.length-(i+1)<l.length-i;omega) ⟨I,I,I,I,I,tO⟩ (fun W hp=>hp)))))))))))))
theorem Hs (W:World) (p:Option Addr) (cap:Nat) (l:List PtS) (hA:Ek W p l) (hn:l.length<4611686018427387904) (hs: ∀x∈l,x.1.length≤4000000000∧x.2.length≤4000000000) (hv:BO W) (ht:AI W):
  Ai Tryz.prog 54 #[slv p l.length cap] W (fun _:Unit=> .int .i64 (nErr l)) (fun _=>True) (fun _=>[]):=by
 refine Ac (args:=[slv p l.length cap]) Tryz.func54 I I I ?_
 refine zA (zB (wP I (Aa (zE (zA (zA (zB (wP I (wP I (wP I (Aa (zE (zH ?_)))))))))))))
 refine A9 (X:=Nat) (fun i=>[(2, .int .i64 0),(8,slv p l.length cap),(9, .int .i64 (l.length:Nat)),(10, .int .i64 (i:Nat))]) (fun _=>[]) (fun i=>i≤l.length∧nErr l=nErr (l.drop i)) (fun i=>l.length-i) 0 ⟨Nat.zero_le _,I⟩ ⟨I,I,I,I,tO⟩ [] I ?_
 rintro i ⟨hi,he⟩
 have hi:i≤l.length:=hi
 have he:nErr l=nErr (l.drop i):=he
 refine zA (zB (wP I ?_))
 by_cases hlt:i<l.length
 rotate_left
 ·refine wU 11 false I (dF (by omega)) (Aa (zE (zA (zS I (zJ (zK (zK (zL (zE (zA (zB (wP I (Aa ?_)))))))))))))
  exact zE (zO (wR1 I I (by rw[he,List.drop_of_length_le (by omega)];rfl)))
 refine wU 11 true I (dT (by omega)) (Aa (zE (zA (zR I (zI (zE (zA (zH (zA (zB ?_))))))))))
 obtain⟨b,off,rfl,hrow⟩: ∃b off,p=some ⟨b,off,none⟩∧ ∀i (hi:i<l.length),Aj W b (off+i*2) [str l[i].1,str l[i].2]:=by
  rcases hA with h|h
  ·rw[h] at hlt;exact absurd hlt (by simp)
  ·exact h
 have hr:=hrow i hlt
 have hz:=hs l[i] (List.getElem_mem _)
 rw[Mp hlt] at he
 obtain⟨⟨x,y⟩,hx⟩: ∃x,x=l[i]:=⟨_,rfl⟩
 rw[←hx] at hr hz he
 simp only at hr hz he
 refine wJ ?_
 refine wL 0 I I (fun W1 hp=>hr.hp hp) I ?_
 (refine Af Tryz.hZ rfl rfl rfl rfl ?_;intro)
 refine wS 0 I I I (Aa (zE (zA (zB (wP I (wB 0 I I I (wP I (wB 0 I I I ?_))))))))
 refine A8 Tryz.hZ tH I I I I I I I I I I I fun bS=> ?_
 refine wP I (wP I (Aa ?_))
 rename_i b4
 refine zE (zH ?_)
 refine A9 (X:=Nat) (fun k=>[(2, .int .i64 0),(8,slv (some ⟨b,off,none⟩) l.length cap),(9, .int .i64 (l.length:Nat)),(10, .int .i64 (i:Nat)),(18,slv (some ⟨bS,0,none⟩) 2 2),(19, .int .i64 2),(20, .int .i64 (k:Nat))]) (fun _=>[⟨b4,35,[str x,str y],true,none⟩,⟨bS,23,[str x,str y],true,none⟩]) (fun k=>k=0∨k=1∧(rdR x).2=0∨k=2∧(rdR x).2=0∧(rdR y).2=0) (fun k=>2-k) 0 (Or.inl I) ⟨I,I,I,I,I,I,I,tO⟩ [] I ?_
 rintro k (rfl|⟨rfl,h1⟩|⟨rfl,h1,h2⟩)
 ·refine zA (zB (wP I (Aa (zE (zA (zR I (zI (zE (zA (zH (zA (zB (wI I I (by decide) (by decide) ?_)))))))))))))
  refine wB 1 I I I (wP I (Aa (zE (zA (zB (wP I (wC I I (fun W1 hp=>Gy x hz.1 W1 (hv.hp hp) (ht.hp hp)) (wP I (Aa (zE (zA (zB (wP I (wP I ?_))))))))))))))
  by_cases h1:(rdR x).2=0
  rotate_left
  ·refine wU 27 true I (bne_iff_ne.2 h1) (Aa (zE (zR I (zA (zB (wP I (wP I (Aa (zE (zO (zQ (zP (zP ?_)))))))))))))
   refine zQ (zQ (zP (zP (zQ (zP ?_)))))
   rw[if_pos h1] at he
   exact wR1 I I (by rw[he])
  exact wU 27 false I (bne_eq_false_iff_eq.2 h1) (Aa (zE (zS I (zI (zN (zE (zB (wP I (wP I (Aa (A4 1 (Or.inr (Or.inl ⟨I,h1⟩)) (by decide) ⟨I,I,I,I,I,I,I,tO⟩ [] I)))))))))))
 ·rw[if_neg (fun h=>h h1)] at he
  refine zA (zB (wP I (Aa (zE (zA (zR I (zI (zE (zA (zH (zA (zB (wI I I (by decide) (by decide) ?_)))))))))))))
  refine wB 1 I I I (wP I (Aa (zE (zA (zB (wP I (wC I I (fun W1 hp=>Gy y hz.2 W1 (hv.hp hp) (ht.hp hp)) (wP I (Aa (zE (zA (zB (wP I (wP I ?_))))))))))))))
  by_cases h2:(rdR y).2=0
  rotate_left
  ·refine wU 27 true I (bne_iff_ne.2 h2) (Aa (zE (zR I (zA (zB (wP I (wP I (Aa (zE (zO (zQ (zP (zP ?_)))))))))))))
   refine zQ (zQ (zP (zP (zQ (zP ?_)))))
   rw[if_pos h2] at he
   exact wR1 I I (by rw[he])
  exact wU 27 false I (bne_eq_false_iff_eq.2 h2) (Aa (zE (zS I (zI (zN (zE (zB (wP I (wP I (Aa (A4 2 (Or.inr (Or.inr ⟨I,h1,h2⟩)) (by decide) ⟨I,I,I,I,I,I,I,tO⟩ [] I)))))))))))
 ·rw[if_neg (fun h=>h h1),if_neg (fun h=>h h2)] at he
  refine zA (zB (wP I (Aa (zE (zA (zS I (zJ (zK (zK (zL (zN (zE (zB ?_)))))))))))))
  exact wP I (wV 30 ((i+1:Nat):Int) I (Ax (by omega)) (wP I (Aa (A4 (i+1) ⟨hlt,he⟩ (by show l.length-(i+1)<l.length-i;omega) ⟨I,I,I,I,tO⟩ [_,_] I))))
-- BOXES 12
-- CODE2
def JO (k:Nat) (l:List Ak):Prop:= ∀p∈l,szQ p.1 k∧szQ p.2 k
theorem JO.at_ {k:Nat} {l:List Ak} (h:JO k l) (h0:0<l.length) (i:Nat):szQ (Ae l i).1 k∧szQ (Ae l i).2 k:=h _ (B2 h0 i)
theorem Ue {p q r:Ak} {k:Nat} (hp:szQ p.1 k∧szQ p.2 k) (hq:szQ q.1 k∧szQ q.2 k) (hr:szQ r.1 k∧szQ r.2 k) (hk:k≤36):VM p q r:=by
 have a:=hq.1.sub hp.1
 have b:=hr.2.sub hp.2
 have c:=hq.2.sub hp.2
 have d:=hr.1.sub hp.1
 exact⟨sz2 hq.1 hp.1 (by omega),sz2 hr.2 hp.2 (by omega),sz2 hq.2 hp.2 (by omega),sz2 hr.1 hp.1 (by omega),sz2 a b (by omega),sz2 c d (by omega),sz2 (a.mul b) (c.mul d) (by omega)⟩
theorem Vo {x y:Rat} (h:y<x):CV x y=1:=by
 have h1:=L5 x y
 rw[dT h] at h1
 have h2:=of_decide_eq_true h1
 rcases HM x y with e|e|e<;>omega
theorem Tz {p q r:Ak} (h:0<Dq p q r):OU p q r=1:=Vo (by unfold Dq at h;grind)
theorem Te {l:List Ak} (h:FB l) {k i:Nat} (hk:k<l.length) (hi:i<l.length) (h1:i≠k) (h2:i≠(k+1)%l.length):OU (Ae l k) (Ae l (k+1)) (Ae l i)=1:=by
 refine Tz (DV.sideS h hk hi h1 ?_ ?_)
 ·intro e
  rw[e,Nat.mod_eq_of_lt (by omega)] at h2
  exact h2 I
 ·rintro⟨e,e2⟩
  rw[e,e2,Nat.mod_self] at h2
  exact h2 I
theorem BB {W0 W:World} {bxs:List Bx} (hp:Hp W0 bxs W) (k:Nat) {c:Nat} (h:bxs[k]? =some ⟨c,61,[.int .i64 0],true,none⟩):CD W c:=
 (hp.own.cell k _ h (c,_) (List.mem_cons_self ..)).1
theorem Cf.b {W:World} {p:Option Addr} {l:List Ak} (h:Cf W p l):Ek W p (l.map ptS):=by
 rcases h with e|⟨g,off,e,hr⟩
 ·exact .inl (by rw[e];rfl)
 ·refine .inr ⟨g,off,e,fun i hi=> ?_⟩
  rw[List.getElem_map]
  exact hr i (by rw[List.length_map] at hi;exact hi)
theorem Q8: ∀ {l:List Ak},(∀p∈l,okQ p.1∧okQ p.2)→nErr (l.map ptS)=0
 |[],_=>rfl
 |p::l,h=>by
  obtain⟨h1,h2⟩:=h p (List.mem_cons_self ..)
  show(if (rdR (Ad p.1)).2≠0 then _ else if (rdR (Ad p.2)).2≠0 then _ else nErr (l.map ptS))=0
  rw[IX h1,IX h2,if_neg (fun h=>h rfl),if_neg (fun h=>h rfl)]
  exact Q8 fun q hq=>h q (List.mem_cons_of_mem _ hq)
theorem GG (W:World) (p:Option Addr) (cap:Nat) (l:List Ak) (hA:Cf W p l) (hn:l.length≤100000) (hk: ∀p∈l,okQ p.1∧okQ p.2) (hv:BO W) (ht:AI W):
  Ai Tryz.prog 54 #[slv p l.length cap] W (fun _:Unit=> .int .i64 0) (fun _=>True) (fun _=>[]):=by
 have h:=Hs W p cap (l.map ptS) hA.b (by rw[List.length_map];omega) (fun x hx=>by
  obtain⟨q,hq,rfl⟩:=List.mem_map.1 hx
  have h1:=AX (hk q hq).1
  have h2:=AX (hk q hq).2
  show(Ad q.1).length≤_∧(Ad q.2).length≤_
  omega) hv ht
 rwa [Q8 hk,List.length_map] at h
theorem N1 (l:List Ak) (hP:FB l) (h3:3≤l.length) (hn:l.length≤4096) (hs:JO 36 l) (p:Option Addr) (cap:Nat) (W:World) (hA:Cf W p l) (hv:BO W) (ht:AI W):
  Ai Tryz.prog 18 #[slv p l.length cap] W (fun _:Unit=> .int .i64 0) (fun _=>True) (fun _=>[]):=by
 have hn0:0<l.length:=by omega
 have hz:(l.length:Int)≠0:=by omega
 refine Ac (args:=[slv p l.length cap]) Tryz.func18 I I I ?_
 refine zA (zB ?_)
 (refine At rfl rfl rfl rfl ?_;intro)
 (refine Af Tryz.hZ rfl rfl rfl rfl ?_;intro)
 refine Aa ?_
 rename_i b1 b2
 refine zE (zA (zH (zA (zB (wB 0 I I I (wP I (wP I (wU 13 false I (dF (by omega)) (wP I (Aa (zE (zS I (zA ?_)))))))))))))
 refine zB (wB 0 I I I (wP I (wP I (wU 17 false I (dF (by omega)) (wP I (Aa (zE (zS I (zI (zN (zE (zA (zA ?_)))))))))))))
 refine zB (wB 0 I I I (wC I I (fun W1 hp=>GG W1 p cap l (hA.hp hp) (by omega) (fun q hq=>⟨(hs q hq).1.ok (by decide),(hs q hq).2.ok (by decide)⟩) (hv.hp hp) (ht.hp hp)) (wP I (Aa (zE (zA (zB (wP I (wP I (Aa (zE (zS I (zI ?_)))))))))))))
 refine zE (zA (zB ?_))
 refine Ay Tryz.hZ tH I I I I I I I I ?_
 (refine At rfl rfl rfl rfl ?_;intro)
 (refine Af Tryz.hZ rfl rfl rfl rfl ?_;intro)
 (refine Af Tryz.hZ rfl rfl rfl rfl ?_;intro)
 refine wS 3 I I I (wS 4 I I I (Aa ?_))
 rename_i bC b4 b5
 refine zE (zA (zA (zB (wB 0 I I I ?_))))
 refine wD (X:=Nat) I I (fun W1 _=>C3 p l.length cap W1) ?_
 intro bp _
 refine Aa (zE (zH ?_))
 refine DM (X:=Unit) (fun _=>[⟨b1,22,[slv p l.length cap],true,none⟩,⟨b2,27,[.int .i64 0],true,none⟩,⟨bC,61,[.int .i64 0],true,none⟩,⟨b4,59,[Ag bC],true,none⟩,⟨b5,4,[.bool false],true,none⟩,⟨bp,22,[slv p l.length cap],true,none⟩])
  (fun _ _=>True) (fun _ _=>False) () rfl (by kernel_rfl) (CF l bp p cap (by omega)) (fun _=>rfl)
  trivial [] rfl (fun k x W1 _ hp=>⟨Aj.of_bx hp 5 rfl rfl,hA.hp hp⟩) ?_ ?_ (fun _ _ _ _ _ h=>h.elim)
 ·rintro k ⟨⟩ d l' rec L hk _ hrec
  have hk:k<l.length:=hk
  refine zA (zB (wP I (Aa (zE (zB ?_)))))
  (refine Af Tryz.hZ rfl rfl rfl rfl ?_;intro)
  refine wS 9 I I I (Aa ?_)
  rename_i b7
  refine C9 8 hrec I ?_
  refine Bj (zA (zB (wB 1 I I I (wP I (wP I (Aa (zE (zH ?_))))))))
  refine A9 (X:=Nat) (fun i=>[(1,Ag b1),(2,Ag b2),(4,Ag b4),(5,Ag b5),(6, .int .i64 (k:Nat)),(7,Ag b7),(29,slv p l.length cap),(30, .int .i64 (l.length:Nat)),(31, .int .i64 (i:Nat))])
   (fun _=>[AL L,⟨b1,22,[slv p l.length cap],true,none⟩,⟨b2,27,[.int .i64 0],true,none⟩,⟨bC,61,[.int .i64 0],true,none⟩,⟨b4,59,[Ag bC],true,none⟩,⟨b5,4,[.bool false],true,none⟩,⟨bp,22,[slv p l.length cap],true,none⟩,Bz d,Ba l' rec .busy none,⟨b7,66,(sdV (Ae l k) (Ae l (k+1))).cells.toList,true,none⟩])
   (fun i=>i≤l.length) (fun i=>l.length-i) 0 (Nat.zero_le _) ⟨rfl,rfl,rfl,rfl,rfl,rfl,rfl,rfl,rfl,trivial⟩ [] rfl ?_
  intro i hi
  have hi:i≤l.length:=hi
  refine zA (zB (wP I ?_))
  by_cases hlt:i<l.length
  rotate_left
  ·exact wU 32 false I (dF (by omega)) (Aa (zE (zA (zS I (zJ (zK (zK (zL (zN (BW 8 () hrec I tO [_] I))))))))))
  refine wU 32 true I (dT (by omega)) (Aa (zE (zA (zR I (zI (zE (zA (zH (zA (zB ?_))))))))))
  obtain⟨g,off,hpe,hrow⟩:=hA.at_ hlt
  have hrow:=hrow i hlt
  rw[←BM hlt] at hrow
  subst hpe
  refine wP I ?_
  refine wJ ?_
  refine wL 0 I I (fun W1 hp=>hrow.hp hp) I ?_
  (refine Af Tryz.hZ rfl rfl rfl rfl ?_;intro)
  refine wP I (wS 10 I I I (Aa ?_))
  rename_i b9
  refine zE (zA (zA (zB (wP I (wP I (wP I ?_))))))
  by_cases h1:i=k
  ·refine wU 38 false I (bne_eq_false_iff_eq.2 (by omega)) (wP I ?_)
   iterate 7 refine Ao I I ?_
   refine wP I (wP I ?_)
   iterate 8 refine Ao I I ?_
   refine wP I (Aa (zE (zS I (zI (zE (zA (zB (wB 4 I I I ?_))))))))
   refine AB I I I I ?_
   exact wP I (wB 3 I I I (wP I (Aa (zE (zS I (zI (zN (zE (zB (wP I (wV 67 ((i+1:Nat):Int) I (Ax (by omega)) (wP I (Aa (A4 (i+1) hlt (by show l.length-(i+1)<l.length-i;omega) ⟨I,I,I,I,I,I,I,I,I,tO⟩ [_] I))))))))))))))
  refine wU 38 true I (bne_iff_ne.2 (by omega)) (wP I (wP I (wP I (wP I (wV 42 ((k+1:Nat):Int) I (Ax (by omega)) (wB 1 I I I (wP I ?_)))))))
  refine Ej I I I I I hz ?_
  refine wV 45 (((k+1)%l.length:Nat):Int) I I (wP I ?_)
  by_cases h2:i=(k+1)%l.length
  ·refine wU 46 false I (bne_eq_false_iff_eq.2 (by omega)) (wP I (wP I ?_))
   iterate 8 refine Ao I I ?_
   refine wP I (Aa (zE (zS I (zI (zE (zA (zB (wB 4 I I I ?_))))))))
   refine AB I I I I ?_
   exact wP I (wB 3 I I I (wP I (Aa (zE (zS I (zI (zN (zE (zB (wP I (wV 67 ((i+1:Nat):Int) I (Ax (by omega)) (wP I (Aa (A4 (i+1) hlt (by show l.length-(i+1)<l.length-i;omega) ⟨I,I,I,I,I,I,I,I,I,tO⟩ [_] I))))))))))))))
  refine wU 46 true I (bne_iff_ne.2 (by omega)) (wP I (wP I (wB 4 I I I ?_)))
  refine CJ Tryz.underlying66 Tryz.sizeOf35 I I I I I ⟨by decide,by decide⟩ ?_
  refine wB 9 I I I ?_
  refine CJ Tryz.underlying66 Tryz.sizeOf35 I I I I I ⟨by decide,by decide⟩ ?_
  refine wB 9 I I I (wB 10 I I I (wC I I (fun W1 hp=>(NN bC (Ae l k) (Ae l (k+1)) (Ae l i) (Ue (hs.at_ hn0 _) (hs.at_ hn0 _) (hs.at_ hn0 _) (by decide)) W1 (BB hp 3 I) (hv.hp hp) (ht.hp hp)).cast (v':= .int .i64 1) (by rw[Te hP hk hlt h1 h2])) (wP I (wP I (Aa (zE (zS I (zI (zE (zA (zB (wB 4 I I I ?_))))))))))))
  refine AB I I I I ?_
  exact wP I (wB 3 I I I (wP I (Aa (zE (zS I (zI (zN (zE (zB (wP I (wV 67 ((i+1:Nat):Int) I (Ax (by omega)) (wP I (Aa (A4 (i+1) hlt (by show l.length-(i+1)<l.length-i;omega) ⟨I,I,I,I,I,I,I,I,I,tO⟩ [_] I))))))))))))))
 ·rintro⟨⟩ d l' rec _
  refine zN (zE (zA (zA (zB (wB 4 I I I (Aa (zE (zS I (zI (zE (zA (zB (wS 1 I I I ?_)))))))))))))
  refine Aa (zE (zO ?_))
  refine BU 6 I ?_
  exact Av tH I (.cell 1 I I I I I) () I tO fun W _=>Ap.nil _ _
-- BOXES 6
-- CODE2
structure GZ (W:World) (p:Option Addr) (l:List Ak):Prop where
 poly:FB l
 n3:3≤l.length
 n:l.length≤4096
 sz:JO 36 l
 m:Cf W p l
 v:BO W
 t:AI W
theorem GZ.hp {W0 W:World} {bxs:List Bx} {p:Option Addr} {l:List Ak} (h:GZ W0 p l) (hp:Hp W0 bxs W):GZ W p l:=⟨h.poly,h.n3,h.n,h.sz,h.m.hp hp,h.v.hp hp,h.t.hp hp⟩
theorem GZ.chk {W:World} {p:Option Addr} {l:List Ak} (h:GZ W p l) (cap:Nat):Ai Tryz.prog 18 #[slv p l.length cap] W (fun _:Unit=> .int .i64 0) (fun _=>True) (fun _=>[]):=
 N1 l h.poly h.n3 h.n h.sz p cap W h.m h.v h.t
theorem HB (l:List Ak) (p:Option Addr) (cap:Nat) (W:World) (h:GZ W p l):
  Ai Tryz.prog 41 #[slv p l.length cap, .slice none 0 0] W (fun _:Unit=> .int .i64 0) (fun _=>True) (fun _=>[]):=by
 refine Ac (args:=[slv p l.length cap, .slice none 0 0]) Tryz.func41 I I I ?_
 refine zA (zB (wP I (Aa (zE (zA (zA (zB (wP I (wC I I (fun W1 hp=>(h.hp hp).chk cap) (wP I (Aa (zE (zS I ?_)))))))))))))
 refine zI (zE (zA (zA (zB (wP I (wP I (wP I (Aa (zE (zH ?_))))))))))
 refine A9 (X:=Unit) (fun _=>[(1, .slice none 0 0),(4, .int .i64 0),(12, .int .i64 0),(13, .int .i64 0)]) (fun _=>[]) (fun _=>True) (fun _=>0) () tO ⟨I,I,I,I,tO⟩ [] I ?_
 intro _ _
 refine zA (zB (wP I (Aa (zE (zA (zS I (zJ (zK (zK (zL (zE (zA (zA ?_)))))))))))))
 refine zB (wP I (wP I (wP I (wP I ?_))))
 iterate 4 refine Ao I I ?_
 refine wP I (wP I ?_)
 iterate 4 refine Ao I I ?_
 exact wP I (Aa (zE (zS I (zI (zE (zA (zB (wP I (Aa (zE (zO (wR1 I I I))))))))))))
theorem HF (l:List Ak) (p:Option Addr) (cap:Nat) (a b d:Rat) (ha:okQ a) (hb:okQ b) (hd:okQ d) (h0:a≠0∨b≠0) (g cp:Nat) (W:World) (h:GZ W p l) (hrow:Aj W g 0 [str (Ad a),str (Ad b),str (Ad d)]):
  Ai Tryz.prog 41 #[slv p l.length cap,slv (some ⟨g,0,none⟩) 3 cp] W (fun _:Unit=> .int .i64 0) (fun _=>True) (fun _=>[]):=by
 have hv:=h.v
 have ht:=h.t
 have hS:Ha W (some ⟨g,0,none⟩) [Ad a,Ad b,Ad d]:= .inr ⟨g,0,rfl,hrow⟩
 have hok: ∀x∈[Ad a,Ad b,Ad d],x.length≤4000000000∧(rdR x).2=0:=fun x hx=>by
  have one: ∀ {q:Rat},okQ q→(Ad q).length≤4000000000∧(rdR (Ad q)).2=0:=fun {q} hq=>by
   have:=AX hq
   exact⟨by omega,by rw[IX hq]⟩
  rcases List.mem_cons.1 hx with rfl|hx
  ·exact one ha
  ·rcases List.mem_cons.1 hx with rfl|hx
   ·exact one hb
   ·obtain rfl:=List.mem_singleton.1 hx;exact one hd
 refine Ac (args:=[slv p l.length cap,slv (some ⟨g,0,none⟩) 3 cp]) Tryz.func41 I I I ?_
 refine zA (zB (wP I (Aa (zE (zA (zA (zB (wP I (wC I I (fun W1 hp=>(h.hp hp).chk cap) (wP I (Aa (zE (zS I ?_)))))))))))))
 refine zI (zE (zA (zA (zB (wP I (wP I (wP I (Aa (zE (zH ?_))))))))))
 refine A9 (X:=Nat) (fun i=>[(1,slv (some ⟨g,0,none⟩) 3 cp),(4, .int .i64 0),(11,slv (some ⟨g,0,none⟩) 3 cp),(12, .int .i64 3),(13, .int .i64 (i:Nat))]) (fun _=>[]) (fun i=>i≤3) (fun i=>3-i) 0 (Nat.zero_le _) ⟨I,I,I,I,I,tO⟩ [] I ?_
 intro i hi
 have hi:i≤3:=hi
 refine zA (zB (wP I ?_))
 by_cases hlt:i<3
 ·refine wU 14 true I (dT (by omega)) (Aa (zE (zA (zR I (zI (zE (zA (zH (zA (zB ?_))))))))))
  obtain⟨g',off,hpe,hr⟩:=hS.row (i:=i) hlt
  have hr:=hr i hlt
  obtain⟨x,hx⟩: ∃x,x=[Ad a,Ad b,Ad d][i]'hlt:=⟨_,rfl⟩
  obtain⟨hl,hE⟩:=hok x (hx▸List.getElem_mem hlt)
  rw[←hx] at hr
  cases hpe
  refine wJ ?_
  refine wL 0 I I (fun W1 hp=>hr.hp hp) I (wP I (Aa (zE (zA (zB (wP I (wC I I (fun W1 hp=>(Gy x hl W1 (hv.hp hp) (ht.hp hp)).cast (v':= .int .i64 0) (by rw[hE])) (wP I (Aa (zE (zA (zB (wP I (wP I ?_))))))))))))))
  exact Aa (zE (zS I (zI (zN (zE (zB (wP I (wV 22 ((i+1:Nat):Int) I (Ax (by omega)) (wP I (Aa (A4 (i+1) hlt (by show 3-(i+1)<3-i;omega) ⟨I,I,I,I,I,tO⟩ [] I)))))))))))
 refine wU 14 false I (dF (by omega)) (Aa (zE (zA (zS I (zJ (zK (zK (zL (zE (zA (zA (zB ?_))))))))))))
 have r0:Aj W g (0+0*1) [str (Ad a)]:=⟨hrow.lt,fun k u hu=>by
  cases k with
  |zero=>simp at hu;exact hrow.get 0 u (by simpa using hu)
  |succ k=>simp at hu⟩
 have r1:Aj W g (0+1*1) [str (Ad b)]:=⟨hrow.lt,fun k u hu=>by
  cases k with
  |zero=>simp at hu;exact hrow.get 1 u (by simpa using hu)
  |succ k=>simp at hu⟩
 iterate 5 refine wP I ?_
 refine wI I I (by decide) (by decide) (wL 0 I I (fun W1 hp=>r0.hp hp) I (wP I ?_))
 by_cases ha0:a=0
 ·have hb0:b≠0:=by rcases h0 with h0|h0;exact absurd ha0 h0;exact h0
  refine wU 30 true I ((Be _ _).trans ((K2 a).trans (dT ha0))) (wP I (wP I (wP I (wI I I (by decide) (by decide) (wL 0 I I (fun W1 hp=>r1.hp hp) I (wP I (wU 36 false I ((Be _ _).trans ((K2 b).trans (dF hb0))) (wP I (Aa (zE (zS I (zI (zE ?_)))))))))))))
  exact zA (zB (wP I (Aa (zE (zO (wR1 I I I))))))
 ·refine wU 30 false I ((Be _ _).trans ((K2 a).trans (dF ha0))) (wP I (wP I ?_))
  iterate 4 refine Ao I I ?_
  exact wP I (Aa (zE (zS I (zI (zE (zA (zB (wP I (Aa (zE (zO (wR1 I I I))))))))))))
structure Vw (f:AW) (q:Ak):Prop where
 m1:Sz2 f.a q.1
 m2:Sz2 f.b q.2
 s:Sz2 (f.a*q.1) (f.b*q.2)
 d:Sz2 (f.a*q.1+f.b*q.2) f.c
structure Jd (b4 b5 b6 b7 c:Nat) (f:AW) (W:World):Prop where
 r4:Aj W b4 0 [Ag c]
 r5:Aj W b5 0 [str (Ad f.a)]
 r6:Aj W b6 0 [str (Ad f.b)]
 r7:Aj W b7 0 [str (Ad f.c)]
 k:CD W c
 v:BO W
 t:AI W
theorem CD.below {W W':World} {c n:Nat} (h:CD W c) (hn:W.heap.size≤n) (hb:Below n W W'):CD W' c:=
 (hb.block c (Nat.lt_of_lt_of_le (Array.getElem?_eq_some_iff.1 h).1 hn)).trans h
theorem Jd.below {b4 b5 b6 b7 c:Nat} {f:AW} {W W':World} (h:Jd b4 b5 b6 b7 c f W) (hb:Below W.heap.size W W'):Jd b4 b5 b6 b7 c f W':=
 ⟨h.r4.below (Nat.le_refl _) hb,h.r5.below (Nat.le_refl _) hb,h.r6.below (Nat.le_refl _) hb,h.r7.below (Nat.le_refl _) hb,h.k.below (Nat.le_refl _) hb,h.v.below hb,h.t.below hb⟩
theorem Jd.hp {b4 b5 b6 b7 c:Nat} {f:AW} {W0 W:World} {bxs:List Bx} (h:Jd b4 b5 b6 b7 c f W0) (hp:Hp W0 bxs W):Jd b4 b5 b6 b7 c f W:=h.below hp.below
theorem Dp (c:Nat) (f:AW) (W:World):Ai Tryz.prog 67 #[Ag c,str (Ad f.a),str (Ad f.b),str (Ad f.c)] W
  (fun x:Nat×Nat×Nat×Nat=> .func (.func 132) #[] #[Ag x.1,Ag x.2.1,Ag x.2.2.1,Ag x.2.2.2]) (fun _=>True)
  (fun x=>[⟨x.1,59,[Ag c],true,none⟩,⟨x.2.1,23,[str (Ad f.a)],true,none⟩,⟨x.2.2.1,23,[str (Ad f.b)],true,none⟩,⟨x.2.2.2,23,[str (Ad f.c)],true,none⟩]):=by
 refine Ac (args:=[Ag c,str (Ad f.a),str (Ad f.b),str (Ad f.c)]) Tryz.func67 I I I ?_
 refine zA (zB ?_)
 (refine At rfl rfl rfl rfl ?_;intro)
 (refine At rfl rfl rfl rfl ?_;intro)
 (refine At rfl rfl rfl rfl ?_;intro)
 (refine At rfl rfl rfl rfl ?_;intro)
 refine wP I (Aa ?_)
 rename_i b4 b5 b6 b7
 exact zE (zA (zB (wP I (wP I (Aa (zE (zO (Av tH I (.tmp I) (b4,b5,b6,b7) I tO fun W1 hp=>Ap.of_hp hp))))))))
theorem CS (b4 b5 b6 b7 c:Nat) (f:AW) (q:Ak) (hz:Vw f q) (W:World) (hL:Jd b4 b5 b6 b7 c f W):
  Ai Tryz.prog 132 #[cvV q,Ag b4,Ag b5,Ag b6,Ag b7] W (fun _:Unit=>str (Ad (f.at q))) (fun _=>True) (fun _=>[]):=by
 refine Ac (args:=[cvV q,Ag b4,Ag b5,Ag b6,Ag b7]) Tryz.func132 I I I ?_
 refine zA (zB ?_)
 (refine At rfl rfl rfl rfl ?_;intro)
 refine wP I (Aa (zE (zA (zU (qL 0 I I (fun W1 hp=>(hL.hp hp).r4) I (qL 0 I I (fun W1 hp=>(hL.hp hp).r5) I (qP I (qB 0 I I I (qC I I (fun W1 hp=>Cq c f.a q.1 hz.m1 W1 (hL.hp hp).k (hL.hp hp).v (hL.hp hp).t) (qL 0 I I (fun W1 hp=>(hL.hp hp).r4) I (qL 0 I I (fun W1 hp=>(hL.hp hp).r6) I (qP I (qB 0 I I I ?_)))))))))))))
 refine qC I I (fun W1 hp=>Cq c f.b q.2 hz.m2 W1 (hL.hp hp).k (hL.hp hp).v (hL.hp hp).t) (qP I (qP I (AS (Aa (zE (zA (zU (qL 0 I I (fun W1 hp=>(hL.hp hp).r4) I (qL 0 I I (fun W1 hp=>(hL.hp hp).r4) I (qP I (qP I (qC I I (fun W1 hp=>CO c (f.a*q.1) (f.b*q.2) hz.s W1 (hL.hp hp).k (hL.hp hp).v (hL.hp hp).t) (qL 0 I I (fun W1 hp=>(hL.hp hp).r7) I ?_)))))))))))))
 exact qC I I (fun W1 hp=>CK c (f.a*q.1+f.b*q.2) f.c hz.d W1 (hL.hp hp).k (hL.hp hp).v (hL.hp hp).t) (qP I (AS (Aa (zE (zO (wR1 I I I))))))
abbrev vsC (l:List Rat):List Value:=l.map fun q=>str (Ad q)
theorem Rh (a b:List Rat):vsC (a++b)=vsC a++vsC b:=List.map_append
theorem CT (l:List Ak) (F:Ak→Rat) (g:Nat) (capt:List Value) (hE:Bi Tryz.prog g=true) (hn:l.length≤4096) (p:Option Addr) (cap:Nat) (W:World) (hA:Cf W p l)
  (hg: ∀q∈l, ∀W1,Below W.heap.size W W1→Ai Tryz.prog g ([cvV q]++capt).toArray W1 (fun _:Unit=>str (Ad (F q))) (fun _=>True) (fun _=>[])):
  Ai Tryz.prog 66 #[slv p l.length cap, .func (.func g) #[] capt.toArray] W (fun V:Vec=>V.val l.length) (fun V=>V.OK 1 l.length (vsC (l.map F))) (fun V=>[V.bx 23 (vsC (l.map F))]):=by
 refine Ac (args:=[slv p l.length cap, .func (.func g) #[] capt.toArray]) Tryz.func66 I I I ?_
 refine zA (zB (wP I (Aa (zE (zA (zB (wP I (Aa (zE (zA (zA (zB (wP I (wP I (wP I ?_)))))))))))))))
 refine Aa (zE (zH ?_))
 refine De ?_
 refine A9 (X:=Nat×Vec) (fun s=>[(1, .func (.func g) #[] capt.toArray),(5,s.2.val s.1),(8,slv p l.length cap),(9, .int .i64 (l.length:Nat)),(10, .int .i64 (s.1:Nat))])
  (fun s=>[s.2.bx 23 (vsC ((l.take s.1).map F))]) (fun s=>s.1≤l.length∧s.2.OK 1 s.1 (vsC ((l.take s.1).map F))) (fun s=>l.length-s.1) (0,Vec.empty) ⟨Nat.zero_le _,Vec.OK.empty 1⟩ ⟨rfl,rfl,rfl,rfl,rfl,trivial⟩ [] rfl ?_
 rintro⟨i,V⟩ ⟨hi,hV⟩
 have hi:i≤l.length:=hi
 have hV:V.OK 1 i (vsC ((l.take i).map F)):=hV
 refine zA (zB (wP I ?_))
 by_cases hlt:i<l.length
 ·refine wU 11 true I (dT (by omega)) (Aa (zE (zA (zR I (zI (zE (zA (zH (zA (zB ?_))))))))))
  obtain⟨gp,off,hpe,hrow⟩:=hA.at_ hlt
  have hrow:=hrow i hlt
  have hq:=hg l[i] (List.getElem_mem hlt)
  have hsu:(l.take (i+1)).map F=(l.take i).map F++[F l[i]]:=by
   rw[List.take_add_one,List.getElem?_eq_getElem hlt,List.map_append];rfl
  obtain⟨q,hqe⟩: ∃q,q=l[i]:=⟨_,rfl⟩
  rw[←hqe] at hrow hq hsu
  subst hpe
  refine wJ ?_
  refine wL 0 I I (fun W1 hp=>hrow.hp hp) I ?_
  (refine Af Tryz.hZ rfl rfl rfl rfl ?_;intro)
  refine wS 1 I I I (Aa (zE (zB (wP I (wP I (wB 1 I I I ?_))))))
  refine B7 (capt:=capt) I I I I I I hE (fun W1 hp=>hq W1 hp.below) ?_
  refine A8 Tryz.hZ tH I I I I I I I I I I I fun bS=> ?_
  refine Bk (V:=V) (len:=i) (xs:=vsC ((l.take i).map F)) 0 2 Tryz.vec87 (i+1) (vsC ((l.take (i+1)).map F)) I I I I I I I I I I I hV I I I (by rw[hsu,Rh];rfl) (by simp only[maxLen];omega) (by omega) I ?_
  intro gV cV jV hV1
  exact wP I (Aa (zN (zE (zB (wP I (wV 20 ((i+1:Nat):Int) I (Ax (by omega)) (wP I (Aa (A4 (i+1,⟨some gV,cV,jV⟩) ⟨hlt,hV1⟩ (by show l.length-(i+1)<l.length-i;omega) ⟨I,I,I,I,I,tO⟩ _ I)))))))))
 have e:i=l.length:=by omega
 subst e
 have et:l.take l.length=l:=List.take_of_length_le (Nat.le_refl _)
 rw[et] at hV
 refine wU 11 false I (dF (by omega)) (Aa (zE (zA (zS I (zJ (zK (zK (zL (zE (zA (zB (wP I (wP I ?_)))))))))))))
 refine Aa (zE (zO ?_))
 exact Av tH I (.tmp I) V I hV fun W1 hp=>by
  have hp:Hp W [V.bx 23 (vsC ((l.take l.length).map F))] W1:=hp
  rw[et] at hp
  exact Ap.of_hp hp
end
end Go.Proofs.YthndmdimmgkpgaaGreatDoor
namespace Go.Proofs
open Go.Shelf
def Tryz.lays125_ren:Go.Shelf.Ren:=⟨fun|125=>134|128=>189|129=>190|n=>n,fun|3=>3|4=>4|5=>5|9=>9|46=>148|51=>196|53=>198|n=>n,fun n=>n⟩
theorem Tryz.lays125:Go.Proofs.Lays.n125 Tryz.prog Tryz.lays125_ren:= {
 mixed:=by kernel_rfl
 f125:=Tryz.func134.trans (congrArg some (by kernel_rfl))
 f128:=Tryz.func189.trans (congrArg some (by kernel_rfl))
 f129:=Tryz.func190.trans (congrArg some (by kernel_rfl))
 t3:=Tryz.underlying3
 a3:=Tryz.isAgg3
 z3:=Tryz.sizeOf3
 v3:=Tryz.zeroValue3
 t4:=Tryz.underlying4
 a4:=Tryz.isAgg4
 z4:=Tryz.sizeOf4
 v4:=Tryz.zeroValue4
 t5:=Tryz.underlying5
 a5:=Tryz.isAgg5
 z5:=Tryz.sizeOf5
 v5:=Tryz.zeroValue5
 t9:=Tryz.underlying9
 a9:=Tryz.isAgg9
 z9:=Tryz.sizeOf9
 v9:=Tryz.zeroValue9
 t46:=Tryz.underlying148
 a46:=Tryz.isAgg148
 z46:=Tryz.sizeOf148
 v46:=Tryz.zeroValue148
 t51:=Tryz.underlying196
 a51:=Tryz.isAgg196
 z51:=Tryz.sizeOf196
 v51:=Tryz.zeroValue196
 t53:=Tryz.underlying198
 a53:=Tryz.isAgg198
 z53:=Tryz.sizeOf198
 v53:=Tryz.zeroValue198 }
end Go.Proofs
namespace Go.Proofs.YthndmdimmgkpgaaGreatDoor
section
open Go Go.RowKit Go.Am Go.Lib
set_option maxRecDepth 10000
-- BOXES 3
structure Ie (W W':World) (g:Nat):Prop where
 os:W'.os=W.os
 tape:W'.tape=W.tape
 output:W'.output=W.output
 size:W.heap.size≤W'.heap.size
 at_: ∀x,x≠g→x<W.heap.size→W'.heap[x]? =W.heap[x]?
theorem Ke {W W':World} {g:Nat} {B:Bx} {o:Obj} (hg:W.heap[g]? =some o) (hB: ∃o',(g,o')∈B.blk) (hp:Hp (Bn W) [AL (As W g),B] W'):Ie W W' g:=by
 have c0: ∀p∈As W g,W'.heap[p.1]? =some p.2:=fun p hq=>(hp.own.cell 0 _ rfl p hq).1
 have old: ∀x,x≠g→x<W.heap.size→W'.heap[x]? =W.heap[x]? :=fun x hx hlt=>by
  have h1:W.heap[x]? =some W.heap[x]:=Array.getElem?_eq_getElem hlt
  rw[h1]
  exact c0 (x,W.heap[x]) (CN.2 ⟨hx,h1⟩)
 refine⟨hp.below.os,hp.below.tape,hp.below.output, ?_,old⟩
 have hlt:=(Array.getElem?_eq_some_iff.1 hg).1
 by_cases e:W.heap.size-1=g
 ·obtain⟨o',ho⟩:=hB
  have:=(Array.getElem?_eq_some_iff.1 (hp.own.cell 1 B rfl _ ho).1).1
  have h2:g<W'.heap.size:=this
  omega
 ·have h1:=old (W.heap.size-1) e (by omega)
  rw[Array.getElem?_eq_getElem (show W.heap.size-1<W.heap.size by omega)] at h1
  have:=(Array.getElem?_eq_some_iff.1 h1).1
  omega
theorem Ie.trans {W W1 W2:World} {g:Nat} (h:Ie W W1 g) (h':Ie W1 W2 g):Ie W W2 g:=
 ⟨h'.os.trans h.os,h'.tape.trans h.tape,h'.output.trans h.output,Nat.le_trans h.size h'.size,fun x hx hlt=>(h'.at_ x hx (Nat.lt_of_lt_of_le hlt h.size)).trans (h.at_ x hx hlt)⟩
theorem Ie.below {W0 W W':World} {g:Nat} (hk:Ie W W' g) (hb:Below W0.heap.size W0 W) (hg:W0.heap.size≤g):Below W0.heap.size W0 W':=
 ⟨hk.os.trans hb.os,hk.tape.trans hb.tape,hk.output.trans hb.output,Nat.le_trans hb.size hk.size,fun i hi=>(hk.at_ i (by omega) (Nat.lt_of_lt_of_le hi hb.size)).trans (hb.block i hi)⟩
section
variable {r:Option Nat} {n:Nat} {P:Program} {N:Nat} {D:List Deferred} {ops:List Oper} {Q:Exit→Act→World→Prop} {o:Oper} {rest:List Oper} {env:Env} {A:World→Prop}
theorem LD {W:World} {t ty e:TypeId} {size bytes:Nat} {z:Value} (hty:VecTy P t e size bytes z) {b:Option Addr} {k c c':Nat} (hk:k≤c):
  (Builtin.append_ #[t,t] ty #[.slice b k c, .slice none 0 c']).run P W= .ok (.slice b k c) W:=by
 obtain⟨i,hi,hz,hsz,hby⟩:=hty.hi
 have hs:(Go.sizeOf e).run P W= .ok i.size W:=by simp[sizeOf,typeInfo,hi]
 cases b<;>simp[Builtin.append_,run_underlying hty.ht,hs,hk,Builtin.lenOf,Builtin.firstCells,storeCells]
theorem Iz {d:Nat} {t e:TypeId} {size bytes:Nat} {z:Value} (hty:VecTy P t e size bytes z) {c:Call} {s x:Operand} {b:Option Addr} {k cp cp':Nat}
  (hg:A6 ops N env o=some true) (hd:o.dst=some d) (ho:o.op= .call c) (hc:c.callee= .builtin .append) (ha:c.args= #[s,x]) (hat:c.argTypes= #[t,t])
  (hs:evO N env s=some (.slice b k cp)) (hx:evO N env x=some (.slice none 0 cp')) (hk:k≤cp)
  (h:WL r n P N D ops Q rest ((d, .slice b k cp)::env) A):WL r n P N D ops Q (o::rest) env A:= .mk fun act W h2 h3 hp=>by
 refine BT hg h2 (fun c e=>by rw[ho] at e;cases e) ?_
 have hr:=LD (P:=P) (W:=W) (ty:=o.type) hty (b:=b) (c':=cp') hk
 have e1:c.args.map (ov env act).eval= #[.slice b k cp, .slice none 0 cp']:=by rw[ha];simp[AA h2 _ _ hs,AA h2 _ _ hx]
 have:(execOp (ov env act).eval o).run P W= .ok (.value (.slice b k cp)) W:=by
  simp only[execOp,ho,resolve,hc,invoke,builtin,e1,hat,Sem.run_bind,Sem.run_pure,Result.andThen_ok,hr]
 rw[this]
 simp only[Oper.uponIn,hd]
 exact h.out act W h2 h3 hp
end
def Vs (V:Vec):Option Addr:=V.p.map fun g=>⟨g,0,none⟩
def U1 (V:Vec):Nat:=match V.p with
 |none=>0
 |some _=>V.cap
theorem Kg {V:Vec} {size n:Nat} {xs:List Value} (h:V.OK size n xs):V.val n= .slice (Vs V) n (U1 V):=by
 obtain⟨p,cap,junk⟩:=V
 cases p with
 |none=>rw[h.nil rfl];rfl
 |some g=>rfl
theorem Sl {V:Vec} {size n:Nat} {xs:List Value} (h:V.OK size n xs):n≤U1 V:=by
 obtain⟨p,cap,junk⟩:=V
 cases p with
 |none=>rw[h.nil rfl];exact Nat.le_refl _
 |some g=>exact(h.cap (by simp)).1
def Kz (W:World) (p:Option Addr) (cs:List Value):Prop:=cs=[]∨ ∃b off,p=some ⟨b,off,none⟩∧Aj W b off cs
theorem Kz.none {W:World} {l:List Value} (h:Kz W none l):l=[]:=by
 rcases h with h|⟨b,off,e,_⟩
 ·exact h
 ·cases e
-- BOXES 3
def T2p (n0 n1:Nat):Nat→Nat
 |0=>0
 |1=>n0
 |_=>n0+n1
def C2p (c0 c1:List Value):Nat→List Value
 |0=>[]
 |1=>c0
 |_=>c0++c1
theorem Ny (W:World) (m:Nat) (hm:m≤1000000):Ai Tryz.prog 138 #[.slice none 0 0, .int .i64 (m:Nat)] W (fun V:Vec=>V.val 0) (fun V=>V.OK 2 0 []∧(0<m→V.p≠none)) (fun V=>[V.bx 35 []]):=by
 refine Ac (args:=[.slice none 0 0, .int .i64 (m:Nat)]) Tryz.func138 I I I ?_
 refine zA (zB (wP I (Aa (zE (zA (zA (zB (wP I (wP I (Aa (zE (zS I (zI ?_)))))))))))))
 refine zE (zA (zA (zB ?_)))
 iterate 8 refine wP I ?_
 refine Aa (zE (zA (zB (wP I (wP I (Aa (zE ?_)))))))
 have e14:w64 ((m:Int)-w64 (0-0))=m:=by
  have:w64 (0-0)=0:=rfl
  rw[this];exact(A0 (by omega) (by omega)).trans (by omega)
 refine Bc 16 _ I (show Value.bool (decide (w64 ((m:Int)-w64 (0-0))>0))= .bool (decide (0<m)) by rw[e14];congr 1;simp) ?_
 refine Aw I (fun h=> ?_) (fun h=> ?_)
 ·have h:0<m:=by simpa using h
  refine zB (wP I (wP I (wP I ?_)))
  refine By 0 tH I I I I I I I I (Nat.le_refl _) ?_
  refine wP I ?_
  refine Ld Tryz.vec22 (ku:= .i64) (by kernel_rfl) m I I I I I I I I e14 h (by simp only[maxLen];omega) (by omega) ?_
  intro V hV hp hj
  refine wP I (wP I ?_)
  obtain⟨p,cap,junk⟩:=V
  cases p with
  |none=>exact absurd rfl hp
  |some g=>
  refine By (a:=some ⟨g,0,none⟩) (len:=m) (cap:=cap) 0 tH I I I I I I I I (Nat.zero_le _) ?_
  refine wP I (Aa (zE (zA (zB (wP I (wP I (Aa (zE (zO ?_)))))))))
  obtain⟨h1,h2,h3⟩:=hV.cap (by simp)
  refine Av tH rfl (.tmp rfl) (⟨some g,cap,CR [.string ⟨#[]⟩, .string ⟨#[]⟩] m++junk⟩:Vec) rfl ⟨⟨rfl,(fun h=>by cases h),fun _=>⟨Nat.zero_le _,h2, ?_⟩⟩,fun _=>by simp⟩ fun W hp=>Ap.of_hp1 hp 0 rfl
  show 0+(CR _ m++junk).length=cap*2
  rw[List.length_append,Nat.zero_add]
  exact h3
 ·have h:m=0:=by simp at h;omega
  subst h
  exact zI (zE (zA (zB (wP rfl (wP rfl (Aa (zE (zO (Av tH rfl (.tmp rfl) Vec.empty rfl ⟨Vec.OK.empty 2,fun h=>absurd h (Nat.lt_irrefl _)⟩ fun W hp=>Own.one (fun p hp=>by cases hp) List.nodup_nil)))))))))
theorem Ee (W:World) (b cap:Nat) (p0 p1:Option Addr) (n0 n1 k0 k1:Nat) (c0 c1:List Value) (hrow:Aj W b 0 [.slice p0 n0 k0, .slice p1 n1 k1]) (h0:Kz W p0 c0) (h1:Kz W p1 c1) (l0:c0.length=n0*2) (l1:c1.length=n1*2)
  (o0: ∀u∈c0,u.oneCell'=true) (o1: ∀u∈c1,u.oneCell'=true) (b0:n0≤100000) (b1:n1≤100000):
  Ai Tryz.prog 77 #[.slice (some ⟨b,0,none⟩) 2 cap] W (fun V:Vec=>V.val (n0+n1)) (fun V=>V.OK 2 (n0+n1) (c0++c1)) (fun V=>[V.bx 35 (c0++c1)]):=by
 refine Ac (args:=[.slice (some ⟨b,0,none⟩) 2 cap]) Tryz.func77 I I I ?_
 refine zA (zB (wP I (Aa (zE (zA (zB (wP I (Aa (zE (zA (zA (zB (wP I (wP I (wP I ?_)))))))))))))))
 refine Aa (zE (zH ?_))
 refine A9 (X:=Nat) (fun k=>[(0, .slice (some ⟨b,0,none⟩) 2 cap),(3, .int .i64 (T2p n0 n1 k:Nat)),(9, .slice (some ⟨b,0,none⟩) 2 cap),(10, .int .i64 2),(11, .int .i64 (k:Nat))]) (fun _=>[])
  (fun k=>k≤2) (fun k=>2-k) 0 (Nat.zero_le _) ⟨rfl,rfl,rfl,rfl,rfl,trivial⟩ [] rfl ?_
 intro i hi
 have hi:i=0∨i=1∨i=2:=by have:i≤2:=hi;omega
 rcases hi with rfl|rfl|rfl
 ·refine zA (zB (wP I (Aa (zE (zA (zR I (zI (zE (zA (zH (zA (zB ?_))))))))))))
  refine wJ ?_
  refine wL 0 I I (fun W hp=>hrow.hp hp) I (wP I (Aa (zE (zA (zB (wP I (wP I (wP I (wP I (wV 18 (T2p n0 n1 1:Nat) I (show w64 ((T2p n0 n1 0:Nat)+(n0:Nat))=(T2p n0 n1 1:Nat) by have hT0:T2p n0 n1 0=0:=I;have hT1:T2p n0 n1 1=n0:=I;rw[A0 (by omega) (by omega)];omega) (wP I (Aa (zE ?_)))))))))))))
  exact zA (zB (wP I (wP I (Aa (zE (zS I (zI (zN (zE (zB (wP I (wP I (Aa (A4 1 (by decide) (by decide) ⟨I,I,I,I,I,tO⟩ [] I))))))))))))))
 ·refine zA (zB (wP I (Aa (zE (zA (zR I (zI (zE (zA (zH (zA (zB ?_))))))))))))
  refine wJ ?_
  refine wL 1 I I (fun W hp=>hrow.hp hp) I (wP I (Aa (zE (zA (zB (wP I (wP I (wP I (wP I (wV 18 (T2p n0 n1 2:Nat) I (show w64 ((T2p n0 n1 1:Nat)+(n1:Nat))=(T2p n0 n1 2:Nat) by have hT0:T2p n0 n1 1=n0:=I;have hT1:T2p n0 n1 2=n0+n1:=I;rw[A0 (by omega) (by omega)];omega) (wP I (Aa (zE ?_)))))))))))))
  exact zA (zB (wP I (wP I (Aa (zE (zS I (zI (zN (zE (zB (wP I (wP I (Aa (A4 2 (by decide) (by decide) ⟨I,I,I,I,I,tO⟩ [] I))))))))))))))
 refine zA (zB (wP I (Aa (zE (zA (zS I (zJ (zK (zK (zL (zE (zA (zB ?_)))))))))))))
 refine wP I ?_
 refine wD (X:=Vec) I I (fun W _=>Ny W (n0+n1) (by omega)) ?_
 rintro V0 ⟨hV0,hV0p⟩
 refine wP I (Aa (zE (zA (zA (zB (wP I (wP I (wP I (Aa (zE (zH ?_)))))))))))
 refine A9 (X:=Nat×Vec) (fun x=>[(6,x.2.val (T2p n0 n1 x.1)),(25, .slice (some ⟨b,0,none⟩) 2 cap),(26, .int .i64 2),(27, .int .i64 (x.1:Nat))]) (fun x=>[x.2.bx 35 (C2p c0 c1 x.1)])
  (fun x=>x.1≤2∧x.2.OK 2 (T2p n0 n1 x.1) (C2p c0 c1 x.1)) (fun x=>2-x.1) (0,V0) ⟨Nat.zero_le _,hV0⟩ ⟨rfl,rfl,rfl,rfl,trivial⟩ [] rfl ?_
 rintro⟨i,V⟩ ⟨hi,hV⟩
 have hi:i=0∨i=1∨i=2:=by have:i≤2:=hi;omega
 rcases hi with rfl|rfl|rfl
 ·have hV:V.OK 2 (T2p n0 n1 0) (C2p c0 c1 0):=hV
  have hT0:T2p n0 n1 0=0:=rfl
  have hT1:T2p n0 n1 1=n0:=rfl
  refine zA (zB (wP I (Aa (zE (zA (zR I (zI (zE (zA (zH (zA (zB ?_))))))))))))
  refine wJ ?_
  refine wL 0 I I (fun W hp=>hrow.hp hp) I (wP I (Aa (zE (zB (wP I (wP I ?_))))))
  cases p0 with
  |none=>
   have hc:=h0.none
   have hn0:n0=0:=by rw[hc,List.length_nil] at l0;omega
   refine Ah 31 (.slice (Vs V) (T2p n0 n1 0) (U1 V)) I (Kg hV) ?_
   refine Ah 32 (.slice none 0 k0) I (by rw[hn0]) ?_
   refine Iz Tryz.vec22 I I I I I I I I (Sl hV) ?_
   refine Ah 33 (V.val (T2p n0 n1 0)) I (Kg hV).symm ?_
   have eT:T2p n0 n1 0=T2p n0 n1 1:=by omega
   have eC:C2p c0 c1 0=C2p c0 c1 1:=by show[]=c0;rw[hc]
   rw[eT,eC] at hV
   rw[eT,eC]
   exact wP I (Aa (zN (zE (zB (wP I (wP I (Aa (A4 (1,V) ⟨by show 1≤2;decide,hV⟩ (by show 2-1<2-0;decide) ⟨I,I,I,I,tO⟩ [] I))))))))
  |some a=>
   refine Bt (len:=T2p n0 n1 0) (V:=V) 0 Tryz.vec22 I I I I I I I I I hV l0 (fun W hp j u hj=> ?_) o0 (by simp only[maxLen];omega) (by omega) ?_
   ·obtain⟨ab,ao,asp⟩:=a
    rcases h0 with h|⟨b',off',e,h⟩
    ·rw[h] at hj;simp at hj
    ·cases e
     rw[Addr.add_none]
     exact(h.hp hp).get j u hj
   intro V' hV' _
   have eT:T2p n0 n1 0+n0=T2p n0 n1 1:=by omega
   have eC:C2p c0 c1 0++c0=C2p c0 c1 1:=rfl
   rw[eT,eC] at hV'
   rw[eT,eC]
   exact wP I (Aa (zN (zE (zB (wP I (wP I (Aa (A4 (1,V') ⟨by show 1≤2;decide,hV'⟩ (by show 2-1<2-0;decide) ⟨I,I,I,I,tO⟩ [] I))))))))
 ·have hV:V.OK 2 (T2p n0 n1 1) (C2p c0 c1 1):=hV
  have hT0:T2p n0 n1 1=n0:=rfl
  have hT1:T2p n0 n1 2=n0+n1:=rfl
  refine zA (zB (wP I (Aa (zE (zA (zR I (zI (zE (zA (zH (zA (zB ?_))))))))))))
  refine wJ ?_
  refine wL 1 I I (fun W hp=>hrow.hp hp) I (wP I (Aa (zE (zB (wP I (wP I ?_))))))
  cases p1 with
  |none=>
   have hc:=h1.none
   have hn0:n1=0:=by rw[hc,List.length_nil] at l1;omega
   refine Ah 31 (.slice (Vs V) (T2p n0 n1 1) (U1 V)) I (Kg hV) ?_
   refine Ah 32 (.slice none 0 k1) I (by rw[hn0]) ?_
   refine Iz Tryz.vec22 I I I I I I I I (Sl hV) ?_
   refine Ah 33 (V.val (T2p n0 n1 1)) I (Kg hV).symm ?_
   have eT:T2p n0 n1 1=T2p n0 n1 2:=by omega
   have eC:C2p c0 c1 1=C2p c0 c1 2:=by show c0=c0++c1;rw[hc];simp
   rw[eT,eC] at hV
   rw[eT,eC]
   exact wP I (Aa (zN (zE (zB (wP I (wP I (Aa (A4 (2,V) ⟨by show 2≤2;decide,hV⟩ (by show 2-2<2-1;decide) ⟨I,I,I,I,tO⟩ [] I))))))))
  |some a=>
   refine Bt (len:=T2p n0 n1 1) (V:=V) 0 Tryz.vec22 I I I I I I I I I hV l1 (fun W hp j u hj=> ?_) o1 (by simp only[maxLen];omega) (by omega) ?_
   ·obtain⟨ab,ao,asp⟩:=a
    rcases h1 with h|⟨b',off',e,h⟩
    ·rw[h] at hj;simp at hj
    ·cases e
     rw[Addr.add_none]
     exact(h.hp hp).get j u hj
   intro V' hV' _
   have eT:T2p n0 n1 1+n1=T2p n0 n1 2:=by omega
   have eC:C2p c0 c1 1++c1=C2p c0 c1 2:=rfl
   rw[eT,eC] at hV'
   rw[eT,eC]
   exact wP I (Aa (zN (zE (zB (wP I (wP I (Aa (A4 (2,V') ⟨by show 2≤2;decide,hV'⟩ (by show 2-2<2-1;decide) ⟨I,I,I,I,tO⟩ [] I))))))))
 refine zA (zB (wP I (Aa (zE (zA (zS I (zJ (zK (zK (zL (zE (zA (zB ?_)))))))))))))
 exact wP I (wP I (Aa (zE (zO (Av tH I (.tmp I) V I hV fun W hp=>Ap.of_hp1 hp 0 I)))))
-- BOXES 6
-- CODE2
structure V7 (p q:Ak) (u v:Rat):Prop where
 s:Sz2 u v
 d:Sz2 u (u-v)
 nz:(u-v).num≠0
 x1:Sz2 q.1 p.1
 x2:Sz2 (u/(u-v)) (q.1-p.1)
 x3:Sz2 p.1 (u/(u-v)*(q.1-p.1))
 y1:Sz2 q.2 p.2
 y2:Sz2 (u/(u-v)) (q.2-p.2)
 y3:Sz2 p.2 (u/(u-v)*(q.2-p.2))
theorem Ln (c:Nat) (p q:Ak) (u v:Rat) (hz:V7 p q u v) (W:World) (hc:CD W c) (hv:BO W) (ht:AI W):
  Ai Tryz.prog 69 #[Ag c,cvV p,cvV q,str (Ad u),str (Ad v)] W (fun _:Unit=>cvV (HZ (u/(u-v)) p q)) (fun _=>True) (fun _=>[]):=by
 refine Ac (args:=[Ag c,cvV p,cvV q,str (Ad u),str (Ad v)]) Tryz.func69 I I I ?_
 refine zA (zB ?_)
 (refine At rfl rfl rfl rfl ?_;intro)
 (refine At rfl rfl rfl rfl ?_;intro)
 (refine Af Tryz.hZ rfl rfl rfl rfl ?_;intro)
 refine Aa (zE (zA (zB ?_)))
 iterate 5 refine wP I ?_
 refine wC I I (fun W hp=>CK c u v hz.s W (hc.hp hp) (hv.hp hp) (ht.hp hp)) (wC I I (fun W hp=>G8 c u (u-v) hz.d hz.nz W (hc.hp hp) (hv.hp hp) (ht.hp hp)) (wP I (Aa (zE (zA (zU (qP I (qP I (qB 0 I I I (qP I (qP I (qP I (qP I ?_)))))))))))))
 refine qB 1 I I I (qP I (qB 0 I I I (qC I I (fun W hp=>CK c q.1 p.1 hz.x1 W (hc.hp hp) (hv.hp hp) (ht.hp hp)) (qC I I (fun W hp=>Cq c (u/(u-v)) (q.1-p.1) hz.x2 W (hc.hp hp) (hv.hp hp) (ht.hp hp)) (qC I I (fun W hp=>CO c p.1 (u/(u-v)*(q.1-p.1)) hz.x3 W (hc.hp hp) (hv.hp hp) (ht.hp hp)) (qP I (AS (Aa (zE (zA (zU (qP I (qP I ?_)))))))))))))
 refine qB 0 I I I (qP I (qP I (qP I (qP I (qB 1 I I I (qP I (qB 0 I I I (qC I I (fun W hp=>CK c q.2 p.2 hz.y1 W (hc.hp hp) (hv.hp hp) (ht.hp hp)) (qC I I (fun W hp=>Cq c (u/(u-v)) (q.2-p.2) hz.y2 W (hc.hp hp) (hv.hp hp) (ht.hp hp)) (qC I I (fun W hp=>CO c p.2 (u/(u-v)*(q.2-p.2)) hz.y3 W (hc.hp hp) (hv.hp hp) (ht.hp hp)) (qP I (AS (Aa ?_)))))))))))))
 refine zE (zA (zB (wP I (wP I ?_))))
 refine Ay Tryz.hZ tH I I I I I I I I ?_
 exact wS 2 I I I (Aa (zE (zO (Av tH I (.cell 2 I I I I I) () I tO fun W _=>Ap.nil _ _))))
theorem N4 (q:Rat):decide (E5 q<0)=decide (q<0):=by
 refine decide_eq_decide.2 ?_
 have h:q.num<0↔q<0:=by rw[←Rat.not_le, ←Rat.num_nonneg];omega
 rw[←h]
 unfold E5
 split
 ·omega
 ·split<;>omega
theorem IF (q:Rat) (W:World):Ai Tryz.prog 98 #[str (Ad q)] W (fun _:Unit=> .bool (decide (q<0))) (fun _=>True) (fun _=>[]):=by
 refine Ac (args:=[str (Ad q)]) Tryz.func98 I I I ?_
 refine zA (zB (wP I (Aa (zE (zA (zB (wP I (wC I I (fun W hp=>Dd q W) (wP I (wU 5 (decide (q<0)) I (N4 q) (wP I (Aa (zE ?_)))))))))))))
 exact zO (wR1 I I I)
theorem Rx {α:Type} {p:α→Bool} {l:List α} {i:Nat} (hi:i<l.length):(l.drop i).any p=(p l[i]||(l.drop (i+1)).any p):=by
 rw[List.drop_eq_getElem_cons hi,List.any_cons]
theorem Mc (g:Nat) (hE:Bi Tryz.prog g=true) (F:Rat→Bool) (hg: ∀q W,Ai Tryz.prog g #[str (Ad q)] W (fun _:Unit=> .bool (F q)) (fun _=>True) (fun _=>[])) (l:List Rat) (hn:l.length≤100000) (p:Option Addr) (cap:Nat) (W:World) (hS:Ha W p (l.map Ad)):
  Ai Tryz.prog 147 #[slv p l.length cap, .func (.func g) #[] #[]] W (fun z:Int=> .int .i64 z) (fun z=>0≤z↔l.any F=true) (fun _=>[]):=by
 refine Ac (args:=[slv p l.length cap, .func (.func g) #[] #[]]) Tryz.func147 I I I ?_
 refine zA (zB (wP I (Aa (zE (zA (zA (zB (wP I (wP I (wP I (Aa (zE (zH ?_)))))))))))))
 refine A9 (X:=Nat) (fun i=>[(0,slv p l.length cap),(1, .func (.func g) #[] #[]),(6,slv p l.length cap),(7, .int .i64 (l.length:Nat)),(8, .int .i64 (i:Nat))]) (fun _=>[]) (fun i=>i≤l.length∧l.any F=(l.drop i).any F) (fun i=>l.length-i) 0 ⟨Nat.zero_le _,by rw[List.drop_zero]⟩ ⟨I,I,I,I,I,tO⟩ [] I ?_
 intro i hi
 obtain⟨hi,hA⟩:i≤l.length∧l.any F=(l.drop i).any F:=hi
 refine zA (zB (wP I ?_))
 by_cases hlt:i<l.length
 rotate_left
 ·refine wU 9 false I (dF (by omega)) (Aa (zE (zA (zS I (zJ (zK (zK (zL (zE (zA (zB (wP I (Aa ?_)))))))))))))
  refine zE (zO ?_)
  rw[List.drop_of_length_le (by omega)] at hA
  exact Av tH I (.tmp I) (-1:Int) I (by rw[hA];exact⟨fun h=>absurd h (by decide),fun h=>absurd (show false=true from h) (by decide)⟩) fun W _=>Ap.nil _ _
 refine wU 9 true I (dT (by omega)) (Aa (zE (zA (zR I (zI (zE (zA (zH (zA (zB ?_))))))))))
 obtain⟨b,off,rfl,hrow⟩:=hS.row (i:=i) (by rw[List.length_map];exact hlt)
 have hr:=hrow i (by rw[List.length_map];exact hlt)
 rw[List.getElem_map] at hr
 rw[Rx hlt] at hA
 obtain⟨q,hq⟩: ∃q,q=l[i]:=⟨_,rfl⟩
 rw[←hq] at hr hA
 refine wP I (wP I (Aa (zE (zA (zB (wP I (wP I (wP I ?_))))))))
 refine wJ ?_
 refine wL 0 I I (fun W1 hp=>hr.hp hp) I ?_
 refine B7 (capt:=[]) I I I I I I hE (fun W1 _=>hg q W1) ?_
 refine Aa (zE ?_)
 refine Aw I (fun hc=> ?_) (fun hc=> ?_)
 ·have hc:F q=true:=hc
  exact zA (zB (wP I (wP I (Aa (zE (zO (zQ (zP (zP (zQ (zP (Av tH I (.tmp I) ((i:Nat):Int) I ⟨fun _=>by rw[hA,hc];rfl,fun _=>by omega⟩ fun W _=>Ap.nil _ _))))))))))))
 ·have hc:F q=false:=hc
  rw[hc,Bool.false_or] at hA
  exact zI (zN (zE (zB (wP I (wV 18 ((i+1:Nat):Int) I (Ax (by omega)) (wP I (Aa (A4 (i+1) ⟨hlt,hA⟩ (by show l.length-(i+1)<l.length-i;omega) ⟨I,I,I,I,I,tO⟩ [] I))))))))
theorem Gg (g:Nat) (hE:Bi Tryz.prog g=true) (F:Rat→Bool) (hg: ∀q W,Ai Tryz.prog g #[str (Ad q)] W (fun _:Unit=> .bool (F q)) (fun _=>True) (fun _=>[])) (l:List Rat) (hn:l.length≤100000) (p:Option Addr) (cap:Nat) (W:World) (hS:Ha W p (l.map Ad)):
  Ai Tryz.prog 97 #[slv p l.length cap, .func (.func g) #[] #[]] W (fun _:Unit=> .bool (l.any F)) (fun _=>True) (fun _=>[]):=by
 refine Ac (args:=[slv p l.length cap, .func (.func g) #[] #[]]) Tryz.func97 I I I ?_
 refine zA (zB (wP I (Aa (zE (zA (zB (wP I (wP I ?_))))))))
 refine wD (X:=Int) I I (fun W1 hp=>Mc g hE F hg l hn p cap W1 (hS.hp hp)) ?_
 intro z hz
 have hz:0≤z↔l.any F=true:=hz
 refine wP I ?_
 refine Ah 8 (.bool (l.any F)) I (congrArg Value.bool (by
  cases h:l.any F with
  |true=>exact dT (hz.2 h)
  |false=>exact dF fun h2=>by rw[hz.1 h2] at h;cases h)) ?_
 exact wP I (Aa (zE (zO (wR1 I I I))))
theorem H2 (p q:Rat):(p<q∧CV p q= -1)∨(p=q∧CV p q=0)∨(q<p∧CV p q=1):=by
 have h1:=Oe p q
 have h2:=L5 p q
 rcases HM p q with e|e|e<;>rw[e] at h1 h2⊢
 ·exact .inl ⟨of_decide_eq_true h1.symm,I⟩
 ·refine .inr (.inl ⟨?_,I⟩)
  have a:=of_decide_eq_false h1.symm
  have b:=of_decide_eq_false h2.symm
  exact Rat.le_antisymm (Rat.not_lt.1 b) (Rat.not_lt.1 a)
 ·exact .inr (.inr ⟨of_decide_eq_true h2.symm,I⟩)
theorem MF (p q:Ak):decide (OJ p q<0)=Cb p q:=by
 unfold OJ Cb
 have h1:=H2 p.1 q.1
 have h2:=H2 p.2 q.2
 rcases h1 with⟨a,e⟩|⟨a,e⟩|⟨a,e⟩
 ·rw[e,if_neg (by decide),dT a];rfl
 ·rw[e,if_pos rfl,Oe,dF (show¬p.1<q.1 by grind),dT a,Bool.false_or,Bool.true_and]
 ·rw[e,if_neg (by decide),dF (show¬p.1<q.1 by grind),dF (show¬p.1=q.1 by grind)];rfl
abbrev ptC (l:List Ak):List Value:=l.flatMap fun q=>[str (Ad q.1),str (Ad q.2)]
theorem Cx (a b:List Ak):ptC (a++b)=ptC a++ptC b:=List.flatMap_append
theorem AG (l:List Ak):(ptC l).length=l.length*2:=by
 induction l with
 |nil=>rfl
 |cons p l ih=>show(ptC l).length+1+1=(l.length+1)*2;rw[ih];omega
theorem BA (l:List Ak): ∀u∈ptC l,u.oneCell'=true:=fun u hu=>by
 obtain⟨q,_,h⟩:=List.mem_flatMap.1 hu
 rcases List.mem_cons.1 h with rfl|h
 ·rfl
 ·obtain rfl:=List.mem_singleton.1 h;rfl
theorem Cc {W:World} {g off:Nat} {a b:List Value} (h:Aj W g off (a++b)):Aj W g off a:=⟨h.lt,fun k u hu=>h.get k u (by rw[List.getElem?_append_left (List.getElem?_eq_some_iff.1 hu).1];exact hu)⟩
theorem Ep {W:World} {g off:Nat} {a b:List Value} (h:Aj W g off (a++b)):Aj W g (off+a.length) b:=⟨h.lt,fun k u hu=>by
 have:=h.get (a.length+k) u (by rw[List.getElem?_append_right (by omega),Nat.add_sub_cancel_left];exact hu)
 rwa [←Nat.add_assoc] at this⟩
theorem Si {l:List Ak} {i:Nat} (hi:i<l.length):ptC l=ptC (l.take i)++([str (Ad l[i].1),str (Ad l[i].2)]++ptC (l.drop (i+1))):=by
 conv=>lhs;rw[←List.take_append_drop i l,List.drop_eq_getElem_cons hi,Cx]
 rfl
theorem Cf.of_row {W:World} {g off:Nat} {l:List Ak} {junk:List Value} (h:Aj W g off (ptC l++junk)):Cf W (some ⟨g,off,none⟩) l:= .inr ⟨g,off,rfl,fun i hi=>by
 have h1:=Cc h
 rw[Si hi] at h1
 have h2:=Cc (Ep h1)
 rwa [AG,List.length_take,Nat.min_eq_left (Nat.le_of_lt hi)] at h2⟩
theorem MU (c:Nat) (l:List Ak) (k:Nat) (hk:k≤149) (hs:JO k l) (h0:0<l.length) (hn:l.length≤100000) (g cap:Nat) (hcap:l.length≤cap) (W:World) (hrow:Aj W g 0 (ptC l)) (hc:CD W c) (hv:BO W) (ht:AI W):
  Ai Tryz.prog 99 #[Ag c,slv (some ⟨g,0,none⟩) l.length cap] W (fun V:Vec=>V.val l.length) (fun V=>V.OK 2 l.length (ptC (Bp l))) (fun V=>[V.bx 35 (ptC (Bp l))]):=by
 have hrow':Aj W g 0 (ptC l++[]):=by rw[List.append_nil];exact hrow
 have hA:=Cf.of_row hrow'
 have hr: ∀i,i<l.length→Aj W g (0+i*2) [str (Ad (Ae l i).1),str (Ad (Ae l i).2)]:=fun i hi=>by
  obtain⟨g',off',e,h⟩:=hA.at_ hi
  cases e
  rw[BM hi]
  exact h i hi
 have hlst: ∀i,i≤l.length→Bm l i<l.length:=fun i hi=>by
  rcases(JC l i).1 with e|e<;>omega
 refine Ac (args:=[Ag c,slv (some ⟨g,0,none⟩) l.length cap]) Tryz.func99 I I I ?_
 refine zA (zB (wP I (Aa (zE (zA (zB (wP I (Aa (zE (zA (zA (zB (wP I ?_)))))))))))))
 refine Aa (zE (zH ?_))
 have e1:Bm l 1=0:=by show(if Cb (Ae l 0) (Ae l 0)=true then 0 else 0)=0;split<;>rfl
 refine A9 (X:=Nat) (fun i=>[(0,Ag c),(1,slv (some ⟨g,0,none⟩) l.length cap),(5, .int .i64 (Bm l i:Nat)),(6, .int .i64 (i:Nat))]) (fun _=>[]) (fun i=>1≤i∧i≤l.length) (fun i=>l.length-i) 1 ⟨Nat.le_refl _,h0⟩ ⟨I,I,congrArg (fun n:Nat=>some (Value.int .i64 (n:Int))) e1.symm,I,tO⟩ [] I ?_
 intro i hi
 obtain⟨hi1,hi⟩:1≤i∧i≤l.length:=hi
 have hls:=hlst i hi
 refine zA (zA (zB (wP I (wP I (wP I (wP I ?_))))))
 by_cases hlt:i<l.length
 ·refine wU 10 true I (dT (by omega)) (Aa (zE (zR I (zI (zE (zA (zH (zA (zU ?_)))))))))
  have hsu:Bm l (i+1)=if Cb (Ae l i) (Ae l (Bm l i))=true then i else Bm l i:=rfl
  have zi:=hs.at_ h0 i
  have zj:=hs.at_ h0 (Bm l i)
  refine qP I (qP I (qP I ?_))
  refine qJ ?_
  refine qL 0 I I (fun W1 hp=>(hr i hlt).hp hp) I (qP I (qP I ?_))
  refine qJ ?_
  refine qL 0 I I (fun W1 hp=>(hr (Bm l i) hls).hp hp) I (qC I I (fun W1 hp=>JE c (Ae l i) (Ae l (Bm l i)) (sz2 zi.1 zj.1 (by omega)) (sz2 zi.2 zj.2 (by omega)) W1 (hc.hp hp) (hv.hp hp) (ht.hp hp)) (qP I (qU 23 (Cb (Ae l i) (Ae l (Bm l i))) I (MF _ _) (AS (Aa (zE ?_))))))
  refine Aw I (fun hc2=> ?_) (fun hc2=> ?_)
  ·have hc2:Cb (Ae l i) (Ae l (Bm l i))=true:=hc2
   rw[if_pos hc2] at hsu
   exact zB (wP I (wP I (Aa (zN (zE (zB (wP I (wP I (wV 12 ((i+1:Nat):Int) I (Ax (by omega)) (wP I (Aa (A4 (i+1) ⟨by omega,hlt⟩ (by show l.length-(i+1)<l.length-i;omega) ⟨I,I,congrArg (fun n:Nat=>some (Value.int .i64 (n:Int))) hsu.symm,I,tO⟩ [] I))))))))))))
  ·have hc2:Cb (Ae l i) (Ae l (Bm l i))=false:=hc2
   rw[hc2,if_neg (by decide)] at hsu
   exact zI (zN (zE (zB (wP I (wP I (wV 12 ((i+1:Nat):Int) I (Ax (by omega)) (wP I (Aa (A4 (i+1) ⟨by omega,hlt⟩ (by show l.length-(i+1)<l.length-i;omega) ⟨I,I,congrArg (fun n:Nat=>some (Value.int .i64 (n:Int))) hsu.symm,I,tO⟩ [] I)))))))))
 have e:i=l.length:=by omega
 subst e
 obtain⟨m,hm⟩: ∃m,m=Bm l l.length:=⟨_,rfl⟩
 rw[←hm] at hls
 rw[←hm]
 have hB:Bp l=l.drop m++l.take m:=by rw[hm];rfl
 have hBC:ptC (Bp l)=ptC (l.drop m)++ptC (l.take m):=by rw[hB,Cx]
 have hl1:(l.drop m).length=l.length-m:=List.length_drop
 have hl2:(l.take m).length=m:=by rw[List.length_take];omega
 have hsplit:ptC l=ptC (l.take m)++ptC (l.drop m):=by rw[←Cx,List.take_append_drop]
 have ra:Aj W g 0 (ptC (l.take m)):=by rw[hsplit] at hrow;exact Cc hrow
 have rb:Aj W g (m*2) (ptC (l.drop m)):=by
  rw[hsplit] at hrow
  have:=Ep hrow
  rwa [AG,hl2,Nat.zero_add] at this
 refine wU 10 false I (dF (by omega)) (Aa (zE (zS I (zJ (zK (zK (zL (zE (Ar ?_)))))))))
 refine AE (X:= { V:Vec//V.OK 2 l.length (ptC (Bp l)) }) [true,true,false,true,true,false,false,false,false] (fun V=>[(4,V.1.val l.length)]) (fun V=>[V.1.bx 35 (ptC (Bp l))])
  5 [] Tryz.mixed (by kernel_rfl) ?_ ?_
 ·refine qP I (qP I (qP I (qP I (Bq (wX ?_)))))
  refine RS.cons ?_ (RS.cons ?_ (RS.nil))
  ·refine Cp m tH I I I I I I I I (by omega) (by omega) ?_;refine Ah 27 (.slice (some ⟨g,m*2,none⟩) (l.length-m) (cap-m)) I (by rw[if_neg (by omega),Nat.zero_add]) ?_
   refine Aa (Ab (wX (wZ ?_)))
   refine By m tH I I I I I I I I (by omega) ?_
   refine Aa (Ab (wX (wZ ?_)))
   refine A8 Tryz.hZ tH I I I I I I I I I I I fun bL1=> ?_
   refine Aa (Ab (wX (wZ ?_)))
   refine wD (X:=Vec) rfl rfl (fun W1 hp=>Ee W1 bL1 2 (some ⟨g,m*2,none⟩) (some ⟨g,0,none⟩) (l.length-m) m (cap-m) cap (ptC (l.drop m)) (ptC (l.take m)) (Aj.of_bx hp 0 rfl rfl) (.inr ⟨g,m*2,rfl,rb.hp hp⟩) (.inr ⟨g,0,rfl,ra.hp hp⟩) (by rw[AG,hl1]) (by rw[AG,hl2]) (BA _) (BA _) (by omega) (by omega)) ?_;intro V1 hV1;refine Ah 32 (V1.val l.length) rfl (by rw[show l.length-m+m=l.length by omega]) ?_
   refine Aa (Ab (wX (wZ (wP I (Aa (Ab ?_))))))
   rw[show l.length-m+m=l.length by omega, ←hBC] at hV1;rw[←hBC];first|refine Au rfl (by((repeat (first|refine A3.same ?_|refine A3.off rfl ?_));exact trivial)) ?_|refine AD rfl (by kernel_rfl) ?_
   exact Al ⟨V1,hV1⟩ ⟨I,tO⟩ [1] (by decide) I
  ·refine By m tH I I I I I I I I (by omega) ?_
   refine Aa (Ab (wX (wZ ?_)))
   refine Cp m tH I I I I I I I I (by omega) (by omega) ?_;refine Ah 27 (.slice (some ⟨g,m*2,none⟩) (l.length-m) (cap-m)) I (by rw[if_neg (by omega),Nat.zero_add]) ?_
   refine Aa (Ab (wX (wZ ?_)))
   refine A8 Tryz.hZ tH I I I I I I I I I I I fun bL1=> ?_
   refine Aa (Ab (wX (wZ ?_)))
   refine wD (X:=Vec) rfl rfl (fun W1 hp=>Ee W1 bL1 2 (some ⟨g,m*2,none⟩) (some ⟨g,0,none⟩) (l.length-m) m (cap-m) cap (ptC (l.drop m)) (ptC (l.take m)) (Aj.of_bx hp 0 rfl rfl) (.inr ⟨g,m*2,rfl,rb.hp hp⟩) (.inr ⟨g,0,rfl,ra.hp hp⟩) (by rw[AG,hl1]) (by rw[AG,hl2]) (BA _) (BA _) (by omega) (by omega)) ?_;intro V1 hV1;refine Ah 32 (V1.val l.length) rfl (by rw[show l.length-m+m=l.length by omega]) ?_
   refine Aa (Ab (wX (wZ (wP I (Aa (Ab ?_))))))
   rw[show l.length-m+m=l.length by omega, ←hBC] at hV1;rw[←hBC];first|refine Au rfl (by((repeat (first|refine A3.same ?_|refine A3.off rfl ?_));exact trivial)) ?_|refine AD rfl (by kernel_rfl) ?_
   exact Al ⟨V1,hV1⟩ ⟨I,tO⟩ [1] (by decide) I
 rintro⟨V,hV⟩
 exact zE (zO (Av tH I (.tmp I) V I hV fun W1 hp=>Ap.of_hp hp))
-- BOXES 12
-- CODE2
theorem Kr (q:Rat):decide (E5 q≤0)=decide (q≤0):=by
 refine decide_eq_decide.2 ?_
 have h:0<q.num↔0<q:=by
  have h1:0≤q.num↔0≤q:=Rat.num_nonneg
  have h2:q.num=0↔q=0:=Rat.num_eq_zero
  constructor
  ·intro h
   exact Rat.lt_of_le_of_ne (h1.1 (by omega)) (fun e=>by rw[←e] at h;exact absurd h (by decide))
  ·intro h
   have a:=h1.2 (Rat.le_of_lt h)
   have b:q.num≠0:=fun e=>by rw[h2.1 e] at h;exact Rat.lt_irrefl h
   omega
 rw[←Rat.not_lt, ←h]
 unfold E5
 split
 ·omega
 ·split<;>omega
theorem Ip (q:Rat):E5 q= -1∨E5 q=0∨E5 q=1:=by
 unfold E5
 split
 ·exact .inr (.inl I)
 ·split
  ·exact .inl I
  ·exact .inr (.inr I)
theorem ML (u v:Rat):decide (w64 (E5 u*E5 v)<0)=decide (u*v<0):=by
 have hu:=N4 u
 have hu2:=Kr u
 have hv:=N4 v
 have hv2:=Kr v
 rw[decide_eq_decide] at hu hu2 hv hv2
 rw[decide_eq_decide,D4]
 have hw:w64 (E5 u*E5 v)=E5 u*E5 v:=by
  rcases Ip u with a|a|a<;>rcases Ip v with b|b|b<;>rw[a,b]<;>rfl
 rw[hw]
 rw[show 0<v↔ ¬v≤0 from Rat.not_le.symm,show 0<u↔ ¬u≤0 from Rat.not_le.symm, ←hu, ←hu2, ←hv, ←hv2]
 rcases Ip u with a|a|a<;>rcases Ip v with b|b|b<;>rw[a,b]<;>decide
theorem Mi {W0 W:World} {bxs:List Bx} (hp:Hp W0 bxs W) (k:Nat) {g:Nat} {l:List Rat} {junk:List Value} {i:Nat} (hk:nth bxs k=some ⟨g,23,vsC l++junk,true,none⟩) (hi:i<l.length):Aj W g (0+i*1) [str (Ad l[i])]:=by
 have h:=Cc (Aj.of_bx hp k hk rfl)
 refine⟨h.lt,fun m u hu=> ?_⟩
 cases m with
 |zero=>
  obtain rfl:str (Ad l[i])=u:=by simpa using hu
  have:=h.get i (str (Ad l[i])) (by rw[List.getElem?_map,List.getElem?_eq_getElem hi];rfl)
  rw[Nat.zero_add,Nat.mul_one,Nat.add_zero]
  rwa [Nat.zero_add] at this
 |succ m=>simp at hu
structure ClZ (f:AW) (l:List Ak):Prop where
 v: ∀q∈l,Vw f q
 c: ∀i,i<l.length→f.at (Ae l i)*f.at (Ae l (i+1))<0→V7 (Ae l i) (Ae l (i+1)) (f.at (Ae l i)) (f.at (Ae l (i+1)))
 o:JO 149 (AT f l)
def Ct (f:AW) (l:List Ak) (k:Nat):List Ak:=(Dl (Ae l) k f).map (Me (Ae l))
def CP (f:AW) (l:List Ak) (k:Nat):List Ak:=Ct f l k++(if f.at (Ae l k)≤0 then[Ae l k] else[])
theorem EU (f:AW) (l:List Ak) (k:Nat):Ct f l (k+1)=CP f l k++(if f.at (Ae l k)*f.at (Ae l (k+1))<0 then[HZ (f.at (Ae l k)/(f.at (Ae l k)-f.at (Ae l (k+1)))) (Ae l k) (Ae l (k+1))] else[]):=by
 unfold Ct CP
 rw[MW,Nf,List.append_assoc]
 rfl
theorem Fe (f:AW) (l:List Ak): ∀k,(Ct f l k).length≤2*k
 |0=>Nat.le_refl _
 |k+1=>by
  have ih:=Fe f l k
  rw[EU]
  unfold CP
  rw[List.length_append,List.length_append]
  have a:(if f.at (Ae l k)≤0 then[Ae l k] else[]).length≤1:=by split<;>simp
  have b:(if f.at (Ae l k)*f.at (Ae l (k+1))<0 then[HZ (f.at (Ae l k)/(f.at (Ae l k)-f.at (Ae l (k+1)))) (Ae l k) (Ae l (k+1))] else[]).length≤1:=by split<;>simp
  omega
theorem NW (f:AW) (l:List Ak) (k:Nat):(CP f l k).length≤2*k+1:=by
 unfold CP
 have:=Fe f l k
 rw[List.length_append]
 have a:(if f.at (Ae l k)≤0 then[Ae l k] else[]).length≤1:=by split<;>simp
 omega
theorem Ra (f:AW) (l:List Ak):(l.map f.at).any (fun q=>decide (q<0))=FK f l:=by
 unfold FK
 rw[List.any_map];rfl
abbrev ckB (b c:Nat):Bx:=⟨b,59,[Ag c],true,none⟩
abbrev lsB (b:Nat) (v:Value):Bx:=⟨b,22,[v],true,none⟩
abbrev nmB (b:Nat) (v:Value):Bx:=⟨b,87,[v],true,none⟩
theorem N9 (c:Nat) (f:AW) (l:List Ak) (hz:ClZ f l) (hP:FB l) (h3:3≤l.length) (hn:l.length≤4096) (p:Option Addr) (cap:Nat) (W:World) (hA:Cf W p l) (hc:CD W c) (hv:BO W) (ht:AI W):
  Ai Tryz.prog 42 #[Ag c,slv p l.length cap,str (Ad f.a),str (Ad f.b),str (Ad f.c)] W (fun V:Vec=>V.val (Bs f l).length) (fun V=>V.OK 2 (Bs f l).length (ptC (Bs f l))) (fun V=>[V.bx 35 (ptC (Bs f l))]):=by
 have hn0:0<l.length:=by omega
 have hzz:(l.length:Int)≠0:=by omega
 have hvl:(l.map f.at).length=l.length:=List.length_map _
 refine Ac (args:=[Ag c,slv p l.length cap,str (Ad f.a),str (Ad f.b),str (Ad f.c)]) Tryz.func42 I I I ?_
 refine zA (zB ?_)
 (refine At rfl rfl rfl rfl ?_;intro)
 (refine At rfl rfl rfl rfl ?_;intro)
 refine wP I (Aa ?_)
 rename_i b5 b6
 refine zE (Ar ?_)
 refine AE (X:= { s:Nat×Vec//s.2.OK 1 l.length (vsC (l.map f.at)) }) [true,true,true,true,true,false,false,false,false] (fun s=>[(5,Ag b5),(6,Ag b6),(11,Ag s.1.1)]) (fun s=>[ckB b5 c,lsB b6 (slv p l.length cap),nmB s.1.1 (s.1.2.val l.length),s.1.2.bx 23 (vsC (l.map f.at))])
  4 [ckB b5 c,lsB b6 (slv p l.length cap)] Tryz.mixed (by kernel_rfl) ?_ ?_
 ·refine qB 1 I I I (qB 0 I I I (qP I (qP I (qP I (Bq (wX ?_))))))
  refine RS.cons ?_ (RS.cons ?_ (RS.nil))
  ·refine wD (X:=Nat×Nat×Nat×Nat) rfl rfl (fun W1 _=>Dp c f W1) ?_;rintro⟨v4,v5,v6,v7⟩ _
   refine Aa (Ab (wX ?_))
   refine RS.cons ?_ (RS.cons ?_ (RS.nil))
   ·refine wD (X:=Vec) rfl rfl (fun W1 hp=>CT l f.at 132 [Ag v4,Ag v5,Ag v6,Ag v7] (by kernel_rfl) hn p cap W1 (hA.hp hp) (fun q hq W2 hb=>CS v4 v5 v6 v7 c f q (hz.v q hq) W2 (Jd.below (by first|exact⟨Aj.of_bx hp 2 rfl rfl,Aj.of_bx hp 3 rfl rfl,Aj.of_bx hp 4 rfl rfl,Aj.of_bx hp 5 rfl rfl,hc.hp hp,hv.hp hp,ht.hp hp⟩|exact⟨Aj.of_bx hp 3 rfl rfl,Aj.of_bx hp 4 rfl rfl,Aj.of_bx hp 5 rfl rfl,Aj.of_bx hp 6 rfl rfl,hc.hp hp,hv.hp hp,ht.hp hp⟩) hb))) ?_;rintro⟨pV1,cV1,jV1⟩ hV1;obtain⟨gV1,rfl⟩: ∃g,pV1=some g:=Option.ne_none_iff_exists'.1 (fun e=>absurd (hV1.nil e) (by omega))
    refine Aa (Ab (wX (wZ ?_)))
    refine Af Tryz.hZ rfl rfl rfl rfl ?_;intro b11
    refine Aa (Ab (wX (wZ (wS 7 I I I (Aa (Ab ?_))))))
    refine Au I (by((repeat (first|refine A3.same ?_|refine A3.off I ?_));exact tO)) ?_
    exact Al (⟨(b11,⟨some gV1,cV1,jV1⟩),hV1⟩: { s:Nat×Vec//s.2.OK 1 l.length (vsC (l.map f.at)) }) ⟨I,I,I,tO⟩ [0,1,7,6] (by decide) I
   ·refine Af Tryz.hZ rfl rfl rfl rfl ?_;intro b11
    refine Aa (Ab (wX (wZ ?_)))
    refine wD (X:=Vec) rfl rfl (fun W1 hp=>CT l f.at 132 [Ag v4,Ag v5,Ag v6,Ag v7] (by kernel_rfl) hn p cap W1 (hA.hp hp) (fun q hq W2 hb=>CS v4 v5 v6 v7 c f q (hz.v q hq) W2 (Jd.below (by first|exact⟨Aj.of_bx hp 2 rfl rfl,Aj.of_bx hp 3 rfl rfl,Aj.of_bx hp 4 rfl rfl,Aj.of_bx hp 5 rfl rfl,hc.hp hp,hv.hp hp,ht.hp hp⟩|exact⟨Aj.of_bx hp 3 rfl rfl,Aj.of_bx hp 4 rfl rfl,Aj.of_bx hp 5 rfl rfl,Aj.of_bx hp 6 rfl rfl,hc.hp hp,hv.hp hp,ht.hp hp⟩) hb))) ?_;rintro⟨pV1,cV1,jV1⟩ hV1;obtain⟨gV1,rfl⟩: ∃g,pV1=some g:=Option.ne_none_iff_exists'.1 (fun e=>absurd (hV1.nil e) (by omega))
    refine Aa (Ab (wX (wZ (wS 6 I I I (Aa (Ab ?_))))))
    refine Au I (by((repeat (first|refine A3.same ?_|refine A3.off I ?_));exact tO)) ?_
    exact Al (⟨(b11,⟨some gV1,cV1,jV1⟩),hV1⟩: { s:Nat×Vec//s.2.OK 1 l.length (vsC (l.map f.at)) }) ⟨I,I,I,tO⟩ [0,1,6,7] (by decide) I
  ·refine Af Tryz.hZ rfl rfl rfl rfl ?_;intro b11
   refine Aa (Ab (wX (wZ ?_)))
   refine wD (X:=Nat×Nat×Nat×Nat) rfl rfl (fun W1 _=>Dp c f W1) ?_;rintro⟨v4,v5,v6,v7⟩ _
   refine Aa (Ab (wX (wZ ?_)))
   refine wD (X:=Vec) rfl rfl (fun W1 hp=>CT l f.at 132 [Ag v4,Ag v5,Ag v6,Ag v7] (by kernel_rfl) hn p cap W1 (hA.hp hp) (fun q hq W2 hb=>CS v4 v5 v6 v7 c f q (hz.v q hq) W2 (Jd.below (by first|exact⟨Aj.of_bx hp 2 rfl rfl,Aj.of_bx hp 3 rfl rfl,Aj.of_bx hp 4 rfl rfl,Aj.of_bx hp 5 rfl rfl,hc.hp hp,hv.hp hp,ht.hp hp⟩|exact⟨Aj.of_bx hp 3 rfl rfl,Aj.of_bx hp 4 rfl rfl,Aj.of_bx hp 5 rfl rfl,Aj.of_bx hp 6 rfl rfl,hc.hp hp,hv.hp hp,ht.hp hp⟩) hb))) ?_;rintro⟨pV1,cV1,jV1⟩ hV1;obtain⟨gV1,rfl⟩: ∃g,pV1=some g:=Option.ne_none_iff_exists'.1 (fun e=>absurd (hV1.nil e) (by omega))
   refine Aa (Ab (wX (wZ (wS 2 I I I (Aa (Ab ?_))))))
   refine Au I (by((repeat (first|refine A3.same ?_|refine A3.off I ?_));exact tO)) ?_
   exact Al (⟨(b11,⟨some gV1,cV1,jV1⟩),hV1⟩: { s:Nat×Vec//s.2.OK 1 l.length (vsC (l.map f.at)) }) ⟨I,I,I,tO⟩ [0,1,2,7] (by decide) I
 rintro⟨⟨b11,⟨pV,cV,jV⟩⟩,hV⟩
 obtain⟨gV,rfl⟩: ∃g,pV=some g:=by
  cases pV with
  |none=>have:=hV.nil rfl;omega
  |some g=>exact⟨g,rfl⟩
 have hcapV:=(hV.cap (by simp)).1
 refine zE (zA (zA (zB (wB 0 I I I ?_))))
 refine AB I I I I ?_
 refine wP I (wL 0 I I (fun W1 hp=>(hc.hp hp).row) I (wP I (Aa (zE (zS I (zI (zE (zA (zB ?_)))))))))
 (refine Af Tryz.hZ rfl rfl rfl rfl ?_;intro)
 refine Aa ?_
 rename_i b12
 refine zE (zA (zA (zB (wB 1 I I I ?_))))
 refine wD (X:=Nat) I I (fun W1 _=>C3 p l.length cap W1) ?_
 intro bp _
 refine Aa (zE (zH ?_))
 refine De ?_
 refine DM (X:=Nat×Vec) (fun x=>[ckB b5 c,lsB b6 (slv p l.length cap),nmB b11 (.slice (some ⟨gV,0,none⟩) l.length cV),⟨gV,23,vsC (l.map f.at)++jV,true,none⟩,lsB b12 (x.2.val (Ct f l x.1).length),lsB bp (slv p l.length cap),x.2.bx 35 (ptC (Ct f l x.1))])
  (fun j x=>x.1=j∧x.2.OK 2 (Ct f l x.1).length (ptC (Ct f l x.1))) (fun _ _=>False) (0,Vec.empty) rfl (by kernel_rfl) (CF l bp p cap (by omega)) (fun _=>rfl)
  ⟨rfl,Vec.OK.empty 2⟩ [] rfl (fun k x W1 _ hp=>⟨Aj.of_bx hp 5 rfl rfl,hA.hp hp⟩) ?_ ?_ (fun _ _ _ _ _ h=>h.elim)
 ·rintro k ⟨k',O⟩ d l' rec L hk ⟨e1,hO⟩ hrec
  obtain rfl:k'=k:=e1
  have hk:k'<l.length:=hk
  have hO:O.OK 2 (Ct f l k').length (ptC (Ct f l k')):=hO
  have hol:=Fe f l k'
  have hml:=NW f l k'
  have hsl:=Fe f l (k'+1)
  have hk2:(k'+1)%l.length<l.length:=Nat.mod_lt _ hn0
  have ev: ∀i (hi:i<l.length),(l.map f.at)[i]'(by rw[hvl];exact hi)=f.at (Ae l i):=fun i hi=>by rw[List.getElem_map,BM hi]
  have hr1: ∀ {W0 W1:World} {bxs:List Bx} (hp:Hp W0 bxs W1) (m:Nat) (hm:nth bxs m=some ⟨gV,23,vsC (l.map f.at)++jV,true,none⟩),Aj W1 gV (0+k'*1) [str (Ad (f.at (Ae l k')))]:=fun hp m hm=>by
   have:=Mi hp m hm (i:=k') (by rw[hvl];exact hk)
   rwa [ev k' hk] at this
  have hr2: ∀ {W0 W1:World} {bxs:List Bx} (hp:Hp W0 bxs W1) (m:Nat) (hm:nth bxs m=some ⟨gV,23,vsC (l.map f.at)++jV,true,none⟩),Aj W1 gV (0+((k'+1)%l.length)*1) [str (Ad (f.at (Ae l (k'+1))))]:=fun hp m hm=>by
   have:=Mi hp m hm (i:=(k'+1)%l.length) (by rw[hvl];exact hk2)
   rwa [ev _ hk2,C8] at this
  obtain⟨u,hu⟩: ∃u,u=f.at (Ae l k'):=⟨_,rfl⟩
  obtain⟨v,hvv⟩: ∃v,v=f.at (Ae l (k'+1)):=⟨_,rfl⟩
  have hsu:=EU f l k'
  have hmu:CP f l k'=Ct f l k'++(if u≤0 then[Ae l k'] else[]):=by rw[hu];rfl
  have hcz:=hz.c k' hk
  rw[←hu, ←hvv] at hsu hcz
  rw[←hu] at hr1
  rw[←hvv] at hr2
  refine zA (zB (wP I (Aa (zE (zB ?_)))))
  (refine Af Tryz.hZ rfl rfl rfl rfl ?_;intro)
  refine wS 10 I I I (Aa ?_)
  rename_i b14
  refine C9 9 hrec I ?_
  refine Bj (zA (zU (qB 3 I I I (qP I ?_))))
  refine qJ ?_
  refine qL 0 I I (fun W1 hp=>hr1 hp 4 I) I (qC I I (fun W1 _=>Dd u W1) (qB 3 I I I (qP I (qP I (qV 40 ((k'+1:Nat):Int) I (Ax (by omega)) (qB 2 I I I (qP I ?_)))))))
  refine Dv I I I I I hzz ?_
  refine DY 43 (.int .i64 (((k'+1)%l.length:Nat):Int)) I I ?_
  refine qJ ?_
  refine qL 0 I I (fun W1 hp=>hr2 hp 4 I) I (qC I I (fun W1 _=>Dd v W1) (qP I (qP I (AS (Aa (zE (zA (zA (zB (wP I (wP I (wU 48 (decide (u≤0)) I (Kr u) (Aa ?_)))))))))))))
  refine AH ?_
  refine AC (X:=Vec) (fun _=>[(5,Ag b5),(6,Ag b6),(11,Ag b11),(12,Ag b12),(13, .int .i64 (k':Nat)),(14,Ag b14),(15, .int .i64 (E5 u)),(16, .int .i64 (E5 v))])
   (fun O=>[AL L,ckB b5 c,lsB b6 (slv p l.length cap),nmB b11 (.slice (some ⟨gV,0,none⟩) l.length cV),⟨gV,23,vsC (l.map f.at)++jV,true,none⟩,lsB b12 (O.val (CP f l k').length),lsB bp (slv p l.length cap),O.bx 35 (ptC (CP f l k')),Bz d,Ba l' rec .busy none,⟨b14,66,(sdV (Ae l k') (Ae l (k'+1))).cells.toList,true,none⟩])
   (fun O=>O.OK 2 (CP f l k').length (ptC (CP f l k'))) ?_ ?_
  ·refine Aw I (fun hc1=> ?_) (fun hc1=> ?_)
   ·rw[if_pos (of_decide_eq_true hc1)] at hmu
    have hlm:(Ct f l k').length+1=(CP f l k').length:=by rw[hmu,List.length_append];rfl
    refine zB (wB 5 I I I ?_)
    refine CJ Tryz.underlying66 Tryz.sizeOf35 I I I I I ⟨by decide,by decide⟩ ?_
    refine wB 10 I I I ?_
    refine A8 Tryz.hZ tH I I I I I I I I I I I fun bS=> ?_
    refine Bk (V:=O) (len:=(Ct f l k').length) (xs:=ptC (Ct f l k')) 7 11 Tryz.vec22 (CP f l k').length (ptC (CP f l k')) I I I I I I I I I I I hO I I hlm (by rw[hmu,Cx];rfl) (by simp only[maxLen];omega) (by omega) I ?_
    intro gO cO jO hO1
    exact wS 5 I I I (Aa (An ⟨some gO,cO,jO⟩ hO1 ⟨I,I,I,I,I,I,I,I,tO⟩ [_] I))
   ·rw[if_neg (of_decide_eq_false hc1),List.append_nil] at hmu
    exact zI (An O (by rw[hmu];exact hO) ⟨I,I,I,I,I,I,I,I,tO⟩ [] (by rw[hmu];rfl))
  intro O1 hO1
  have hO1:O1.OK 2 (CP f l k').length (ptC (CP f l k')):=hO1
  refine zA (zB (wP I (wP I (wP I (wP I (wU 57 (decide (u*v<0)) I (ML u v) (Aa (zE ?_))))))))
  refine Aw I (fun hc2=> ?_) (fun hc2=> ?_)
  ·have hc2':u*v<0:=of_decide_eq_true hc2
   rw[if_pos hc2'] at hsu
   have hlm:(CP f l k').length+1=(Ct f l (k'+1)).length:=by rw[hsu,List.length_append];rfl
   refine AE (X:= { O:Vec//O.OK 2 (Ct f l (k'+1)).length (ptC (Ct f l (k'+1))) }) [true,true,true,true,true,true,true,true,true,true,true,true,true,true,true,true,true,true,true,false,false,false] (fun _=>[(5,Ag b5)])
    (fun O=>[AL L,ckB b5 c,lsB b6 (slv p l.length cap),nmB b11 (.slice (some ⟨gV,0,none⟩) l.length cV),⟨gV,23,vsC (l.map f.at)++jV,true,none⟩,lsB b12 (O.1.val (Ct f l (k'+1)).length),lsB bp (slv p l.length cap),O.1.bx 35 (ptC (Ct f l (k'+1))),Bz d,Ba l' rec .busy none])
    3 [AL L,ckB b5 c,lsB b6 (slv p l.length cap),nmB b11 (.slice (some ⟨gV,0,none⟩) l.length cV),⟨gV,23,vsC (l.map f.at)++jV,true,none⟩,lsB b12 (O1.val (CP f l k').length),lsB bp (slv p l.length cap),O1.bx 35 (ptC (CP f l k')),Bz d,Ba l' rec .busy none,⟨b14,66,(sdV (Ae l k') (Ae l (k'+1))).cells.toList,true,none⟩] Tryz.mixed (by kernel_rfl) ?_ ?_
   ·refine qB 5 I I I (qB 1 I I I ?_)
    refine AR Tryz.underlying66 Tryz.sizeOf35 I I I I I ⟨by decide,by decide⟩ ?_
    refine qB 10 I I I ?_
    refine AR Tryz.underlying66 Tryz.sizeOf35 I I I I I ⟨by decide,by decide⟩ ?_
    refine qB 10 I I I (qB 3 I I I (qP I ?_))
    refine qJ ?_
    refine qL 0 I I (fun W1 hp=>hr1 hp 4 I) I (qB 3 I I I (qP I (qP I (qV 70 ((k'+1:Nat):Int) I (Ax (by omega)) (qB 2 I I I (qP I ?_))))))
    refine Dv I I I I I hzz ?_
    refine DY 73 (.int .i64 (((k'+1)%l.length:Nat):Int)) I I ?_
    refine qJ ?_
    refine qL 0 I I (fun W1 hp=>hr2 hp 4 I) I (qC I I (fun W1 hp=>Ln c (Ae l k') (Ae l (k'+1)) u v (hcz hc2') W1 (hc.hp hp) (hv.hp hp) (ht.hp hp)) (Bq (wX (wZ ?_))))
    refine A8 Tryz.hZ tH I I I I I I I I I I I fun bS=> ?_
    refine Aa (Ab (wX (wZ ?_)))
    refine Bk (V:=O1) (len:=(CP f l k').length) (xs:=ptC (CP f l k')) 7 11 Tryz.vec22 (Ct f l (k'+1)).length (ptC (Ct f l (k'+1))) rfl rfl rfl rfl rfl rfl rfl rfl rfl rfl rfl hO1 rfl rfl hlm (by rw[hsu,Cx];rfl) (by simp only[maxLen];omega) (by omega) rfl ?_;intro gO cO jO hO2
    refine Aa (Ab (wY (wZ (wS 5 I I I (Aa (Ab ?_))))))
    refine AD I (by kernel_rfl) ?_
    exact Al (⟨⟨some gO,cO,jO⟩,hO2⟩: { O:Vec//O.OK 2 (Ct f l (k'+1)).length (ptC (Ct f l (k'+1))) }) ⟨I,tO⟩ [0,1,2,3,4,5,6,7,8,9] (by decide) I
   rintro⟨O2,hO2⟩
   exact zN (BW 9 (k'+1,O2) hrec I ⟨I,hO2⟩ [] I)
  ·rw[if_neg (of_decide_eq_false hc2),List.append_nil] at hsu
   exact zI (zN (BW 9 (k'+1,O1) hrec I ⟨I,by show O1.OK 2 (Ct f l (k'+1)).length (ptC (Ct f l (k'+1)));rw[hsu];exact hO1⟩ [_] (by rw[hsu];rfl)))
 ·rintro⟨k',O⟩ d l' rec ⟨e1,hO⟩
  obtain rfl:k'=l.length:=e1
  have hO:O.OK 2 (AT f l).length (ptC (AT f l)):=hO
  have hoe:Ct f l l.length=AT f l:=rfl
  have hol:=Fe f l l.length
  rw[hoe] at hol
  rw[hoe]
  refine zN (zE (zA (zA (zB (wB 0 I I I ?_)))))
  refine AB I I I I ?_
  refine wP I (wL 0 I I (fun W1 hp=>(hc.hp hp).row) I (wP I (wP I (wB 2 I I I ?_))))
  refine wC I I (fun W1 hp=>(by
   have h:=Gg 98 (by kernel_rfl) (fun q=>decide (q<0)) IF (l.map f.at) (by rw[hvl];omega) (some ⟨gV,0,none⟩) cV W1 (.inr ⟨gV,0,rfl,by
    have:=Cc (Aj.of_bx hp 3 rfl rfl:Aj W1 gV 0 (vsC (l.map f.at)++jV))
    rw[List.map_map];exact this⟩)
   rwa [hvl,Ra] at h)) ?_
  cases hneg:FK f l with
  |false=>
   refine wP I (wP I (Aa (zE (zR I (zA (zB (wP I (Aa (zE (zO (zP ?_)))))))))))
   refine BU 7 I ?_
   have e0:Bs f l=[]:=by unfold Bs;rw[hneg];rfl
   exact Av tH I (.tmp I) Vec.empty (by rw[e0];rfl) (by rw[e0];exact Vec.OK.empty 2) fun W1 hp=>by
    rw[e0]
    exact Own.one (fun p hp=>by cases hp) List.nodup_nil
  |true=>
   have e0:Bs f l=Bp (AT f l):=by unfold Bs;rw[hneg];rfl
   have hlb:(Bp (AT f l)).length=(AT f l).length:=K8 (Mq _)
   obtain⟨q,hq,hqn⟩:=GB.1 hneg
   have hpos:0<(AT f l).length:=by
    obtain⟨i,hi,e⟩:=Hv hq
    have:=TE hP hi (by rw[e];exact hqn)
    rw[O8]
    omega
   obtain⟨pO,cO,jO⟩:=O
   obtain⟨gO,rfl⟩: ∃g,pO=some g:=Option.ne_none_iff_exists'.1 (fun e=>absurd (hO.nil e) (by omega))
   have hcO:=(hO.cap (by simp)).1
   refine wP I (wP I (Aa (zE (zS I (zI (zE (zA (zB (wB 0 I I I (wB 4 I I I ?_))))))))))
   refine wD (X:=Vec) I I (fun W1 hp=>MU c (AT f l) 149 (by decide) hz.o hpos (by omega) gO cO hcO W1 (Cc (Aj.of_bx hp 6 I I:Aj W1 gO 0 (ptC (AT f l)++jO))) (hc.hp hp) (hv.hp hp) (ht.hp hp)) ?_
   intro V2 hV2
   have hV2:V2.OK 2 (AT f l).length (ptC (Bp (AT f l))):=hV2
   refine wP I (Aa (zE (zO ?_)))
   refine BU 7 I ?_
   exact Av tH I (.tmp I) V2 (by rw[e0,hlb]) (by rw[e0,hlb];exact hV2) fun W1 hp=>by
    rw[e0]
    exact Ap.of_hp (hp.pick (l:=[V2.bx 35 (ptC (Bp (AT f l)))]) [9] (by decide) I)
-- BOXES 12
-- CODE2
structure T5 (f:AW):Prop where
 a:okQ f.a
 b:okQ f.b
 c:okQ f.c
 n:f.a≠0∨f.b≠0
theorem Ok (f:AW) (hf:T5 f) (l:List Ak) (hz:ClZ f l) (p:Option Addr) (cap:Nat) (W:World) (h:GZ W p l):
  Ai Tryz.prog 12 #[slv p l.length cap,str (Ad f.a),str (Ad f.b),str (Ad f.c)] W (fun V:Vec=> .tuple #[V.val (Bs f l).length, .int .i64 0]) (fun V=>V.OK 2 (Bs f l).length (ptC (Bs f l))) (fun V=>[V.bx 35 (ptC (Bs f l))]):=by
 refine Ac (args:=[slv p l.length cap,str (Ad f.a),str (Ad f.b),str (Ad f.c)]) Tryz.func12 I I I ?_
 refine zA (zB (wP I (wP I (Aa (zE (zA (zA (zB (wP I (wP I (wP I (wP I ?_))))))))))))
 refine A8 Tryz.hZ tH I I I I I I I I I I I fun bS=> ?_
 refine wC I I (fun W1 hp=>HF l p cap f.a f.b f.c hf.a hf.b hf.c hf.n bS 3 W1 (h.hp hp) (Aj.of_bx hp 0 I I)) (wP I (Aa (zE (zA (zB (wP I (wP I (Aa (zE (zS I (zI (zE (zA ?_)))))))))))))
 refine zB ?_
 refine Ay Tryz.hZ tH I I I I I I I I ?_
 (refine At rfl rfl rfl rfl ?_;intro)
 refine wP I (Aa ?_)
 rename_i bC
 refine zE (zA (zB ?_))
 iterate 5 refine wP I ?_
 refine wD (X:=Vec) I I (fun W1 hp=>N9 bC f l hz h.poly h.n3 h.n p cap W1 (h.hp hp).m (BB hp 1 I) (h.hp hp).v (h.hp hp).t) ?_
 intro V hV
 have hV:V.OK 2 (Bs f l).length (ptC (Bs f l)):=hV
 refine wP I (Aa (zE (zA (zA (zB (wP I ?_))))))
 refine AB I I I I ?_
 refine wP I (wB 1 I I I (wP I (Aa (zE (zS I (zI (zE (zA (zB (wP I (wP I (wP I (Aa ?_)))))))))))))
 exact zE (zO (A7 tH I (.tmp I) (.tmp I) V I hV fun W1 hp=>Ap.of_hp (hp.pick (l:=[V.bx 35 (ptC (Bs f l))]) [2] (by decide) I)))
theorem Mm : ∃ f1 f2 : Field, (Tryz.prog.fieldsOf 35).toList = [f1, f2] ∧ (f1.name ≠ "_" ∧ f1.type = 23 ∧ f1.offset = 0) ∧ (f2.name ≠ "_" ∧ f2.type = 23 ∧ f2.offset = 1) := by
 unfold Program.fieldsOf;rw[Tryz.underlying35]
 exact⟨_,_,I,⟨by decide,I,I⟩,⟨by decide,I,I⟩⟩
theorem Vr (W:World) (a b c d:List UInt8):(binOp .eql 35 (.agg #[str a,str b]) (.agg #[str c,str d])).run Tryz.prog W= .ok (.bool (decide (a=c∧b=d))) W:=by
 rw[run_eql_struct,run_equalIn_agg W 9999 35 _ _ (by kernel_rfl) (by kernel_rfl)]
 obtain⟨f1,f2,hf,⟨n1,t1,o1⟩,⟨n2,t2,o2⟩⟩:=Mm
 rw[hf]
 have e: ∀(x y:List UInt8) W,(Op.equalIn 9999 23 (str x) (str y)).run Tryz.prog W= .ok (decide (x=y)) W:=fun x y W=>by
  rw[run_equalIn_string W 9998 23 _ _ Tryz.underlying23,Be]
 by_cases h1:a=c<;>by_cases h2:b=d<;>simp[Op.eqFields,part,Tryz.isAgg23,e,h1,h2,n1,n2,t1,t2,o1,o2]
theorem VE (W:World) (a b c d:List UInt8):(binOp .neq 35 (.agg #[str a,str b]) (.agg #[str c,str d])).run Tryz.prog W= .ok (.bool (!decide (a=c∧b=d))) W:=by
 rw[run_neq_struct,run_equalIn_agg W 9999 35 _ _ (by kernel_rfl) (by kernel_rfl)]
 obtain⟨f1,f2,hf,⟨n1,t1,o1⟩,⟨n2,t2,o2⟩⟩:=Mm
 rw[hf]
 have e: ∀(x y:List UInt8) W,(Op.equalIn 9999 23 (str x) (str y)).run Tryz.prog W= .ok (decide (x=y)) W:=fun x y W=>by
  rw[run_equalIn_string W 9998 23 _ _ Tryz.underlying23,Be]
 by_cases h1:a=c<;>by_cases h2:b=d<;>simp[Op.eqFields,part,Tryz.isAgg23,e,h1,h2,n1,n2,t1,t2,o1,o2]
section
variable {r:Option Nat} {n:Nat} {N:Nat} {D:List Deferred} {ops:List Oper} {Q:Exit→Act→World→Prop} {o:Oper} {rest:List Oper} {env:Env} {A A2:World→Prop} {R:Act→World→Prop}
theorem AQ (a b c d:List UInt8) {t:Nat} {u:TypeId} {x y:Operand} (hg:A6 ops N env o=some true) (hd:o.dst=some t) (ho:o.op= .binOp .eql 35 x y u)
  (hx:evO N env x=some (.agg #[str a,str b])) (hy:evO N env y=some (.agg #[str c,str d]))
  (h:WL r n Tryz.prog N D ops Q rest ((t, .bool (decide (a=c∧b=d)))::env) A):WL r n Tryz.prog N D ops Q (o::rest) env A:=
 Dy hg hd (fun c e=>by rw[ho] at e;cases e) (fun _ W hρ _=>by
  have hm:Tryz.prog.eqGuardType Tryz.prog.depth 35=false:=by kernel_rfl
  simp[execOp,ho,hρ _ _ hx,hρ _ _ hy,run_eqGuard_agg W .eql 35 x y _ _ hm,Vr]) h
theorem Ud (a b c d:List UInt8) {t:Nat} {u:TypeId} {x y:Operand} (hg:A6 ops N env o=some true) (hd:o.dst=some t) (ho:o.op= .binOp .neq 35 x y u)
  (hx:evO N env x=some (.agg #[str a,str b])) (hy:evO N env y=some (.agg #[str c,str d]))
  (h:WQ Tryz.prog N D ops A2 R rest ((t, .bool (!decide (a=c∧b=d)))::env) A):WQ Tryz.prog N D ops A2 R (o::rest) env A:=
 Eg hg hd (fun c e=>by rw[ho] at e;cases e) (fun _ W hρ _=>by
  have hm:Tryz.prog.eqGuardType Tryz.prog.depth 35=false:=by kernel_rfl
  simp[execOp,ho,hρ _ _ hx,hρ _ _ hy,run_eqGuard_agg W .neq 35 x y _ _ hm,VE]) h
end
theorem IU (l:List Ak) (hn:l.length≤100000) (p q:Option Addr) (cap cap2:Nat) (W:World) (hA:Cf W p l) (hB:Cf W q l):
  Ai Tryz.prog 23 #[slv p l.length cap,slv q l.length cap2] W (fun _:Unit=> .bool true) (fun _=>True) (fun _=>[]):=by
 refine Ac (args:=[slv p l.length cap,slv q l.length cap2]) Tryz.func23 I I I ?_
 refine zA (zB (wP I (Aa (zE (zA (zA (zB ?_)))))))
 iterate 5 refine wP I ?_
 refine wU 10 false I (bne_eq_false_iff_eq.2 I) (Aa (zE (zS I (zI (zE (zA (zA (zB (wP I (wP I (wP I (Aa (zE ?_)))))))))))))
 refine zH ?_
 refine A9 (X:=Nat) (fun i=>[(0,slv p l.length cap),(1,slv q l.length cap2),(12, .int .i64 (l.length:Nat)),(13, .int .i64 (i:Nat))]) (fun _=>[]) (fun i=>i≤l.length) (fun i=>l.length-i) 0 (Nat.zero_le _) ⟨I,I,I,I,tO⟩ [] I ?_
 intro i hi
 have hi:i≤l.length:=hi
 refine zA (zB (wP I ?_))
 by_cases hlt:i<l.length
 ·refine wU 14 true I (dT (by omega)) (Aa (zE (zA (zR I (zI (zE (zA (zH (zA (zB ?_))))))))))
  obtain⟨g,off,e1,h1⟩:=hA.at_ hlt
  obtain⟨g2,off2,e2,h2⟩:=hB.at_ hlt
  have h1:=h1 i hlt
  have h2:=h2 i hlt
  obtain⟨x,hx⟩: ∃x,x=l[i]:=⟨_,rfl⟩
  rw[←hx] at h1 h2
  subst e1 e2
  refine wP I (wP I (Aa (zE (zA (zU (qP I (qP I ?_)))))))
  refine qJ ?_
  refine qL 0 I I (fun W1 hp=>h1.hp hp) I (qP I (qP I ?_))
  refine qJ ?_
  refine qL 0 I I (fun W1 hp=>h2.hp hp) I ?_
  refine Ud (Ad x.1) (Ad x.2) (Ad x.1) (Ad x.2) I I I I I ?_
  exact qU 24 false I (by rw[dT ⟨I,I⟩];rfl) (AS (Aa (zE (zS I (zI (zN (zE (zB (wP I (wV 25 ((i+1:Nat):Int) I (Ax (by omega)) (wP I (Aa (A4 (i+1) hlt (by show l.length-(i+1)<l.length-i;omega) ⟨I,I,I,I,tO⟩ [] I)))))))))))))
 refine wU 14 false I (dF (by omega)) (Aa (zE (zA (zS I (zJ (zK (zK (zL (zE (zA (zB (wP I (Aa ?_)))))))))))))
 exact zE (zO (wR1 I I I))
-- BOXES 12
-- CODE2
theorem PH {N:Nat} {D:List Deferred} {Q:Exit→Act→World→Prop} {ex:Exit} {env:Env} {W0:World} {bxs bxs':List Bx} (e:bxs=bxs') (h:NE N D Q ex env (Hp W0 bxs')):NE N D Q ex env (Hp W0 bxs):=e▸h
theorem TZ:Ad 2=[50]:=(congrArg Ad (show(2:Rat)=q2 2 1 by decide+kernel)).trans ns2
theorem Uv:Ad 3=[51]:=(congrArg Ad (show(3:Rat)=q2 3 1 by decide+kernel)).trans ns3
structure Pr (p q:Ak):Prop where
 x:Sz2 p.1 q.2
 y:Sz2 q.1 p.2
 s:Sz2 (p.1*q.2) (q.1*p.2)
theorem JI (c:Nat) (p q:Ak) (hz:Pr p q) (W:World) (hc:CD W c) (hv:BO W) (ht:AI W):
  Ai Tryz.prog 46 #[Ag c,sdV p q] W (fun _:Unit=>str (Ad (Ft p q))) (fun _=>True) (fun _=>[]):=by
 refine Ac (args:=[Ag c,sdV p q]) Tryz.func46 I I I ?_
 refine zA (zB ?_)
 (refine At rfl rfl rfl rfl ?_;intro)
 refine wP I (Aa (zE (zA (zU (qP I ?_)))))
 refine AR Tryz.underlying66 Tryz.sizeOf35 I I I I I ⟨by decide,by decide⟩ ?_
 refine qP I (qB 0 I I I ?_)
 refine AR Tryz.underlying66 Tryz.sizeOf35 I I I I I ⟨by decide,by decide⟩ ?_
 refine qP I (qB 0 I I I (qC I I (fun W hp=>Cq c p.1 q.2 hz.x W (hc.hp hp) (hv.hp hp) (ht.hp hp)) (qP I ?_)))
 refine AR Tryz.underlying66 Tryz.sizeOf35 I I I I I ⟨by decide,by decide⟩ ?_
 refine qP I (qB 0 I I I ?_)
 refine AR Tryz.underlying66 Tryz.sizeOf35 I I I I I ⟨by decide,by decide⟩ ?_
 refine qP I (qB 0 I I I (qC I I (fun W hp=>Cq c q.1 p.2 hz.y W (hc.hp hp) (hv.hp hp) (ht.hp hp)) (qP I (qP I (AS (Aa (zE (zA (zB (wP I (wP I (wP I (wC I I (fun W hp=>CK c (p.1*q.2) (q.1*p.2) hz.s W (hc.hp hp) (hv.hp hp) (ht.hp hp)) ?_)))))))))))))
 exact wP I (Aa (zE (zO (wR1 I I I))))
def crK (l:List Ak) (k:Nat):Rat:=HR (fun i=>Ft (Ae l i) (Ae l (i+1))) k
theorem Om (l:List Ak) (k:Nat):crK l (k+1)=crK l k+Ft (Ae l k) (Ae l (k+1)):=rfl
structure ArZ (l:List Ak):Prop where
 d: ∀i,i<l.length→Pr (Ae l i) (Ae l (i+1))
 s: ∀i,i<l.length→Sz2 (crK l i) (Ft (Ae l i) (Ae l (i+1)))
 h:Sz2 (CL l) 2
abbrev caB (c:Nat):Bx:=⟨c,61,[.int .i64 0],true,none⟩
abbrev nuB (b:Nat) (q:Rat):Bx:=⟨b,23,[str (Ad q)],true,none⟩
theorem Oi (l:List Ak) (hz:ArZ l) (p:Option Addr) (cap:Nat) (W:World) (h:GZ W p l):
  Ai Tryz.prog 15 #[slv p l.length cap] W (fun _:Unit=> .tuple #[str (Ad (CL l/2)), .int .i64 0]) (fun _=>True) (fun _=>[]):=by
 have hn:=h.n
 refine Ac (args:=[slv p l.length cap]) Tryz.func15 I I I ?_
 refine zA (zB (wP I (wP I (Aa (zE (zA (zA (zB (wP I (wC I I (fun W1 hp=>HB l p cap W1 (h.hp hp)) (wP I (Aa (zE ?_)))))))))))))
 refine zA (zB (wP I (wP I (Aa (zE (zS I (zI (zE (zA (zB ?_))))))))))
 refine Ay Tryz.hZ tH I I I I I I I I ?_
 (refine At rfl rfl rfl rfl ?_;intro)
 (refine Af Tryz.hZ rfl rfl rfl rfl ?_;intro)
 (refine Af Tryz.hZ rfl rfl rfl rfl ?_;intro)
 refine wS 1 I I I (wS 2 I I I (Aa ?_))
 rename_i bC b5 b6
 refine PH (bxs':=[caB bC,ckB b5 bC,nuB b6 (crK l 0)]) (by show _=[caB bC,ckB b5 bC,nuB b6 0];rw[nuB,DO];rfl) ?_
 refine zE (zA (zA (zB (wP I ?_))))
 refine wD (X:=Nat) I I (fun W1 _=>C3 p l.length cap W1) ?_
 intro bp _
 refine Aa (zE (zH ?_))
 refine DM (X:=Nat) (fun k=>[caB bC,ckB b5 bC,nuB b6 (crK l k),lsB bp (slv p l.length cap)])
  (fun j x=>x=j) (fun _ _=>False) 0 rfl (by kernel_rfl) (CF l bp p cap (by omega)) (fun _=>rfl)
  rfl [] rfl (fun k x W1 _ hp=>⟨Aj.of_bx hp 3 rfl rfl,(h.hp hp).m⟩) ?_ ?_ (fun _ _ _ _ _ h=>h.elim)
 ·rintro k k' d l' rec L hk e1 hrec
  obtain rfl:k'=k:=e1
  have hk:k'<l.length:=hk
  have hsu:=Om l k'
  refine zB ?_
  (refine Af Tryz.hZ rfl rfl rfl rfl ?_;intro)
  refine wS 7 I I I (Aa ?_)
  rename_i b8
  refine C9 6 hrec I ?_
  refine Bj ?_
  refine AE (X:=Unit) [true,true,true,true,true,true,false] (fun _=>[(5,Ag b5)]) (fun _=>[AL L,caB bC,ckB b5 bC,nuB b6 (crK l (k'+1)),lsB bp (slv p l.length cap),Bz d,Ba l' rec .busy none])
   1 [AL L,caB bC,ckB b5 bC,nuB b6 (crK l k'),lsB bp (slv p l.length cap),Bz d,Ba l' rec .busy none,⟨b8,66,(sdV (Ae l k') (Ae l (k'+1))).cells.toList,true,none⟩] Tryz.mixed (by kernel_rfl) ?_ ?_
  ·refine qB 2 I I I (qB 3 I I I (qB 2 I I I (qB 7 I I I (qC I I (fun W1 hp=>JI bC (Ae l k') (Ae l (k'+1)) (hz.d k' hk) W1 (BB hp 1 I) (h.hp hp).v (h.hp hp).t) (qC I I (fun W1 hp=>CO bC (crK l k') (Ft (Ae l k') (Ae l (k'+1))) (hz.s k' hk) W1 (BB hp 1 I) (h.hp hp).v (h.hp hp).t) (Bq ?_))))))
   rw[←hsu]
   refine wX (wZ (wS 3 I I I (Aa (Ab ?_))))
   refine AD I (by kernel_rfl) ?_
   exact Al () ⟨I,tO⟩ [0,1,2,3,4,5,6] (by decide) I
  intro _
  exact zN (BW 6 (k'+1) hrec I I [] I)
 ·rintro k' d l' rec e1
  obtain rfl:k'=l.length:=e1
  refine zN (zE (zA (zA (zB (wB 1 I I I (wB 2 I I I (wC I I (fun W1 hp=>(by have:=G8 bC (CL l) 2 hz.h (by decide) W1 (BB hp 0 I) (h.hp hp).v (h.hp hp).t;rwa [TZ] at this)) (wP I (Aa (zE (zA (zB (wB 1 I I I ?_)))))))))))))
  refine AB I I I I ?_
  refine wP I (wB 0 I I I (wP I (Aa (zE (zR I (zA (zB (wP I (wP I (wP I (Aa (zE (zO ?_)))))))))))))
  refine zP ?_
  refine BU 4 I ?_
  exact wR2 I I I
-- BOXES 12
-- CODE2
def moX (l:List Ak) (k:Nat):Rat:=HR (fun i=>((Ae l i).1+(Ae l (i+1)).1)*Ft (Ae l i) (Ae l (i+1))) k
def moY (l:List Ak) (k:Nat):Rat:=HR (fun i=>((Ae l i).2+(Ae l (i+1)).2)*Ft (Ae l i) (Ae l (i+1))) k
theorem SH (l:List Ak) (k:Nat):moX l (k+1)=moX l k+((Ae l k).1+(Ae l (k+1)).1)*Ft (Ae l k) (Ae l (k+1)):=rfl
theorem SN (l:List Ak) (k:Nat):moY l (k+1)=moY l k+((Ae l k).2+(Ae l (k+1)).2)*Ft (Ae l k) (Ae l (k+1)):=rfl
structure CeZ (l:List Ak):Prop where
 d: ∀i,i<l.length→Pr (Ae l i) (Ae l (i+1))
 s: ∀i,i<l.length→Sz2 (crK l i) (Ft (Ae l i) (Ae l (i+1)))
 x1: ∀i,i<l.length→Sz2 (Ae l i).1 (Ae l (i+1)).1
 x2: ∀i,i<l.length→Sz2 ((Ae l i).1+(Ae l (i+1)).1) (Ft (Ae l i) (Ae l (i+1)))
 x3: ∀i,i<l.length→Sz2 (moX l i) (((Ae l i).1+(Ae l (i+1)).1)*Ft (Ae l i) (Ae l (i+1)))
 y1: ∀i,i<l.length→Sz2 (Ae l i).2 (Ae l (i+1)).2
 y2: ∀i,i<l.length→Sz2 ((Ae l i).2+(Ae l (i+1)).2) (Ft (Ae l i) (Ae l (i+1)))
 y3: ∀i,i<l.length→Sz2 (moY l i) (((Ae l i).2+(Ae l (i+1)).2)*Ft (Ae l i) (Ae l (i+1)))
 m:Sz2 3 (CL l)
 nz:(3*CL l).num≠0
 dx:Sz2 (HY l) (3*CL l)
 dy:Sz2 (HP l) (3*CL l)
abbrev ptB (b:Nat) (a c:List UInt8):Bx:=⟨b,35,[str a,str c],true,none⟩
theorem LM (l:List Ak) (hz:CeZ l) (p:Option Addr) (cap:Nat) (W:World) (h:GZ W p l):
  Ai Tryz.prog 35 #[slv p l.length cap] W (fun _:Unit=> .tuple #[.agg #[str (Ad (HY l/(3*CL l))),str (Ad (HP l/(3*CL l)))], .int .i64 0]) (fun _=>True) (fun _=>[]):=by
 have hn:=h.n
 refine Ac (args:=[slv p l.length cap]) Tryz.func35 I I I ?_
 refine zA (zB ?_)
 (refine Af Tryz.hZ rfl rfl rfl rfl ?_;intro)
 refine wP I (Aa ?_)
 rename_i b2
 refine zE (zA (zA (zB (wP I (wC I I (fun W1 hp=>HB l p cap W1 (h.hp hp)) (wP I (Aa (zE (zA (zB (wP I (wP I (Aa ?_)))))))))))))
 refine zE (zS I (zI (zE (zA (zB ?_)))))
 refine Ay Tryz.hZ tH I I I I I I I I ?_
 (refine At rfl rfl rfl rfl ?_;intro)
 (refine Af Tryz.hZ rfl rfl rfl rfl ?_;intro)
 refine wS 2 I I I (Aa ?_)
 rename_i bC b5
 refine zE (zA (zB ?_))
 (refine Af Tryz.hZ rfl rfl rfl rfl ?_;intro)
 (refine Af Tryz.hZ rfl rfl rfl rfl ?_;intro)
 (refine Af Tryz.hZ rfl rfl rfl rfl ?_;intro)
 refine wS 3 I I I (wS 4 I I I (wS 5 I I I (Aa ?_)))
 rename_i b6 b7 b8
 refine PH (bxs':=[ptB b2 [] [],caB bC,ckB b5 bC,nuB b6 (moX l 0),nuB b7 (moY l 0),nuB b8 (crK l 0)]) (by show _=[ptB b2 [] [],caB bC,ckB b5 bC,nuB b6 0,nuB b7 0,nuB b8 0];rw[nuB,nuB,nuB,DO];rfl) ?_
 refine zE (zA (zA (zB (wP I ?_))))
 refine wD (X:=Nat) I I (fun W1 _=>C3 p l.length cap W1) ?_
 intro bp _
 refine Aa (zE (zH ?_))
 refine DM (X:=Nat) (fun k=>[ptB b2 [] [],caB bC,ckB b5 bC,nuB b6 (moX l k),nuB b7 (moY l k),nuB b8 (crK l k),lsB bp (slv p l.length cap)])
  (fun j x=>x=j) (fun _ _=>False) 0 rfl (by kernel_rfl) (CF l bp p cap (by omega)) (fun _=>rfl)
  rfl [] rfl (fun k x W1 _ hp=>⟨Aj.of_bx hp 6 rfl rfl,(h.hp hp).m⟩) ?_ ?_ (fun _ _ _ _ _ h=>h.elim)
 ·rintro k k' d l' rec L hk e1 hrec
  obtain rfl:k'=k:=e1
  have hk:k'<l.length:=hk
  have hsu:=Om l k'
  have hsx:=SH l k'
  have hsy:=SN l k'
  refine zB ?_
  (refine Af Tryz.hZ rfl rfl rfl rfl ?_;intro)
  refine wS 10 I I I (Aa ?_)
  rename_i b10
  refine C9 9 hrec I ?_
  refine Bj (zA (zB (wB 3 I I I (wB 10 I I I (wC I I (fun W1 hp=>JI bC (Ae l k') (Ae l (k'+1)) (hz.d k' hk) W1 (BB hp 2 I) (h.hp hp).v (h.hp hp).t) (wP I (Aa (zE (Ar ?_)))))))))
  refine AE (X:=Unit) [true,true,true,true,true,true,true,true,true,true,true,true,true,true,false] (fun _=>[(5,Ag b5),(6,Ag b6),(7,Ag b7),(8,Ag b8),(10,Ag b10),(11,str (Ad (Ft (Ae l k') (Ae l (k'+1)))))]) (fun _=>[AL L,ptB b2 [] [],caB bC,ckB b5 bC,nuB b6 (moX l (k'+1)),nuB b7 (moY l k'),nuB b8 (crK l k'),lsB bp (slv p l.length cap),Bz d,Ba l' rec .busy none,⟨b10,66,(sdV (Ae l k') (Ae l (k'+1))).cells.toList,true,none⟩])
   1 [AL L,ptB b2 [] [],caB bC,ckB b5 bC,nuB b6 (moX l k'),nuB b7 (moY l k'),nuB b8 (crK l k'),lsB bp (slv p l.length cap),Bz d,Ba l' rec .busy none,⟨b10,66,(sdV (Ae l k') (Ae l (k'+1))).cells.toList,true,none⟩] Tryz.mixed (by kernel_rfl) ?_ ?_
  ·refine qB 3 I I I (qB 4 I I I (qB 3 I I I (qB 3 I I I ?_)))
   refine AR Tryz.underlying66 Tryz.sizeOf35 I I I I I ⟨by decide,by decide⟩ ?_
   refine qP I (qB 10 I I I ?_)
   refine AR Tryz.underlying66 Tryz.sizeOf35 I I I I I ⟨by decide,by decide⟩ ?_
   refine qP I (qB 10 I I I (qC I I (fun W1 hp=>CO bC (Ae l k').1 (Ae l (k'+1)).1 (hz.x1 k' hk) W1 (BB hp 2 I) (h.hp hp).v (h.hp hp).t) (qP I (qC I I (fun W1 hp=>Cq bC ((Ae l k').1+(Ae l (k'+1)).1) (Ft (Ae l k') (Ae l (k'+1))) (hz.x2 k' hk) W1 (BB hp 2 I) (h.hp hp).v (h.hp hp).t) (qC I I (fun W1 hp=>CO bC (moX l k') _ (hz.x3 k' hk) W1 (BB hp 2 I) (h.hp hp).v (h.hp hp).t) (Bq ?_))))))
   rw[←hsx]
   refine wX (wZ (wS 4 I I I (Aa (Ab ?_))))
   refine AD I (by kernel_rfl) ?_
   exact Al () ⟨I,I,I,I,I,I,tO⟩ [0,1,2,3,4,5,6,7,8,9,10] (by decide) I
  intro _
  refine zE (Ar ?_)
  refine AE (X:=Unit) [true,true,true,true,true,true,true,true,true,true,true,true,true,true,false] (fun _=>[(5,Ag b5),(8,Ag b8),(11,str (Ad (Ft (Ae l k') (Ae l (k'+1)))))]) (fun _=>[AL L,ptB b2 [] [],caB bC,ckB b5 bC,nuB b6 (moX l (k'+1)),nuB b7 (moY l (k'+1)),nuB b8 (crK l k'),lsB bp (slv p l.length cap),Bz d,Ba l' rec .busy none])
   1 [AL L,ptB b2 [] [],caB bC,ckB b5 bC,nuB b6 (moX l (k'+1)),nuB b7 (moY l k'),nuB b8 (crK l k'),lsB bp (slv p l.length cap),Bz d,Ba l' rec .busy none,⟨b10,66,(sdV (Ae l k') (Ae l (k'+1))).cells.toList,true,none⟩] Tryz.mixed (by kernel_rfl) ?_ ?_
  ·refine qB 3 I I I (qB 5 I I I (qB 3 I I I (qB 3 I I I ?_)))
   refine AR Tryz.underlying66 Tryz.sizeOf35 I I I I I ⟨by decide,by decide⟩ ?_
   refine qP I (qB 10 I I I ?_)
   refine AR Tryz.underlying66 Tryz.sizeOf35 I I I I I ⟨by decide,by decide⟩ ?_
   refine qP I (qB 10 I I I (qC I I (fun W1 hp=>CO bC (Ae l k').2 (Ae l (k'+1)).2 (hz.y1 k' hk) W1 (BB hp 2 I) (h.hp hp).v (h.hp hp).t) (qP I (qC I I (fun W1 hp=>Cq bC ((Ae l k').2+(Ae l (k'+1)).2) (Ft (Ae l k') (Ae l (k'+1))) (hz.y2 k' hk) W1 (BB hp 2 I) (h.hp hp).v (h.hp hp).t) (qC I I (fun W1 hp=>CO bC (moY l k') _ (hz.y3 k' hk) W1 (BB hp 2 I) (h.hp hp).v (h.hp hp).t) (Bq ?_))))))
   rw[←hsy]
   refine wX (wZ (wS 5 I I I (Aa (Ab ?_))))
   refine AD I (by kernel_rfl) ?_
   exact Al () ⟨I,I,I,tO⟩ [0,1,2,3,4,5,6,7,8,9] (by decide) I
  intro _
  refine zE (zB (wB 3 I I I (wB 6 I I I (wP I (wC I I (fun W1 hp=>CO bC (crK l k') (Ft (Ae l k') (Ae l (k'+1))) (hz.s k' hk) W1 (BB hp 2 I) (h.hp hp).v (h.hp hp).t) ?_)))))
  rw[←hsu]
  exact wS 6 I I I (Aa (zN (BW 9 (k'+1) hrec I I [] I)))
 ·rintro k' d l' rec e1
  obtain rfl:k'=l.length:=e1
  have ec:crK l l.length=CL l:=rfl
  have ex:moX l l.length=HY l:=rfl
  have ey:moY l l.length=HP l:=rfl
  rw[ec,ex,ey]
  refine zN (zE (zA (zB (wB 2 I I I (wB 5 I I I (wC I I (fun W1 hp=>(by have:=Cq bC 3 (CL l) hz.m W1 (BB hp 1 I) (h.hp hp).v (h.hp hp).t;rwa [Uv] at this)) (wS 5 I I I (Aa (zE (Ar ?_))))))))))
  refine AE (X:=Nat) [true,true,true,true,true,true,true,true,true,false,false] (fun b=>[(2,Ag b2),(5,Ag b5),(12,Ag b)]) (fun b=>[ptB b2 [] [],caB bC,ckB b5 bC,Bz d,ptB b (Ad (HY l/(3*CL l))) (Ad (HP l/(3*CL l)))])
   2 [ptB b2 [] [],caB bC,ckB b5 bC,nuB b6 (HY l),nuB b7 (HP l),nuB b8 (3*CL l),lsB bp (slv p l.length cap),Bz d,Ba l' rec .exhausted none] Tryz.mixed (by kernel_rfl) ?_ ?_
  ·refine qB 2 I I I (qB 3 I I I (qB 5 I I I (qC I I (fun W1 hp=>G8 bC (HY l) (3*CL l) hz.dx hz.nz W1 (BB hp 1 I) (h.hp hp).v (h.hp hp).t) (qB 2 I I I (qB 4 I I I (qB 5 I I I (qC I I (fun W1 hp=>G8 bC (HP l) (3*CL l) hz.dy hz.nz W1 (BB hp 1 I) (h.hp hp).v (h.hp hp).t) ?_)))))))
   refine EZ Tryz.hZ tH I I I I I I I I ?_
   refine Bq (wX (wZ ?_))
   refine Af Tryz.hZ rfl rfl rfl rfl ?_;intro b
   refine Aa (Ab (wX (wZ (wS 9 I I I (Aa (Ab ?_))))))
   refine Au I (by((repeat (first|refine A3.same ?_|refine A3.off I ?_));exact tO)) ?_
   exact Al b ⟨I,I,I,tO⟩ [0,1,2,7,9] (by decide) I
  intro b12
  refine zE (zA (zA (zB (wB 2 I I I ?_))))
  refine AB I I I I ?_
  refine wP I (wB 1 I I I (wP I (Aa (zE (zS I (zI (zE (zA (zB (wB 4 I I I (wS 0 I I I (wP I (Aa ?_)))))))))))))
  refine zE (zO ?_)
  refine BU 3 I ?_
  exact A7 tH I (.cell 0 I I I I I) (.tmp I) () I tO fun W _=>Ap.nil _ _
-- BOXES 3
-- CODE2
section
variable {P:Program} {W0:World} {N:Nat} {D:List Deferred} {ops:List Oper} {o:Oper} {rest:List Oper} {env:Env} {bxs:List Bx} {A2:World→Prop} {R:Act→World→Prop}
theorem R6 {ρ:Operand→Value} {c:Call} {f:Operand} {g:Nat} {first vs:List Value} {W:World} (ho:o.op= .call c) (hc:c.callee= .value f) (hf:ρ f= .func (.func g) first.toArray #[]) (ha:c.args.map ρ=vs.toArray) (hE:Bi P g=true):
  (execOp ρ o).run P W= .ok (.enter g (first++vs).toArray) W:=by
 simp only[execOp,ho,resolve,hc,hf,ha,Sem.run_bind,Deferred.ofValue,Sem.run_pure,Result.andThen_ok,invoke,F1 hE]
 simp
theorem SK {c:Call} {f:Operand} {g d:Nat} {first vs:List Value} {v:Value}
  (hg:A6 ops N env o=some true) (hd:o.dst=some d) (ho:o.op= .call c) (hc:c.callee= .value f) (hf:evO N env f=some (.func (.func g) first.toArray #[])) (ha:Cu (evO N env) c.args.toList=some vs) (hE:Bi P g=true)
  (hC: ∀W,Hp W0 bxs W→Ai P g (first++vs).toArray W (fun _:Unit=>v) (fun _=>True) (fun _=>[]))
  (h:WQ P N D ops A2 R rest ((d,v)::env) (Hp W0 bxs)):WQ P N D ops A2 R (o::rest) env (Hp W0 bxs):=
 Kv hd (fun a W h1 _ hp=>by
  unfold OpS
  rw[DP h1 hg,if_pos rfl]
  refine⟨fun c e=>(by rw[ho] at e;cases e), .inr ⟨g,_,R6 ho hc (AA h1 _ _ hf) (Et (AA h1) ha) hE,(hC W hp).out.mono ?_⟩⟩
  rintro e W' ⟨x,he,_,hb,_⟩
  exact⟨he,hp.grow hb,hb⟩) h
end
theorem PV (x:Nat) (h:x≤18446744073709551615) (W:World):Ai Tryz.prog 134 #[.int .u64 (x:Nat)] W (fun _:Unit=> .int .i64 (Lib.bitLen x)) (fun _=>True) (fun _=>[]):=by
 refine Ai.of1 ((Go.Proofs.Any.bits_Len (P:=Tryz.prog) (ρ:=Tryz.lays125_ren) { Tryz.lays125 with } (x:Int) W (by omega) (by omega)).mono ?_)
 rintro e w' ⟨rfl,rfl⟩
 exact⟨I,Below.refl _ _⟩
def DS (x y:Ak):List Ak:=if Cb y x=true then[y,x] else[x,y]
abbrev lsF (c:Nat):Value:= .func (.func 71) #[Ag c] #[]
abbrev DE (g:Nat) (l:List Ak) (junk:List Value):Bx:=⟨g,35,ptC l++junk,true,none⟩
theorem S7 {W0 W:World} {bxs:List Bx} (hp:Hp W0 bxs W) (k:Nat) {g:Nat} {x y:Ak} {junk:List Value} (hk:nth bxs k=some (DE g [x,y] junk)):Aj W g (0+0*2) [str (Ad x.1),str (Ad x.2)]:=
 Cc (a:=[str (Ad x.1),str (Ad x.2)]) (b:=[str (Ad y.1),str (Ad y.2)]++junk) (Aj.of_bx hp k hk rfl)
theorem Sd {W0 W:World} {bxs:List Bx} (hp:Hp W0 bxs W) (k:Nat) {g:Nat} {x y:Ak} {junk:List Value} (hk:nth bxs k=some (DE g [x,y] junk)):Aj W g (0+1*2) [str (Ad y.1),str (Ad y.2)]:=
 Cc (a:=[str (Ad y.1),str (Ad y.2)]) (b:=junk) (Ep (a:=[str (Ad x.1),str (Ad x.2)]) (b:=[str (Ad y.1),str (Ad y.2)]++junk) (Aj.of_bx hp k hk rfl))
structure SrN (c g:Nat) (x y:Ak) (W:World):Prop where
 k: ∀W',Ie W W' g→CD W' c∧BO W'∧AI W'
 s1:Sz2 y.1 x.1
 s2:Sz2 y.2 x.2
theorem SrN.trans {c g:Nat} {x y:Ak} {W W':World} (h:SrN c g x y W) (hk:Ie W W' g):SrN c g x y W':=⟨fun W2 h2=>h.k W2 (hk.trans h2),h.s1,h.s2⟩
theorem P6 (c:Nat) (W:World) (g cap:Nat) (x y:Ak) (junk:List Value) (hg:W.heap[g]? =some (.cells (ptC [x,y]++junk).toArray 35 (0,0))) (h:SrN c g x y W):
  Calls Tryz.prog 181 #[.slice (some ⟨g,0,none⟩) 2 cap, .int .i64 0, .int .i64 2,lsF c] W fun e W'=> ∃x1:Unit,e= .returned ((fun _=> .tuple #[]) x1)∧True∧JK W W' g ((fun _=>g) x1) ((fun _=> .cells (ptC (DS x y)++junk).toArray 35 (0,0)) x1):=by
 have key:Calls Tryz.prog 181 [.slice (some ⟨g,0,none⟩) 2 cap, .int .i64 0, .int .i64 2,lsF c].toArray W fun e W'=> ∃x1:Unit,e= .returned ((fun _=> .tuple #[]) x1)∧(fun _=>True) x1∧Below (Bn W).heap.size (Bn W) W'∧Ap (Bn W) W' ((fun _=>[AL (As W g),DE g (DS x y) junk]) x1):=by
  refine CM (X:=Unit) (val:=fun _=> .tuple #[]) (Φ:=fun _=>True) (nb:=fun _=>[AL (As W g),DE g (DS x y) junk]) (Hp.enterT (B:=DE g [x,y] junk) I hg) Tryz.func181 I I I ?_
  refine zA (zB (wP I (wP I (wP I (Aa (zE (zH ?_)))))))
  refine A9 (X:=Bool) (fun b=>[(0, .slice (some ⟨g,0,none⟩) 2 cap),(1, .int .i64 0),(2, .int .i64 2),(3,lsF c),(8, .int .i64 (if b then 2 else 1))]) (fun b=>[AL (As W g),DE g (if b then DS x y else[x,y]) junk]) (fun _=>True) (fun b=>if b then 0 else 1) false tO ⟨I,I,I,I,I,tO⟩ [] I ?_
  intro b _
  cases b with
  |true=>
   exact zA (zA (zB (wP I (wP I (wP I (Aa (zE (zS I (zJ (zK (zK (zL (Qy (X:=Unit) (val:=fun _=> .tuple #[]) (Φ:=fun _=>True) (nb:=fun _=>[AL (As W g),DE g (DS x y) junk]) (fn:=Tryz.f181) tH I () I tO fun W1 hp=>(hp.pick (l:=[AL (As W g),DE g (DS x y) junk]) [0,1] (by decide) I).own)))))))))))))
  |false=>
   refine zA (zA (zB (wP I (wP I (wP I (Aa (zE (zR I (zI (zE (zA (zH (zA ?_)))))))))))))
   refine zB (wP I (wP I (Aa (zE (zH ?_)))))
   refine A9 (X:=Bool) (fun b=>[(0, .slice (some ⟨g,0,none⟩) 2 cap),(1, .int .i64 0),(2, .int .i64 2),(3,lsF c),(8, .int .i64 1),(9, .int .i64 (if b then 0 else 1))]) (fun b=>[AL (As W g),DE g (if b then[y,x] else[x,y]) junk]) (fun b=>b=true→Cb y x=true) (fun b=>if b then 0 else 1) false (fun h=>by cases h) ⟨rfl,rfl,rfl,rfl,rfl,rfl,trivial⟩ [] rfl ?_
   intro b hb
   cases b with
   |true=>
    have hlt:=hb rfl
    have e:DS x y=[y,x]:=by unfold DS;rw[if_pos hlt]
    refine zA (zA (zU (qP I (qP I (qP I (qP I ?_))))))
    iterate 12 refine QM I I ?_
    refine qP I (AS (Aa (zE (zS I (zJ (zK (zK (zL (zN (zE (zB (wP I (wP I (wP I ?_))))))))))))))
    exact Aa (A4 true tO (by decide) ⟨I,I,I,I,I,tO⟩ [] (by show _=[AL (As W g),DE g (DS x y) junk];rw[e];rfl))
   |false=>
    refine zA (zA (zU ?_))
    iterate 7 refine qP I ?_
    refine qI I I (by decide) (by decide) (qL 0 I I (fun W1 hp=>Sd hp 1 I) I (qP I (qP I (qP I (qI I I (by decide) (by decide) (qL 0 I I (fun W1 hp=>S7 hp 1 I) I ?_))))))
    refine SK (first:=[Ag c]) I I I I I I (by kernel_rfl) (fun W1 hp=>(by
     obtain⟨hc,hv,ht⟩:=h.k W1 (Ke hg ⟨_,List.mem_cons_self ..⟩ hp)
     exact JE c y x h.s1 h.s2 W1 hc hv ht)) ?_
    refine qP I (qU 33 (Cb y x) I (MF y x) ?_)
    cases hlt:Cb y x with
    |false=>
     have e:DS x y=[x,y]:=by unfold DS;rw[hlt];rfl
     refine qP I (AS (Aa (zE (zS I (zJ (zK (zK (zL (zN (zE (zB (wP I (wP I (wP I ?_))))))))))))))
     exact Aa (A4 true tO (by decide) ⟨I,I,I,I,I,tO⟩ [] (by show _=[AL (As W g),DE g (DS x y) junk];rw[e];rfl))
    |true=>
     refine qP I (AS (Aa (zE (zR I (zI (zE (Ar (Bj ?_))))))))
     repeat refine Ar ?_
     refine AE (X:=Unit) [true,true,false,false,false,true,true,true,true,true,true,true,true,true,true,false,false,false] (fun _=>[(0, .slice (some ⟨g,0,none⟩) 2 cap),(1, .int .i64 0),(2, .int .i64 2),(3,lsF c),(8, .int .i64 1),(9, .int .i64 1)]) (fun _=>[AL (As W g),DE g [y,x] junk])
      6 [AL (As W g),DE g [x,y] junk] Tryz.mixed (by kernel_rfl) ?_ ?_
     ·refine qP I (qP I (qP I (qP I (qP I (qI I I (by decide) (by decide) (qL 0 I I (fun W1 hp=>S7 hp 1 I) I (qP I (qP I (qI I I (by decide) (by decide) (qL 0 I I (fun W1 hp=>Sd hp 1 I) I (qI I I (by decide) (by decide) (Bq (wX ?_)))))))))))))
      refine RS.cons ?_ (RS.cons ?_ (RS.cons ?_ (RS.nil)))
      ·refine wP I (Aa (Ab (wX ?_)))
       refine RS.cons ?_ (RS.cons ?_ (RS.nil))
       ·refine wP I (Aa (Ab (wX ?_)))
        refine RS.cons ?_ (RS.cons ?_ (RS.nil))
        ·refine wP I (Aa (Ab (wX (wZ ?_))))
         refine AJ 1 (ptC [x,x]++junk) tH I I I I I I I I I I (by show 0+1*2+2≤(ptC [x,y]++junk).length;rw[List.length_append,AG];show 4≤4+_;omega) I ?_
         refine Aa (Ab (wY (wZ (wI I I (by decide) (by decide) (Aa (Ab (wY (wZ ?_))))))))
         refine AJ 1 (ptC [y,x]++junk) tH I I I I I I I I I I (by show 0+0*2+2≤(ptC [x,x]++junk).length;rw[List.length_append,AG];show 2≤4+_;omega) I ?_
         refine Aa (Ab ?_)
         refine AD I (by kernel_rfl) ?_
         exact Al () ⟨I,I,I,I,I,I,tO⟩ [0,1] (by decide) I
        ·refine AJ 1 (ptC [x,x]++junk) tH I I I I I I I I I I (by show 0+1*2+2≤(ptC [x,y]++junk).length;rw[List.length_append,AG];show 4≤4+_;omega) I ?_
         refine Aa (Ab (wY (wZ (wP I (Aa (Ab (wY (wZ (wI I I (by decide) (by decide) (Aa (Ab (wY (wZ ?_)))))))))))))
         refine AJ 1 (ptC [y,x]++junk) tH I I I I I I I I I I (by show 0+0*2+2≤(ptC [x,x]++junk).length;rw[List.length_append,AG];show 2≤4+_;omega) I ?_
         refine Aa (Ab ?_)
         refine AD I (by kernel_rfl) ?_
         exact Al () ⟨I,I,I,I,I,I,tO⟩ [0,1] (by decide) I
       ·refine AJ 1 (ptC [x,x]++junk) tH I I I I I I I I I I (by show 0+1*2+2≤(ptC [x,y]++junk).length;rw[List.length_append,AG];show 4≤4+_;omega) I ?_
        refine Aa (Ab (wY (wZ (wP I (Aa (Ab (wY (wZ (wP I (Aa (Ab (wY (wZ ?_)))))))))))))
        refine wI I I (by decide) (by decide) (Aa (Ab (wY (wZ ?_))))
        refine AJ 1 (ptC [y,x]++junk) tH I I I I I I I I I I (by show 0+0*2+2≤(ptC [x,x]++junk).length;rw[List.length_append,AG];show 2≤4+_;omega) I ?_
        refine Aa (Ab ?_)
        refine AD I (by kernel_rfl) ?_
        exact Al () ⟨I,I,I,I,I,I,tO⟩ [0,1] (by decide) I
      ·refine wP I (Aa (Ab (wX ?_)))
       refine RS.cons ?_ (RS.cons ?_ (RS.cons ?_ (RS.nil)))
       ·refine wP I (Aa (Ab (wX ?_)))
        refine RS.cons ?_ (RS.cons ?_ (RS.nil))
        ·refine wP I (Aa (Ab (wX (wZ ?_))))
         refine AJ 1 (ptC [x,x]++junk) tH I I I I I I I I I I (by show 0+1*2+2≤(ptC [x,y]++junk).length;rw[List.length_append,AG];show 4≤4+_;omega) I ?_
         refine Aa (Ab (wY (wZ (wI I I (by decide) (by decide) (Aa (Ab (wY (wZ ?_))))))))
         refine AJ 1 (ptC [y,x]++junk) tH I I I I I I I I I I (by show 0+0*2+2≤(ptC [x,x]++junk).length;rw[List.length_append,AG];show 2≤4+_;omega) I ?_
         refine Aa (Ab ?_)
         refine AD I (by kernel_rfl) ?_
         exact Al () ⟨I,I,I,I,I,I,tO⟩ [0,1] (by decide) I
        ·refine AJ 1 (ptC [x,x]++junk) tH I I I I I I I I I I (by show 0+1*2+2≤(ptC [x,y]++junk).length;rw[List.length_append,AG];show 4≤4+_;omega) I ?_
         refine Aa (Ab (wY (wZ (wP I (Aa (Ab (wY (wZ (wI I I (by decide) (by decide) (Aa (Ab (wY (wZ ?_)))))))))))))
         refine AJ 1 (ptC [y,x]++junk) tH I I I I I I I I I I (by show 0+0*2+2≤(ptC [x,x]++junk).length;rw[List.length_append,AG];show 2≤4+_;omega) I ?_
         refine Aa (Ab ?_)
         refine AD I (by kernel_rfl) ?_
         exact Al () ⟨I,I,I,I,I,I,tO⟩ [0,1] (by decide) I
       ·refine wP I (Aa (Ab (wX ?_)))
        refine RS.cons ?_ (RS.cons ?_ (RS.nil))
        ·refine wP I (Aa (Ab (wX (wZ ?_))))
         refine AJ 1 (ptC [x,x]++junk) tH I I I I I I I I I I (by show 0+1*2+2≤(ptC [x,y]++junk).length;rw[List.length_append,AG];show 4≤4+_;omega) I ?_
         refine Aa (Ab (wY (wZ (wI I I (by decide) (by decide) (Aa (Ab (wY (wZ ?_))))))))
         refine AJ 1 (ptC [y,x]++junk) tH I I I I I I I I I I (by show 0+0*2+2≤(ptC [x,x]++junk).length;rw[List.length_append,AG];show 2≤4+_;omega) I ?_
         refine Aa (Ab ?_)
         refine AD I (by kernel_rfl) ?_
         exact Al () ⟨I,I,I,I,I,I,tO⟩ [0,1] (by decide) I
        ·refine AJ 1 (ptC [x,x]++junk) tH I I I I I I I I I I (by show 0+1*2+2≤(ptC [x,y]++junk).length;rw[List.length_append,AG];show 4≤4+_;omega) I ?_
         refine Aa (Ab (wY (wZ (wP I (Aa (Ab (wY (wZ (wI I I (by decide) (by decide) (Aa (Ab (wY (wZ ?_)))))))))))))
         refine AJ 1 (ptC [y,x]++junk) tH I I I I I I I I I I (by show 0+0*2+2≤(ptC [x,x]++junk).length;rw[List.length_append,AG];show 2≤4+_;omega) I ?_
         refine Aa (Ab ?_)
         refine AD I (by kernel_rfl) ?_
         exact Al () ⟨I,I,I,I,I,I,tO⟩ [0,1] (by decide) I
       ·refine AJ 1 (ptC [x,x]++junk) tH I I I I I I I I I I (by show 0+1*2+2≤(ptC [x,y]++junk).length;rw[List.length_append,AG];show 4≤4+_;omega) I ?_
        refine Aa (Ab (wY ?_))
        refine RS.cons ?_ (RS.cons ?_ (RS.nil))
        ·refine wP I (Aa (Ab (wY (wZ (wP I (Aa (Ab (wY (wZ (wI I I (by decide) (by decide) (Aa (Ab (wY ?_)))))))))))))
         refine wZ ?_
         refine AJ 1 (ptC [y,x]++junk) tH I I I I I I I I I I (by show 0+0*2+2≤(ptC [x,x]++junk).length;rw[List.length_append,AG];show 2≤4+_;omega) I ?_
         refine Aa (Ab ?_)
         refine AD I (by kernel_rfl) ?_
         exact Al () ⟨I,I,I,I,I,I,tO⟩ [0,1] (by decide) I
        ·refine wP I (Aa (Ab (wY (wZ (wP I (Aa (Ab (wY (wZ (wI I I (by decide) (by decide) (Aa (Ab (wY ?_)))))))))))))
         refine wZ ?_
         refine AJ 1 (ptC [y,x]++junk) tH I I I I I I I I I I (by show 0+0*2+2≤(ptC [x,x]++junk).length;rw[List.length_append,AG];show 2≤4+_;omega) I ?_
         refine Aa (Ab ?_)
         refine AD I (by kernel_rfl) ?_
         exact Al () ⟨I,I,I,I,I,I,tO⟩ [0,1] (by decide) I
      ·refine AJ 1 (ptC [x,x]++junk) tH I I I I I I I I I I (by show 0+1*2+2≤(ptC [x,y]++junk).length;rw[List.length_append,AG];show 4≤4+_;omega) I ?_
       refine Aa (Ab (wY ?_))
       refine RS.cons ?_ (RS.cons ?_ (RS.nil))
       ·refine wP I (Aa (Ab (wY (wZ (wP I (Aa (Ab (wY (wZ (wP I (Aa (Ab (wY ?_)))))))))))))
        refine wZ (wI I I (by decide) (by decide) (Aa (Ab (wY (wZ ?_)))))
        refine AJ 1 (ptC [y,x]++junk) tH I I I I I I I I I I (by show 0+0*2+2≤(ptC [x,x]++junk).length;rw[List.length_append,AG];show 2≤4+_;omega) I ?_
        refine Aa (Ab ?_)
        refine AD I (by kernel_rfl) ?_
        exact Al () ⟨I,I,I,I,I,I,tO⟩ [0,1] (by decide) I
       ·refine wP I (Aa (Ab (wY ?_)))
        refine RS.cons ?_ (RS.cons ?_ (RS.nil))
        ·refine wP I (Aa (Ab (wY (wZ (wP I (Aa (Ab (wY (wZ (wI I I (by decide) (by decide) (Aa (Ab (wY ?_)))))))))))))
         refine wZ ?_
         refine AJ 1 (ptC [y,x]++junk) tH I I I I I I I I I I (by show 0+0*2+2≤(ptC [x,x]++junk).length;rw[List.length_append,AG];show 2≤4+_;omega) I ?_
         refine Aa (Ab ?_)
         refine AD I (by kernel_rfl) ?_
         exact Al () ⟨I,I,I,I,I,I,tO⟩ [0,1] (by decide) I
        ·refine wP I (Aa (Ab (wY (wZ (wP I (Aa (Ab (wY (wZ (wI I I (by decide) (by decide) (Aa (Ab (wY ?_)))))))))))))
         refine wZ ?_
         refine AJ 1 (ptC [y,x]++junk) tH I I I I I I I I I I (by show 0+0*2+2≤(ptC [x,x]++junk).length;rw[List.length_append,AG];show 2≤4+_;omega) I ?_
         refine Aa (Ab ?_)
         refine AD I (by kernel_rfl) ?_
         exact Al () ⟨I,I,I,I,I,I,tO⟩ [0,1] (by decide) I
     intro _
     exact zN (zE (zB (wP I (wP I (wP I (Aa (A4 true (fun _=>rfl) (by decide) ⟨I,I,I,I,I,I,tO⟩ [] I)))))))
 refine key.mono ?_
 rintro e W' ⟨x1,he,_,hb,hn'⟩
 exact⟨x1,he,tO,G2 hg I hb hn'⟩
theorem PJ (c:Nat) (W:World) (g cap:Nat) (x y:Ak) (junk:List Value) (z:Int) (hg:W.heap[g]? =some (.cells (ptC [x,y]++junk).toArray 35 (0,0))) (h:SrN c g x y W):
  Calls Tryz.prog 133 #[.slice (some ⟨g,0,none⟩) 2 cap, .int .i64 0, .int .i64 2, .int .i64 z,lsF c] W fun e W'=> ∃x1:Unit,e= .returned ((fun _=> .tuple #[]) x1)∧True∧JK W W' g ((fun _=>g) x1) ((fun _=> .cells (ptC (DS x y)++junk).toArray 35 (0,0)) x1):=by
 have key:Calls Tryz.prog 133 [.slice (some ⟨g,0,none⟩) 2 cap, .int .i64 0, .int .i64 2, .int .i64 z,lsF c].toArray W fun e W'=> ∃x1:Unit,e= .returned ((fun _=> .tuple #[]) x1)∧(fun _=>True) x1∧Below (Bn W).heap.size (Bn W) W'∧Ap (Bn W) W' ((fun _=>[AL (As W g),DE g (DS x y) junk]) x1):=by
  refine CM (X:=Unit) (val:=fun _=> .tuple #[]) (Φ:=fun _=>True) (nb:=fun _=>[AL (As W g),DE g (DS x y) junk]) (Hp.enterT (B:=DE g [x,y] junk) I hg) Tryz.func133 I I I ?_
  refine zA (zB (wP I (Aa (zE (zA (zB (wP I (Aa (zE (zH ?_))))))))))
  refine A9 (X:=Unit) (fun _=>[(0, .slice (some ⟨g,0,none⟩) 2 cap),(1, .int .i64 0),(2, .int .i64 2),(3, .int .i64 z),(4,lsF c)]) (fun _=>[AL (As W g),DE g [x,y] junk]) (fun _=>True) (fun _=>0) () tO ⟨I,I,I,I,I,tO⟩ [] I ?_
  intro _ _
  refine zH (zA (zB (wP I (wP I (wP I (wP I (Aa (zE (zA (zA (zB (wP I (wP I ?_)))))))))))))
  refine Aa (zE (zR I (zA (zB (wP I (wP I (wP I (wP I ?_))))))))
  refine FZ (X:=Unit) (val:=fun _=> .tuple #[]) (Φ:=fun _=>True) (capt:=[]) 1 (B:=DE g [x,y] junk) (L1:=[]) (L2:=[]) (b:=g) (ob:= .cells (ptC [x,y]++junk).toArray 35 (0,0)) (fun _=>DE g (DS x y) junk) (g':=fun _=>g) (o':=fun _=> .cells (ptC (DS x y)++junk).toArray 35 (0,0))
   rfl rfl rfl rfl rfl rfl (by kernel_rfl) rfl rfl (fun _ _=>rfl) (fun W1 hp=>P6 c W1 g cap x y junk (hp.own.cell 1 _ rfl (g, .cells (ptC [x,y]++junk).toArray 35 (0,0)) (List.mem_cons_self ..)).1 (h.trans (Ke hg ⟨_,List.mem_cons_self ..⟩ hp))) (fun _ _=> ?_)
  refine Aa (zE (zO (zP (zQ (zP (zQ ?_))))))
  refine Ul (X:=Unit) (val:=fun _=> .tuple #[]) (Φ:=fun _=>True) (nb:=fun _=>[AL (As W g),DE g (DS x y) junk]) (fn:=Tryz.f133) tH I () I tO fun W1 hp=> ?_
  exact(hp.pick (l:=[AL (As W g),DE g (DS x y) junk]) [0,1] (by decide) I).own
 refine key.mono ?_
 rintro e W' ⟨x1,he,_,hb,hn'⟩
 exact⟨x1,he,tO,G2 hg I hb hn'⟩
theorem NM (c:Nat) (W:World) (g cap:Nat) (x y:Ak) (junk:List Value) (hg:W.heap[g]? =some (.cells (ptC [x,y]++junk).toArray 35 (0,0))) (h:SrN c g x y W):
  Calls Tryz.prog 70 #[.slice (some ⟨g,0,none⟩) 2 cap,lsF c] W fun e W'=> ∃x1:Unit,e= .returned ((fun _=> .tuple #[]) x1)∧True∧JK W W' g ((fun _=>g) x1) ((fun _=> .cells (ptC (DS x y)++junk).toArray 35 (0,0)) x1):=by
 have key:Calls Tryz.prog 70 [.slice (some ⟨g,0,none⟩) 2 cap,lsF c].toArray W fun e W'=> ∃x1:Unit,e= .returned ((fun _=> .tuple #[]) x1)∧(fun _=>True) x1∧Below (Bn W).heap.size (Bn W) W'∧Ap (Bn W) W' ((fun _=>[AL (As W g),DE g (DS x y) junk]) x1):=by
  refine CM (X:=Unit) (val:=fun _=> .tuple #[]) (Φ:=fun _=>True) (nb:=fun _=>[AL (As W g),DE g (DS x y) junk]) (Hp.enterT (B:=DE g [x,y] junk) I hg) Tryz.func70 I I I ?_
  refine zA (zB (wP I (wP I (wP I (Aa (zE (zB (wP I (wP I (wP I ?_))))))))))
  refine Ja (k:= .u64) (kt:= .i64) (by kernel_rfl) (by kernel_rfl) I I I I ?_
  refine Ah 10 (.int .u64 ((2:Nat):Int)) I I ?_
  refine B7 (capt:=[]) I I I I I I (by kernel_rfl) (fun W _=>PV 2 (by decide) W) ?_
  refine wP I ?_
  refine FZ (X:=Unit) (val:=fun _=> .tuple #[]) (Φ:=fun _=>True) (capt:=[]) 1 (B:=DE g [x,y] junk) (L1:=[]) (L2:=[]) (b:=g) (ob:= .cells (ptC [x,y]++junk).toArray 35 (0,0)) (fun _=>DE g (DS x y) junk) (g':=fun _=>g) (o':=fun _=> .cells (ptC (DS x y)++junk).toArray 35 (0,0))
   rfl rfl rfl rfl rfl rfl (by kernel_rfl) rfl rfl (fun _ _=>rfl) (fun W1 hp=>PJ c W1 g cap x y junk _ (hp.own.cell 1 _ rfl (g, .cells (ptC [x,y]++junk).toArray 35 (0,0)) (List.mem_cons_self ..)).1 (h.trans (Ke hg ⟨_,List.mem_cons_self ..⟩ hp))) (fun _ _=> ?_)
  refine Aa ?_
  refine Qy (X:=Unit) (val:=fun _=> .tuple #[]) (Φ:=fun _=>True) (nb:=fun _=>[AL (As W g),DE g (DS x y) junk]) (fn:=Tryz.f70) tH I () I tO fun W1 hp=> ?_
  exact(hp.pick (l:=[AL (As W g),DE g (DS x y) junk]) [0,1] (by decide) I).own
 refine key.mono ?_
 rintro e W' ⟨x1,he,_,hb,hn'⟩
 exact⟨x1,he,tO,G2 hg I hb hn'⟩
-- BOXES 3
-- CODE2
section
variable {r:Option Nat} {n:Nat} {P:Program} {W0:World} {N:Nat} {D:List Deferred} {ops:List Oper} {Q:Exit→Act→World→Prop} {o:Oper} {rest:List Oper} {env:Env} {bxs:List Bx}
end
theorem Cf.cells {W:World} {p:Option Addr} {l:List Ak} (h:Cf W p l):Kz W p (ptC l):=by
 rcases h with rfl|⟨b,off,e,h⟩
 ·exact .inl I
 ·by_cases h0:l=[]
  ·exact .inl (by rw[h0];rfl)
  refine .inr ⟨b,off,e, ?_⟩
  have hpos:0<l.length:=List.length_pos_iff.2 h0
  refine⟨(h 0 hpos).lt,fun m u hu=> ?_⟩
  have hm:m<l.length*2:=by rw[←AG];exact(List.getElem?_eq_some_iff.1 hu).1
  have hi:m/2<l.length:=by omega
  have hr:=h (m/2) hi
  have hd:=Si hi
  rw[hd,List.getElem?_append_right (by rw[AG,List.length_take];omega),AG,List.length_take,Nat.min_eq_left (by omega),List.getElem?_append_left (by show _<2;omega)] at hu
  have:=hr.get (m-m/2*2) u hu
  rwa [show off+m/2*2+(m-m/2*2)=off+m by omega] at this
end
end Go.Proofs.YthndmdimmgkpgaaGreatDoor
