/-
  Lemmas that the theorem convexSections_upto_card needs (part 5 of 7).
-/
import Derived.Test.YthndmdimmgkpgaaGreatDoorCsd
import Derived.Shelf.Lays
import Derived.Shelf.SlLaysN
import Derived.Shelf.Small.Bits
set_option maxHeartbeats 64000000
namespace Go.Proofs.YthndmdimmgkpgaaGreatDoor
section
open Go Go.RowKit Go.Am Go.Lib
set_option maxRecDepth 10000
-- BOXES 6
-- CODE2
theorem EA {z:Int} (h: ¬okN z):Ig z= .tuple #[str [], .int .i64 4]:=if_neg h
theorem XC {a b:Int} (ha:(decDigits a.natAbs).length≤300) (hb:(decDigits b.natAbs).length≤300):(decDigits (a*b).natAbs).length≤606:=by
 obtain⟨e,he⟩: ∃e:Nat,e=300:=⟨_,rfl⟩
 obtain⟨k,hk⟩: ∃k:Nat,k=606:=⟨_,rfl⟩
 rw[←he] at ha hb
 rw[←hk]
 have h1:=Nat.lt_of_lt_of_le (Dt a.natAbs) (Nat.pow_le_pow_right (by decide) ha)
 have h2:=Nat.lt_of_lt_of_le (Dt b.natAbs) (Nat.pow_le_pow_right (by decide) hb)
 have h3:=Nat.mul_lt_mul'' h1 h2
 rw[←Nat.pow_add] at h3
 rw[Int.natAbs_mul]
 exact Dv k _ (by omega) (Nat.lt_of_lt_of_le h3 (Nat.pow_le_pow_right (by decide) (by omega)))
theorem WX {a b:Int} (ha:(decDigits a.natAbs).length≤300) (hb:(decDigits b.natAbs).length≤300):(decDigits (a+b).natAbs).length≤606:=by
 obtain⟨e,he⟩: ∃e:Nat,e=300:=⟨_,rfl⟩
 obtain⟨k,hk⟩: ∃k:Nat,k=606:=⟨_,rfl⟩
 rw[←he] at ha hb
 rw[←hk]
 have h1:=Nat.lt_of_lt_of_le (Dt a.natAbs) (Nat.pow_le_pow_right (by decide) ha)
 have h2:=Nat.lt_of_lt_of_le (Dt b.natAbs) (Nat.pow_le_pow_right (by decide) hb)
 have h3:10^(e+1)=10*10^e:=by rw[Nat.pow_succ,Nat.mul_comm]
 have h4:(a+b).natAbs<10^(e+1):=by omega
 exact Dv k _ (by omega) (Nat.lt_of_lt_of_le h4 (Nat.pow_le_pow_right (by decide) (by omega)))
theorem OD (z:Int) (hg:300<(decDigits z.natAbs).length) (hl:(decDigits z.natAbs).length≤606):Bv Tryz.prog 191 [str (itoa z)] (.int .i64 4):=by
 intro W
 obtain⟨s,hs⟩: ∃s,s=itoa z:=⟨_,rfl⟩
 obtain⟨dd,hdd⟩: ∃dd,dd=decDigits z.natAbs:=⟨_,rfl⟩
 obtain⟨f,hf⟩: ∃f,f=(G0 z).length:=⟨_,rfl⟩
 have hss:s=G0 z++dd:=by rw[hs,hdd];exact BU z
 have hf1:f≤1:=hf▸KU z
 have hsl:s.length=f+dd.length:=by rw[hss,List.length_append,hf]
 have hd0:0<dd.length:=by rw[hdd];exact List.length_pos_iff.2 (F9 _)
 have hget: ∀i,f≤i→s[i]? =dd[i-f]? :=fun i hi=>by rw[hss,List.getElem?_append_right (by omega),hf]
 obtain⟨c0,hc0,hc45⟩:=EL z
 rw[←hs] at hc0⊢
 rw[←hdd] at hl hg
 have hdg: ∀b∈dd,DE b=true:=by rw[hdd];exact(ES _).all
 refine Ab Tryz.func191 I I I ?_
 refine zA (zB (wP I (Aa (zE (zA (zB (wP I (Aa (zE (zA (zA (zB (wP I (wP I ?_))))))))))))))
 refine Af 6 (.int .i64 (s.length:Nat)) I (congrArg (fun n:Nat=>Value.int .i64 (n:Int)) (A4 s)) ?_
 refine wP I (wU 7 true I (dT (by omega)) (wP I (wP I ?_)))
 refine Bb 0 tH I I I I I I I I hc0 ?_
 refine wP I (wU 11 (decide (z<0)) I ((Dr c0 45).trans hc45) (wP I (Aa (AI ?_))))
 try refine A0 ?_
 refine AG (X:=Unit) (fun _=>[(0,str s),(3, .int .i64 (f:Nat))]) (fun _=>[]) (fun _=>True) ?_ ?_
 ·refine Av I (fun h=> ?_) (fun h=> ?_)
  ·have h:z<0:=of_decide_eq_true h
   exact zB (wP I (Aa (An () tO ⟨I,by rw[hf];unfold G0;rw[if_pos h];rfl,tO⟩ [] I)))
  ·have h: ¬z<0:=of_decide_eq_false h
   exact zI (An () tO ⟨I,by rw[hf];unfold G0;rw[if_neg h];rfl,tO⟩ [] I)
 intro _ _
 refine A0 (A0 ?_)
 refine AG (X:=Unit) (fun _=>[(0,str s),(3, .int .i64 (f:Nat)),(27, .bool false)]) (fun _=>[]) (fun _=>True) ?_ ?_
 ·refine zB (wP I (wP I (wP I ?_)))
  refine Af 15 (.int .i64 (s.length:Nat)) I (congrArg (fun n:Nat=>Value.int .i64 (n:Int)) (A4 s)) ?_
  refine wP I (wU 16 false I (by rw[beq_eq_false_iff_ne];omega) ?_)
  obtain⟨b,hb⟩: ∃b,dd[0]? =some b:=⟨dd[0],List.getElem?_eq_getElem hd0⟩
  have hsb:s[f]? =some b:=by rw[hget f (Nat.le_refl _),Nat.sub_self];exact hb
  refine wP I (wP I (wP I ?_))
  refine Bb f tH I I I I I I I I hsb ?_
  refine wP I ?_
  by_cases h48:b=48
  ·rw[h48,hdd] at hb
   have h0:=RM hb
   have hz:z=0:=by omega
   have hs1:s.length=1:=by rw[hs,hz,Cf];rfl
   refine wU 21 true I ((Dr b 48).trans (dT h48)) (wP I (wP I (wP I ?_)))
   refine Af 24 (.int .i64 (s.length:Nat)) I (congrArg (fun n:Nat=>Value.int .i64 (n:Int)) (A4 s)) ?_
   exact wP I (wU 25 false I (dF (by omega)) (wP I (wP I (Aa (An () tO ⟨I,I,I,tO⟩ [] I)))))
  ·refine wU 21 false I ((Dr b 48).trans (dF h48)) (wP I ?_)
   iterate 3 refine Al I I ?_
   exact wP I (wP I (Aa (An () tO ⟨I,I,I,tO⟩ [] I)))
 intro _ _
 refine zS I (zI (zE (zA (zA (zB (wP I (wP I (Aa (zE (zH ?_))))))))))
 refine AA (X:=Nat) (fun i=>[(0,str s),(3, .int .i64 (f:Nat)),(4, .int .i64 (i:Nat))]) (fun _=>[]) (fun i=>i≤s.length∧f≤i) (fun i=>s.length-i) f ⟨by omega,Nat.le_refl _⟩ ⟨I,I,I,tO⟩ [] I ?_
 rintro i ⟨hi,hfi⟩
 have hi:i≤s.length:=hi
 have hfi:f≤i:=hfi
 refine zA (zA (zB (wP I (wP I (wP I ?_)))))
 refine Af 31 (.int .i64 (s.length:Nat)) I (congrArg (fun n:Nat=>Value.int .i64 (n:Int)) (A4 s)) ?_
 refine wP I ?_
 by_cases hlt:i<s.length
 ·refine wU 32 true I (dT (by omega)) (Aa (zE (zR I (zI (zE (zA (zH (zA (zB ?_)))))))))
  obtain⟨b,hb⟩: ∃b,dd[i-f]? =some b:=⟨dd[i-f]'(by omega),List.getElem?_eq_getElem (by omega)⟩
  have hsb:s[i]? =some b:=by rw[hget i hfi];exact hb
  have hbd:=C3.1 (hdg b (List.mem_of_getElem? hb))
  refine wP I (wP I ?_)
  refine Bb i tH I I I I I I I I hsb ?_
  refine wP I (wU 38 false I ((SL b).trans (dF (by omega))) (wP I (wP I (wP I ?_))))
  refine Bb i tH I I I I I I I I hsb ?_
  refine wP I (wU 43 false I ((SD b).trans (dF (by omega))) (wP I (Aa (zE (zS I (zI (zN (zE (zB (wP I (wP I (wV 34 ((i+1:Nat):Int) I (Ay (by omega)) (wP I ?_)))))))))))))
  exact Aa (A6 (i+1) ⟨hlt,by show f≤i+1;omega⟩ (by show s.length-(i+1)<s.length-i;omega) ⟨I,I,I,tO⟩ [] I)
 ·refine wU 32 false I (dF (by omega)) (Aa (zE (zS I (zJ (zK (zK (zL (zE (zA (zA (zB (wP I (wP I ?_)))))))))))))
  refine Af 46 (.int .i64 (s.length:Nat)) I (congrArg (fun n:Nat=>Value.int .i64 (n:Int)) (A4 s)) ?_
  refine wP I (wP I (wV 48 (dd.length:Nat) I (by show w64 ((s.length:Int)-f)=_;rw[Ap (by omega) (by omega)];omega) (wP I (wU 49 true I (dT (by omega)) (Aa (zE (zR I (zA (zB (wP I (Aa (zE (zO ?_)))))))))))))
  exact zP (wR1 I I I)
theorem Gc (z:Int) (hl:(decDigits z.natAbs).length≤606) (W:World) (p:Option Addr) (cap:Nat) (hA:Ax W p (lbs br z.natAbs)):
  Ai Tryz.prog 200 #[.agg #[.bool (decide (z<0)),slv p (lbs br z.natAbs).length cap]] W (fun _:Unit=>Ig z) (fun _=>True) (fun _=>[]):=by
 refine Ab (args:=[.agg #[.bool (decide (z<0)),slv p (lbs br z.natAbs).length cap]]) Tryz.func200 I I I ?_
 refine zA (zB ?_)
 (refine A5 rfl rfl rfl rfl ?_;intro)
 refine wP I (wP I (Aa (zE (zA (zB (wB 0 I I I (wC I I (fun W hp=>EV z (by omega) W p cap (hA.hp hp)) (wP I (Aa ?_)))))))))
 by_cases h:okN z
 ·refine zE (zA (zA (zB (wP I (wC I I (fun W _=>Ff z h.dd W) (wP I (Aa (zE (zS I (zI (zE (zA (zB ?_)))))))))))))
  exact wP I (wP I (wP I (Aa (zE (zO (AJ tH I (.tmp I) (.tmp I) () (Eb h).symm tO fun W _=>As.nil _ _))))))
 ·have hgt:300<(decDigits z.natAbs).length:=by
   rcases Nat.lt_or_ge 300 (decDigits z.natAbs).length with q|q
   ·exact q
   ·exact absurd (Gm.1 q) h
  refine zE (zA (zA (zB (wP I (wC I I (fun W _=>OD z hgt hl W) (wP I (Aa (zE (zR I (zA (zB (wP I (wP I ?_)))))))))))))
  exact Aa (zE (zO (zP (AJ tH I (.tmp I) (.tmp I) () (EA h).symm tO fun W _=>As.nil _ _))))
theorem M3 (a b:Int) (ha:(decDigits a.natAbs).length≤300) (hb:(decDigits b.natAbs).length≤300) (W:World) (ht:AM W):
  Ai Tryz.prog 175 #[str (itoa a),str (itoa b)] W (fun _:Unit=>Ig (a*b)) (fun _=>True) (fun _=>[]):=by
 have hab:(decDigits (a*b).natAbs).length≤606:=XC ha hb
 obtain⟨rs,re,hres⟩:=G5 (a*b)
 have la:=Cm (m:=a.natAbs) (by omega)
 have lb:=Cm (m:=b.natAbs) (by omega)
 have l1:=F8 ha
 have l2:=F8 hb
 refine Ab (args:=[str (itoa a),str (itoa b)]) Tryz.func175 I I I ?_
 refine zA (zB (wP I (wP I (Aa (zE (zA (zA (zB (wP I (wP I (wC I I (fun W _=>Df a b ha hb W) (wP I (Aa ?_)))))))))))))
 refine zE (zA (zB (wP I (wP I (Aa (zE (zS I (zI (zE (zA (zA (zB ?_))))))))))))
 cases hs:smI a&&smI b with
 |true=>
  refine wP I (wP I (wC I I (fun W _=>GR hs W) ?_))
  iterate 7 refine wP I ?_
  refine Aa (zE (zA (zB (wP I (wP I (wP I (wP I ?_)))))))
  refine Af 26 (.int .i64 ((itoa a).length:Nat)) I (congrArg (fun n:Nat=>Value.int .i64 (n:Int)) (A4 _)) ?_
  refine wP I (wP I ?_)
  refine Af 28 (.int .i64 ((itoa b).length:Nat)) I (congrArg (fun n:Nat=>Value.int .i64 (n:Int)) (A4 _)) ?_
  refine wP I (wV 29 (((itoa a).length+(itoa b).length:Nat):Int) I (AV (by omega)) (wP I (wU 30 (decide ((itoa a).length+(itoa b).length≤18)) I (decide_eq_decide.2 (by omega)) (wP I (Aa (zE ?_))))))
  refine Av I (fun h18=> ?_) (fun h18=> ?_)
  ·have h18:(itoa a).length+(itoa b).length≤18:=of_decide_eq_true h18
   have hm:(a*b).natAbs<1000000000000000000:=by
    have p1:=Dt a.natAbs
    have p2:=Dt b.natAbs
    have q1:(decDigits a.natAbs).length≤(itoa a).length:=by rw[BU,List.length_append];omega
    have q2:(decDigits b.natAbs).length≤(itoa b).length:=by rw[BU,List.length_append];omega
    rw[Int.natAbs_mul]
    have r1:=Nat.mul_lt_mul'' p1 p2
    rw[←Nat.pow_add] at r1
    exact Nat.lt_of_lt_of_le r1 (show _≤10^18 from Nat.pow_le_pow_right (by decide) (by omega))
   exact zA (zB (wP I (wP I (wP I (wV 34 (a*b) I (Ap (by omega) (by omega)) (wC I I (fun W hp=>Bu (a*b) (by omega) (by omega) W (ht.hp hp)) (wP I (wP I (Aa (zE (zO (zP (AJ tH I (.tmp I) (.tmp I) () (Eb (CC (by omega))).symm tO fun W _=>As.nil _ _)))))))))))))
  ·refine zI (zE (zA (zB (wP I ?_))))
   refine wD (X:=NV) I I (fun W' _=>Be a (by omega) W') ?_
   intro x hx
   refine wP I ?_
   refine wD (X:=NV) I I (fun W' _=>Be b (by omega) W') ?_
   intro y hy
   refine wD (X:=NV) I I (fun W' hp=>GK a b W' (some ⟨x.1,0,none⟩) (some ⟨y.1,0,none⟩) x.2.1 y.2.1 (Ax.of_bx hp 0 I) (Ax.of_bx hp 1 I) (by omega) (by omega)) ?_
   intro w hw
   exact wC I I (fun W' hp=>(Gc (a*b) hab W' (some ⟨w.1,0,none⟩) w.2.1 (Ax.of_bx hp 2 I)).cast hres) (wP I (wP I (wP I (wP I (Aa (zE (zO (wR2 I I hres.symm))))))))
 |false=>
  obtain⟨x0,y0,h2⟩:=GB hs ha hb
  refine wP I (wP I (wC I I (fun W _=>h2 W) ?_))
  iterate 7 refine wP I ?_
  refine Aa (zE (zA (zB (wP I (wP I ?_)))))
  iterate 6 refine Al I I ?_
  refine wP I (Aa (zE (zS I (zI (zE (zA (zB (wP I ?_))))))))
  refine wD (X:=NV) I I (fun W' _=>Be a (by omega) W') ?_
  intro x hx
  refine wP I ?_
  refine wD (X:=NV) I I (fun W' _=>Be b (by omega) W') ?_
  intro y hy
  refine wD (X:=NV) I I (fun W' hp=>GK a b W' (some ⟨x.1,0,none⟩) (some ⟨y.1,0,none⟩) x.2.1 y.2.1 (Ax.of_bx hp 0 I) (Ax.of_bx hp 1 I) (by omega) (by omega)) ?_
  intro w hw
  exact wC I I (fun W' hp=>(Gc (a*b) hab W' (some ⟨w.1,0,none⟩) w.2.1 (Ax.of_bx hp 2 I)).cast hres) (wP I (wP I (wP I (wP I (Aa (zE (zO (wR2 I I hres.symm))))))))
theorem RB (a b:Int) (ha:(decDigits a.natAbs).length≤300) (hb:(decDigits b.natAbs).length≤300) (W:World) (ht:AM W):
  Ai Tryz.prog 149 #[str (itoa a),str (itoa b)] W (fun _:Unit=>Ig (a+b)) (fun _=>True) (fun _=>[]):=by
 have hab:(decDigits (a+b).natAbs).length≤606:=WX ha hb
 obtain⟨rs,re,hres⟩:=G5 (a+b)
 have la:=Cm (m:=a.natAbs) (by omega)
 have lb:=Cm (m:=b.natAbs) (by omega)
 refine Ab (args:=[str (itoa a),str (itoa b)]) Tryz.func149 I I I ?_
 refine zA (zB (wP I (wP I (Aa (zE (zA (zA (zB (wP I (wP I (wC I I (fun W _=>Df a b ha hb W) (wP I (Aa ?_)))))))))))))
 refine zE (zA (zB (wP I (wP I (Aa (zE (zS I (zI (zE (zA (zA (zB ?_))))))))))))
 cases hs:smI a&&smI b with
 |true=>
  obtain⟨h1,h2⟩:=Bool.and_eq_true_iff.1 hs
  have b1:=Hs h1
  have b2:=Hs h2
  refine wP I (wP I (wC I I (fun W _=>GR hs W) ?_))
  iterate 7 refine wP I ?_
  refine Aa (zE (zA (zB (wP I (Aa (zE (zR I (zA (zB (wP I (wP I (wP I (wV 26 (a+b) I (Ap (by omega) (by omega)) ?_)))))))))))))
  exact wC I I (fun W hp=>Bu (a+b) (by omega) (by omega) W (ht.hp hp)) (wP I (wP I (Aa (zE (zO (zP (AJ tH I (.tmp I) (.tmp I) () (Eb (CC (by omega))).symm tO fun W _=>As.nil _ _)))))))
 |false=>
  obtain⟨x0,y0,h2⟩:=GB hs ha hb
  refine wP I (wP I (wC I I (fun W _=>h2 W) ?_))
  iterate 7 refine wP I ?_
  refine Aa (zE (zA (zB (wP I (Aa (zE (zS I (zI (zE (zA (zB (wP I ?_))))))))))))
  refine wD (X:=NV) I I (fun W' _=>Be a (by omega) W') ?_
  intro x hx
  refine wP I ?_
  refine wD (X:=NV) I I (fun W' _=>Be b (by omega) W') ?_
  intro y hy
  refine wD (X:=NV) I I (fun W' hp=>I3 a b W' (some ⟨x.1,0,none⟩) (some ⟨y.1,0,none⟩) x.2.1 y.2.1 (Ax.of_bx hp 0 I) (Ax.of_bx hp 1 I) (by omega) (by omega)) ?_
  intro w hw
  exact wC I I (fun W' hp=>(Gc (a+b) hab W' (some ⟨w.1,0,none⟩) w.2.1 (Ax.of_bx hp 2 I)).cast hres) (wP I (wP I (wP I (wP I (Aa (zE (zO (wR2 I I hres.symm))))))))
-- BOXES 4
-- CODE2
theorem Ow (r:Nat):lv br [r]=r:=by show r+br*0=r;rw[Nat.mul_zero,Nat.add_zero]
theorem On (W:World) (p:Option Addr) (cap a dv:Nat) (hA:Ax W p (lbs br a)) (hna:(lbs br a).length≤1000000) (hd0:0<dv) (hd1:dv<br):
  Ai Tryz.prog 194 #[slv p (lbs br a).length cap, .int .i64 (dv:Nat)] W (fun x:NV×NV=> .tuple #[B2 x.1 (lbs br (a/dv)).length,B2 x.2 (lbs br (a%dv)).length]) (fun x=>Cn x.1 (lbs br (a/dv))∧Cn x.2 (lbs br (a%dv))) (fun x=>[BH x.1 (lbs br (a/dv)),BH x.2 (lbs br (a%dv))]):=by
 obtain⟨K,hK⟩: ∃K,(lbs br a).length=K:=⟨_,rfl⟩
 have hd1':dv<1000000:=hd1
 have hal:=AK br2 a
 rw[hK] at hna hal
 refine Ab (args:=[slv p (lbs br a).length cap, .int .i64 (dv:Nat)]) Tryz.func194 I I I ?_
 rw[hK]
 refine zA (zB (wP I (wP I (Aa (zE (zA (zB (wP I (wP I ?_)))))))))
 refine Cd Tryz.vec130 K I I I I I I I (by simp only[maxLen];omega) (by omega) ?_
 intro g
 have ez:Cc (Value.cells (.int .i64 0)).toList K=nI (List.replicate K 0)++[]:=by rw[List.append_nil];exact FB K
 rw[ez]
 refine wP I (Aa (zE (zA (zB (wP I (Aa (zE (zA (zA (zB (wP I (wP I (wP I ?_)))))))))))))
 refine wV 14 ((K:Int)-1) I (Ap (by omega) (by omega)) (wP I (Aa (zE (zH ?_))))
 refine AA (X:=Nat×List Nat×Nat×Nat) (fun x=>[(0,slv p K cap),(1, .int .i64 (dv:Nat)),(6,slv (some ⟨g,0,none⟩) K K),(7, .int .i64 (x.2.2.2:Nat)),(8, .int .i64 ((x.1:Nat)-1:Int))]) (fun x=>[⟨g,3,nI x.2.1++[],true,none⟩])
  (fun x=>x.1≤K∧x.2.1.length=K∧(∀y∈x.2.1,y<br)∧lv br x.2.1=br^x.1*x.2.2.1∧a/br^x.1=x.2.2.1*dv+x.2.2.2∧x.2.2.2<dv) (fun x=>x.1) (K,List.replicate K 0,0,0) ⟨Nat.le_refl _,List.length_replicate,Hq (by decide) K,by rw[EK];show 0=br^K*0;rw[Nat.mul_zero],by show a/br^K=0*dv+0;rw[Nat.div_eq_of_lt hal];omega,hd0⟩ ⟨rfl,rfl,rfl,rfl,rfl,trivial⟩ [] rfl ?_
 rintro⟨k,l,qh,rs⟩ ⟨hk,hl,hlb,hlv,hq,hr⟩
 have hk:k≤K:=hk
 have hl:l.length=K:=hl
 have hlv:lv br l=br^k*qh:=hlv
 have hq:a/br^k=qh*dv+rs:=hq
 have hr:rs<dv:=hr
 refine zA (zA (zB (wP I (wP I ?_))))
 cases k with
 |zero=>
  have hq:a=qh*dv+rs:=by simpa using hq
  have hlv:lv br l=qh:=by rw[hlv];simp
  have eq1:a/dv=qh:=by rw[hq,Nat.mul_comm,Nat.mul_add_div hd0,Nat.div_eq_of_lt hr,Nat.add_zero]
  have eq2:a%dv=rs:=by rw[hq,Nat.mul_comm,Nat.mul_add_mod,Nat.mod_eq_of_lt hr]
  refine wU 16 false I (dF (by show¬(((0:Nat):Int)-1≥0);omega)) (Aa (zE (zS I (zJ (zK (zK (zL (zE (zA (zB ?_))))))))))
  have hV0:(⟨some g,K,[]⟩:Vec).OK 1 l.length (nI l):=⟨E8 _,(fun h=>by cases h),fun _=>⟨by show _≤K;omega,by show K≤maxLen;simp only[maxLen];omega,by show(nI l).length+0=K*1;rw[BB];omega⟩⟩
  obtain⟨j1,hV1,he1⟩:=DK hV0 hlb
  have hrb: ∀x∈[rs],x<br:=fun x hx=>by obtain rfl:=List.mem_singleton.1 hx;show x<1000000;omega
  refine wP I ?_
  refine Af 35 (slv (some ⟨g,0,none⟩) l.length K) I (by rw[hl]) ?_
  refine wC I I (fun W hp=>CF W _ K _ (Ax.of_bx hp 0 I) hlb (by omega) (by omega)) (wP I ?_)
  refine AF Tryz.hZ tH I I I I I I I I I I I fun bN=> ?_
  have hV2:(⟨some bN,1,[]⟩:Vec).OK 1 [rs].length (nI [rs]):=⟨rfl,(fun h=>by cases h),fun _=>⟨Nat.le_refl _,(by show 1≤maxLen;decide),rfl⟩⟩
  obtain⟨j2,hV3,he2⟩:=DK hV2 hrb
  refine wC I I (fun W hp=>CF W (some ⟨bN,0,none⟩) 1 [rs] (Ax.of_bx (junk:=[]) hp 1 I) hrb (by show 1≤1;omega) (by show 1<_;decide)) (wP I (wP I (Aa (zE (zO ?_)))))
  rw[hlv, ←eq1] at hV1 he1
  rw[Ow, ←eq2] at hV3 he2
  exact AJ tH I (.tmp I) (.tmp I) (((g,K,j1):NV),((bN,1,j2):NV)) (by rw[hlv, ←eq1,Ow, ←eq2]) ⟨hV1,hV3⟩ fun W hp=>As.of_hp (hp.pick (l:=[BH (g,K,j1) (lbs br (a/dv)),BH (bN,1,j2) (lbs br (a%dv))]) [0,1] (by decide) (by
   show some [(⟨g,3,nI l++[],true,none⟩:Bx),⟨bN,3,nI [rs]++[],true,none⟩]=some [⟨g,3,nI (lbs br (a/dv))++j1,true,none⟩,⟨bN,3,nI (lbs br (a%dv))++j2,true,none⟩]
   rw[he1, ←eq2,he2]))
 |succ k=>
  have hq:a/br^(k+1)=qh*dv+rs:=hq
  have hi:k<l.length:=by rw[hl];omega
  obtain⟨b1,o1,rfl,r1⟩:=hA.row (show k<(lbs br a).length by omega)
  have r1:=r1 k (by omega)
  obtain⟨v,hv⟩: ∃v,lim (lbs br a) k=v:=⟨_,rfl⟩
  rw[hv] at r1
  have hvb:v<br:=by rw[←hv];exact Bi br2 (Bm br2 a) _
  have hvb':v<1000000:=hvb
  have hve:v=a/br^k%br:=by rw[←hv];exact Bk br2 a _
  obtain⟨n,hn⟩: ∃n,n=v+rs*br:=⟨_,rfl⟩
  have hn':n=v+rs*1000000:=hn
  have hn63:n<1000000000000:=by omega
  have hnq:=Qd (B:=br) (d:=dv) hvb hr hn
  have hnq':n/dv<1000000:=hnq
  have hs:=ID (B:=br) (d:=dv) (q:=qh) (r:=rs) (i:=k) hq (n:=n) (by rw[hn,hve])
  have hzero:l[k]? =some 0:=by
   rw[Du hi,Ct br2 _ hlb,hlv,Nat.pow_succ,Nat.mul_assoc,Nat.mul_div_cancel_left _ (Nat.pow_pos (by decide)),Nat.mul_mod_right]
  have hset:=Hu (B:=br) (n/dv) hzero
  rw[Nat.mul_zero,Nat.add_zero,hlv,Nat.pow_succ,Nat.mul_assoc, ←Nat.mul_add] at hset
  have hrm:n%dv<dv:=Nat.mod_lt _ hd0
  refine wU 16 true I (dT (by show(((k+1:Nat):Int)-1≥0);omega)) (Aa (zE (zR I (zI (zE (zA (zH (zA (zB (wP I (wP I (wP I (wP I ?_)))))))))))))
  refine wV 22 (k:Nat) I (by show((k+1:Nat):Int)-1=_;omega) ?_
  refine wJ ?_
  refine wL 0 I I (fun W hp=>r1.hp hp) I (wP I (wV 25 (n:Nat) I (by show w64 (w64 ((rs:Int)*((1000000:Nat):Int))+v)=_;rw[Ck (by omega),AV (by omega),hn',Nat.add_comm]) (wP I (Aa (zE (zA (zB (wP I (wP I (wV 27 (k:Nat) I (by show((k+1:Nat):Int)-1=_;omega) (wP I (wP I ?_))))))))))))
  refine D5 I I I I I (by omega) ?_
  refine wV 30 ((n/dv:Nat):Int) I (BG (by omega)) ?_
  refine wJ ?_
  refine Aw 0 (nI (l.set k (n/dv))++[]) tH I I I I I I I I I I (by show 0+k*1+1≤(nI l++[]).length;rw[List.append_nil,BB];omega) (Cy hi (n/dv)) ?_
  refine Aa (zE (zB (wP I (wP I ?_))))
  refine Ft I I I I I (by omega) ?_
  refine Af 34 (.int .i64 ((n%dv:Nat):Int)) I I ?_
  exact wP I (Aa (zN (zE (zB (wP I (wV 17 (k:Nat) I (by show((k+1:Nat):Int)-1=_;omega) (wP I (wV 18 ((k:Nat)-1:Int) I (Ap (by omega) (by omega)) (wP I (Aa (A6 (k,l.set k (n/dv),qh*br+n/dv,n%dv) ⟨by show k≤K;omega,by rw[List.length_set];exact hl,CM hlb hnq,by show lv br (l.set k (n/dv))=br^k*(qh*br+n/dv);rw[hset,Nat.mul_comm qh],by show a/br^k=_;exact hs,hrm⟩ (by show k<k+1;omega) ⟨I,I,I,I,I,tO⟩ [] I)))))))))))
-- BOXES 4
-- CODE2
theorem Ya {W m:Nat} (h:W<br^(m+3)):((W/br^(m+2)%br)*br+W/br^(m+1)%br)*br+W/br^m%br=W/br^m:=by
 have h1:W/br^(m+1)=W/br^m/br:=by rw[Nat.pow_succ,Nat.div_div_eq_div_mul]
 have h2:W/br^(m+2)=W/br^m/br/br:=by rw[Nat.pow_succ, ←Nat.div_div_eq_div_mul,h1]
 have h3:W/br^m<br*br*br:=by
  apply Nat.div_lt_of_lt_mul
  have:br^(m+3)=br^m*(br*br*br):=by rw[Nat.pow_succ,Nat.pow_succ,Nat.pow_succ];simp[Nat.mul_assoc]
  rw[←this];exact h
 rw[h2,h1]
 generalize W/br^m=x at h3⊢
 have h3:x<1000000*1000000*1000000:=h3
 show((x/1000000/1000000%1000000)*1000000+x/1000000%1000000)*1000000+x%1000000=x
 omega
theorem Yf {b m:Nat} (h:b<br^(m+2)):(b/br^(m+1)%br)*br+b/br^m%br=b/br^m:=by
 have h1:b/br^(m+1)=b/br^m/br:=by rw[Nat.pow_succ,Nat.div_div_eq_div_mul]
 have h3:b/br^m<br*br:=by
  apply Nat.div_lt_of_lt_mul
  have:br^(m+2)=br^m*(br*br):=by rw[Nat.pow_succ,Nat.pow_succ];simp[Nat.mul_assoc]
  rw[←this];exact h
 rw[h1]
 generalize b/br^m=x at h3⊢
 have h3:x<1000000*1000000:=h3
 show(x/1000000%1000000)*1000000+x%1000000=x
 omega
theorem Xx {W b m g:Nat} (hg:g=W/m/(b/m+1)) (hm:0<m):g*b≤W:=by
 have h1:b<(b/m+1)*m:=Nat.lt_mul_of_div_lt (Nat.lt_succ_self _) hm
 have h2:g*(b/m+1)≤W/m:=by rw[hg];exact Nat.div_mul_le_self ..
 have h3:g*(b/m+1)*m≤W/m*m:=Nat.mul_le_mul_right _ h2
 have h4:W/m*m≤W:=Nat.div_mul_le_self ..
 have h5:g*b≤g*((b/m+1)*m):=Nat.mul_le_mul_left _ (by omega)
 rw[←Nat.mul_assoc] at h5
 omega
theorem Ud {x r:Nat} (_hx:x<br):lv br (x::lbs br r)=r*br+x:=by
 show x+br*lv br (lbs br r)=_
 rw[JW br2,Nat.mul_comm,Nat.add_comm]
theorem NG {w b g r:Nat} (h:w=g*b+r) (hr:r<b):w/b=g∧w%b=r:=by
 have hb:0<b:=by omega
 subst h
 rw[Nat.mul_comm]
 exact⟨by rw[Nat.mul_add_div hb,Nat.div_eq_of_lt hr,Nat.add_zero],by rw[Nat.mul_add_mod,Nat.mod_eq_of_lt hr]⟩
theorem Ix (W:World) (p q:Option Addr) (cap cap2:Nat) (a b:Nat) (hb0:0<b) (hA:Ax W p (lbs br a)) (hB:Ax W q (lbs br b)) (hna:(lbs br a).length≤1000) (hnb:(lbs br b).length≤1000):
  Ai Tryz.prog 144 #[slv p (lbs br a).length cap,slv q (lbs br b).length cap2] W (fun x:NV×NV=> .tuple #[B2 x.1 (lbs br (a/b)).length,B2 x.2 (lbs br (a%b)).length]) (fun x=>Cn x.1 (lbs br (a/b))∧Cn x.2 (lbs br (a%b))) (fun x=>[BH x.1 (lbs br (a/b)),BH x.2 (lbs br (a%b))]):=by
 have hla:=Bm br2 a
 have hlb:=Bm br2 b
 have hal:=AK br2 a
 have hbl:=AK br2 b
 obtain⟨K,hK⟩: ∃n,(lbs br a).length=n:=⟨_,rfl⟩
 obtain⟨n,hn⟩: ∃n,(lbs br b).length=n:=⟨_,rfl⟩
 have hn0:n≠0:=fun e=>by
  have:=(Dl br2).1 (List.length_eq_zero_iff.1 (hn.trans e));omega
 rw[hK] at hna hal
 rw[hn] at hnb hbl
 refine Ab (args:=[slv p (lbs br a).length cap,slv q (lbs br b).length cap2]) Tryz.func144 I I I ?_
 rw[hK,hn]
 refine zA (zB (wP I (wP I (Aa (zE (zA (zA (zB (wP I (wP I (wP I ?_)))))))))))
 by_cases hn1:n=1
 ·subst hn1
  obtain⟨b1,o1,rfl,r1⟩:=hB.row (show 0<(lbs br b).length by omega)
  have r1:=r1 0 (by omega)
  obtain⟨v,hv⟩: ∃v,lim (lbs br b) 0=v:=⟨_,rfl⟩
  rw[hv] at r1
  have hvb:v<br:=by rw[←hv];exact Bi br2 hlb _
  rw[Bk br2,Nat.pow_zero,Nat.div_one,Nat.mod_eq_of_lt (by rw[Nat.pow_one] at hbl;exact hbl)] at hv
  subst hv
  refine wU 14 true I (by simp) (Aa (zE (zR I (zA (zB (wP I (wP I ?_)))))))
  refine wJ ?_
  refine wL 0 I I (fun W hp=>r1.hp hp) I ?_
  refine wD (X:=NV×NV) I I (fun W' hp=>by have h:=On W' p cap a b (hA.hp hp) (by omega) hb0 hvb;rw[hK] at h;exact h) ?_
  rintro⟨x,y⟩ ⟨h1,h2⟩
  exact wP I (wP I (wP I (wP I (Aa (zE (zO (zP (AJ tH I (.tmp I) (.tmp I) (x,y) I ⟨h1,h2⟩ fun W hp=>As.of_hp hp))))))))
 obtain⟨m,rfl⟩: ∃m,n=m+2:=⟨n-2,by omega⟩
 refine wU 14 false I (by rw[beq_eq_false_iff_ne];omega) (Aa ?_)
 obtain⟨bq,oq,rfl,rq⟩:=hB.row (show 0<(lbs br b).length by omega)
 obtain⟨u1,hu1⟩: ∃v,lim (lbs br b) (m+1)=v:=⟨_,rfl⟩
 obtain⟨u0,hu0⟩: ∃v,lim (lbs br b) m=v:=⟨_,rfl⟩
 have rq1:=rq (m+1) (by omega)
 have rq0:=rq m (by omega)
 rw[hu1] at rq1
 rw[hu0] at rq0
 have hu1b:u1<1000000:=by rw[←hu1];exact Bi br2 hlb _
 have hu0b:u0<1000000:=by rw[←hu0];exact Bi br2 hlb _
 rw[Bk br2] at hu1 hu0
 have ht2:=Yf hbl
 rw[hu1,hu0] at ht2
 have ht2:u1*1000000+u0=b/br^m:=ht2
 obtain⟨tp,htp⟩: ∃tp,tp=b/br^m:=⟨_,rfl⟩
 have hpm:0<br^m:=Nat.pow_pos (by decide)
 refine zE (zS I (zI (zE (zA (zB (wP I (wP I (wP I (Aa (zE (zA (zU (qP I (qP I (qP I ?_)))))))))))))))
 refine qV 26 ((m+1:Nat):Int) I (by show w64 (((m+2:Nat):Int)-1)=_;rw[Ap (by omega) (by omega)];omega) ?_
 refine qJ ?_
 refine qL 0 I I (fun W hp=>rq1.hp hp) I (qP I (qP I (qP I (qP I (qV 32 (m:Nat) I (by show w64 (((m+2:Nat):Int)-2)=_;rw[Ap (by omega) (by omega)];omega) ?_)))))
 refine qJ ?_
 refine qL 0 I I (fun W hp=>rq0.hp hp) I (qP I (qV 35 (tp:Nat) I (by show w64 (w64 ((u1:Int)*((1000000:Nat):Int))+u0)=_;rw[Ck (by omega),AV (by omega),htp,ht2]) (qP I (AT (Aa (zE (zA (zB (wP I (wP I ?_))))))))))
 refine Cd Tryz.vec130 K I I I I I I I (by simp only[maxLen];omega) (by omega) ?_
 intro g
 have ez:Cc (Value.cells (.int .i64 0)).toList K=nI (List.replicate K 0)++[]:=by rw[List.append_nil];exact FB K
 rw[ez]
 refine wP I (Aa (zE (zA (zB ?_))))
 refine E3 tH I I I I I ?_
 intro gr
 refine wP I (Aa (zE (zA (zA (zB (wP I (wP I (wP I (wV 42 ((K:Int)-1) I (Ap (by omega) (by omega)) (wP I (Aa (zE (zH ?_)))))))))))))
 have e0:lbs br 0=[]:=Bc
 refine AA (X:=Nat×List Nat×Nat×Nat×NV) (fun x=>[(0,slv p K cap),(1,slv (some ⟨bq,oq,none⟩) (m+2) cap2),(6, .int .i64 ((m+2:Nat):Int)),(7, .int .i64 (tp:Nat)),(8,slv (some ⟨g,0,none⟩) K K),(9,B2 x.2.2.2.2 (lbs br x.2.2.2.1).length),(10, .int .i64 ((x.1:Nat)-1:Int))]) (fun x=>[⟨g,3,nI x.2.1++[],true,none⟩,BH x.2.2.2.2 (lbs br x.2.2.2.1)])
  (fun x=>(x.1≤K∧x.2.1.length=K∧(∀y∈x.2.1,y<br)∧lv br x.2.1=br^x.1*x.2.2.1∧a/br^x.1=x.2.2.1*b+x.2.2.2.1∧x.2.2.2.1<b)∧Cn x.2.2.2.2 (lbs br x.2.2.2.1)) (fun x=>x.1) (K,List.replicate K 0,0,0,(gr,0,[])) ⟨⟨Nat.le_refl _,List.length_replicate,Hq (by decide) K,by rw[EK];show 0=br^K*0;rw[Nat.mul_zero],by show a/br^K=0*b+0;rw[Nat.div_eq_of_lt hal];omega,hb0⟩,by show Cn _ (lbs br 0);rw[e0];exact⟨rfl,(fun h=>by cases h),fun _=>⟨Nat.le_refl _,Nat.zero_le _,rfl⟩⟩⟩ ⟨rfl,rfl,rfl,rfl,rfl,by show _=some (slv _ (lbs br 0).length 0);rw[e0];rfl,rfl,trivial⟩ [] (by show _=[_,BH _ (lbs br 0)]++[];rw[e0];rfl) ?_
 rintro⟨k,l,qh,rs,x⟩ ⟨⟨hk,hl,hllt,hlv,hq,hr⟩,hx⟩
 have hk:k≤K:=hk
 have hl:l.length=K:=hl
 have hlv:lv br l=br^k*qh:=hlv
 have hq:a/br^k=qh*b+rs:=hq
 have hr:rs<b:=hr
 have hx:Cn x (lbs br rs):=hx
 refine zA (zA (zB (wP I (wP I ?_))))
 cases k with
 |zero=>
  have hq:a=qh*b+rs:=by simpa using hq
  have hlv:lv br l=qh:=by rw[hlv];simp
  obtain⟨eq1,eq2⟩:=NG hq hr
  refine wU 44 false I (dF (by show¬(((0:Nat):Int)-1≥0);omega)) (Aa (zE (zS I (zJ (zK (zK (zL (zE (zA (zB ?_))))))))))
  have hV0:(⟨some g,K,[]⟩:Vec).OK 1 l.length (nI l):=⟨E8 _,(fun h=>by cases h),fun _=>⟨by show _≤K;omega,by show K≤maxLen;simp only[maxLen];omega,by show(nI l).length+0=K*1;rw[BB];omega⟩⟩
  obtain⟨j1,hV1,he1⟩:=DK hV0 hllt
  refine wP I ?_
  refine Af 92 (slv (some ⟨g,0,none⟩) l.length K) I (by rw[hl]) ?_
  refine wC I I (fun W hp=>CF W _ K _ (Ax.of_bx hp 0 I) hllt (by omega) (by omega)) (wP I (wP I (wP I (Aa (zE (zO ?_))))))
  rw[hlv, ←eq1] at hV1 he1
  rw[←eq2] at hx
  exact AJ tH I (.tmp I) (.tmp I) (((g,K,j1):NV),x) (by rw[hlv, ←eq1, ←eq2]) ⟨hV1,hx⟩ fun W hp=>As.of_hp (hp.pick (l:=[BH (g,K,j1) (lbs br (a/b)),BH x (lbs br (a%b))]) [0,1] (by decide) (by
   show some [(⟨g,3,nI l++[],true,none⟩:Bx),BH x (lbs br rs)]=some [⟨g,3,nI (lbs br (a/b))++j1,true,none⟩,BH x (lbs br (a%b))]
   rw[he1,eq2]))
 |succ k=>
  have hq:a/br^(k+1)=qh*b+rs:=hq
  have hi:k<l.length:=by rw[hl];omega
  obtain⟨b1,o1,rfl,r1⟩:=hA.row (show k<(lbs br a).length by omega)
  have r1:=r1 k (by omega)
  obtain⟨v,hv⟩: ∃v,lim (lbs br a) k=v:=⟨_,rfl⟩
  rw[hv] at r1
  have hvb:v<br:=by rw[←hv];exact Bi br2 hla _
  have hvb':v<1000000:=hvb
  have hve:v=a/br^k%br:=by rw[←hv];exact Bk br2 a _
  obtain⟨w,hw⟩: ∃w,w=v+rs*br:=⟨_,rfl⟩
  have hlw:lv br (v::lbs br rs)=w:=by rw[Ud hvb,hw,Nat.add_comm]
  have hrsb:=hr
  have hwlt:w<br*b:=by
   have:(rs+1)*br≤b*br:=Nat.mul_le_mul_right _ hr
   rw[Nat.add_mul,Nat.one_mul] at this
   rw[hw,Nat.mul_comm br b];omega
  have hwlt3:w<br^(m+3):=by
   have h1:br*b<br*br^(m+2):=Nat.mul_lt_mul_of_pos_left hbl (by decide)
   rw[show br^(m+3)=br*br^(m+2) by rw[Nat.pow_succ,Nat.mul_comm]];omega
  have hwb:w/b<br:=Nat.div_lt_of_lt_mul (by rw[Nat.mul_comm];exact hwlt)
  have hs:=ID (B:=br) (d:=b) (q:=qh) (r:=rs) (i:=k) hq (n:=w) (by rw[hw,hve])
  have hzero:l[k]? =some 0:=by
   rw[Du hi,Ct br2 _ hllt,hlv,Nat.pow_succ,Nat.mul_assoc,Nat.mul_div_cancel_left _ (Nat.pow_pos (by decide)),Nat.mul_mod_right]
  have hset:=Hu (B:=br) (w/b) hzero
  rw[Nat.mul_zero,Nat.add_zero,hlv,Nat.pow_succ,Nat.mul_assoc, ←Nat.mul_add] at hset
  have hrl:(lbs br rs).length≤m+2:=(BP br2).2 (by omega)
  have hwl:(lbs br w).length≤m+3:=(BP br2).2 hwlt3
  refine wU 44 true I (dT (by show(((k+1:Nat):Int)-1≥0);omega)) (Aa (zE (zR I (zI (zE (zA (zH (zA (zB (wP I (wP I (wV 48 (k:Nat) I (by show((k+1:Nat):Int)-1=_;omega) ?_))))))))))))
  refine wJ ?_
  refine wL 0 I I (fun W hp=>r1.hp hp) I ?_
  refine AF Tryz.hZ tH I I I I I I I I I I I fun bN=> ?_
  refine wP I ?_
  refine Gh (len:=1) (V:=⟨some bN,1,[]⟩) (xs:=nI [v]) (news:=nI (lbs br rs)) 2 Tryz.vec130 rfl rfl rfl rfl rfl rfl rfl rfl rfl ⟨rfl,(fun h=>by cases h),fun _=>⟨Nat.le_refl _,(by show 1≤maxLen;decide),rfl⟩⟩ (E8 _) (fun W' hp j u hj=> ?_) (fun u hu=> ?_) (by dsimp only;simp only[maxLen];omega) (by dsimp only;omega) ?_
  ·have hrow:=Ak.of_bx hp 1 rfl rfl
   have:=hrow.get j u (by show(nI (lbs br rs)++x.2.2)[j]? =_;rw[List.getElem?_append_left (List.getElem?_eq_some_iff.1 hj).1];exact hj)
   rw[Addr.add_none]
   exact this
  ·obtain⟨z,_,rfl⟩:=List.mem_map.1 hu;rfl
  intro V' hV' hV0
  obtain⟨pv,cv,jv⟩:=V'
  cases pv with
  |none=>have:=hV'.nil rfl;omega
  |some gv=>
  have ecat:nI [v]++nI (lbs br rs)=nI (v::lbs br rs):=rfl
  rw[ecat] at hV'⊢
  have hV':(⟨some gv,cv,jv⟩:Vec).OK 1 (v::lbs br rs).length (nI (v::lbs br rs)):=by rw[List.length_cons,Nat.add_comm];exact hV'
  have hclt: ∀y∈v::lbs br rs,y<br:=fun y hy=>by
   rcases List.mem_cons.1 hy with rfl|hy
   ·exact hvb
   ·exact Bm br2 rs y hy
  obtain⟨jw,hVw,hew⟩:=DK hV' hclt
  rw[hlw] at hVw hew
  refine Af 53 (slv (some ⟨gv,0,none⟩) (v::lbs br rs).length cv) I (by show slv _ (1+_) _=_;rw[List.length_cons,Nat.add_comm]) ?_
  refine wC I I (fun W hp=>(CF W (some ⟨gv,0,none⟩) cv _ (Ax.of_bx hp 2 I) hclt (by have:=(hV'.cap (by simp)).1;exact this) (by rw[List.length_cons];omega)).cast (v':=slv (some ⟨gv,0,none⟩) (lbs br w).length cv) (by rw[hlw])) (wP I (Aa ?_))
  obtain⟨l2,hl2⟩: ∃v,lim (lbs br w) (m+2)=v:=⟨_,rfl⟩
  obtain⟨l1,hl1⟩: ∃v,lim (lbs br w) (m+1)=v:=⟨_,rfl⟩
  obtain⟨l0,hl0⟩: ∃v,lim (lbs br w) m=v:=⟨_,rfl⟩
  have hl2b:l2<1000000:=by rw[←hl2];exact Bi br2 (Bm br2 w) _
  have hl1b:l1<1000000:=by rw[←hl1];exact Bi br2 (Bm br2 w) _
  have hl0b:l0<1000000:=by rw[←hl0];exact Bi br2 (Bm br2 w) _
  have ht3:=Ya hwlt3
  rw[←Bk br2, ←Bk br2, ←Bk br2,hl2,hl1,hl0] at ht3
  have ht3:(l2*1000000+l1)*1000000+l0=w/br^m:=ht3
  obtain⟨e,he⟩: ∃e,e=w/br^m/(b/br^m+1):=⟨_,rfl⟩
  have hest:=Xx he hpm
  have heb:e≤w/b:=(Nat.le_div_iff_mul_le hb0).2 hest
  have hebr:e<1000000:=Nat.lt_of_le_of_lt heb hwb
  have htpb:tp<1000000000000:=by rw[htp, ←ht2];omega
  have hlW: ∀ {W1:World} {bxs:List Bx},Hp W bxs W1→nth bxs 2=some (⟨gv,3,nI (v::lbs br rs)++jv,true,none⟩:Bx)→Ax W1 (some ⟨gv,0,none⟩) (lbs br w):=fun hp h2=>by rw[hew] at h2;exact Ax.of_bx hp 2 h2
  refine zE (zA (zB (wP I (wP I (wC I I (fun W' hp=>Db W' (some ⟨gv,0,none⟩) cv _ (lbs br w) (m+2) l2 (hlW hp I) I (by omega) hl2) (wP I (wP I (wP I (wP I (wV 61 ((m+1:Nat):Int) I (by show w64 (((m+2:Nat):Int)-1)=_;rw[Ap (by omega) (by omega)];omega) (wC I I (fun W' hp=>Db W' (some ⟨gv,0,none⟩) cv _ (lbs br w) (m+1) l1 (hlW hp I) I (by omega) hl1) ?_)))))))))))
  iterate 5 refine wP I ?_
  refine wV 67 (m:Nat) I (by show w64 (((m+2:Nat):Int)-2)=_;rw[Ap (by omega) (by omega)];omega) (wC I I (fun W' hp=>Db W' (some ⟨gv,0,none⟩) cv _ (lbs br w) m l0 (hlW hp I) I (by omega) hl0) (wP I (wV 69 ((w/br^m:Nat):Int) I (by show w64 (w64 (w64 (w64 ((l2:Int)*((1000000:Nat):Int))+l1)*((1000000:Nat):Int))+l0)=_;rw[Ck (by omega),AV (by omega),Ck (by omega),AV (by omega),ht3]) (wP I (wP I (wV 71 ((tp+1:Nat):Int) I (Ay (by omega)) ?_))))))
  refine D5 I I I I I (by omega) ?_
  refine wV 72 (e:Nat) I (by rw[he, ←htp];exact BG (by rw[←htp] at he;rw[←he];omega)) (wP I (Aa (zE (zA (zB (wP I (wP I (wP I ?_))))))))
  refine AF Tryz.hZ tH I I I I I I I I I I I fun bE=> ?_
  refine wD (X:=NV) I I (fun W' hp=>by
   have h:=Ip W' (some ⟨bq,oq,none⟩) (some ⟨bE,0,none⟩) cap2 1 b [e] (fun y hy=>by obtain rfl:=List.mem_singleton.1 hy;exact hebr) (hB.hp hp) (Ax.of_bx (junk:=[]) hp 3 rfl) (by omega) (by show 1≤1000000;decide)
   rw[hn,Ow] at h
   exact h) ?_
  intro xt hxt
  refine wD (X:=NV) I I (fun W' hp=>Fe W' (some ⟨gv,0,none⟩) (some ⟨xt.1,0,none⟩) cv xt.2.1 w (b*e) (by rw[Nat.mul_comm];exact hest) (hlW hp I) (Ax.of_bx hp 4 I) (by omega)) ?_
  intro x1 hx1
  refine wP I (Aa (AI ?_))
  try refine A0 ?_
  refine AG (X:=NV) (fun x2=>[(0,slv (some ⟨b1,o1,none⟩) K cap),(1,slv (some ⟨bq,oq,none⟩) (m+2) cap2),(6, .int .i64 ((m+2:Nat):Int)),(7, .int .i64 (tp:Nat)),(8,slv (some ⟨g,0,none⟩) K K),(9,B2 x2 (lbs br (w%b)).length),(10, .int .i64 (k:Nat)),(11, .int .i64 ((w/b:Nat):Int))]) (fun x2=>[⟨g,3,nI l++[],true,none⟩,BH x2 (lbs br (w%b))]) (fun x2=>Cn x2 (lbs br (w%b))) ?_ ?_
  ·refine zH ?_
   refine Ea (X:=Nat×Nat×NV) (fun y=>[(0,slv (some ⟨b1,o1,none⟩) K cap),(1,slv (some ⟨bq,oq,none⟩) (m+2) cap2),(6, .int .i64 ((m+2:Nat):Int)),(7, .int .i64 (tp:Nat)),(8,slv (some ⟨g,0,none⟩) K K),(9,B2 y.2.2 (lbs br y.2.1).length),(10, .int .i64 (k:Nat)),(11, .int .i64 (y.1:Nat))]) (fun y=>Hp W [⟨g,3,nI l++[],true,none⟩,BH y.2.2 (lbs br y.2.1)]) (fun y=>w=y.1*b+y.2.1∧Cn y.2.2 (lbs br y.2.1)) (fun y=>y.2.1) (e,w-b*e,x1) ⟨by show w=e*b+(w-b*e);rw[Nat.mul_comm b e];omega,hx1⟩ ⟨I,I,I,I,I,I,congrArg (fun z=>some (Value.int .i64 z)) (by show((k+1:Nat):Int)-1=(k:Nat);omega),I,tO⟩ (fun W hp=>hp.pick [0,5] (by decide) I) ?_
   rintro⟨e1,w1,x2⟩ ⟨hw1,hx2⟩
   have hw1:w=e1*b+w1:=hw1
   have hx2:Cn x2 (lbs br w1):=hx2
   have hw1l:(lbs br w1).length≤m+3:=(BP br2).2 (by omega)
   refine zA (zA (zB (wP I (wP I ?_))))
   refine wC I I (fun W' hp=>by
    have h:=K2 W' (some ⟨x2.1,0,none⟩) (some ⟨bq,oq,none⟩) x2.2.1 cap2 w1 b (Ax.of_bx hp 1 rfl) (hB.hp hp) (by omega) (by omega)
    rw[hn] at h
    exact h) ?_
   refine wP I ?_
   by_cases hge:b≤w1
   ·have hc:0≤Mh w1 b:=by unfold Mh;rw[if_neg (by omega)];split<;>decide
    have he1:e1<w/b:=by
     have h1:(e1+1)*b≤w:=by rw[Nat.add_mul,Nat.one_mul];omega
     have:=(Nat.le_div_iff_mul_le hb0).2 h1
     omega
    have he1b:e1<1000000:=Nat.lt_trans he1 hwb
    refine wU 82 true I (dT hc) (Aa (zE (zR I (zI (zE (zH (zA (zB (wP I (wP I ?_))))))))))
    refine wD (X:=NV) I I (fun W' hp=>by
     have h:=Fe W' (some ⟨x2.1,0,none⟩) (some ⟨bq,oq,none⟩) x2.2.1 cap2 w1 b hge (Ax.of_bx hp 1 rfl) (hB.hp hp) (by omega)
     rw[hn] at h
     exact h) ?_
    intro x3 hx3
    exact wP I (Aa (zE (zB (wP I (wP I (wV 87 ((e1+1:Nat):Int) I (Ay (by omega)) (wP I (Aa (zN (Ei (e1+1,w1-b,x3) ⟨by show w=(e1+1)*b+(w1-b);rw[Nat.add_mul,Nat.one_mul];omega,hx3⟩ (by show w1-b<w1;omega) ⟨I,I,I,I,I,I,I,I,tO⟩ (fun W hp=>hp.pick [0,2] (by decide) I)))))))))))
   ·have hc: ¬(0:Int)≤Mh w1 b:=by unfold Mh;rw[if_pos (by omega)];decide
    obtain⟨d1,d2⟩:=NG hw1 (show w1<b by omega)
    exact wU 82 false I (dF hc) (Aa (zE (zS I (zJ (zK (zK (zL (An x2 (by show Cn x2 (lbs br (w%b));rw[d2];exact hx2) ⟨I,I,I,I,I,by rw[d2];rfl,I,by rw[d1];rfl,tO⟩ [] (by rw[d2];rfl)))))))))
  intro x2 hx2
  have hx2:Cn x2 (lbs br (w%b)):=hx2
  refine zB (wP I (wP I (wP I ?_)))
  refine wJ ?_
  refine Aw 0 (nI (l.set k (w/b))++[]) tH I I I I I I I I I I (by show 0+k*1+1≤(nI l++[]).length;rw[List.append_nil,BB];omega) (Cy hi (w/b)) ?_
  exact Aa (zN (zE (zB (wP I (wP I (wV 46 ((k:Nat)-1:Int) I (Ap (by omega) (by omega)) (wP I (Aa (A6 (k,l.set k (w/b),qh*br+w/b,w%b,x2) ⟨⟨by show k≤K;omega,by rw[List.length_set];exact hl,CM hllt hwb,by show lv br (l.set k (w/b))=br^k*(qh*br+w/b);rw[hset,Nat.mul_comm qh],by show a/br^k=_;exact hs,Nat.mod_lt _ hb0⟩,hx2⟩ (by show k<k+1;omega) ⟨I,I,I,I,I,I,I,tO⟩ [] I)))))))))
-- BOXES 6
-- CODE2
theorem T2 (x y:Int):Nat.gcd y.natAbs (x.tmod y).natAbs=Nat.gcd x.natAbs y.natAbs:=by
 rw[Int.natAbs_tmod,Nat.gcd_comm, ←Nat.gcd_rec,Nat.gcd_comm]
theorem Mz (a b:Int) (ha:(decDigits a.natAbs).length≤300) (hb:(decDigits b.natAbs).length≤300) (W:World) (ht:AM W):
  Ai Tryz.prog 86 #[str (itoa a),str (itoa b)] W (fun _:Unit=> .tuple #[str (itoa ((Nat.gcd a.natAbs b.natAbs:Nat):Int)), .int .i64 0]) (fun _=>True) (fun _=>[]):=by
 have la:=Cm (m:=a.natAbs) (by omega)
 have lb:=Cm (m:=b.natAbs) (by omega)
 refine Ab (args:=[str (itoa a),str (itoa b)]) Tryz.func86 I I I ?_
 refine zA (zB (wP I (wP I (Aa (zE (zA (zA (zB (wP I (wP I (wC I I (fun W _=>Df a b ha hb W) (wP I (Aa ?_)))))))))))))
 refine zE (zA (zB (wP I (wP I (Aa (zE (zS I (zI (zE (zA (zA (zB ?_))))))))))))
 cases hs:smI a&&smI b with
 |true=>
  obtain⟨h1,h2⟩:=Bool.and_eq_true_iff.1 hs
  have b1:=Hs h1
  have b2:=Hs h2
  refine wP I (wP I (wC I I (fun W _=>GR hs W) ?_))
  iterate 7 refine wP I ?_
  refine Aa (zE (zA (zB (wP I (Aa (zE (zR I (zA (zH ?_)))))))))
  refine AA (X:=Int×Int) (fun x=>[(7, .int .i64 x.1),(8, .int .i64 x.2)]) (fun _=>[]) (fun x=>x.1.natAbs<100000000000000000∧x.2.natAbs<100000000000000000∧Nat.gcd x.1.natAbs x.2.natAbs=Nat.gcd a.natAbs b.natAbs) (fun x=>x.2.natAbs) (a,b) ⟨b1,b2,I⟩ ⟨I,I,tO⟩ [] I ?_
  rintro⟨x,y⟩ ⟨hx,hy,hg⟩
  have hx:x.natAbs<100000000000000000:=hx
  have hy:y.natAbs<100000000000000000:=hy
  have hg:Nat.gcd x.natAbs y.natAbs=Nat.gcd a.natAbs b.natAbs:=hg
  refine zA (zA (zB (wP I (wP I ?_))))
  by_cases h0:y=0
  ·refine wU 29 false I (by rw[bne_eq_false_iff_eq];exact h0) (Aa (zE (zS I (zJ (zK (zK (zL (zE (zA (zB (wP I (wP I (wP I ?_)))))))))))))
   refine wV 36 (-x) I (show w64 (0-x)=_ by rw[Ap (by omega) (by omega)];omega) (wP I ?_)
   refine Af 37 (.int .i64 ((Nat.gcd a.natAbs b.natAbs:Nat):Int)) I (congrArg (Value.int .i64) (by
    rw[←hg,h0,Int.natAbs_zero,Nat.gcd_zero_right]
    show(if -x>x then -x else x)=_;split<;>omega)) ?_
   have hgl:Nat.gcd a.natAbs b.natAbs<100000000000000000:=by rw[←hg,h0,Int.natAbs_zero,Nat.gcd_zero_right];exact hx
   exact wC I I (fun W hp=>Bu ((Nat.gcd a.natAbs b.natAbs:Nat):Int) (by omega) (by omega) W (ht.hp hp)) (wP I (wP I (Aa (zE (zO (zP (wR2 I I I)))))))
  ·refine wU 29 true I (by rw[bne_iff_ne];exact h0) (Aa (zE (zR I (zI (zE (zH (zU (qP I (qP I (qP I ?_))))))))))
   refine Ex I I I I I h0 ?_
   refine qP I (qP I (AT (Aa (zN ?_))))
   have hr:(x.tmod y).natAbs<y.natAbs:=by rw[Int.natAbs_tmod];exact Nat.mod_lt _ (by omega)
   exact A6 (y,x.tmod y) ⟨hy,Nat.lt_trans hr hy,by show Nat.gcd y.natAbs (x.tmod y).natAbs=_;rw[T2];exact hg⟩ hr ⟨I,I,tO⟩ [] I
 |false=>
  obtain⟨x0,y0,h2⟩:=GB hs ha hb
  refine wP I (wP I (wC I I (fun W _=>h2 W) ?_))
  iterate 7 refine wP I ?_
  refine Aa (zE (zA (zB (wP I (Aa (zE (zS I (zI (zE (zA (zB (wP I ?_))))))))))))
  refine wD (X:=NV) I I (fun W' _=>Be a (by omega) W') ?_
  intro x hx
  refine wP I (wP I ?_)
  refine wD (X:=NV) I I (fun W' _=>Be b (by omega) W') ?_
  intro y hy
  refine wP I (wP I (wP I (Aa (zE (zA (zH ?_))))))
  refine Ea (X:=(Nat×NV)×(Nat×NV)) (fun s=>[(10,B2 s.1.2 (lbs br s.1.1).length),(11,B2 s.2.2 (lbs br s.2.1).length)]) (fun s=>Hp W [BH s.1.2 (lbs br s.1.1),BH s.2.2 (lbs br s.2.1)]) (fun s=>Nat.gcd s.1.1 s.2.1=Nat.gcd a.natAbs b.natAbs∧(lbs br s.1.1).length≤101∧(lbs br s.2.1).length≤101) (fun s=>s.2.1) ((a.natAbs,x),(b.natAbs,y)) ⟨I,la,lb⟩ ⟨I,I,tO⟩ (fun W hp=>hp) ?_
  rintro⟨⟨u,x⟩,⟨v,y⟩⟩ ⟨hg,hu,hv⟩
  have hg:Nat.gcd u v=Nat.gcd a.natAbs b.natAbs:=hg
  have hu:(lbs br u).length≤101:=hu
  have hv:(lbs br v).length≤101:=hv
  refine zA (zA (zB (wP I (wP I (wP I ?_)))))
  by_cases h0:v=0
  ·have e1:Nat.gcd a.natAbs b.natAbs=u:=by rw[←hg,h0,Nat.gcd_zero_right]
   have key: ∀e k,e=6*k→0<e→(lbs br u).length≤k→(decDigits u).length≤e:=fun e k he h0e hk=>by
    refine Dv e u (by omega) ?_
    have:=AK br2 u
    refine Nat.lt_of_lt_of_le this ?_
    rw[Kn];exact Nat.pow_le_pow_right (by decide) (by omega)
   have hul:=key 606 101 rfl (by decide) hu
   refine wU 47 false I (dF (by rw[h0,Bc];decide)) (Aa (zE (zS I (zJ (zK (zK (zL (zE (zA (zB (wP I ?_)))))))))))
   refine Az Tryz.hZ tH I I I I I I I I ?_
   refine Af 57 (IZ ((u:Nat):Int) (some ⟨x.1,0,none⟩) x.2.1) I (by unfold IZ;rw[dF (show¬((u:Nat):Int)<0 by omega),Int.natAbs_natCast];rfl) ?_
   exact wC I I (fun W' hp=>EV ((u:Nat):Int) (by rw[Int.natAbs_natCast];exact hul) W' (some ⟨x.1,0,none⟩) x.2.1 (by rw[Int.natAbs_natCast];exact Ax.of_bx hp 0 I)) (wP I (wP I (Aa (zE (zO (wR2 I I (by rw[e1])))))))
  ·have hL:(lbs br v).length≠0:=fun e=>h0 ((Dl br2).1 (List.length_eq_zero_iff.1 e))
   have hr:u%v<v:=Nat.mod_lt _ (by omega)
   refine wU 47 true I (dT (by show(((lbs br v).length:Nat):Int)>0;omega)) (Aa (zE (zR I (zI (zE (zH (zA (zB (wP I (wP I ?_))))))))))
   refine wD (X:=NV×NV) I I (fun W' hp=>Ix W' (some ⟨x.1,0,none⟩) (some ⟨y.1,0,none⟩) x.2.1 y.2.1 u v (by omega) (Ax.of_bx hp 0 I) (Ax.of_bx hp 1 I) (by omega) (by omega)) ?_
   rintro⟨q,w⟩ ⟨hq,hw⟩
   iterate 5 refine wP I ?_
   exact Aa (zE (zB (wP I (wP I (wP I (wP I (Aa (zN (Ei ((v,y),(u%v,w)) ⟨by show Nat.gcd v (u%v)=_;rw[Nat.gcd_comm, ←Nat.gcd_rec,Nat.gcd_comm];exact hg,hv,by show(lbs br (u%v)).length≤101;exact Nat.le_trans ((BP br2).2 (Nat.lt_trans hr (AK br2 v))) hv⟩ hr ⟨I,I,tO⟩ (fun W hp=>hp.pick [1,3] (by decide) I))))))))))
-- BOXES 4
def H2 (W:World) (p:Option Addr) (l:List (List UInt8)):Prop:=l=[]∨ ∃b off,p=some ⟨b,off,none⟩∧Ak W b off (l.map str)
theorem H2.below {W W':World} {p:Option Addr} {l:List (List UInt8)} {n:Nat} (h:H2 W p l) (hn:W.heap.size≤n) (hb:Below n W W'):H2 W' p l:=by
 rcases h with h|⟨b,off,h1,h2⟩
 ·exact .inl h
 ·exact .inr ⟨b,off,h1,h2.below hn hb⟩
theorem H2.hp {W0 W:World} {bxs:List Bx} {p:Option Addr} {l:List (List UInt8)} (h:H2 W0 p l) (hp:Hp W0 bxs W):H2 W p l:=h.below (Nat.le_refl _) hp.below
theorem H2.row {W:World} {p:Option Addr} {l:List (List UInt8)} (h:H2 W p l) {i:Nat} (hi:i<l.length): ∃b off,p=some ⟨b,off,none⟩∧ ∀k (hk:k<l.length),Ak W b (off+k*1) [str l[k]]:=by
 rcases h with rfl|⟨b,off,h1,h2⟩
 ·exact absurd hi (Nat.not_lt_zero _)
 ·refine⟨b,off,h1,fun k hk=>⟨h2.lt,fun j u hu=> ?_⟩⟩
  have hj:j=0:=by have:=(List.getElem?_eq_some_iff.1 hu).1;simpa using this
  subst hj
  have:=h2.get k (str l[k]) (by rw[List.getElem?_map,List.getElem?_eq_getElem hk];rfl)
  rw[Nat.mul_one,Nat.add_zero,this]
  simpa using hu
theorem GQ (n:Nat):itoa (n:Int)=decDigits n:=by
 unfold itoa;rw[if_neg (by omega)];rfl
abbrev q2 (n:Int) (d:Nat) (h:d≠0:=by decide) (hc:n.natAbs.Coprime d:=by decide):Rat:=⟨n,d,h,hc⟩
theorem dd1 (n:Nat) (h:n<10):decDigits n=[UInt8.ofNat (48+n)]:=by rw[decDigits,dif_pos h]
theorem ns2:Ad (q2 2 1)=[50]:=by rw[Ad,EY,if_pos rfl];exact(GQ 2).trans (dd1 2 (by decide))
theorem ns3:Ad (q2 3 1)=[51]:=by rw[Ad,EY,if_pos rfl];exact(GQ 3).trans (dd1 3 (by decide))
-- BOXES 2
-- CODE2
theorem Vd (a:List UInt8):cut a [47]=(if hasPrefix a [45]=true then 45::(cut (trimPrefix a [45]) [47]).1 else(cut (trimPrefix a [45]) [47]).1,(cut (trimPrefix a [45]) [47]).2):=by
 rw[Bt,Ba]
 by_cases h:a[0]? =some 45
 ·rw[if_pos h,if_pos (dT h)]
  obtain⟨t,rfl⟩: ∃t,a=45::t:=by
   cases a with
   |nil=>cases h
   |cons b t=>
    have e:b=45:=by simpa using h
    exact⟨t,by rw[e]⟩
  show cut (45::t) [47]=(45::(cut t [47]).1,(cut t [47]).2)
  rcases Gn 47 t with h1|⟨x,y,rfl,h1⟩
  ·rw[ED h1,ED (show(47:UInt8)∉45::t from fun h=>by
    rcases List.mem_cons.1 h with h|h
    ·cases h
    ·exact h1 h)]
  ·rw[Gd y h1,show 45::(x++47::y)=(45::x)++47::y from rfl,Gd y (show(47:UInt8)∉45::x from fun h=>by
    rcases List.mem_cons.1 h with h|h
    ·cases h
    ·exact h1 h)]
 ·rw[if_neg h,if_neg (by rw[dF h];decide)]
theorem Wd {a:List UInt8} {c:UInt8} (h:(cut a [47]).1[0]? =some c):a[0]? =some c:=by
 rcases Gn 47 a with h1|⟨x,y,rfl,h1⟩
 ·rwa [ED h1] at h
 ·rw[Gd y h1] at h
  cases x with
  |nil=>cases h
  |cons b t=>exact h
theorem U1 {m:Bool} {n:List UInt8} (h:m=false→n[0]? ≠some 45):Gx (if m=true then 45::n else n)=if dgB n=true∧ ¬(m=true∧n=[48]) then some (if m=true then -(AQ n:Int) else AQ n) else none:=by
 have hd:dgB n=true↔(ldn n=n.length∧n≠[]∧(1<n.length→n[0]? ≠some 48)):=by
  rw[GM];exact⟨Lh,Jd⟩
 have key: ∀(x:List UInt8),hasPrefix x [45]=m→trimPrefix x [45]=n→Gx x=if dgB n=true∧ ¬(m=true∧n=[48]) then some (if m=true then -(AQ n:Int) else AQ n) else none:=fun x h1 h2=>by
  unfold Gx
  rw[h1,h2]
  by_cases hc:dgB n=true∧ ¬(m=true∧n=[48])
  ·rw[if_pos hc]
   obtain⟨c1,c2,c3⟩:=hd.1 hc.1
   rw[if_pos ⟨c1,c2,c3,hc.2⟩]
  ·rw[if_neg hc,if_neg fun h4=>hc ⟨hd.2 ⟨h4.1,h4.2.1,h4.2.2.1⟩,h4.2.2.2⟩]
 cases m with
 |true=>
  refine key _ ?_ ?_
  ·rw[if_pos rfl,Bt];rfl
  ·rw[if_pos rfl,Ba];rfl
 |false=>
  have h0:=h rfl
  refine key _ ?_ ?_
  ·rw[if_neg (by decide),Bt,dF h0]
  ·rw[if_neg (by decide),Ba,if_neg h0]
def MO (m:Bool) (n d:List UInt8) (sl:Bool):Bool:= !dgB n||(sl&&(!dgB d||decide (d=[48])||decide (d=[49])))||(m&&decide (n=[48]))
theorem VP (a:List UInt8):frm a=if MO (hasPrefix a [45]) (cut (trimPrefix a [45]) [47]).1 (cut (trimPrefix a [45]) [47]).2.1 (cut (trimPrefix a [45]) [47]).2.2=true then none
  else some (if hasPrefix a [45]=true then -(AQ (cut (trimPrefix a [45]) [47]).1:Int) else AQ (cut (trimPrefix a [45]) [47]).1,if (cut (trimPrefix a [45]) [47]).2.2=true then AQ (cut (trimPrefix a [45]) [47]).2.1 else 1):=by
 have h1:=Vd a
 have h2:hasPrefix a [45]=false→(cut (trimPrefix a [45]) [47]).1[0]? ≠some 45:=fun hm hc=>by
  have h3:=Wd hc
  rw[Bt] at hm
  have hm:=of_decide_eq_false hm
  rw[Ba,if_neg hm] at h3
  exact hm h3
 have h3:=U1 h2
 unfold frm
 generalize hasPrefix a [45]=m at*
 generalize cut (trimPrefix a [45]) [47]=c at*
 obtain⟨n,d,sl⟩:=c
 rw[h1]
 simp only at h3⊢
 rw[h3]
 have hd:dgB d=true↔(ldn d=d.length∧d≠[]∧(1<d.length→d[0]? ≠some 48)):=by
  rw[GM];exact⟨Lh,Jd⟩
 by_cases hc:dgB n=true∧ ¬(m=true∧n=[48])
 ·rw[if_pos hc]
  have e1:MO m n d sl=(sl&&(!dgB d||decide (d=[48])||decide (d=[49]))):=by
   unfold MO
   rw[hc.1]
   have:(m&&decide (n=[48]))=false:=by
    by_cases hm:m=true
    ·rw[hm,dF fun h=>hc.2 ⟨hm,h⟩];rfl
    ·rw[show m=false by simpa using hm];rfl
   rw[this,Bool.or_false];rfl
  rw[e1]
  simp only
  cases sl with
  |false=>rfl
  |true=>
   simp only[Bool.true_eq_false,if_false,Bool.true_and,if_true]
   by_cases hk:dgB d=true∧d≠[48]∧d≠[49]
   ·obtain⟨k1,k2,k3⟩:=hd.1 hk.1
    have e0:(!dgB d||decide (d=[48])||decide (d=[49]))=false:=by rw[hk.1,dF hk.2.1,dF hk.2.2];rfl
    rw[if_pos ⟨k1,k2,k3,hk.2⟩,e0,if_neg (show¬(false=true) by decide)]
   ·rw[if_neg fun h4=>hk ⟨hd.2 ⟨h4.1,h4.2.1,h4.2.2.1⟩,h4.2.2.2⟩,if_pos]
    by_cases k1:dgB d=true
    ·by_cases k2:d=[48]
     ·rw[dT k2];simp
     ·by_cases k3:d=[49]
      ·rw[dT k3];simp
      ·exact absurd ⟨k1,k2,k3⟩ hk
    ·rw[show dgB d=false by simpa using k1];rfl
 ·rw[if_neg hc,if_pos]
  unfold MO
  by_cases k1:dgB n=true
  ·by_cases k2:m=true
   ·by_cases k3:n=[48]
    ·rw[k2,dT k3];simp
    ·exact absurd ⟨k1,fun h=>k3 h.2⟩ hc
   ·exact absurd ⟨k1,fun h=>k2 h.1⟩ hc
  ·rw[show dgB n=false by simpa using k1];rfl
theorem Lg {n:List UInt8} (h:dgB n=true):n=decDigits (AQ n):=PZ.1 (GM.1 h)
theorem Qm {n:List UInt8} (h:dgB n=true) (hl:n.length≤9):AQ n<1000000000:=by
 have e:=Lg h
 rw[e] at hl
 exact M2 hl
theorem Dj (a:List UInt8) (ha:a.length<4611686018427387904) (W:World) (ht:AM W):
  Ai Tryz.prog 31 #[str a] W (fun _:Unit=> .int .i64 (rdR a).2) (fun _=>True) (fun _=>[]):=by
 have hfr:=VP a
 have hsv:Qp a=Qp a:=rfl
 have hcl:=Sq (trimPrefix a [45])
 have htl:(trimPrefix a [45]).length≤a.length:=by rw[Ba];split<;>simp
 have hmiss:(cut (trimPrefix a [45]) [47]).2.2=false→(cut (trimPrefix a [45]) [47]).2.1=[]:=fun h=>by
  rcases Gn 47 (trimPrefix a [45]) with h1|⟨x,y,e,h1⟩
  ·rw[ED h1]
  ·rw[e,Gd y h1] at h;cases h
 conv at hsv=>rhs;unfold Qp
 generalize hasPrefix a [45]=m at*
 generalize cut (trimPrefix a [45]) [47]=c at*
 obtain⟨n,d,sl⟩:=c
 simp only at hfr hsv hcl hmiss
 refine Ab (args:=[str a]) Tryz.func31 I I I ?_
 refine zA (zB (wP I (Aa (zE (zA (zB (wP I (wC I I (fun W _=>(FJ a ha W).cast hsv) ?_))))))))
 iterate 9 refine wP I ?_
 refine Aa ?_
 obtain⟨P1,e1⟩: ∃b,dgB n=b:=⟨_,rfl⟩
 obtain⟨P2,e2⟩: ∃b,dgB d=b:=⟨_,rfl⟩
 obtain⟨P3,e3⟩: ∃b,decide (d=[48])=b:=⟨_,rfl⟩
 obtain⟨P4,e4⟩: ∃b,decide (d=[49])=b:=⟨_,rfl⟩
 obtain⟨P5,e5⟩: ∃b,decide (n=[48])=b:=⟨_,rfl⟩
 have hB:MO m n d sl=(!P1||(sl&&(!P2||P3||P4))||(m&&P5)):=by unfold MO;rw[e1,e2,e3,e4,e5]
 refine AI (A0 (A0 ?_))
 refine AG (X:=Unit) (fun _=>[(4,str n),(5,str d),(6, .bool sl),(41, .bool (MO m n d sl))]) (fun _=>[]) (fun _=>True) ?_ ?_
 ·refine zB (wP I (wC I I (fun W _=>(Hj n (by omega) W).cast (v':= .bool P1) (by rw[e1])) (wP I (wP I ?_))))
  refine CN 19 I (fun h19=> ?_) (fun h19=> ?_)
  ·refine Al I I ?_
   iterate 13 refine Al I I ?_
   refine wP I (wP I ?_)
   iterate 5 refine Al I I ?_
   exact wP I (Aa (An () tO ⟨I,I,I,congrArg (fun b=>some (Value.bool b)) (by rw[hB];simp_all),tO⟩ [] I))
  ·refine wP I (wP I ?_)
   refine CN 21 I (fun h21=> ?_) (fun h21=> ?_)
   ·refine wP I (wC I I (fun W _=>(Hj d (by omega) W).cast (v':= .bool P2) (by rw[e2])) (wP I (wP I ?_)))
    refine CN 25 I (fun h25=> ?_) (fun h25=> ?_)
    ·refine Al I I ?_
     refine Al I I ?_
     refine wP I (wP I ?_)
     iterate 2 refine Al I I ?_
     refine wP I (wP I (wP I (wP I ?_)))
     iterate 5 refine Al I I ?_
     exact wP I (Aa (An () tO ⟨I,I,I,congrArg (fun b=>some (Value.bool b)) (by rw[hB];simp_all),tO⟩ [] I))
    ·refine wP I (wP I (wU 27 P3 I ((Bd _ _).trans e3) (wP I (wP I ?_))))
     refine CN 29 I (fun h29=> ?_) (fun h29=> ?_)
     ·refine Al I I ?_
      refine Al I I ?_
      refine wP I (wP I (wP I (wP I ?_)))
      iterate 5 refine Al I I ?_
      exact wP I (Aa (An () tO ⟨I,I,I,congrArg (fun b=>some (Value.bool b)) (by rw[hB];simp_all),tO⟩ [] I))
     ·refine wP I (wP I (wU 31 P4 I ((Bd _ _).trans e4) (wP I (wP I (wP I (wP I ?_))))))
      refine CN 35 I (fun h35=> ?_) (fun h35=> ?_)
      ·refine Al I I ?_
       iterate 4 refine Al I I ?_
       exact wP I (Aa (An () tO ⟨I,I,I,congrArg (fun b=>some (Value.bool b)) (by rw[hB];simp_all),tO⟩ [] I))
      ·refine wP I (wP I ?_)
       refine CN 37 I (fun h37=> ?_) (fun h37=> ?_)
       ·exact wP I (wP I (wU 39 P5 I ((Bd _ _).trans e5) (wP I (wP I (Aa (An () tO ⟨I,I,I,congrArg (fun b=>some (Value.bool b)) (by rw[hB];simp_all),tO⟩ [] I))))))
       ·refine Al I I ?_
        refine Al I I ?_
        exact wP I (wP I (Aa (An () tO ⟨I,I,I,congrArg (fun b=>some (Value.bool b)) (by rw[hB];simp_all),tO⟩ [] I)))
   ·refine Al I I ?_
    iterate 10 refine Al I I ?_
    iterate 5 refine wP I ?_
    refine CN 37 I (fun h37=> ?_) (fun h37=> ?_)
    ·exact wP I (wP I (wU 39 P5 I ((Bd _ _).trans e5) (wP I (wP I (Aa (An () tO ⟨I,I,I,congrArg (fun b=>some (Value.bool b)) (by rw[hB];simp_all),tO⟩ [] I))))))
    ·refine Al I I ?_
     refine Al I I ?_
     exact wP I (wP I (Aa (An () tO ⟨I,I,I,congrArg (fun b=>some (Value.bool b)) (by rw[hB];simp_all),tO⟩ [] I)))
 intro _ _
 refine Av I (fun hbad=> ?_) (fun hbad=> ?_)
 ·rw[if_pos hbad] at hfr
  exact zA (zB (wP I (Aa (zE (zO (zP (wR1 I I (by unfold rdR;rw[hfr]))))))))
 have hbad:MO m n d sl=false:=hbad
 rw[if_neg (by rw[hbad];decide)] at hfr
 have hn:dgB n=true:=by
  cases h:dgB n with
  |true=>rfl
  |false=>unfold MO at hbad;rw[h] at hbad;cases hbad
 have hdl:sl=true→dgB d=true:=fun hs=>by
  cases h:dgB d with
  |true=>rfl
  |false=>unfold MO at hbad;rw[h,hs,hn] at hbad;cases hbad
 have hna:(if m=true then -(AQ n:Int) else AQ n).natAbs=AQ n:=by split<;>omega
 have hne:=Lg hn
 have hlen1:n.length≤300↔AQ n<Bn:=by
  conv=>lhs;rw[hne]
  exact Gm
 have hlen2:d.length≤300↔(if sl=true then AQ d else 1)<Bn:=by
  cases hs:sl with
  |true=>
   rw[if_pos rfl]
   conv=>lhs;rw[Lg (hdl hs)]
   exact Gm
  |false=>
   rw[hmiss hs,if_neg (by decide)]
   exact⟨fun _=>Gm.1 (by rw[FI];decide),fun _=>by decide⟩
 have hcode:(rdR a).2=if AQ n<Bn∧(if sl=true then AQ d else 1)<Bn then(if Nat.gcd (AQ n) (if sl=true then AQ d else 1)=1 then 0 else 11) else 4:=by
  unfold rdR
  rw[hfr]
  simp only[hna]
  generalize (if sl=true then AQ d else 1)=k
  by_cases c1:AQ n<Bn∧k<Bn
  ·rw[if_pos c1,if_pos c1]
   by_cases c2:Nat.gcd (AQ n) k=1
   ·rw[if_pos c2,if_pos c2]
   ·rw[if_neg c2,if_neg c2]
  ·rw[if_neg c1,if_neg c1]
 refine zI (zE (A0 (A0 ?_)))
 refine AG (X:=Unit) (fun _=>[(4,str n),(5,str d),(6, .bool sl),(49, .bool (decide (¬(n.length≤300∧d.length≤300))))]) (fun _=>[]) (fun _=>True) ?_ ?_
 ·refine zB (wP I (wP I ?_))
  refine Af 43 (.int .i64 (n.length:Nat)) I (congrArg (fun n:Nat=>Value.int .i64 (n:Int)) (A4 n)) ?_
  refine wP I ?_
  by_cases h1:n.length≤300
  ·refine wU 44 false I (dF (by omega)) (wP I (wP I (wP I ?_)))
   refine Af 47 (.int .i64 (d.length:Nat)) I (congrArg (fun n:Nat=>Value.int .i64 (n:Int)) (A4 d)) ?_
   exact wP I (wU 48 (decide (¬(n.length≤300∧d.length≤300))) I (decide_eq_decide.2 (by show((d.length:Nat):Int)>300↔_;omega)) (wP I (Aa (An () tO ⟨I,I,I,I,tO⟩ [] I))))
  ·refine wU 44 true I (dT (by show((n.length:Nat):Int)>300;omega)) (wP I ?_)
   iterate 3 refine Al I I ?_
   exact wP I (Aa (An () tO ⟨I,I,I,by rw[dT (show¬(n.length≤300∧d.length≤300) by omega)];rfl,tO⟩ [] I))
 intro _ _
 refine Av I (fun hlong=> ?_) (fun hlong=> ?_)
 ·have hlong:=of_decide_eq_true hlong
  exact zA (zB (wP I (Aa (zE (zO (zP (wR1 I I (by rw[hcode,if_neg fun h=>hlong ⟨hlen1.2 h.1,hlen2.2 h.2⟩]))))))))
 have hlong:n.length≤300∧d.length≤300:=Decidable.byContradiction fun h=>of_decide_eq_false hlong h
 rw[if_pos ⟨hlen1.1 hlong.1,hlen2.1 hlong.2⟩] at hcode
 refine zI (zE (zA (zA (zB (wP I (wP I (Aa ?_)))))))
 cases hs:sl with
 |false=>
  have hcode:(rdR a).2=0:=by rw[hcode,hs];exact if_pos (show Nat.gcd (AQ n) 1=1 from Nat.gcd_one_right _)
  exact zE (zR I (zA (zB (wP I (Aa (zE (zO (zP (wR1 I I (by rw[hcode]))))))))))
 |true=>
  have hd:=hdl hs
  have hde:=Lg hd
  rw[hs,if_pos rfl] at hcode
  refine zE (zS I (zI (zE (A0 (A0 ?_)))))
  refine AG (X:=Unit) (fun _=>[(4,str n),(5,str d),(59, .bool (decide (n.length≤9∧d.length≤9)))]) (fun _=>[]) (fun _=>True) ?_ ?_
  ·refine zB (wP I (wP I ?_))
   refine Af 53 (.int .i64 (n.length:Nat)) I (congrArg (fun n:Nat=>Value.int .i64 (n:Int)) (A4 n)) ?_
   refine wP I ?_
   by_cases h1:n.length≤9
   ·refine wU 54 true I (dT (by omega)) (wP I (wP I (wP I ?_)))
    refine Af 57 (.int .i64 (d.length:Nat)) I (congrArg (fun n:Nat=>Value.int .i64 (n:Int)) (A4 d)) ?_
    exact wP I (wU 58 (decide (n.length≤9∧d.length≤9)) I (decide_eq_decide.2 (by omega)) (wP I (Aa (An () tO ⟨I,I,I,tO⟩ [] I))))
   ·refine wU 54 false I (dF (by omega)) (wP I ?_)
    iterate 3 refine Al I I ?_
    exact wP I (Aa (An () tO ⟨I,I,by rw[dF (fun h:n.length≤9∧d.length≤9=>h1 h.1)];rfl,tO⟩ [] I))
  intro _ _
  refine Av I (fun h9=> ?_) (fun h9=> ?_)
  ·obtain⟨h9,h9'⟩:=of_decide_eq_true h9
   have l1:AQ n<1000000000:=Qm hn h9
   have l2:AQ d<1000000000:=Qm hd h9'
   refine zA (zA (zB (wP I (wC I I (fun W _=>Ce n (by omega) (GM.1 hn).all W) (wP I (wC I I (fun W _=>Ce d (by omega) (GM.1 hd).all W) (wC I I (fun W _=>K7 (AQ n) (AQ d) (by omega) (by omega) W) (wP I ?_))))))))
   by_cases hg:Nat.gcd (AQ n) (AQ d)=1
   ·exact wU 65 false I (by rw[bne_eq_false_iff_eq];omega) (Aa (zE (zS I (zI (zE (zA (zB (wP I (Aa (zE (zO (zP (wR1 I I (by rw[hcode,if_pos hg]))))))))))))))
   ·exact wU 65 true I (by rw[bne_iff_ne];omega) (Aa (zE (zR I (zA (zB (wP I (Aa (zE (zO (zP (zP (wR1 I I (by rw[hcode,if_neg hg])))))))))))))
  ·have e1:n=itoa ((AQ n:Nat):Int):=by rw[GQ];exact hne
   have e2:d=itoa ((AQ d:Nat):Int):=by rw[GQ];exact hde
   refine zI (zE (zA (zA (zB (wP I (wP I ?_))))))
   refine wC I I (fun W1 hp=>by
    have h:=Mz ((AQ n:Nat):Int) ((AQ d:Nat):Int) (by rw[Int.natAbs_natCast, ←hne];exact hlong.1) (by rw[Int.natAbs_natCast, ←hde];exact hlong.2) W1 (ht.hp hp)
    rw[←e1, ←e2,Int.natAbs_natCast,Int.natAbs_natCast,GQ] at h
    exact h) ?_
   iterate 5 refine wP I ?_
   refine Aa (zE (zA (zB (wP I (wP I ?_)))))
   by_cases hg:Nat.gcd (AQ n) (AQ d)=1
   ·exact wU 73 false I (by show(!_)=false;rw[Bd,hg,FI];rfl) (Aa (zE (zS I (zI (zE (zA (zB (wP I (Aa (zE (zO (wR1 I I (by rw[hcode,if_pos hg])))))))))))))
   ·refine Af 73 (.bool true) I (congrArg Value.bool (by
     show(!_)=true
     rw[Bd,dF fun h=>hg (by have:=congrArg AQ h;rw[BR] at this;exact this)];rfl)) ?_
    exact Aa (zE (zR I (zA (zB (wP I (Aa (zE (zO (zP (wR1 I I (by rw[hcode,if_neg hg])))))))))))
-- BOXES 1
-- CODE2
theorem CL (a b c d:Int) (ha:okN a) (hb:okN b) (hc:okN c) (hd:okN d) (hab:okN (a*b)) (hcd:okN (c*d)) (W:World) (ht:AM W):
  Ai Tryz.prog 122 #[str (itoa a),str (itoa b),str (itoa c),str (itoa d)] W (fun _:Unit=> .tuple #[str (itoa (a*b)),str (itoa (c*d)), .int .i64 0]) (fun _=>True) (fun _=>[]):=by
 refine Ab (args:=[str (itoa a),str (itoa b),str (itoa c),str (itoa d)]) Tryz.func122 I I I ?_
 refine zA (zB (wP I (wP I (wP I (Aa (zE (zA (zB (wP I (wP I (wC I I (fun W1 hp=>I9 a b ha.dd hb.dd hab.dd W1 (ht.hp hp)) ?_)))))))))))
 iterate 5 refine wP I ?_
 refine Aa (zE (zA (zA (zB (wP I (wP I (Aa (zE (zS I (zI (zE (zA (zB ?_)))))))))))))
 refine wP I (wP I (wC I I (fun W1 hp=>I9 c d hc.dd hd.dd hcd.dd W1 (ht.hp hp)) ?_))
 iterate 5 refine wP I ?_
 refine Aa (zE (zA (zB ?_)))
 iterate 6 refine wP I ?_
 exact Aa (zE (zO (wR3 I I I)))
-- BOXES 8
-- CODE2
theorem Nr {a:Int} {g:Nat} (hg:0<g) (h:(g:Int)∣a):(a/(g:Int)).natAbs=a.natAbs/g∧a.natAbs%g=0∧(a/(g:Int)<0↔a<0)∧a.tdiv (g:Int)=a/(g:Int)∧a.tmod (g:Int)=0:=by
 obtain⟨k,rfl⟩:=h
 have e1:(g:Int)*k/(g:Int)=k:=Int.mul_ediv_cancel_left _ (by omega)
 refine⟨?_, ?_, ?_, ?_, ?_⟩
 ·rw[e1,Int.natAbs_mul,Int.natAbs_natCast,Nat.mul_div_cancel_left _ hg]
 ·rw[Int.natAbs_mul,Int.natAbs_natCast,Nat.mul_mod_right]
 ·rw[e1]
  constructor
  ·intro h;exact Int.mul_neg_of_pos_of_neg (by omega) h
  ·intro h
   by_cases h1:k<0
   ·exact h1
   ·have:=Int.mul_nonneg (show(0:Int)≤(g:Int) by omega) (show 0≤k by omega);omega
 ·rw[e1];exact Int.mul_tdiv_cancel_left _ (by omega)
 ·exact Int.mul_tmod_right _ _
theorem L0 (a:Int) (g:Nat) (hg:0<g) (h:(g:Int)∣a) (ha:(decDigits a.natAbs).length≤300) (hgl:(decDigits g).length≤300) (W:World) (ht:AM W):
  Ai Tryz.prog 201 #[str (itoa a),str (itoa (g:Int))] W (fun _:Unit=> .tuple #[str (itoa (a/(g:Int))),str [48], .int .i64 0]) (fun _=>True) (fun _=>[]):=by
 obtain⟨q1,q2,q3,q4,q5⟩:=Nr hg h
 have la:=Cm (m:=a.natAbs) (by omega)
 have lg:=Cm (m:=g) (by omega)
 have hgn:((g:Int)).natAbs=g:=Int.natAbs_natCast g
 have hgl2:(decDigits ((g:Int)).natAbs).length≤300:=by rw[hgn];exact hgl
 have hql:(decDigits (a/(g:Int)).natAbs).length≤300:=by
  rw[q1]
  have key: ∀e,0<e→(decDigits a.natAbs).length≤e→(decDigits (a.natAbs/g)).length≤e:=fun e he h=>Dv e _ (by omega) (Nat.lt_of_le_of_lt (Nat.div_le_self ..) (Nat.lt_of_lt_of_le (Dt _) (Nat.pow_le_pow_right (by decide) h)))
  exact key 300 (by decide) ha
 have hneg:decide ((g:Int)<0)=false:=dF (by omega)
 have hg48:itoa (g:Int)≠[48]:=fun e=>by
  have:=I0.1 e
  omega
 refine Ab (args:=[str (itoa a),str (itoa (g:Int))]) Tryz.func201 I I I ?_
 refine zA (zB (wP I (wP I (wP I (Aa (zE (zA (zA (zB (wP I (wP I (wC I I (fun W _=>Df a (g:Int) ha hgl2 W) (wP I ?_)))))))))))))
 refine Aa (zE (zA (zB (wP I (wP I (Aa (zE (zS I (zI (zE (zA (zA (zB ?_)))))))))))))
 refine wP I (wP I (wU 28 false I ((Bd _ _).trans (dF hg48)) (Aa (zE (zS I (zI (zE (zA (zA (zB ?_))))))))))
 cases hs:smI a&&smI (g:Int) with
 |true=>
  obtain⟨h1,h2⟩:=Bool.and_eq_true_iff.1 hs
  have b1:=Hs h1
  have b2:=Hs h2
  have b3:(a/(g:Int)).natAbs≤a.natAbs:=by rw[q1];exact Nat.div_le_self ..
  refine wP I (wP I (wC I I (fun W _=>GR hs W) ?_))
  iterate 7 refine wP I ?_
  refine Aa (zE (zA (zB (wP I (Aa (zE (zR I (zA (zU (qP I (qP I ?_)))))))))))
  refine IN I I I I I (by omega) ?_
  refine qV 39 (a/(g:Int)) I (by rw[q4];exact Ap (by omega) (by omega)) (qP I (qP I ?_))
  refine Ex I I I I I (by omega) ?_
  refine qV 42 0 I q5 (qP I (qP I (AT (Aa (zE (zA (zA (zB (wP I (wP I ?_))))))))))
  refine Af 44 (.bool false) I I ?_
  refine wP I ?_
  iterate 5 refine Al I I ?_
  refine wP I (Aa (zE (zS I (zI (zE (zA (zB (wP I (wC I I (fun W hp=>Bu (a/(g:Int)) (by omega) (by omega) W (ht.hp hp)) (wP I (wC I I (fun W hp=>(Bu 0 (by decide) (by decide) W (ht.hp hp)).cast (v':=str [48]) (by rw[Cf])) (wP I (wP I (wP I ?_))))))))))))))
  exact Aa (zE (zO (zP (wR3 I I I))))
 |false=>
  obtain⟨x0,y0,h2⟩:=GB hs ha hgl2
  refine wP I (wP I (wC I I (fun W _=>h2 W) ?_))
  iterate 7 refine wP I ?_
  refine Aa (zE (zA (zB (wP I (Aa (zE (zS I (zI (zE (zA (zB (wP I ?_))))))))))))
  refine wD (X:=NV) I I (fun W' _=>Be a (by omega) W') ?_
  intro x hx
  refine wP I ?_
  refine wD (X:=NV) I I (fun W' _=>Be (g:Int) (by omega) W') ?_
  intro y hy
  refine Af 64 (.agg #[.bool false,B2 y (lbs br g).length]) I (by unfold VH;rw[hneg,hgn]) ?_
  rw[hgn] at hy⊢
  (refine Ah Tryz.hZ rfl rfl rfl rfl ?_;intro)
  (refine Ah Tryz.hZ rfl rfl rfl rfl ?_;intro)
  refine wS 2 I I I (wS 3 I I I (Aa ?_))
  rename_i b13 b14
  refine zE (zA (zB (wP I (wB 2 I I I (wP I (wB 3 I I I ?_))))))
  refine wD (X:=NV×NV) I I (fun W' hp=>Ix W' (some ⟨x.1,0,none⟩) (some ⟨y.1,0,none⟩) x.2.1 y.2.1 a.natAbs g hg (Ax.of_bx hp 0 I) (Ax.of_bx hp 1 I) (by omega) (by omega)) ?_
  rintro⟨q,w⟩ ⟨hq,hw⟩
  have e0:lbs br (a.natAbs%g)=[]:=by rw[q2];exact Bc
  have hq:Cn q (lbs br (a.natAbs/g)):=hq
  simp only[e0]
  iterate 5 refine wP I ?_
  refine Aa (AI ?_)
  try refine A0 ?_
  refine AG (X:=Nat×Nat) (fun s=>[(13,Aj b13),(14,Aj b14),(15,B2 q (lbs br (a.natAbs/g)).length),(16,B2 w 0),(17,Aj s.1),(18,Aj s.2)]) (fun s=>[BH q (lbs br (a.natAbs/g)),BH w [],⟨s.1,153,[.bool (decide (a/(g:Int)<0)),B2 q (lbs br (a.natAbs/g)).length],true,none⟩,⟨s.2,153,[.bool false,B2 w 0],true,none⟩]) (fun _=>True) ?_ ?_
  ·by_cases hn:a<0
   ·have hqn:a/(g:Int)<0:=q3.2 hn
    have hqL:0<(lbs br (a.natAbs/g)).length:=List.length_pos_iff.2 fun e=>by have:=(Dl br2).1 e;omega
    have e1:decide (a<0)=true:=dT hn
    have e2:decide (a/(g:Int)<0)=true:=dT hqn
    simp only[e2]
    refine zB (wP I (wB 2 I I I (wU 74 true I e1 (wP I (wB 3 I I I ?_)))))
    refine Et Tryz.underlying4 I I I I I I ?_
    refine wP I (wP I (wP I (wP I (wU 81 true I (dT (by omega)) (wP I (wP I ?_))))))
    refine Az Tryz.hZ tH I I I I I I I I ?_
    refine wP I (wB 2 I I I (wU 86 true I e1 (wP I (wP I (wP I (wP I ?_))))))
    refine Af 90 (.bool false) I I ?_
    refine wP I (wP I ?_)
    refine Az Tryz.hZ tH I I I I I I I I ?_
    (refine Ah Tryz.hZ rfl rfl rfl rfl ?_;intro)
    (refine Ah Tryz.hZ rfl rfl rfl rfl ?_;intro)
    refine wS 6 I I I (wS 7 I I I (Aa ?_))
    rename_i b17 b18
    exact S1 (b17,b18) tO ⟨I,I,I,I,I,I,tO⟩ [4,5,6,7] (by decide) I
   ·have hqn: ¬a/(g:Int)<0:=fun h=>hn (q3.1 h)
    have e1:decide (a<0)=false:=dF hn
    have e2:decide (a/(g:Int)<0)=false:=dF hqn
    simp only[e2]
    refine zB (wP I (wB 2 I I I (wU 74 false I e1 (wP I (wB 3 I I I ?_)))))
    refine Et Tryz.underlying4 I I I I I I ?_
    refine wP I ?_
    iterate 3 refine Al I I ?_
    refine wP I (wP I ?_)
    refine Az Tryz.hZ tH I I I I I I I I ?_
    refine wP I (wB 2 I I I (wU 86 false I e1 (wP I ?_)))
    iterate 3 refine Al I I ?_
    refine wP I (wP I ?_)
    refine Az Tryz.hZ tH I I I I I I I I ?_
    (refine Ah Tryz.hZ rfl rfl rfl rfl ?_;intro)
    (refine Ah Tryz.hZ rfl rfl rfl rfl ?_;intro)
    refine wS 6 I I I (wS 7 I I I (Aa ?_))
    rename_i b17 b18
    exact S1 (b17,b18) tO ⟨I,I,I,I,I,I,tO⟩ [4,5,6,7] (by decide) I
  rintro⟨b17,b18⟩ _
  refine zA (zA (zB (wP I (wP I (wP I ?_)))))
  refine Af 96 (.bool false) I I ?_
  refine wP I ?_
  iterate 5 refine Al I I ?_
  refine wP I (Aa (zE (zS I (zI (zE (zA (zB (wB 2 I I I ?_))))))))
  refine wC I I (fun W' hp=>by
   have h:=E7 (a/(g:Int)) hql W' (some ⟨q.1,0,none⟩) q.2.1
   rw[q1] at h
   exact h (Ax.of_bx hp 0 I)) ?_
  iterate 5 refine wP I ?_
  refine Aa (zE (zA (zA (zB (wP I (wP I (Aa (zE (zS I (zI (zE (zA (zB ?_)))))))))))))
  refine wP I (wB 3 I I I ?_)
  refine wC I I (fun W' hp=>by
   have h:=EV 0 (by decide+kernel) W' (some ⟨w.1,0,none⟩) w.2.1 (.inl Bc)
   rw[Cf,show(0:Int).natAbs=0 from rfl,Bc] at h
   exact h) ?_
  exact wP I (wP I (wP I (Aa (zE (zO (wR3 I I I))))))
-- BOXES 1
-- CODE2
theorem Rh {n m k:Nat} (h:n≤m) (hk:0<k) (hm:(decDigits m).length≤k):(decDigits n).length≤k:=
 Dv k n (by omega) (Nat.lt_of_le_of_lt h (Nat.lt_of_lt_of_le (Dt m) (Nat.pow_le_pow_right (by decide) hm)))
theorem HT {z:Int} (h:z<0):itoa z=45::itoa (-z):=by
 unfold itoa
 rw[if_pos h,if_neg (by omega),show(-z).toNat=z.natAbs by omega]
theorem KQ {z:Int} (h: ¬z<0):itoa z=decDigits z.natAbs:=by rw[BU];unfold G0;rw[if_neg h];rfl
theorem SO {z:Int} (h:(itoa z).length≤18):z.natAbs<1000000000000000000:=by
 rw[BU,List.length_append] at h
 exact Nat.lt_of_lt_of_le (Dt _) (show _≤10^18 from Nat.pow_le_pow_right (by decide) (by omega))
theorem Hy (z d:Int) (hd:d≠0) (hz:okN z) (hdk:okN d) (W:World) (ht:AM W):
  Ai Tryz.prog 150 #[str (itoa z),str (itoa d)] W (fun _:Unit=> .tuple #[str (Ad (nrm z d)), .int .i64 0]) (fun _=>True) (fun _=>[]):=by
 have lz:=F8 hz.dd
 have ld:=F8 hdk.dd
 obtain⟨c0,hc0,hc45⟩:=EL d
 obtain⟨u,hu⟩: ∃u,u=if d<0 then -z else z:=⟨_,rfl⟩
 obtain⟨e,he⟩: ∃e,e=d.natAbs:=⟨_,rfl⟩
 have he0:0<e:=by omega
 have hnr:nrm z d=mkRat u e:=by unfold nrm;rw[hu,he]
 have hua:u.natAbs=z.natAbs:=by rw[hu];split<;>omega
 have huk:okN u:=by unfold okN;rw[hua];exact hz
 have hek:okN (e:Int):=by unfold okN;rw[Int.natAbs_natCast,he];exact hdk
 have hel:(decDigits e).length≤300:=by have:=hek.dd;rwa [Int.natAbs_natCast] at this
 have hie:itoa (e:Int)=decDigits e:=GQ e
 rw[hnr]
 refine Ab (args:=[str (itoa z),str (itoa d)]) Tryz.func150 I I I ?_
 refine zA (zB (wP I (wP I (Aa (zE (zA (zA (zB (wP I ?_)))))))))
 refine Bb 0 tH I I I I I I I I hc0 ?_
 refine wP I (wU 11 (decide (d<0)) I ((Dr c0 45).trans hc45) (Aa (AI ?_)))
 try refine A0 ?_
 refine AG (X:=Unit) (fun _=>[(0,str (itoa u)),(1,str (itoa (e:Int)))]) (fun _=>[]) (fun _=>True) ?_ ?_
 ·refine Av I (fun h=> ?_) (fun h=> ?_)
  ·have h:d<0:=of_decide_eq_true h
   have ed:itoa d=45::itoa (e:Int):=by rw[HT h,show -d=(e:Int) by omega]
   have eu:u= -z:=by rw[hu,if_pos h]
   obtain⟨c1,hc1,hc2⟩:=EL z
   refine zA (zB (wP I ?_))
   refine Fa 1 tH I I I I I I I I (by rw[ed,List.length_cons];omega) ?_
   refine Af 13 (str (itoa (e:Int))) I (by rw[ed];rfl) ?_
   refine wP I (Aa (zE (zA (zB (wP I ?_)))))
   refine Bb 0 tH I I I I I I I I hc1 ?_
   refine wP I (wU 16 (decide (z<0)) I ((Dr c1 45).trans hc2) (Aa (zE ?_)))
   refine Av I (fun hzn=> ?_) (fun hzn=> ?_)
   ·have hzn:z<0:=of_decide_eq_true hzn
    refine zB (wP I ?_)
    refine Fa 1 tH I I I I I I I I (by rw[HT hzn,List.length_cons];omega) ?_
    exact wP I (Aa (An () tO ⟨by rw[HT hzn,eu];rfl,I,tO⟩ [] I))
   ·have hzn: ¬z<0:=of_decide_eq_false hzn
    refine zA (zB (wP I (wP I ?_)))
    by_cases hz0:z=0
    ·exact wU 20 false I (by show(!_)=false;rw[Bd,hz0,Cf];rfl) (Aa (zE (zS I (zI (An () tO ⟨by rw[eu,hz0];rfl,I,tO⟩ [] I)))))
    ·refine wU 20 true I (by show(!_)=true;rw[Bd,dF fun h=>hz0 (I0.1 h)];rfl) (Aa (zE (zR I (zB (wP I ?_)))))
     refine BY I I I I I (a:=[45]) (b:=itoa z) (by decide) (by omega) ?_
     exact wP I (Aa (An () tO ⟨by rw[eu,HT (show -z<0 by omega),Int.neg_neg];rfl,I,tO⟩ [] I))
  ·have h: ¬d<0:=of_decide_eq_false h
   exact zI (An () tO ⟨by rw[hu,if_neg h];rfl,by rw[show(e:Int)=d by omega];rfl,tO⟩ [] I)
 intro _ _
 have lu:=F8 huk.dd
 have le:=F8 hek.dd
 obtain⟨c1,hc1,hc2⟩:=EL u
 refine A0 (A0 ?_)
 refine AG (X:=Unit) (fun _=>[(0,str (itoa u)),(1,str (itoa (e:Int))),(30, .bool (decide ((itoa u).length≤18∧(itoa (e:Int)).length≤18)))]) (fun _=>[]) (fun _=>True) ?_ ?_
 ·refine zB (wP I (wP I ?_))
  refine Af 24 (.int .i64 ((itoa u).length:Nat)) I (congrArg (fun n:Nat=>Value.int .i64 (n:Int)) (A4 _)) ?_
  refine wP I ?_
  by_cases h1:(itoa u).length≤18
  ·refine wU 25 true I (dT (by omega)) (wP I (wP I (wP I ?_)))
   refine Af 28 (.int .i64 ((itoa (e:Int)).length:Nat)) I (congrArg (fun n:Nat=>Value.int .i64 (n:Int)) (A4 _)) ?_
   exact wP I (wU 29 (decide ((itoa u).length≤18∧(itoa (e:Int)).length≤18)) I (decide_eq_decide.2 (by omega)) (wP I (Aa (An () tO ⟨I,I,I,tO⟩ [] I))))
  ·refine wU 25 false I (dF (by omega)) (wP I ?_)
   iterate 3 refine Al I I ?_
   exact wP I (Aa (An () tO ⟨I,I,by rw[dF (fun h:(itoa u).length≤18∧(itoa (e:Int)).length≤18=>h1 h.1)];rfl,tO⟩ [] I))
 intro _ _
 refine Av I (fun h18=> ?_) (fun h18=> ?_)
 ·obtain⟨h1,h2⟩:=of_decide_eq_true h18
  have u18:=SO h1
  have e18:=SO h2
  rw[Int.natAbs_natCast] at e18
  rw[hie] at h2
  refine zA (zA (zB (wP I ?_)))
  refine Bb 0 tH I I I I I I I I hc1 ?_
  refine wP I (wU 33 (decide (u<0)) I ((Dr c1 45).trans hc2) (Aa (zE ?_)))
  refine Av I (fun hn=> ?_) (fun hn=> ?_)
  ·have hn:u<0:=of_decide_eq_true hn
   have eu:itoa u=45::decDigits u.natAbs:=by rw[HT hn,KQ (by omega),Int.natAbs_neg]
   have hdl:(decDigits u.natAbs).length≤18:=by rw[eu,List.length_cons] at h1;omega
   refine zA (zB (wP I ?_))
   refine Fa 1 tH I I I I I I I I (by rw[eu,List.length_cons];omega) ?_
   refine Af 35 (str (decDigits u.natAbs)) I (by rw[eu];rfl) ?_
   refine wC I I (fun W _=>(Ce (decDigits u.natAbs) hdl (ES _).all W).cast (v':= .int .i64 (u.natAbs:Nat)) (by rw[BR])) (wP I (wV 37 u I (by show w64 (0-((u.natAbs:Nat):Int))=_;rw[Ap (by omega) (by omega)];omega) (wP I ?_)))
   refine Af 38 (str (decDigits e)) I (by rw[hie]) ?_
   exact wC I I (fun W _=>(Ce (decDigits e) h2 (ES _).all W).cast (v':= .int .i64 (e:Nat)) (by rw[BR])) (wC I I (fun W _=>DS u e (by omega) he0 (by omega) W) (wP I (wP I (Aa (zE (zO (zP (zP (wR2 I I I)))))))))
  ·have hn: ¬u<0:=of_decide_eq_false hn
   have eu:itoa u=decDigits u.natAbs:=KQ hn
   rw[eu] at h1
   refine zI (zE (zA (zB (wP I ?_))))
   refine Af 41 (str (decDigits u.natAbs)) I (by rw[eu]) ?_
   refine wC I I (fun W _=>(Ce (decDigits u.natAbs) h1 (ES _).all W).cast (v':= .int .i64 u) (by rw[BR];exact congrArg (Value.int .i64) (by omega))) (wP I ?_)
   refine Af 43 (str (decDigits e)) I (by rw[hie]) ?_
   exact wC I I (fun W _=>(Ce (decDigits e) h2 (ES _).all W).cast (v':= .int .i64 (e:Nat)) (by rw[BR])) (wC I I (fun W _=>DS u e (by omega) he0 (by omega) W) (wP I (wP I (Aa (zE (zO (zP (wR2 I I I))))))))
 obtain⟨g,hg⟩: ∃g,Nat.gcd u.natAbs e=g:=⟨_,rfl⟩
 have hg0:0<g:=by rw[←hg];exact Nat.gcd_pos_of_pos_right _ he0
 have hgu:(g:Int)∣u:=Int.natAbs_dvd_natAbs.1 (by rw[Int.natAbs_natCast, ←hg];exact Nat.gcd_dvd_left ..)
 have hge:g∣e:=by rw[←hg];exact Nat.gcd_dvd_right ..
 have hgle:g≤e:=Nat.le_of_dvd he0 hge
 have hgl:(decDigits g).length≤300:=Rh hgle (by decide) hel
 obtain⟨x,hx⟩: ∃x,x=u/(g:Int):=⟨_,rfl⟩
 have hxe:=Nr hg0 hgu
 have hxl:(decDigits x.natAbs).length≤300:=by
  rw[hx,hxe.1]
  exact Rh (Nat.div_le_self ..) (by decide) huk.dd
 obtain⟨y,hy⟩: ∃y,y=e/g:=⟨_,rfl⟩
 have hyl:(decDigits y).length≤300:=by
  rw[hy]
  exact Rh (Nat.div_le_self ..) (by decide) hel
 have hyI:(e:Int)/(g:Int)=(y:Int):=by rw[hy];exact(Int.natCast_ediv _ _).symm
 have hnum:Ad (mkRat u e)=if y=1 then itoa x else itoa x++[47]++decDigits y:=by
  by_cases h1:y=1
  ·rw[if_pos h1,J3 (by omega) (by rw[hg, ←hy];exact h1),hg, ←hx]
  ·rw[if_neg h1,JE (by omega) (by rw[hg, ←hy];exact h1),hg, ←hx, ←hy,GQ]
 have lx:=F8 hxl
 obtain⟨c3,hc3,hc4⟩:=EL x
 refine zI (zE (zA (zB (wP I (wP I (wC I I (fun W1 hp=>(Mz u (e:Int) huk.dd hek.dd W1 (ht.hp hp)).cast (v':= .tuple #[str (itoa (g:Int)), .int .i64 0]) (by rw[Int.natAbs_natCast,hg])) ?_))))))
 iterate 5 refine wP I ?_
 refine Aa (zE (zA (zA (zB (wP I (wP I (Aa (zE (zS I (zI (zE (zA (zB ?_)))))))))))))
 refine wP I (wP I (wC I I (fun W1 hp=>(L0 u g hg0 hgu huk.dd hgl W1 (ht.hp hp)).cast (v':= .tuple #[str (itoa x),str [48], .int .i64 0]) (by rw[hx])) ?_))
 iterate 6 refine wP I ?_
 refine Aa (zE (zA (zA (zB (wP I (wP I (Aa (zE (zS I (zI (zE (zA (zB ?_)))))))))))))
 refine wP I (wP I (wC I I (fun W1 hp=>(L0 (e:Int) g hg0 (Int.natCast_dvd_natCast.2 hge) hek.dd hgl W1 (ht.hp hp)).cast (v':= .tuple #[str (decDigits y),str [48], .int .i64 0]) (by rw[hyI,GQ])) ?_))
 iterate 6 refine wP I ?_
 refine Aa (zE (zA (zA (zB (wP I (wP I (Aa (zE (zS I (zI (zE (zA (zB ?_)))))))))))))
 refine wP I (wP I (Aa (zE (zA (zA (zB (wP I ?_)))))))
 refine Bb 0 tH I I I I I I I I hc3 ?_
 refine wP I (wU 78 (decide (x<0)) I ((Dr c3 45).trans hc4) (Aa (AI ?_)))
 try refine A0 ?_
 refine AG (X:=Unit) (fun _=>[(0,str (itoa x)),(1,str (decDigits y)),(8,str (decDigits x.natAbs))]) (fun _=>[]) (fun _=>True) ?_ ?_
 ·refine Av I (fun hn=> ?_) (fun hn=> ?_)
  ·have hn:x<0:=of_decide_eq_true hn
   have ex:itoa x=45::decDigits x.natAbs:=by rw[HT hn,KQ (by omega),Int.natAbs_neg]
   refine zB (wP I ?_)
   refine Fa 1 tH I I I I I I I I (by rw[ex,List.length_cons];omega) ?_
   refine Af 80 (str (decDigits x.natAbs)) I (by rw[ex];rfl) ?_
   exact wP I (Aa (An () tO ⟨I,I,I,tO⟩ [] I))
  ·have hn: ¬x<0:=of_decide_eq_false hn
   exact zI (An () tO ⟨I,I,by rw[←KQ hn];rfl,tO⟩ [] I)
 intro _ _
 refine zA (zA (zB (wP I (wP I ?_))))
 refine Af 82 (.int .i64 ((decDigits x.natAbs).length:Nat)) I (congrArg (fun n:Nat=>Value.int .i64 (n:Int)) (A4 _)) ?_
 refine wP I (wU 83 false I (dF (by omega)) (wP I (wP I (wP I ?_))))
 refine Af 86 (.int .i64 ((decDigits y).length:Nat)) I (congrArg (fun n:Nat=>Value.int .i64 (n:Int)) (A4 _)) ?_
 refine wP I (wU 87 false I (dF (by omega)) (wP I (Aa (zE (zS I (zI (zE (zA (zA (zB (wP I (wP I ?_))))))))))))
 by_cases h1:y=1
 ·exact wU 90 true I (by rw[Bd,h1,FI];rfl) (Aa (zE (zR I (zA (zB (wP I (wP I (wP I (Aa (zE (zO (zP (wR2 I I (by rw[hnum,if_pos h1]))))))))))))))
 ·refine wU 90 false I (by rw[Bd];exact dF fun h=>h1 (by have:=congrArg AQ h;rw[BR] at this;exact this)) (Aa (zE (zS I (zI (zE (zA (zB (wP I ?_))))))))
  refine BY I I I I I (a:=itoa x) (b:=[47]) (by omega) (by decide) ?_
  refine wP I ?_
  refine BY I I I I I (by rw[List.length_append];show _+1≤_;omega) (by omega) ?_
  exact wP I (wP I (Aa (zE (zO (wR2 I I (by rw[hnum,if_neg h1]))))))
theorem RV (n d m c:Int) (hn:okN n) (hd:okN d) (hm:okN m) (hc:okN c) (hnm:okN (n*m)) (hdc:okN (d*c)) (h0:d*c≠0) (W:World) (ht:AM W):
  Ai Tryz.prog 180 #[str (itoa n),str (itoa d),str (itoa m),str (itoa c)] W (fun _:Unit=> .tuple #[str (Ad (nrm (n*m) (d*c))), .int .i64 0]) (fun _=>True) (fun _=>[]):=by
 refine Ab (args:=[str (itoa n),str (itoa d),str (itoa m),str (itoa c)]) Tryz.func180 I I I ?_
 refine zA (zB (wP I (wP I (Aa (zE (zA (zB (wP I (wP I (wP I (wP I (wC I I (fun W1 hp=>CL n m d c hn hm hd hc hnm hdc W1 (ht.hp hp)) ?_))))))))))))
 iterate 7 refine wP I ?_
 refine Aa (zE (zA (zA (zB (wP I (wP I (Aa (zE (zS I (zI (zE (zA (zB ?_)))))))))))))
 exact wP I (wP I (wC I I (fun W1 hp=>Hy (n*m) (d*c) h0 hnm hdc W1 (ht.hp hp)) (wP I (wP I (wP I (wP I (Aa (zE (zO (wR2 I I I))))))))))
-- BOXES 1
-- CODE2
theorem G6 {q:Rat} (h:okQ q):(Ad q).length≤1000:=by
 have:=Bj h
 omega
theorem NB {q:Rat} (h:okQ q) (W:World) (ht:AM W):Ai Tryz.prog 31 #[str (Ad q)] W (fun _:Unit=> .int .i64 0) (fun _=>True) (fun _=>[]):=
 (Dj (Ad q) (by have:=G6 h;omega) W ht).cast (by rw[Ka h])
theorem C9 {p q:Rat} (hp':okQ p) (hq:okQ q) (W:World) (ht:AM W):Ai Tryz.prog 100 #[str (Ad p),str (Ad q)] W (fun _:Unit=> .int .i64 0) (fun _=>True) (fun _=>[]):=by
 refine Ab (args:=[str (Ad p),str (Ad q)]) Tryz.func100 I I I ?_
 refine zA (zB (wP I (Aa (zE (zA (zA (zB (wP I (wC I I (fun W1 hp=>NB hp' W1 (ht.hp hp)) (wP I (Aa (zE (zA ?_)))))))))))))
 refine zB (wP I (wP I (Aa (zE (zS I (zI (zE (zA (zB (wP I (wC I I (fun W1 hp=>NB hq W1 (ht.hp hp)) (wP I (Aa ?_)))))))))))))
 exact zE (zO (wR1 I I I))
def iN (q:Rat):Int:=if ER q=true then q.num else 0
def iD (q:Rat):Int:=if ER q=true then((q.den:Nat):Int) else 0
theorem Bw {q:Rat} (h:okQ q):Bv Tryz.prog 120 [str (Ad q)] (.tuple #[.int .i64 (iN q), .int .i64 (iD q), .bool (ER q)]):=fun W=>
 (Rm q (by have:=G6 h;omega) W).cast (by
  unfold iN iD
  cases ER q<;>rfl)
theorem JY {x y:Int} (hx:x.natAbs<1000000000) (hy:y.natAbs<1000000000):(x*y).natAbs<1000000000000000000:=by
 rw[Int.natAbs_mul]
 have:=Nat.mul_lt_mul'' hx hy
 omega
theorem CO {x y:Int} (hx:x.natAbs<1000000000) (hy:y.natAbs<1000000000):w64 (x*y)=x*y:=by
 have:=JY hx hy
 exact Ap (by omega) (by omega)
theorem Em {n:Nat} (h:n<1000000000):((n:Nat):Int).natAbs<1000000000:=by rw[Int.natAbs_natCast];exact h
def sh2 (p q:Rat):Bool:=ER p&&ER q
theorem Fq {p q:Rat} (h:sh2 p q=true):iN p=p.num∧iD p=(p.den:Nat)∧iN q=q.num∧iD q=(q.den:Nat)∧p.num.natAbs<1000000000∧p.den<1000000000∧q.num.natAbs<1000000000∧q.den<1000000000:=by
 obtain⟨h1,h2⟩:=Bool.and_eq_true_iff.1 h
 obtain⟨a1,a2⟩:=Kl h1
 obtain⟨b1,b2⟩:=Kl h2
 exact⟨if_pos h1,if_pos h1,if_pos h2,if_pos h2,a1,a2,b1,b2⟩
theorem ON (z:Int) {d:Nat} (hd:0<d):nrm z (d:Int)=mkRat z d:=by
 unfold nrm
 rw[if_neg (by omega),Int.natAbs_natCast]
theorem Bp {q:Rat} (h:okQ q):Bv Tryz.prog 121 [str (Ad q)] (.tuple #[str (itoa q.num),str (itoa ((q.den:Nat):Int))]):=fun W=>
 (Pi q (G6 h) W).cast (by rw[GQ])
theorem GO (p q:Rat) (h:Sz2 p q) (W:World) (ht:AM W):
  Ai Tryz.prog 56 #[str (Ad p),str (Ad q)] W (fun _:Unit=> .tuple #[.int .i64 (Dy p q), .int .i64 0]) (fun _=>True) (fun _=>[]):=by
 have hpn:=p.den_pos
 have hqn:=q.den_pos
 rw[←O0]
 obtain⟨x,hx⟩: ∃x,p.num*((q.den:Nat):Int)=x:=⟨_,rfl⟩
 obtain⟨y,hy⟩: ∃y,q.num*((p.den:Nat):Int)=y:=⟨_,rfl⟩
 rw[hx,hy]
 refine Ab (args:=[str (Ad p),str (Ad q)]) Tryz.func56 I I I ?_
 refine zA (zB (wP I (wP I (Aa (zE (zA (zA (zB (wP I (wP I (wC I I (fun W1 hp=>C9 h.okp h.okq W1 (ht.hp hp)) (wP I (Aa ?_)))))))))))))
 refine zE (zA (zB (wP I (wP I (Aa (zE (zS I (zI (zE (zA (zB (wP I (wC I I (fun W _=>Bw h.okp W) ?_)))))))))))))
 iterate 7 refine wP I ?_
 refine Aa (zE (zA (zB (wP I (wC I I (fun W _=>Bw h.okq W) ?_)))))
 iterate 7 refine wP I ?_
 refine Aa (AI (A0 (A0 ?_)))
 refine AG (X:=Unit) (fun _=>[(0,str (Ad p)),(1,str (Ad q)),(7, .int .i64 (iN p)),(8, .int .i64 (iD p)),(10, .int .i64 (iN q)),(11, .int .i64 (iD q)),(41, .bool (sh2 p q))]) (fun _=>[]) (fun _=>True) ?_ ?_
 ·refine zB (wP I (wP I ?_))
  refine CN 39 I (fun h39=> ?_) (fun h39=> ?_)
  ·exact wP I (wP I (Aa (An () tO ⟨I,I,I,I,I,I,congrArg (fun b=>some (Value.bool b)) (by unfold sh2;simp_all),tO⟩ [] I)))
  ·refine Al I I ?_
   exact wP I (Aa (An () tO ⟨I,I,I,I,I,I,congrArg (fun b=>some (Value.bool b)) (by unfold sh2;simp_all),tO⟩ [] I))
 intro _ _
 refine Av I (fun hs=> ?_) (fun hs=> ?_)
 ·obtain⟨e1,e2,e3,e4,l1,l2,l3,l4⟩:=Fq hs
  have w1:w64 (iN p*iD q)=x:=by rw[e1,e4, ←hx];exact CO l1 (Em l4)
  have w2:w64 (iN q*iD p)=y:=by rw[e3,e2, ←hy];exact CO l3 (Em l2)
  refine zA (zH (zA (zB (wP I (wP I (wP I (wV 45 x I w1 (wP I (wP I (wP I (wV 48 y I w2 (wP I ?_))))))))))))
  by_cases h1:x<y
  ·exact wU 49 true I (dT h1) (wP I (Aa (zE (zR I (zA (zB (wP I (wP I (Aa (zE (zO (zQ (zP (zP (wR2 I I (by rw[Fj,if_pos h1]))))))))))))))))
  refine wU 49 false I (dF h1) (wP I (Aa (zE (zS I (zA (zB (wP I (wP I (wP I (wV 53 x I w1 (wP I (wP I (wP I ?_)))))))))))))
  refine wV 56 y I w2 (wP I ?_)
  by_cases h2:y<x
  ·exact wU 57 true I (dT h2) (wP I (Aa (zE (zR I (zA (zB (wP I (wP I (Aa (zE (zO (zQ (zP (zP (wR2 I I (by rw[Fj,if_neg h1,if_neg (by omega)]))))))))))))))))
  refine wU 57 false I (dF h2) (wP I (Aa (zE (zS I (zI (zN (zE (zA (zB (wP I (wP I (Aa (zE ?_)))))))))))))
  exact zO (zP (wR2 I I (by rw[Fj,if_neg h1,if_pos (by omega)])))
 ·refine zI (zE (zA (zB (wP I (wC I I (fun W _=>Bp h.okp W) ?_)))))
  iterate 5 refine wP I ?_
  refine Aa (zE (zA (zB (wP I (wC I I (fun W _=>Bp h.okq W) ?_)))))
  iterate 5 refine wP I ?_
  refine Aa (zE (zA (zB (wP I (wP I (wP I (wP I (wC I I (fun W1 hp=>(CL p.num (q.den:Nat) q.num (p.den:Nat) h.okp.1 h.okq.2 h.okq.1 h.okp.2 h.c1 h.c2 W1 (ht.hp hp)).cast (v':= .tuple #[str (itoa x),str (itoa y), .int .i64 0]) (by rw[hx,hy])) ?_))))))))
  iterate 7 refine wP I ?_
  refine Aa (zE (zA (zA (zB (wP I (wP I (Aa (zE (zS I (zI (zE (zA (zB ?_)))))))))))))
  exact wP I (wP I (wC I I (fun W1 hp=>Mn x y (by rw[←hx];exact h.c1.dd) (by rw[←hy];exact h.c2.dd) W1) (wP I (wP I (wP I (wP I (Aa (zE (zO (wR2 I I I))))))))))
-- BOXES 1
-- CODE2
theorem QO (p q:Rat) (h:Sz2 p q) (W:World) (ht:AM W):
  Ai Tryz.prog 101 #[str (Ad p),str (Ad q)] W (fun _:Unit=> .tuple #[str (Ad (p+q)), .int .i64 0]) (fun _=>True) (fun _=>[]):=by
 have hpn:=p.den_pos
 have hqn:=q.den_pos
 have ra:=Jo p q
 refine Ab (args:=[str (Ad p),str (Ad q)]) Tryz.func101 I I I ?_
 repeat (first|refine zA ?_|refine zB ?_|refine zC ?_|refine zD ?_|refine zE ?_|refine zF ?_|refine zG ?_|refine zH ?_|refine zI ?_|refine zJ ?_|refine zK ?_|refine zL ?_|refine zM rfl ?_|refine zN ?_|refine zO ?_|refine zP ?_|refine zQ ?_|refine zR rfl ?_|refine zS rfl ?_|refine zU ?_)
 refine wP I (wP I (Aa ?_))
 repeat (first|refine zA ?_|refine zB ?_|refine zC ?_|refine zD ?_|refine zE ?_|refine zF ?_|refine zG ?_|refine zH ?_|refine zI ?_|refine zJ ?_|refine zK ?_|refine zL ?_|refine zM rfl ?_|refine zN ?_|refine zO ?_|refine zP ?_|refine zQ ?_|refine zR rfl ?_|refine zS rfl ?_|refine zU ?_)
 refine wP I (wC I I (fun W _=>Bw h.okp W) ?_)
 iterate 7 refine wP I ?_
 refine Aa ?_
 repeat (first|refine zA ?_|refine zB ?_|refine zC ?_|refine zD ?_|refine zE ?_|refine zF ?_|refine zG ?_|refine zH ?_|refine zI ?_|refine zJ ?_|refine zK ?_|refine zL ?_|refine zM rfl ?_|refine zN ?_|refine zO ?_|refine zP ?_|refine zQ ?_|refine zR rfl ?_|refine zS rfl ?_|refine zU ?_)
 refine wP I (wC I I (fun W _=>Bw h.okq W) ?_)
 iterate 7 refine wP I ?_
 refine Aa ?_
 repeat (first|refine AI ?_|refine A0 ?_)
 refine AG (X:=Unit) (fun _=>[(0,str (Ad p)),(1,str (Ad q)),(6, .int .i64 (iN p)),(7, .int .i64 (iD p)),(9, .int .i64 (iN q)),(10, .int .i64 (iD q)),(37, .bool (sh2 p q))]) (fun _=>[]) (fun _=>True) ?_ ?_
 ·repeat (first|refine zA ?_|refine zB ?_|refine zC ?_|refine zD ?_|refine zE ?_|refine zF ?_|refine zG ?_|refine zH ?_|refine zI ?_|refine zJ ?_|refine zK ?_|refine zL ?_|refine zM rfl ?_|refine zN ?_|refine zO ?_|refine zP ?_|refine zQ ?_|refine zR rfl ?_|refine zS rfl ?_|refine zU ?_)
  refine wP I (wP I ?_)
  refine CN 35 I (fun h35=> ?_) (fun h35=> ?_)
  ·refine wP I (wP I (Aa ?_))
   repeat (first|refine zA ?_|refine zB ?_|refine zC ?_|refine zD ?_|refine zE ?_|refine zF ?_|refine zG ?_|refine zH ?_|refine zI ?_|refine zJ ?_|refine zK ?_|refine zL ?_|refine zM rfl ?_|refine zN ?_|refine zO ?_|refine zP ?_|refine zQ ?_|refine zR rfl ?_|refine zS rfl ?_|refine zU ?_)
   exact An () tO ⟨I,I,I,I,I,I,congrArg (fun b=>some (Value.bool b)) (by unfold sh2;simp_all),tO⟩ [] I
  ·refine Al I I ?_
   refine wP I (Aa ?_)
   repeat (first|refine zA ?_|refine zB ?_|refine zC ?_|refine zD ?_|refine zE ?_|refine zF ?_|refine zG ?_|refine zH ?_|refine zI ?_|refine zJ ?_|refine zK ?_|refine zL ?_|refine zM rfl ?_|refine zN ?_|refine zO ?_|refine zP ?_|refine zQ ?_|refine zR rfl ?_|refine zS rfl ?_|refine zU ?_)
   exact An () tO ⟨I,I,I,I,I,I,congrArg (fun b=>some (Value.bool b)) (by unfold sh2;simp_all),tO⟩ [] I
 intro _ _
 repeat (first|refine zA ?_|refine zB ?_|refine zC ?_|refine zD ?_|refine zE ?_|refine zF ?_|refine zG ?_|refine zH ?_|refine zI ?_|refine zJ ?_|refine zK ?_|refine zL ?_|refine zM rfl ?_|refine zN ?_|refine zO ?_|refine zP ?_|refine zQ ?_|refine zR rfl ?_|refine zS rfl ?_|refine zU ?_)
 refine Av I (fun hs=> ?_) (fun hs=> ?_)
 ·obtain⟨e1,e2,e3,e4,l1,l2,l3,l4⟩:=Fq hs
  have m1:=JY l1 (Em l4)
  have m2:=JY l3 (Em l2)
  have m3:=JY (Em l2) (Em l4)
  have hdd:((p.den:Nat):Int)*((q.den:Nat):Int)=((p.den*q.den:Nat):Int):=(Int.natCast_mul _ _).symm
  rw[hdd,Int.natAbs_natCast] at m3
  have hpq:=Nat.mul_pos hpn hqn
  rw[hdd,ON _ hpq] at ra
  repeat (first|refine zA ?_|refine zB ?_|refine zC ?_|refine zD ?_|refine zE ?_|refine zF ?_|refine zG ?_|refine zH ?_|refine zI ?_|refine zJ ?_|refine zK ?_|refine zL ?_|refine zM rfl ?_|refine zN ?_|refine zO ?_|refine zP ?_|refine zQ ?_|refine zR rfl ?_|refine zS rfl ?_|refine zU ?_)
  refine wP I (wP I (wP I (wV 40 (p.num*(q.den:Nat)) I (by rw[e1,e4];exact CO l1 (Em l4)) (wP I (wP I (wP I (wV 43 (q.num*(p.den:Nat)) I (by rw[e3,e2];exact CO l3 (Em l2)) (wP I (wV 44 (p.num*(q.den:Nat)+q.num*(p.den:Nat)) I (Ap (by omega) (by omega)) (wP I (wP I (wP I (wV 47 ((p.den*q.den:Nat):Int) I (by rw[e2,e4, ←hdd];exact CO (Em l2) (Em l4)) ?_)))))))))))))
  refine wC I I (fun W _=>(DS (p.num*(q.den:Nat)+q.num*(p.den:Nat)) (p.den*q.den) (by omega) hpq (by omega) W).cast (v':=str (Ad (p+q))) (by rw[ra])) (wP I (wP I (Aa ?_)))
  repeat (first|refine zA ?_|refine zB ?_|refine zC ?_|refine zD ?_|refine zE ?_|refine zF ?_|refine zG ?_|refine zH ?_|refine zI ?_|refine zJ ?_|refine zK ?_|refine zL ?_|refine zM rfl ?_|refine zN ?_|refine zO ?_|refine zP ?_|refine zQ ?_|refine zR rfl ?_|refine zS rfl ?_|refine zU ?_)
  exact wR2 I I I
 ·have hd0:((p.den:Nat):Int)*((q.den:Nat):Int)≠0:=Int.mul_ne_zero (by omega) (by omega)
  repeat (first|refine zA ?_|refine zB ?_|refine zC ?_|refine zD ?_|refine zE ?_|refine zF ?_|refine zG ?_|refine zH ?_|refine zI ?_|refine zJ ?_|refine zK ?_|refine zL ?_|refine zM rfl ?_|refine zN ?_|refine zO ?_|refine zP ?_|refine zQ ?_|refine zR rfl ?_|refine zS rfl ?_|refine zU ?_)
  refine wP I (wC I I (fun W _=>Bp h.okp W) ?_)
  iterate 5 refine wP I ?_
  refine Aa ?_
  repeat (first|refine zA ?_|refine zB ?_|refine zC ?_|refine zD ?_|refine zE ?_|refine zF ?_|refine zG ?_|refine zH ?_|refine zI ?_|refine zJ ?_|refine zK ?_|refine zL ?_|refine zM rfl ?_|refine zN ?_|refine zO ?_|refine zP ?_|refine zQ ?_|refine zR rfl ?_|refine zS rfl ?_|refine zU ?_)
  refine wP I (wC I I (fun W _=>Bp h.okq W) ?_)
  iterate 5 refine wP I ?_
  refine Aa ?_
  repeat (first|refine zA ?_|refine zB ?_|refine zC ?_|refine zD ?_|refine zE ?_|refine zF ?_|refine zG ?_|refine zH ?_|refine zI ?_|refine zJ ?_|refine zK ?_|refine zL ?_|refine zM rfl ?_|refine zN ?_|refine zO ?_|refine zP ?_|refine zQ ?_|refine zR rfl ?_|refine zS rfl ?_|refine zU ?_)
  refine wP I (wP I (wP I (wP I (wC I I (fun W1 hp=>CL p.num (q.den:Nat) q.num (p.den:Nat) h.okp.1 h.okq.2 h.okq.1 h.okp.2 h.c1 h.c2 W1 (ht.hp hp)) ?_))))
  iterate 7 refine wP I ?_
  refine Aa ?_
  repeat (first|refine zA ?_|refine zB ?_|refine zC ?_|refine zD ?_|refine zE ?_|refine zF ?_|refine zG ?_|refine zH ?_|refine zI ?_|refine zJ ?_|refine zK ?_|refine zL ?_|refine zM rfl ?_|refine zN ?_|refine zO ?_|refine zP ?_|refine zQ ?_|refine zR rfl ?_|refine zS rfl ?_|refine zU ?_)
  refine wP I (wP I (Aa ?_))
  repeat (first|refine zA ?_|refine zB ?_|refine zC ?_|refine zD ?_|refine zE ?_|refine zF ?_|refine zG ?_|refine zH ?_|refine zI ?_|refine zJ ?_|refine zK ?_|refine zL ?_|refine zM rfl ?_|refine zN ?_|refine zO ?_|refine zP ?_|refine zQ ?_|refine zR rfl ?_|refine zS rfl ?_|refine zU ?_)
  refine wP I (wP I ?_)
  refine wC I I (fun W1 hp=>by
   have h1:=CL (p.den:Nat) (q.den:Nat) 1 1 h.okp.2 h.okq.2 (CC (by decide)) (CC (by decide)) h.d (CC (by decide)) W1 (ht.hp hp)
   rw[show(1:Int)*1=1 from rfl,L7] at h1
   exact h1) ?_
  iterate 7 refine wP I ?_
  refine Aa ?_
  repeat (first|refine zA ?_|refine zB ?_|refine zC ?_|refine zD ?_|refine zE ?_|refine zF ?_|refine zG ?_|refine zH ?_|refine zI ?_|refine zJ ?_|refine zK ?_|refine zL ?_|refine zM rfl ?_|refine zN ?_|refine zO ?_|refine zP ?_|refine zQ ?_|refine zR rfl ?_|refine zS rfl ?_|refine zU ?_)
  iterate 5 refine wP I ?_
  refine wU 82 false I (by show(!_)=false;rw[Bd,dT I];rfl) (wP I (Aa ?_))
  repeat (first|refine zA ?_|refine zB ?_|refine zC ?_|refine zD ?_|refine zE ?_|refine zF ?_|refine zG ?_|refine zH ?_|refine zI ?_|refine zJ ?_|refine zK ?_|refine zL ?_|refine zM rfl ?_|refine zN ?_|refine zO ?_|refine zP ?_|refine zQ ?_|refine zR rfl ?_|refine zS rfl ?_|refine zU ?_)
  refine wP I (wP I (wC I I (fun W1 hp=>L4 (p.num*(q.den:Nat)) (q.num*(p.den:Nat)) h.c1.dd h.c2.dd h.add.dd W1 (ht.hp hp)) ?_))
  iterate 5 refine wP I ?_
  refine Aa ?_
  repeat (first|refine zA ?_|refine zB ?_|refine zC ?_|refine zD ?_|refine zE ?_|refine zF ?_|refine zG ?_|refine zH ?_|refine zI ?_|refine zJ ?_|refine zK ?_|refine zL ?_|refine zM rfl ?_|refine zN ?_|refine zO ?_|refine zP ?_|refine zQ ?_|refine zR rfl ?_|refine zS rfl ?_|refine zU ?_)
  refine wP I (wP I (Aa ?_))
  repeat (first|refine zA ?_|refine zB ?_|refine zC ?_|refine zD ?_|refine zE ?_|refine zF ?_|refine zG ?_|refine zH ?_|refine zI ?_|refine zJ ?_|refine zK ?_|refine zL ?_|refine zM rfl ?_|refine zN ?_|refine zO ?_|refine zP ?_|refine zQ ?_|refine zR rfl ?_|refine zS rfl ?_|refine zU ?_)
  refine wP I (wP I (wC I I (fun W1 hp=>(Hy _ _ hd0 h.add h.d W1 (ht.hp hp)).cast (v':= .tuple #[str (Ad (p+q)), .int .i64 0]) (by rw[ra])) (wP I (wP I (wP I (wP I (Aa ?_)))))))
  repeat (first|refine zA ?_|refine zB ?_|refine zC ?_|refine zD ?_|refine zE ?_|refine zF ?_|refine zG ?_|refine zH ?_|refine zI ?_|refine zJ ?_|refine zK ?_|refine zL ?_|refine zM rfl ?_|refine zN ?_|refine zO ?_|refine zP ?_|refine zQ ?_|refine zR rfl ?_|refine zS rfl ?_|refine zU ?_)
  exact wR2 I I I
theorem Sz2.neg {p q:Rat} (h:Sz2 p q):Sz2 p (-q):=by
 have e:(-q).num= -q.num:=rfl
 have d:(-q).den=q.den:=rfl
 refine⟨h.okp,⟨by rw[e];exact JF h.okq.1,h.okq.2⟩,h.c1,by rw[e,Int.neg_mul];exact JF h.c2,h.d,by rw[e,Int.mul_neg];exact JF h.n, ?_, ?_⟩
 ·rw[e,d,Int.neg_mul, ←Int.sub_eq_add_neg];exact h.sub
 ·rw[e,d,Int.neg_mul,Int.sub_neg];exact h.add
theorem QU (p q:Rat) (h:Sz2 p q) (W:World) (ht:AM W):
  Ai Tryz.prog 43 #[str (Ad p),str (Ad q)] W (fun _:Unit=> .tuple #[str (Ad (p-q)), .int .i64 0]) (fun _=>True) (fun _=>[]):=by
 refine Ab (args:=[str (Ad p),str (Ad q)]) Tryz.func43 I I I ?_
 repeat (first|refine zA ?_|refine zB ?_|refine zC ?_|refine zD ?_|refine zE ?_|refine zF ?_|refine zG ?_|refine zH ?_|refine zI ?_|refine zJ ?_|refine zK ?_|refine zL ?_|refine zM rfl ?_|refine zN ?_|refine zO ?_|refine zP ?_|refine zQ ?_|refine zR rfl ?_|refine zS rfl ?_|refine zU ?_)
 refine wP I (wP I (Aa ?_))
 repeat (first|refine zA ?_|refine zB ?_|refine zC ?_|refine zD ?_|refine zE ?_|refine zF ?_|refine zG ?_|refine zH ?_|refine zI ?_|refine zJ ?_|refine zK ?_|refine zL ?_|refine zM rfl ?_|refine zN ?_|refine zO ?_|refine zP ?_|refine zQ ?_|refine zR rfl ?_|refine zS rfl ?_|refine zU ?_)
 refine wP I (wP I (wC I I (fun W1 hp=>C9 h.okp h.okq W1 (ht.hp hp)) (wP I (Aa ?_))))
 repeat (first|refine zA ?_|refine zB ?_|refine zC ?_|refine zD ?_|refine zE ?_|refine zF ?_|refine zG ?_|refine zH ?_|refine zI ?_|refine zJ ?_|refine zK ?_|refine zL ?_|refine zM rfl ?_|refine zN ?_|refine zO ?_|refine zP ?_|refine zQ ?_|refine zR rfl ?_|refine zS rfl ?_|refine zU ?_)
 refine wP I (wP I (Aa ?_))
 repeat (first|refine zA ?_|refine zB ?_|refine zC ?_|refine zD ?_|refine zE ?_|refine zF ?_|refine zG ?_|refine zH ?_|refine zI ?_|refine zJ ?_|refine zK ?_|refine zL ?_|refine zM rfl ?_|refine zN ?_|refine zO ?_|refine zP ?_|refine zQ ?_|refine zR rfl ?_|refine zS rfl ?_|refine zU ?_)
 refine wP I (wP I (wC I I (fun W _=>LC q (G6 h.okq) W) (wC I I (fun W1 hp=>(QO p (-q) h.neg W1 (ht.hp hp)).cast (v':= .tuple #[str (Ad (p-q)), .int .i64 0]) (by rw[Rat.sub_eq_add_neg])) (wP I (wP I (wP I (wP I (Aa ?_))))))))
 repeat (first|refine zA ?_|refine zB ?_|refine zC ?_|refine zD ?_|refine zE ?_|refine zF ?_|refine zG ?_|refine zH ?_|refine zI ?_|refine zJ ?_|refine zK ?_|refine zL ?_|refine zM rfl ?_|refine zN ?_|refine zO ?_|refine zP ?_|refine zQ ?_|refine zR rfl ?_|refine zS rfl ?_|refine zU ?_)
 exact wR2 I I I
-- BOXES 1
-- CODE2
theorem EC (a b c d:Int) (ha:okN a) (hb:okN b) (hab: ¬okN (a*b)) (W:World) (ht:AM W):
  Ai Tryz.prog 122 #[str (itoa a),str (itoa b),str (itoa c),str (itoa d)] W (fun _:Unit=> .tuple #[str [],str [], .int .i64 4]) (fun _=>True) (fun _=>[]):=by
 refine Ab (args:=[str (itoa a),str (itoa b),str (itoa c),str (itoa d)]) Tryz.func122 I I I ?_
 refine zA (zB (wP I (wP I (wP I (Aa (zE (zA (zB (wP I (wP I (wC I I (fun W1 hp=>(M3 a b ha.dd hb.dd W1 (ht.hp hp)).cast (EA hab)) ?_)))))))))))
 iterate 5 refine wP I ?_
 refine Aa (zE (zA (zA (zB (wP I (wP I (Aa (zE (zR I (zA (zB (wP I (wP I (wP I (wP I ?_)))))))))))))))
 exact Aa (zE (zO (zP (wR3 I I I))))
theorem FY (a b c d:Int) (ha:okN a) (hb:okN b) (hc:okN c) (hd:okN d) (hab:okN (a*b)) (hcd: ¬okN (c*d)) (W:World) (ht:AM W):
  Ai Tryz.prog 122 #[str (itoa a),str (itoa b),str (itoa c),str (itoa d)] W (fun _:Unit=> .tuple #[str (itoa (a*b)),str [], .int .i64 4]) (fun _=>True) (fun _=>[]):=by
 refine Ab (args:=[str (itoa a),str (itoa b),str (itoa c),str (itoa d)]) Tryz.func122 I I I ?_
 refine zA (zB (wP I (wP I (wP I (Aa (zE (zA (zB (wP I (wP I (wC I I (fun W1 hp=>I9 a b ha.dd hb.dd hab.dd W1 (ht.hp hp)) ?_)))))))))))
 iterate 5 refine wP I ?_
 refine Aa (zE (zA (zA (zB (wP I (wP I (Aa (zE (zS I (zI (zE (zA (zB ?_)))))))))))))
 refine wP I (wP I (wC I I (fun W1 hp=>(M3 c d hc.dd hd.dd W1 (ht.hp hp)).cast (EA hcd)) ?_))
 iterate 5 refine wP I ?_
 refine Aa (zE (zA (zB ?_)))
 iterate 6 refine wP I ?_
 exact Aa (zE (zO (wR3 I I I)))
def opV (ok:Prop) [Decidable ok] (r:Rat):Value:=if ok then .tuple #[str (Ad r), .int .i64 0] else .tuple #[str [], .int .i64 4]
theorem Hl {ok:Prop} [Decidable ok] {r:Rat} (h:ok):opV ok r= .tuple #[str (Ad r), .int .i64 0]:=if_pos h
theorem HD {ok:Prop} [Decidable ok] {r:Rat} (h: ¬ok):opV ok r= .tuple #[str [], .int .i64 4]:=if_neg h
instance (z:Int):Decidable (okN z):=inferInstanceAs (Decidable (z.natAbs<Bn))
def DY (p q:Rat):Prop:=okN (p.num*(q.den:Nat))∧okN (q.num*(p.den:Nat))∧okN ((p.den:Nat)*(q.den:Nat))∧okN (p.num*(q.den:Nat)+q.num*(p.den:Nat))
instance (p q:Rat):Decidable (DY p q):=inferInstanceAs (Decidable (_∧_∧_∧_))
theorem Qk (p q:Rat) (hkp:okQ p) (hkq:okQ q) (W:World) (ht:AM W):
  Ai Tryz.prog 101 #[str (Ad p),str (Ad q)] W (fun _:Unit=>opV (DY p q) (p+q)) (fun _=>True) (fun _=>[]):=by
 have hpn:=p.den_pos
 have hqn:=q.den_pos
 have ra:=Jo p q
 refine Ab (args:=[str (Ad p),str (Ad q)]) Tryz.func101 I I I ?_
 refine zA (zB (wP I (wP I (Aa (zE (zA (zB (wP I (wC I I (fun W _=>Bw hkp W) ?_)))))))))
 iterate 7 refine wP I ?_
 refine Aa (zE (zA (zB (wP I (wC I I (fun W _=>Bw hkq W) ?_)))))
 iterate 7 refine wP I ?_
 refine Aa (AI (A0 (A0 ?_)))
 refine AG (X:=Unit) (fun _=>[(0,str (Ad p)),(1,str (Ad q)),(6, .int .i64 (iN p)),(7, .int .i64 (iD p)),(9, .int .i64 (iN q)),(10, .int .i64 (iD q)),(37, .bool (sh2 p q))]) (fun _=>[]) (fun _=>True) ?_ ?_
 ·refine zB (wP I (wP I ?_))
  refine CN 35 I (fun h35=> ?_) (fun h35=> ?_)
  ·exact wP I (wP I (Aa (An () tO ⟨I,I,I,I,I,I,congrArg (fun b=>some (Value.bool b)) (by unfold sh2;simp_all),tO⟩ [] I)))
  ·refine Al I I ?_
   exact wP I (Aa (An () tO ⟨I,I,I,I,I,I,congrArg (fun b=>some (Value.bool b)) (by unfold sh2;simp_all),tO⟩ [] I))
 intro _ _
 refine Av I (fun hs=> ?_) (fun hs=> ?_)
 ·obtain⟨e1,e2,e3,e4,l1,l2,l3,l4⟩:=Fq hs
  have m1:=JY l1 (Em l4)
  have m2:=JY l3 (Em l2)
  have m3:=JY (Em l2) (Em l4)
  have hdd:((p.den:Nat):Int)*((q.den:Nat):Int)=((p.den*q.den:Nat):Int):=(Int.natCast_mul _ _).symm
  rw[hdd,Int.natAbs_natCast] at m3
  have hpq:=Nat.mul_pos hpn hqn
  rw[hdd,ON _ hpq] at ra
  have hok:DY p q:=⟨CC (Nat.lt_trans (show(p.num*(q.den:Nat)).natAbs<1000000000000000000 by omega) (by decide)),CC (Nat.lt_trans (show(q.num*(p.den:Nat)).natAbs<1000000000000000000 by omega) (by decide)),CC (Nat.lt_trans (show(((p.den:Nat):Int)*((q.den:Nat):Int)).natAbs<1000000000000000000 by rw[hdd,Int.natAbs_natCast];omega) (by decide)),CC (Nat.lt_trans (show(p.num*(q.den:Nat)+q.num*(p.den:Nat)).natAbs<2000000000000000001 by omega) (by decide))⟩
  refine zA (zB (wP I (wP I (wP I (wV 40 (p.num*(q.den:Nat)) I (by rw[e1,e4];exact CO l1 (Em l4)) (wP I (wP I (wP I (wV 43 (q.num*(p.den:Nat)) I (by rw[e3,e2];exact CO l3 (Em l2)) (wP I (wV 44 (p.num*(q.den:Nat)+q.num*(p.den:Nat)) I (Ap (by omega) (by omega)) (wP I (wP I (wP I ?_))))))))))))))
  exact wV 47 ((p.den*q.den:Nat):Int) I (by rw[e2,e4, ←hdd];exact CO (Em l2) (Em l4)) (wC I I (fun W _=>(DS (p.num*(q.den:Nat)+q.num*(p.den:Nat)) (p.den*q.den) (by omega) hpq (by omega) W).cast (v':=str (Ad (p+q))) (by rw[ra])) (wP I (wP I (Aa (zE (zO (zP (AJ tH I (.tmp I) (.tmp I) () (Hl hok).symm tO fun W _=>As.nil _ _))))))))
 ·have hd0:((p.den:Nat):Int)*((q.den:Nat):Int)≠0:=Int.mul_ne_zero (by omega) (by omega)
  refine zI (zE (zA (zB (wP I (wC I I (fun W _=>Bp hkp W) ?_)))))
  iterate 5 refine wP I ?_
  refine Aa (zE (zA (zB (wP I (wC I I (fun W _=>Bp hkq W) ?_)))))
  iterate 5 refine wP I ?_
  refine Aa ?_
  by_cases h1:okN (p.num*(q.den:Nat))
  ·by_cases h2:okN (q.num*(p.den:Nat))
   ·refine zE (zA (zB (wP I (wP I (wP I (wP I (wC I I (fun W1 hp=>CL p.num (q.den:Nat) q.num (p.den:Nat) hkp.1 hkq.2 hkq.1 hkp.2 h1 h2 W1 (ht.hp hp)) ?_)))))))
    iterate 7 refine wP I ?_
    refine Aa (zE (zA (zA (zB (wP I (wP I (Aa (zE (zS I (zI (zE (zA (zB ?_)))))))))))))
    by_cases h3:okN ((p.den:Nat)*(q.den:Nat))
    ·skip
     refine wP I (wP I ?_)
     refine wC I I (fun W1 hp=>by
      have h1:=CL (p.den:Nat) (q.den:Nat) 1 1 hkp.2 hkq.2 (CC (by decide)) (CC (by decide)) h3 (CC (by decide)) W1 (ht.hp hp)
      rw[show(1:Int)*1=1 from rfl,L7] at h1
      exact h1) ?_
     iterate 7 refine wP I ?_
     refine Aa (zE (zA (zA (zB ?_))))
     iterate 5 refine wP I ?_
     refine wU 82 false I (by show(!_)=false;rw[Bd,dT I];rfl) (wP I (Aa (zE (zS I (zI (zE (zA (zB ?_))))))))
     by_cases h4:okN (p.num*(q.den:Nat)+q.num*(p.den:Nat))
     ·have hok:DY p q:=⟨h1,h2,h3,h4⟩
      refine wP I (wP I (wC I I (fun W1 hp=>L4 (p.num*(q.den:Nat)) (q.num*(p.den:Nat)) h1.dd h2.dd h4.dd W1 (ht.hp hp)) ?_))
      iterate 5 refine wP I ?_
      refine Aa (zE (zA (zA (zB (wP I (wP I (Aa (zE (zS I (zI (zE (zA (zB ?_)))))))))))))
      exact wP I (wP I (wC I I (fun W1 hp=>(Hy _ _ hd0 h4 h3 W1 (ht.hp hp)).cast (v':= .tuple #[str (Ad (p+q)), .int .i64 0]) (by rw[ra])) (wP I (wP I (wP I (wP I (Aa (zE (zO (AJ tH I (.tmp I) (.tmp I) () (Hl hok).symm tO fun W _=>As.nil _ _))))))))))
     ·have hno: ¬DY p q:=fun h=>h4 h.2.2.2
      refine wP I (wP I (wC I I (fun W1 hp=>(RB (p.num*(q.den:Nat)) (q.num*(p.den:Nat)) h1.dd h2.dd W1 (ht.hp hp)).cast (EA h4)) ?_))
      iterate 5 refine wP I ?_
      refine Aa (zE (zA (zA (zB (wP I (wP I (Aa (zE (zR I (zA (zB (wP I (wP I (wP I ?_))))))))))))))
      exact Aa (zE (zO (zP (AJ tH I (.tmp I) (.tmp I) () (HD hno).symm tO fun W _=>As.nil _ _))))
    ·have hno: ¬DY p q:=fun h=>h3 h.2.2.1
     refine wP I (wP I ?_)
     refine wC I I (fun W1 hp=>by
      have h1:=EC (p.den:Nat) (q.den:Nat) 1 1 hkp.2 hkq.2 h3 W1 (ht.hp hp)
      rw[L7] at h1
      exact h1) ?_
     iterate 7 refine wP I ?_
     refine Aa (zE (zA (zA (zB (wP I (wP I (wP I ?_)))))))
     iterate 2 refine Al I I ?_
     exact wP I (Aa (zE (zR I (zA (zB (wP I (wP I (wP I (Aa (zE (zO (zP (AJ tH I (.tmp I) (.tmp I) () (HD hno).symm tO fun W _=>As.nil _ _)))))))))))))
   ·have hno: ¬DY p q:=fun h=>h2 h.2.1
    refine zE (zA (zB (wP I (wP I (wP I (wP I (wC I I (fun W1 hp=>FY p.num (q.den:Nat) q.num (p.den:Nat) hkp.1 hkq.2 hkq.1 hkp.2 h1 h2 W1 (ht.hp hp)) ?_)))))))
    iterate 7 refine wP I ?_
    refine Aa (zE (zA (zA (zB (wP I (wP I (Aa (zE (zR I (zA (zB (wP I (wP I (wP I ?_))))))))))))))
    exact Aa (zE (zO (zP (AJ tH I (.tmp I) (.tmp I) () (HD hno).symm tO fun W _=>As.nil _ _))))
  ·have hno: ¬DY p q:=fun h=>h1 h.1
   refine zE (zA (zB (wP I (wP I (wP I (wP I (wC I I (fun W1 hp=>EC p.num (q.den:Nat) q.num (p.den:Nat) hkp.1 hkq.2 h1 W1 (ht.hp hp)) ?_)))))))
   iterate 7 refine wP I ?_
   refine Aa (zE (zA (zA (zB (wP I (wP I (Aa (zE (zR I (zA (zB (wP I (wP I (wP I ?_))))))))))))))
   exact Aa (zE (zO (zP (AJ tH I (.tmp I) (.tmp I) () (HD hno).symm tO fun W _=>As.nil _ _))))
theorem V9 {q:Rat} (h:okQ q):okQ (-q):=⟨JF h.1,h.2⟩
theorem Rk (p q:Rat) (hkp:okQ p) (hkq:okQ q) (W:World) (ht:AM W):
  Ai Tryz.prog 43 #[str (Ad p),str (Ad q)] W (fun _:Unit=>opV (DY p (-q)) (p-q)) (fun _=>True) (fun _=>[]):=by
 obtain⟨rs,re,hr⟩: ∃s e,opV (DY p (-q)) (p-q)= .tuple #[str s, .int .i64 e]:=by unfold opV;split<;>exact⟨_,_,rfl⟩
 refine Ab (args:=[str (Ad p),str (Ad q)]) Tryz.func43 I I I ?_
 refine zA (zB (wP I (wP I (Aa (zE (zA (zA (zB (wP I (wP I (wC I I (fun W1 hp=>C9 hkp hkq W1 (ht.hp hp)) (wP I (Aa ?_)))))))))))))
 refine zE (zA (zB (wP I (wP I (Aa (zE (zS I (zI (zE (zA (zB (wP I (wP I ?_)))))))))))))
 exact wC I I (fun W _=>LC q (G6 hkq) W) (wC I I (fun W1 hp=>(Qk p (-q) hkp (V9 hkq) W1 (ht.hp hp)).cast ((congrArg (opV _) (Rat.sub_eq_add_neg p q).symm).trans hr)) (wP I (wP I (wP I (wP I (Aa (zE (zO (wR2 I I hr.symm)))))))))
-- BOXES 1
-- CODE2
def Ep (p q:Rat):Prop:=okN (p.num*q.num)∧okN ((p.den:Nat)*(q.den:Nat))
def BE (p q:Rat):Prop:=okN (p.num*(q.den:Nat))∧okN (q.num*(p.den:Nat))
instance (p q:Rat):Decidable (Ep p q):=inferInstanceAs (Decidable (_∧_))
instance (p q:Rat):Decidable (BE p q):=inferInstanceAs (Decidable (_∧_))
theorem O8 {p q:Rat} (hs:sh2 p q=true):okN (p.num*(q.den:Nat))∧okN (q.num*(p.den:Nat))∧okN ((p.den:Nat)*(q.den:Nat))∧okN (p.num*q.num):=by
 obtain⟨e1,e2,e3,e4,l1,l2,l3,l4⟩:=Fq hs
 exact⟨CC (Nat.lt_trans (JY l1 (Em l4)) (by decide)),CC (Nat.lt_trans (JY l3 (Em l2)) (by decide)),CC (Nat.lt_trans (JY (Em l2) (Em l4)) (by decide)),CC (Nat.lt_trans (JY l1 l3) (by decide))⟩
theorem P6 (n d m c:Int) (hn:okN n) (hd:okN d) (hm:okN m) (hc:okN c) (hno:okN (n*m)→okN (d*c)→False) (W:World) (ht:AM W):
  Ai Tryz.prog 180 #[str (itoa n),str (itoa d),str (itoa m),str (itoa c)] W (fun _:Unit=> .tuple #[str [], .int .i64 4]) (fun _=>True) (fun _=>[]):=by
 refine Ab (args:=[str (itoa n),str (itoa d),str (itoa m),str (itoa c)]) Tryz.func180 I I I ?_
 refine zA (zB (wP I (wP I (Aa (zE (zA (zB (wP I (wP I (wP I (wP I ?_)))))))))))
 by_cases h1:okN (n*m)
 ·refine wC I I (fun W1 hp=>FY n m d c hn hm hd hc h1 (hno h1) W1 (ht.hp hp)) ?_
  iterate 7 refine wP I ?_
  refine Aa (zE (zA (zA (zB (wP I (wP I (Aa (zE (zR I (zA (zB (wP I (wP I (wP I ?_))))))))))))))
  exact Aa (zE (zO (zP (wR2 I I I))))
 ·refine wC I I (fun W1 hp=>EC n m d c hn hm h1 W1 (ht.hp hp)) ?_
  iterate 7 refine wP I ?_
  refine Aa (zE (zA (zA (zB (wP I (wP I (Aa (zE (zR I (zA (zB (wP I (wP I (wP I ?_))))))))))))))
  exact Aa (zE (zO (zP (wR2 I I I))))
theorem Ra (p q:Rat) (hkp:okQ p) (hkq:okQ q) (h:Ep p q) (W:World) (ht:AM W):
  Ai Tryz.prog 128 #[str (Ad p),str (Ad q)] W (fun _:Unit=> .tuple #[str (Ad (p*q)), .int .i64 0]) (fun _=>True) (fun _=>[]):=by
 have hpn:=p.den_pos
 have hqn:=q.den_pos
 have ra:=HP p q
 refine Ab (args:=[str (Ad p),str (Ad q)]) Tryz.func128 I I I ?_
 refine zA (zB (wP I (wP I (Aa (zE (zA (zA (zB (wP I (wP I (wC I I (fun W1 hp=>C9 hkp hkq W1 (ht.hp hp)) (wP I (Aa ?_)))))))))))))
 refine zE (zA (zB (wP I (wP I (Aa (zE (zS I (zI (zE (zA (zB (wP I (wC I I (fun W _=>Bw hkp W) ?_)))))))))))))
 iterate 7 refine wP I ?_
 refine Aa (zE (zA (zB (wP I (wC I I (fun W _=>Bw hkq W) ?_)))))
 iterate 7 refine wP I ?_
 refine Aa (AI (A0 (A0 ?_)))
 refine AG (X:=Unit) (fun _=>[(0,str (Ad p)),(1,str (Ad q)),(7, .int .i64 (iN p)),(8, .int .i64 (iD p)),(10, .int .i64 (iN q)),(11, .int .i64 (iD q)),(38, .bool (sh2 p q))]) (fun _=>[]) (fun _=>True) ?_ ?_
 ·refine zB (wP I (wP I ?_))
  refine CN 36 I (fun h36=> ?_) (fun h36=> ?_)
  ·exact wP I (wP I (Aa (An () tO ⟨I,I,I,I,I,I,congrArg (fun b=>some (Value.bool b)) (by unfold sh2;simp_all),tO⟩ [] I)))
  ·refine Al I I ?_
   exact wP I (Aa (An () tO ⟨I,I,I,I,I,I,congrArg (fun b=>some (Value.bool b)) (by unfold sh2;simp_all),tO⟩ [] I))
 intro _ _
 refine Av I (fun hs=> ?_) (fun hs=> ?_)
 ·obtain⟨e1,e2,e3,e4,l1,l2,l3,l4⟩:=Fq hs
  have m1:=JY l1 l3
  have m3:=JY (Em l2) (Em l4)
  have hdd:((p.den:Nat):Int)*((q.den:Nat):Int)=((p.den*q.den:Nat):Int):=(Int.natCast_mul _ _).symm
  rw[hdd,Int.natAbs_natCast] at m3
  have hpq:=Nat.mul_pos hpn hqn
  rw[hdd,ON _ hpq] at ra
  refine zA (zB (wP I (wP I (wP I (wV 41 (p.num*q.num) I (by rw[e1,e3];exact CO l1 l3) (wP I (wP I (wP I (wV 44 ((p.den*q.den:Nat):Int) I (by rw[e2,e4, ←hdd];exact CO (Em l2) (Em l4)) (wC I I (fun W _=>(DS (p.num*q.num) (p.den*q.den) (by omega) hpq (by omega) W).cast (v':=str (Ad (p*q))) (by rw[ra])) (wP I (wP I (Aa ?_)))))))))))))
  exact zE (zO (zP (wR2 I I I)))
 ·have hd0:((p.den:Nat):Int)*((q.den:Nat):Int)≠0:=Int.mul_ne_zero (by omega) (by omega)
  refine zI (zE (zA (zB (wP I (wC I I (fun W _=>Bp hkp W) ?_)))))
  iterate 5 refine wP I ?_
  refine Aa (zE (zA (zB (wP I (wC I I (fun W _=>Bp hkq W) ?_)))))
  iterate 5 refine wP I ?_
  refine Aa (zE (zA (zB (wP I (wP I (wP I (wP I (wC I I (fun W1 hp=>(RV p.num (p.den:Nat) q.num (q.den:Nat) hkp.1 hkp.2 hkq.1 hkq.2 h.1 h.2 hd0 W1 (ht.hp hp)).cast (v':= .tuple #[str (Ad (p*q)), .int .i64 0]) (by rw[ra])) (wP I (wP I (wP I (wP I (Aa ?_)))))))))))))
  exact zE (zO (wR2 I I I))
theorem QS (p q:Rat) (hkp:okQ p) (hkq:okQ q) (hno: ¬Ep p q) (W:World) (ht:AM W):
  Ai Tryz.prog 128 #[str (Ad p),str (Ad q)] W (fun _:Unit=> .tuple #[str [], .int .i64 4]) (fun _=>True) (fun _=>[]):=by
 refine Ab (args:=[str (Ad p),str (Ad q)]) Tryz.func128 I I I ?_
 refine zA (zB (wP I (wP I (Aa (zE (zA (zA (zB (wP I (wP I (wC I I (fun W1 hp=>C9 hkp hkq W1 (ht.hp hp)) (wP I (Aa ?_)))))))))))))
 refine zE (zA (zB (wP I (wP I (Aa (zE (zS I (zI (zE (zA (zB (wP I (wC I I (fun W _=>Bw hkp W) ?_)))))))))))))
 iterate 7 refine wP I ?_
 refine Aa (zE (zA (zB (wP I (wC I I (fun W _=>Bw hkq W) ?_)))))
 iterate 7 refine wP I ?_
 refine Aa (AI (A0 (A0 ?_)))
 refine AG (X:=Unit) (fun _=>[(0,str (Ad p)),(1,str (Ad q)),(7, .int .i64 (iN p)),(8, .int .i64 (iD p)),(10, .int .i64 (iN q)),(11, .int .i64 (iD q)),(38, .bool (sh2 p q))]) (fun _=>[]) (fun _=>True) ?_ ?_
 ·refine zB (wP I (wP I ?_))
  refine CN 36 I (fun h36=> ?_) (fun h36=> ?_)
  ·exact wP I (wP I (Aa (An () tO ⟨I,I,I,I,I,I,congrArg (fun b=>some (Value.bool b)) (by unfold sh2;simp_all),tO⟩ [] I)))
  ·refine Al I I ?_
   exact wP I (Aa (An () tO ⟨I,I,I,I,I,I,congrArg (fun b=>some (Value.bool b)) (by unfold sh2;simp_all),tO⟩ [] I))
 intro _ _
 refine Av I (fun hs=> ?_) (fun hs=> ?_)
 ·exact absurd (⟨(O8 hs).2.2.2,(O8 hs).2.2.1⟩) hno
 ·refine zI (zE (zA (zB (wP I (wC I I (fun W _=>Bp hkp W) ?_)))))
  iterate 5 refine wP I ?_
  refine Aa (zE (zA (zB (wP I (wC I I (fun W _=>Bp hkq W) ?_)))))
  iterate 5 refine wP I ?_
  refine Aa (zE (zA (zB (wP I (wP I (wP I (wP I (wC I I (fun W1 hp=>P6 p.num (p.den:Nat) q.num (q.den:Nat) hkp.1 hkp.2 hkq.1 hkq.2 (fun h1 h2=>hno ⟨h1,h2⟩) W1 (ht.hp hp)) (wP I (wP I (wP I (wP I (Aa ?_)))))))))))))
  exact zE (zO (wR2 I I I))
theorem RX (p q:Rat) (hkp:okQ p) (hkq:okQ q) (h:BE p q) (W:World) (ht:AM W):
  Ai Tryz.prog 56 #[str (Ad p),str (Ad q)] W (fun _:Unit=> .tuple #[.int .i64 (Dy p q), .int .i64 0]) (fun _=>True) (fun _=>[]):=by
 have hpn:=p.den_pos
 have hqn:=q.den_pos
 rw[←O0]
 obtain⟨x,hx⟩: ∃x,p.num*((q.den:Nat):Int)=x:=⟨_,rfl⟩
 obtain⟨y,hy⟩: ∃y,q.num*((p.den:Nat):Int)=y:=⟨_,rfl⟩
 rw[hx,hy]
 refine Ab (args:=[str (Ad p),str (Ad q)]) Tryz.func56 I I I ?_
 refine zA (zB (wP I (wP I (Aa (zE (zA (zA (zB (wP I (wP I (wC I I (fun W1 hp=>C9 hkp hkq W1 (ht.hp hp)) (wP I (Aa ?_)))))))))))))
 refine zE (zA (zB (wP I (wP I (Aa (zE (zS I (zI (zE (zA (zB (wP I (wC I I (fun W _=>Bw hkp W) ?_)))))))))))))
 iterate 7 refine wP I ?_
 refine Aa (zE (zA (zB (wP I (wC I I (fun W _=>Bw hkq W) ?_)))))
 iterate 7 refine wP I ?_
 refine Aa (AI (A0 (A0 ?_)))
 refine AG (X:=Unit) (fun _=>[(0,str (Ad p)),(1,str (Ad q)),(7, .int .i64 (iN p)),(8, .int .i64 (iD p)),(10, .int .i64 (iN q)),(11, .int .i64 (iD q)),(41, .bool (sh2 p q))]) (fun _=>[]) (fun _=>True) ?_ ?_
 ·refine zB (wP I (wP I ?_))
  refine CN 39 I (fun h39=> ?_) (fun h39=> ?_)
  ·exact wP I (wP I (Aa (An () tO ⟨I,I,I,I,I,I,congrArg (fun b=>some (Value.bool b)) (by unfold sh2;simp_all),tO⟩ [] I)))
  ·refine Al I I ?_
   exact wP I (Aa (An () tO ⟨I,I,I,I,I,I,congrArg (fun b=>some (Value.bool b)) (by unfold sh2;simp_all),tO⟩ [] I))
 intro _ _
 refine Av I (fun hs=> ?_) (fun hs=> ?_)
 ·obtain⟨e1,e2,e3,e4,l1,l2,l3,l4⟩:=Fq hs
  have w1:w64 (iN p*iD q)=x:=by rw[e1,e4, ←hx];exact CO l1 (Em l4)
  have w2:w64 (iN q*iD p)=y:=by rw[e3,e2, ←hy];exact CO l3 (Em l2)
  refine zA (zH (zA (zB (wP I (wP I (wP I (wV 45 x I w1 (wP I (wP I (wP I (wV 48 y I w2 (wP I ?_))))))))))))
  by_cases h1:x<y
  ·exact wU 49 true I (dT h1) (wP I (Aa (zE (zR I (zA (zB (wP I (wP I (Aa (zE (zO (zQ (zP (zP (wR2 I I (by rw[Fj,if_pos h1]))))))))))))))))
  refine wU 49 false I (dF h1) (wP I (Aa (zE (zS I (zA (zB (wP I (wP I (wP I (wV 53 x I w1 (wP I (wP I (wP I ?_)))))))))))))
  refine wV 56 y I w2 (wP I ?_)
  by_cases h2:y<x
  ·exact wU 57 true I (dT h2) (wP I (Aa (zE (zR I (zA (zB (wP I (wP I (Aa (zE (zO (zQ (zP (zP (wR2 I I (by rw[Fj,if_neg h1,if_neg (by omega)]))))))))))))))))
  refine wU 57 false I (dF h2) (wP I (Aa (zE (zS I (zI (zN (zE (zA (zB (wP I (wP I (Aa (zE ?_)))))))))))))
  exact zO (zP (wR2 I I (by rw[Fj,if_neg h1,if_pos (by omega)])))
 ·refine zI (zE (zA (zB (wP I (wC I I (fun W _=>Bp hkp W) ?_)))))
  iterate 5 refine wP I ?_
  refine Aa (zE (zA (zB (wP I (wC I I (fun W _=>Bp hkq W) ?_)))))
  iterate 5 refine wP I ?_
  refine Aa (zE (zA (zB (wP I (wP I (wP I (wP I (wC I I (fun W1 hp=>(CL p.num (q.den:Nat) q.num (p.den:Nat) hkp.1 hkq.2 hkq.1 hkp.2 h.1 h.2 W1 (ht.hp hp)).cast (v':= .tuple #[str (itoa x),str (itoa y), .int .i64 0]) (by rw[hx,hy])) ?_))))))))
  iterate 7 refine wP I ?_
  refine Aa (zE (zA (zA (zB (wP I (wP I (Aa (zE (zS I (zI (zE (zA (zB ?_)))))))))))))
  exact wP I (wP I (wC I I (fun W1 hp=>Mn x y (by rw[←hx];exact h.1.dd) (by rw[←hy];exact h.2.dd) W1) (wP I (wP I (wP I (wP I (Aa (zE (zO (wR2 I I I))))))))))
theorem RU (p q:Rat) (hkp:okQ p) (hkq:okQ q) (hno: ¬BE p q) (W:World) (ht:AM W):
  Ai Tryz.prog 56 #[str (Ad p),str (Ad q)] W (fun _:Unit=> .tuple #[.int .i64 0, .int .i64 4]) (fun _=>True) (fun _=>[]):=by
 refine Ab (args:=[str (Ad p),str (Ad q)]) Tryz.func56 I I I ?_
 refine zA (zB (wP I (wP I (Aa (zE (zA (zA (zB (wP I (wP I (wC I I (fun W1 hp=>C9 hkp hkq W1 (ht.hp hp)) (wP I (Aa ?_)))))))))))))
 refine zE (zA (zB (wP I (wP I (Aa (zE (zS I (zI (zE (zA (zB (wP I (wC I I (fun W _=>Bw hkp W) ?_)))))))))))))
 iterate 7 refine wP I ?_
 refine Aa (zE (zA (zB (wP I (wC I I (fun W _=>Bw hkq W) ?_)))))
 iterate 7 refine wP I ?_
 refine Aa (AI (A0 (A0 ?_)))
 refine AG (X:=Unit) (fun _=>[(0,str (Ad p)),(1,str (Ad q)),(7, .int .i64 (iN p)),(8, .int .i64 (iD p)),(10, .int .i64 (iN q)),(11, .int .i64 (iD q)),(41, .bool (sh2 p q))]) (fun _=>[]) (fun _=>True) ?_ ?_
 ·refine zB (wP I (wP I ?_))
  refine CN 39 I (fun h39=> ?_) (fun h39=> ?_)
  ·exact wP I (wP I (Aa (An () tO ⟨I,I,I,I,I,I,congrArg (fun b=>some (Value.bool b)) (by unfold sh2;simp_all),tO⟩ [] I)))
  ·refine Al I I ?_
   exact wP I (Aa (An () tO ⟨I,I,I,I,I,I,congrArg (fun b=>some (Value.bool b)) (by unfold sh2;simp_all),tO⟩ [] I))
 intro _ _
 refine Av I (fun hs=> ?_) (fun hs=> ?_)
 ·exact absurd (⟨(O8 hs).1,(O8 hs).2.1⟩) hno
 ·refine zI (zE (zA (zB (wP I (wC I I (fun W _=>Bp hkp W) ?_)))))
  iterate 5 refine wP I ?_
  refine Aa (zE (zA (zB (wP I (wC I I (fun W _=>Bp hkq W) ?_)))))
  iterate 5 refine wP I ?_
  refine Aa (zE (zA (zB (wP I (wP I (wP I (wP I ?_)))))))
  by_cases h1:okN (p.num*(q.den:Nat))
  ·refine wC I I (fun W1 hp=>FY p.num (q.den:Nat) q.num (p.den:Nat) hkp.1 hkq.2 hkq.1 hkp.2 h1 (fun h2=>hno ⟨h1,h2⟩) W1 (ht.hp hp)) ?_
   iterate 7 refine wP I ?_
   refine Aa (zE (zA (zA (zB (wP I (wP I (Aa (zE (zR I (zA (zB (wP I (wP I (wP I ?_))))))))))))))
   exact Aa (zE (zO (zP (wR2 I I I))))
  ·refine wC I I (fun W1 hp=>EC p.num (q.den:Nat) q.num (p.den:Nat) hkp.1 hkq.2 h1 W1 (ht.hp hp)) ?_
   iterate 7 refine wP I ?_
   refine Aa (zE (zA (zA (zB (wP I (wP I (Aa (zE (zR I (zA (zB (wP I (wP I (wP I ?_))))))))))))))
   exact Aa (zE (zO (zP (wR2 I I I))))
def cmV (p q:Rat):Value:=if BE p q then .tuple #[.int .i64 (Dy p q), .int .i64 0] else .tuple #[.int .i64 0, .int .i64 4]
theorem RQ (p q:Rat) (hkp:okQ p) (hkq:okQ q) (W:World) (ht:AM W):
  Ai Tryz.prog 128 #[str (Ad p),str (Ad q)] W (fun _:Unit=>opV (Ep p q) (p*q)) (fun _=>True) (fun _=>[]):=by
 by_cases h:Ep p q
 ·exact(Ra p q hkp hkq h W ht).cast (Hl h).symm
 ·exact(QS p q hkp hkq h W ht).cast (HD h).symm
theorem Rv (p q:Rat) (hkp:okQ p) (hkq:okQ q) (W:World) (ht:AM W):
  Ai Tryz.prog 56 #[str (Ad p),str (Ad q)] W (fun _:Unit=>cmV p q) (fun _=>True) (fun _=>[]):=by
 by_cases h:BE p q
 ·exact(RX p q hkp hkq h W ht).cast (if_pos h).symm
 ·exact(RU p q hkp hkq h W ht).cast (if_neg h).symm
-- BOXES 5
theorem KJ (p q:Rat) (hp:okQ p) (hq:okQ q) (h1: ¬okN (p.num*(q.den:Nat))) (W:World) (ht:AM W):
  Ai Tryz.prog 110 #[C5 p,C5 q] W (fun _:Unit=> .tuple #[str [],str [], .int .i64 4]) (fun _=>True) (fun _=>[]):=by
 refine Ab (args:=[C5 p,C5 q]) Tryz.func110 I I I ?_
 refine zA (zB ?_)
 (refine A5 rfl rfl rfl rfl ?_;intro)
 (refine A5 rfl rfl rfl rfl ?_;intro)
 refine wP I (wP I (wP I (Aa (zE (zA (zB (wP I (wB 0 I I I (wP I (wB 1 I I I (wC I I (fun W h=>(BZ p.num (q.den:Nat) hp.1 hq.2 W (ht.hp h)).cast (EA h1)) ?_)))))))))))
 iterate 5 refine wP I ?_
 refine Aa (zE (zA (zA (zB (wP I (wP I (Aa (zE (zR I (zA (zB (wP I (wP I (wP I (wP I ?_)))))))))))))))
 exact Aa (zE (zO (zP (wR3 I I I))))
theorem KC (p q:Rat) (hp:okQ p) (hq:okQ q) (h1:okN (p.num*(q.den:Nat))) (h2: ¬okN (q.num*(p.den:Nat))) (W:World) (ht:AM W):
  Ai Tryz.prog 110 #[C5 p,C5 q] W (fun _:Unit=> .tuple #[str (itoa (p.num*(q.den:Nat))),str [], .int .i64 4]) (fun _=>True) (fun _=>[]):=by
 refine Ab (args:=[C5 p,C5 q]) Tryz.func110 I I I ?_
 refine zA (zB ?_)
 (refine A5 rfl rfl rfl rfl ?_;intro)
 (refine A5 rfl rfl rfl rfl ?_;intro)
 refine wP I (wP I (wP I (Aa (zE (zA (zB (wP I (wB 0 I I I (wP I (wB 1 I I I (wC I I (fun W h=>(BZ p.num (q.den:Nat) hp.1 hq.2 W (ht.hp h)).cast (F5 h1)) ?_)))))))))))
 iterate 5 refine wP I ?_
 refine Aa (zE (zA (zA (zB (wP I (wP I (Aa (zE (zS I (zI (zE (zA (zB ?_)))))))))))))
 refine wP I (wB 1 I I I (wP I (wB 0 I I I (wC I I (fun W h=>(BZ q.num (p.den:Nat) hq.1 hp.2 W (ht.hp h)).cast (EA h2)) ?_))))
 iterate 5 refine wP I ?_
 refine Aa (zE (zA (zB ?_)))
 iterate 6 refine wP I ?_
 exact Aa (zE (zO (wR3 I I I)))
theorem HK (p q:Rat) (hp:okQ p) (hq:okQ q) (h: ¬BE p q): ∃s, ∀(W:World) (_:AM W),
  Ai Tryz.prog 110 #[C5 p,C5 q] W (fun _:Unit=> .tuple #[str s,str [], .int .i64 4]) (fun _=>True) (fun _=>[]):=by
 by_cases h1:okN (p.num*(q.den:Nat))
 ·exact⟨_,fun W ht=>KC p q hp hq h1 (fun h2=>h ⟨h1,h2⟩) W ht⟩
 ·exact⟨_,fun W ht=>KJ p q hp hq h1 W ht⟩
theorem O3 (p q r:Rat) (b h:Nat) (z:Int) (hp:okQ p) (hq:okQ q) (hr:nrm z ((p.den:Nat)*(q.den:Nat))=r) (hE:Bf Tryz.prog h=true)
  (hop:BE p q→ ∀W,AM W→Ai Tryz.prog h #[str (itoa (p.num*(q.den:Nat))),str (itoa (q.num*(p.den:Nat)))] W (fun _:Unit=>Ig z) (fun _=>True) (fun _=>[])) (W:World) (ht:AM W) (hrow:Ak W b 0 [.func (.func h) #[] #[]]):
  Ai Tryz.prog 109 #[C5 p,C5 q,Aj b] W (fun _:Unit=>if BE p q∧okN z∧okN ((p.den:Nat)*(q.den:Nat)) then .tuple #[str (Ad r), .int .i64 0] else .tuple #[str [], .int .i64 4]) (fun _=>True) (fun _=>[]):=by
 by_cases hx:BE p q
 ·by_cases hz:okN z
  ·by_cases hd:okN ((p.den:Nat)*(q.den:Nat))
   ·rw[if_pos ⟨hx,hz,hd⟩]
    exact(Hi p q b h z hp hq hx.1 hx.2 hz hd hE (fun W2 h2=>(hop hx W2 h2).cast (F5 hz)) W ht hrow).cast (by rw[hr])
   ·rw[if_neg fun e=>hd e.2.2]
    refine Ab (args:=[C5 p,C5 q,Aj b]) Tryz.func109 I I I ?_
    refine zA (zB ?_)
    (refine A5 rfl rfl rfl rfl ?_;intro)
    (refine A5 rfl rfl rfl rfl ?_;intro)
    refine wP I (wP I (Aa (zE (zA (zB (wB 0 I I I (wB 1 I I I (wC I I (fun W h=>CT p q hp hq hx.1 hx.2 W (ht.hp h)) ?_))))))))
    iterate 7 refine wP I ?_
    refine Aa (zE (zA (zA (zB (wP I (wP I (Aa (zE (zS I (zI (zE (zA (zB ?_)))))))))))))
    refine wL 0 I I (fun W h=>hrow.hp h) I (wP I (wP I ?_))
    refine Bo (capt:=[]) I I I I I I hE (fun W h=>(hop hx W (ht.hp h)).cast (F5 hz)) ?_
    iterate 5 refine wP I ?_
    refine Aa (zE (zA (zA (zB (wP I (wP I (Aa (zE (zS I (zI (zE (zA (zB ?_)))))))))))))
    refine wP I (wB 0 I I I (wP I (wB 1 I I I (wC I I (fun W h=>(BZ (p.den:Nat) (q.den:Nat) hp.2 hq.2 W (ht.hp h)).cast (EA hd)) ?_))))
    iterate 5 refine wP I ?_
    refine Aa (zE (zA (zA (zB (wP I (wP I (Aa (zE (zR I (zA (zB (wP I (wP I (wP I ?_))))))))))))))
    exact Aa (zE (zO (zP (wR2 I I I))))
  ·rw[if_neg fun e=>hz e.2.1]
   refine Ab (args:=[C5 p,C5 q,Aj b]) Tryz.func109 I I I ?_
   refine zA (zB ?_)
   (refine A5 rfl rfl rfl rfl ?_;intro)
   (refine A5 rfl rfl rfl rfl ?_;intro)
   refine wP I (wP I (Aa (zE (zA (zB (wB 0 I I I (wB 1 I I I (wC I I (fun W h=>CT p q hp hq hx.1 hx.2 W (ht.hp h)) ?_))))))))
   iterate 7 refine wP I ?_
   refine Aa (zE (zA (zA (zB (wP I (wP I (Aa (zE (zS I (zI (zE (zA (zB ?_)))))))))))))
   refine wL 0 I I (fun W h=>hrow.hp h) I (wP I (wP I ?_))
   refine Bo (capt:=[]) I I I I I I hE (fun W h=>(hop hx W (ht.hp h)).cast (EA hz)) ?_
   iterate 5 refine wP I ?_
   refine Aa (zE (zA (zA (zB (wP I (wP I (Aa (zE (zR I (zA (zB (wP I (wP I (wP I ?_))))))))))))))
   exact Aa (zE (zO (zP (wR2 I I I))))
 ·rw[if_neg fun e=>hx e.1]
  obtain⟨s,hs⟩:=HK p q hp hq hx
  refine Ab (args:=[C5 p,C5 q,Aj b]) Tryz.func109 I I I ?_
  refine zA (zB ?_)
  (refine A5 rfl rfl rfl rfl ?_;intro)
  (refine A5 rfl rfl rfl rfl ?_;intro)
  refine wP I (wP I (Aa (zE (zA (zB (wB 0 I I I (wB 1 I I I (wC I I (fun W h=>hs W (ht.hp h)) ?_))))))))
  iterate 7 refine wP I ?_
  refine Aa (zE (zA (zA (zB (wP I (wP I (Aa (zE (zR I (zA (zB (wP I (wP I (wP I ?_))))))))))))))
  exact Aa (zE (zO (zP (wR2 I I I))))
theorem Te {p q:Rat}:DY p q↔BE p q∧okN (p.num*(q.den:Nat)+q.num*(p.den:Nat))∧okN ((p.den:Nat)*(q.den:Nat)):=⟨fun h=>⟨⟨h.1,h.2.1⟩,h.2.2.2,h.2.2.1⟩,fun h=>⟨h.1.1,h.1.2,h.2.2,h.2.1⟩⟩
theorem Ez {p q:Rat}:DY p (-q)↔BE p q∧okN (p.num*(q.den:Nat)-q.num*(p.den:Nat))∧okN ((p.den:Nat)*(q.den:Nat)):=by
 have e:(-q).num= -q.num:=rfl
 have d:(-q).den=q.den:=rfl
 unfold DY BE okN
 rw[e,d,Int.neg_mul,Int.natAbs_neg, ←Int.sub_eq_add_neg]
 exact⟨fun h=>⟨⟨h.1,h.2.1⟩,h.2.2.2,h.2.2.1⟩,fun h=>⟨h.1.1,h.1.2,h.2.2,h.2.1⟩⟩
theorem VI {a ok:Prop} [Decidable a] [Decidable ok] (h:ok↔a) (r:Rat):(if a then Value.tuple #[str (Ad r), .int .i64 0] else .tuple #[str [], .int .i64 4])=opV ok r:=by
 by_cases c:a
 ·rw[if_pos c,Hl (h.2 c)]
 ·rw[if_neg c,HD fun e=>c (h.1 e)]
theorem KR (ok:Prop) [Decidable ok] (r:Rat): ∃s e,opV ok r= .tuple #[str s, .int .i64 e]:=by unfold opV;split<;>exact⟨_,_,rfl⟩
theorem RJ {p q:Rat} (hs:smQ p∧smQ q):DY p q∧DY p (-q)∧Ep p q∧BE p q:=by
 have m1:=CV hs.1.1 (CQ q hs.2)
 have m2:=CV hs.2.1 (CQ p hs.1)
 have m3:=CV (CQ p hs.1) (CQ q hs.2)
 have m4:=CV hs.1.1 hs.2.1
 have k: ∀z:Int,z.natAbs<10^18→okN z:=fun z h=>CC (Nat.lt_trans h (by decide))
 have d1:BE p q:=⟨k _ (by omega),k _ (by omega)⟩
 exact⟨Te.2 ⟨d1,k _ (by omega),k _ (by omega)⟩,Ez.2 ⟨d1,k _ (by omega),k _ (by omega)⟩,⟨k _ (by omega),k _ (by omega)⟩,d1⟩
theorem Qq (p q:Rat) (hkp:okQ p) (hkq:okQ q) (W0:World) (hv:BL W0) (ht:AM W0):
  Ai Tryz.prog 126 #[str (Ad p),str (Ad q)] W0 (fun _:Unit=>opV (DY p (-q)) (p-q)) (fun _=>True) (fun _=>[]):=by
 obtain⟨rs,re,hr⟩:=KR (DY p (-q)) (p-q)
 have hlp:=Bj hkp
 have hlq:=Bj hkq
 refine Ab (args:=[str (Ad p),str (Ad q)]) Tryz.func126 I I I ?_
 refine zA (zB (wP I (wP I (Aa (zE (zA (zA (zB (wP I (wP I ?_))))))))))
 have hquick: ∀W,AM W→Ai Tryz.prog 48 #[str (Ad p),str (Ad q), .func (.func 178) #[] #[]] W (fun _:Unit=>if smQ p∧smQ q then .tuple #[str (Ad (p-q)), .bool true] else .tuple #[str [], .bool false]) (fun _=>True) (fun _=>[]):=
  fun W ht=>DI p q (p-q) (p.num*(q.den:Nat)-q.num*(p.den:Nat)) ((p.den:Nat)*(q.den:Nat)) _ (by kernel_rfl) (by omega) (by omega) (fun hp hq=>by
   have m1:=CV hp.1 (CQ q hq)
   have m2:=CV hq.1 (CQ p hp)
   have m3:=CV (CQ p hp) (CQ q hq)
   exact⟨LA _ _ _ _ hp.1 (CQ p hp) hq.1 (CQ q hq),D4,by omega,by omega,HS p q⟩) W ht
 by_cases hs:smQ p∧smQ q
 ·refine wC I I (fun W h=>(hquick W (ht.hp h)).cast (if_pos hs)) ?_
  iterate 5 refine wP I ?_
  refine Aa (zE (zA (zB (wP I (Aa (zE (zR I (zA (zB (wP I (wP I (wP I (Aa ?_)))))))))))))
  exact zE (zO (zP (AJ tH I (.tmp I) (.tmp I) () (Hl (RJ hs).2.1).symm tO fun W _=>As.nil _ _)))
 ·refine wC I I (fun W h=>(hquick W (ht.hp h)).cast (if_neg hs)) ?_
  iterate 5 refine wP I ?_
  refine Aa (zE (zA (zB (wP I (Aa (zE (zS I (zI (zE (zA (zB (wP I (wP I ?_)))))))))))))
  refine wD (X:=Nat) I I (fun W _=>FD 179 W) ?_
  intro b18 _
  exact wC I I (fun W hp=>DJ p q rs re 109 [Aj b18] hkp hkq W (hv.hp hp) (ht.hp hp) (by kernel_rfl) (fun W' hb=>(O3 p q (p-q) b18 179 (p.num*(q.den:Nat)-q.num*(p.den:Nat)) hkp hkq (HS p q) (by kernel_rfl) (fun hx W2 ht2=>MF _ _ hx.1 hx.2 W2 ht2) W' ((ht.hp hp).below hb) ((Ak.of_bx hp 0 I I).below (Nat.le_refl _) hb)).cast ((VI Ez _).trans hr))) (wP I (wP I (wP I (wP I (Aa (zE (zO (wR2 I I hr.symm))))))))
theorem Pt (p q:Rat) (hp:okQ p) (hq:okQ q) (hno: ¬Ep p q) (W:World) (ht:AM W):
  Ai Tryz.prog 136 #[C5 p,C5 q] W (fun _:Unit=> .tuple #[str [], .int .i64 4]) (fun _=>True) (fun _=>[]):=by
 refine Ab (args:=[C5 p,C5 q]) Tryz.func136 I I I ?_
 refine zA (zB ?_)
 (refine A5 rfl rfl rfl rfl ?_;intro)
 (refine A5 rfl rfl rfl rfl ?_;intro)
 refine wP I (wP I (Aa (zE (zA (zB (wP I (wB 0 I I I (wP I (wB 1 I I I ?_)))))))))
 by_cases hz:okN (p.num*q.num)
 ·refine wC I I (fun W h=>(BZ p.num q.num hp.1 hq.1 W (ht.hp h)).cast (F5 hz)) ?_
  iterate 5 refine wP I ?_
  refine Aa (zE (zA (zA (zB (wP I (wP I (Aa (zE (zS I (zI (zE (zA (zB ?_)))))))))))))
  refine wP I (wB 0 I I I (wP I (wB 1 I I I (wC I I (fun W h=>(BZ (p.den:Nat) (q.den:Nat) hp.2 hq.2 W (ht.hp h)).cast (EA fun hd=>hno ⟨hz,hd⟩)) ?_))))
  iterate 5 refine wP I ?_
  refine Aa (zE (zA (zA (zB (wP I (wP I (Aa (zE (zR I (zA (zB (wP I (wP I (wP I ?_))))))))))))))
  exact Aa (zE (zO (zP (wR2 I I I))))
 ·refine wC I I (fun W h=>(BZ p.num q.num hp.1 hq.1 W (ht.hp h)).cast (EA hz)) ?_
  iterate 5 refine wP I ?_
  refine Aa (zE (zA (zA (zB (wP I (wP I (Aa (zE (zR I (zA (zB (wP I (wP I (wP I ?_))))))))))))))
  exact Aa (zE (zO (zP (wR2 I I I))))
theorem P9 (p q:Rat) (hp:okQ p) (hq:okQ q) (W:World) (ht:AM W):
  Ai Tryz.prog 136 #[C5 p,C5 q] W (fun _:Unit=>opV (Ep p q) (p*q)) (fun _=>True) (fun _=>[]):=by
 by_cases h:Ep p q
 ·exact(LX p q hp hq h.1 h.2 W ht).cast (Hl h).symm
 ·exact(Pt p q hp hq h W ht).cast (HD h).symm
theorem QG (p q:Rat) (hkp:okQ p) (hkq:okQ q) (W0:World) (hv:BL W0) (ht:AM W0):
  Ai Tryz.prog 72 #[str (Ad p),str (Ad q)] W0 (fun _:Unit=>opV (Ep p q) (p*q)) (fun _=>True) (fun _=>[]):=by
 obtain⟨rs,re,hr⟩:=KR (Ep p q) (p*q)
 have hlp:=Bj hkp
 have hlq:=Bj hkq
 refine Ab (args:=[str (Ad p),str (Ad q)]) Tryz.func72 I I I ?_
 refine zA (zB (wP I (wP I (Aa (zE (zA (zA (zB (wP I (wP I ?_))))))))))
 have hquick: ∀W,AM W→Ai Tryz.prog 48 #[str (Ad p),str (Ad q), .func (.func 135) #[] #[]] W (fun _:Unit=>if smQ p∧smQ q then .tuple #[str (Ad (p*q)), .bool true] else .tuple #[str [], .bool false]) (fun _=>True) (fun _=>[]):=
  fun W ht=>DI p q (p*q) (p.num*q.num) ((p.den:Nat)*(q.den:Nat)) _ (by kernel_rfl) (by omega) (by omega) (fun hp hq=>by
   have m1:=CV hp.1 hq.1
   have m3:=CV (CQ p hp) (CQ q hq)
   exact⟨LY _ _ _ _ hp.1 (CQ p hp) hq.1 (CQ q hq),D4,by omega,by omega,HP p q⟩) W ht
 by_cases hs:smQ p∧smQ q
 ·refine wC I I (fun W h=>(hquick W (ht.hp h)).cast (if_pos hs)) ?_
  iterate 5 refine wP I ?_
  refine Aa (zE (zA (zB (wP I (Aa (zE (zR I (zA (zB (wP I (wP I (wP I (Aa ?_)))))))))))))
  exact zE (zO (zP (AJ tH I (.tmp I) (.tmp I) () (Hl (RJ hs).2.2.1).symm tO fun W _=>As.nil _ _)))
 ·refine wC I I (fun W h=>(hquick W (ht.hp h)).cast (if_neg hs)) ?_
  iterate 5 refine wP I ?_
  refine Aa (zE (zA (zB (wP I (Aa (zE (zS I (zI (zE (zA (zB (wP I (wP I ?_)))))))))))))
  exact wC I I (fun W hp=>DJ p q rs re 136 [] hkp hkq W (hv.hp hp) (ht.hp hp) (by kernel_rfl) (fun W' hb=>(P9 p q hkp hkq W' ((ht.hp hp).below hb)).cast hr)) (wP I (wP I (wP I (wP I (Aa (zE (zO (wR2 I I hr.symm))))))))
-- BOXES 5
-- CODE2
def nmV:Option Rat→Value
 |some q=> .agg #[str (Ad q), .int .i64 0]
 |none=> .agg #[str [], .int .i64 4]
def okO:Option Rat→Prop
 |some q=>okQ q
 |none=>True
@[irreducible] def opO (ok : Prop) [Decidable ok] (r : Rat) : Option Rat := if ok then some r else none
theorem UH {ok:Prop} [Decidable ok] {r:Rat} {s:List UInt8} {e:Int} (h:opV ok r= .tuple #[str s, .int .i64 e]):Value.agg #[str s, .int .i64 e]=nmV (opO ok r):=by
 unfold opV at h
 unfold opO
 split at h
 ·rename_i c
  rw[if_pos c]
  injection h with h
  rw[nmV, ←h]
 ·rename_i c
  rw[if_neg c]
  injection h with h
  rw[nmV, ←h]
def Iv (p q:Rat):Prop:=DY p (-q)
instance (p q:Rat):Decidable (Iv p q):=inferInstanceAs (Decidable (DY p (-q)))
def Ca:Option Rat→Option Rat→Option Rat
 |some p,some q=>opO (Iv p q) (p-q)
 |_,_=>none
def EO:Option Rat→Option Rat→Option Rat
 |some p,some q=>opO (Ep p q) (p*q)
 |_,_=>none
theorem DG (q:Rat) (W:World):Ai Tryz.prog 62 #[str (Ad q)] W (fun _:Unit=>nmV (some q)) (fun _=>True) (fun _=>[]):=by
 refine Ab (args:=[str (Ad q)]) Tryz.func62 I I I ?_
 refine zA (zB ?_)
 (refine Ah Tryz.hZ rfl rfl rfl rfl ?_;intro)
 refine Aa (zE (zA (zB (wP I ?_))))
 refine Az Tryz.hZ tH I I I I I I I I ?_
 exact wS 0 I I I (Aa (zE (zO (Au tH I (.cell 0 I I I I I) () I tO fun W _=>As.nil _ _))))
theorem EZ (a b:Option Rat) (ha:okO a) (hb:okO b) (W:World) (ht:AM W):
  Ai Tryz.prog 61 #[nmV a,nmV b] W (fun _:Unit=>nmV (Ca a b)) (fun _=>True) (fun _=>[]):=by
 cases a with
 |none=>
  refine Ab (args:=[nmV none,nmV b]) Tryz.func61 I I I ?_
  refine zA (zB ?_)
  (refine A5 rfl rfl rfl rfl ?_;intro)
  (refine A5 rfl rfl rfl rfl ?_;intro)
  (refine Ah Tryz.hZ rfl rfl rfl rfl ?_;intro)
  refine Aa (zE (zA (zA (zB (wP I (wB 0 I I I (wP I (Aa (zE (zR I (zA (zB (wB 0 I I I ?_)))))))))))))
  exact wS 2 I I I (Aa (zE (zO (zP (Au tH I (.cell 2 I I I I I) () I tO fun W _=>As.nil _ _)))))
 |some p=>
  cases b with
  |none=>
   refine Ab (args:=[nmV (some p),nmV none]) Tryz.func61 I I I ?_
   refine zA (zB ?_)
   (refine A5 rfl rfl rfl rfl ?_;intro)
   (refine A5 rfl rfl rfl rfl ?_;intro)
   (refine Ah Tryz.hZ rfl rfl rfl rfl ?_;intro)
   refine Aa (zE (zA (zA (zB (wP I (wB 0 I I I (wP I (Aa (zE (zS I (zI (zE (zA (zA ?_))))))))))))))
   refine zB (wP I (wB 1 I I I (wP I (Aa (zE (zR I (zA (zB (wB 1 I I I (wS 2 I I I (Aa (zE (zO ?_)))))))))))))
   exact zP (Au tH I (.cell 2 I I I I I) () I tO fun W _=>As.nil _ _)
  |some q=>
   obtain⟨rs,re,hr⟩:=KR (Iv p q) (p-q)
   have hv:Value.agg #[str rs, .int .i64 re]=nmV (Ca (some p) (some q)):=UH hr
   rw[←hv]
   refine Ab (args:=[nmV (some p),nmV (some q)]) Tryz.func61 I I I ?_
   refine zA (zB ?_)
   (refine A5 rfl rfl rfl rfl ?_;intro)
   (refine A5 rfl rfl rfl rfl ?_;intro)
   (refine Ah Tryz.hZ rfl rfl rfl rfl ?_;intro)
   refine Aa (zE (zA (zA (zB (wP I (wB 0 I I I (wP I (Aa (zE (zS I (zI (zE (zA (zA ?_))))))))))))))
   refine zB (wP I (wB 1 I I I (wP I (Aa (zE (zS I (zI (zE (zA (zB (wP I (wB 0 I I I (wP I ?_)))))))))))))
   refine wB 1 I I I (wC I I (fun W hp=>(Rk p q ha hb W (ht.hp hp)).cast hr) ?_)
   iterate 5 refine wP I ?_
   refine Aa (zE (zA (zB (wP I (wP I ?_)))))
   refine Az Tryz.hZ tH I I I I I I I I ?_
   exact wS 2 I I I (Aa (zE (zO (Au tH I (.cell 2 I I I I I) () I tO fun W _=>As.nil _ _))))
theorem JB (a b:Option Rat) (ha:okO a) (hb:okO b) (W:World) (ht:AM W):
  Ai Tryz.prog 64 #[nmV a,nmV b] W (fun _:Unit=>nmV (EO a b)) (fun _=>True) (fun _=>[]):=by
 cases a with
 |none=>
  refine Ab (args:=[nmV none,nmV b]) Tryz.func64 I I I ?_
  refine zA (zB ?_)
  (refine A5 rfl rfl rfl rfl ?_;intro)
  (refine A5 rfl rfl rfl rfl ?_;intro)
  (refine Ah Tryz.hZ rfl rfl rfl rfl ?_;intro)
  refine Aa (zE (zA (zA (zB (wP I (wB 0 I I I (wP I (Aa (zE (zR I (zA (zB (wB 0 I I I ?_)))))))))))))
  exact wS 2 I I I (Aa (zE (zO (zP (Au tH I (.cell 2 I I I I I) () I tO fun W _=>As.nil _ _)))))
 |some p=>
  cases b with
  |none=>
   refine Ab (args:=[nmV (some p),nmV none]) Tryz.func64 I I I ?_
   refine zA (zB ?_)
   (refine A5 rfl rfl rfl rfl ?_;intro)
   (refine A5 rfl rfl rfl rfl ?_;intro)
   (refine Ah Tryz.hZ rfl rfl rfl rfl ?_;intro)
   refine Aa (zE (zA (zA (zB (wP I (wB 0 I I I (wP I (Aa (zE (zS I (zI (zE (zA (zA ?_))))))))))))))
   refine zB (wP I (wB 1 I I I (wP I (Aa (zE (zR I (zA (zB (wB 1 I I I (wS 2 I I I (Aa (zE (zO ?_)))))))))))))
   exact zP (Au tH I (.cell 2 I I I I I) () I tO fun W _=>As.nil _ _)
  |some q=>
   obtain⟨rs,re,hr⟩:=KR (Ep p q) (p*q)
   have hv:Value.agg #[str rs, .int .i64 re]=nmV (EO (some p) (some q)):=UH hr
   rw[←hv]
   refine Ab (args:=[nmV (some p),nmV (some q)]) Tryz.func64 I I I ?_
   refine zA (zB ?_)
   (refine A5 rfl rfl rfl rfl ?_;intro)
   (refine A5 rfl rfl rfl rfl ?_;intro)
   (refine Ah Tryz.hZ rfl rfl rfl rfl ?_;intro)
   refine Aa (zE (zA (zA (zB (wP I (wB 0 I I I (wP I (Aa (zE (zS I (zI (zE (zA (zA ?_))))))))))))))
   refine zB (wP I (wB 1 I I I (wP I (Aa (zE (zS I (zI (zE (zA (zB (wP I (wB 0 I I I (wP I ?_)))))))))))))
   refine wB 1 I I I (wC I I (fun W hp=>(RQ p q ha hb W (ht.hp hp)).cast hr) ?_)
   iterate 5 refine wP I ?_
   refine Aa (zE (zA (zB (wP I (wP I ?_)))))
   refine Az Tryz.hZ tH I I I I I I I I ?_
   exact wS 2 I I I (Aa (zE (zO (Au tH I (.cell 2 I I I I I) () I tO fun W _=>As.nil _ _))))
-- BOXES 5
-- CODE2
theorem Sa {z d:Int} (hd:d≠0) (hz:okN z) (hk:okN d):okQ (nrm z d):=(Je (k:=mxd) z hd hz hk).ok (by decide)
theorem CZ {q:Rat}:okO (some q)↔okQ q:=Iff.rfl
theorem Ua {ok:Prop} [Decidable ok] {r:Rat} (h:ok→okQ r):okO (opO ok r):=by
 unfold opO
 by_cases c:ok
 ·rw[if_pos c];exact CZ.2 (h c)
 ·rw[if_neg c];trivial
theorem N5 {p q:Rat} (h:Iv p q):okQ (p-q):=by
 rw[←HS]
 have h':=Ez.1 h
 exact Sa D4 h'.2.1 h'.2.2
theorem Nl {p q:Rat} (h:Ep p q):okQ (p*q):=by
 rw[←HP]
 exact Sa D4 h.1 h.2
theorem HR (a b:Option Rat):okO (Ca a b):=by
 cases a with
 |none=>trivial
 |some p=>cases b with
  |none=>trivial
  |some q=>rw[Ca];exact Ua N5
theorem NO (a b:Option Rat):okO (EO a b):=by
 cases a with
 |none=>trivial
 |some p=>cases b with
  |none=>trivial
  |some q=>rw[EO];exact Ua Nl
theorem Sj (a:Option Rat): ∃s e,nmV a= .agg #[str s, .int .i64 e]∧(a=none∧s=[]∧e=4∨ ∃x,a=some x∧s=Ad x∧e=0):=by
 cases a with
 |none=>exact⟨[],4,rfl,Or.inl ⟨rfl,rfl,rfl⟩⟩
 |some x=>exact⟨Ad x,0,rfl,Or.inr ⟨x,rfl,rfl,rfl⟩⟩
def tA (p q r:Ag):Option Rat:=EO (Ca (some q.1) (some p.1)) (Ca (some r.2) (some p.2))
def tB (p q r:Ag):Option Rat:=EO (Ca (some q.2) (some p.2)) (Ca (some r.1) (some p.1))
def tnV (p q r:Ag):Value:=match tA p q r,tB p q r with
 |some x,some y=>cmV x y
 |_,_=> .tuple #[.int .i64 0, .int .i64 4]
def okP (p:Ag):Prop:=okQ p.1∧okQ p.2
theorem Wl (x y:Rat): ∃s e,cmV x y= .tuple #[.int .i64 s, .int .i64 e]:=by unfold cmV;split<;>exact⟨_,_,rfl⟩
theorem Pa (p q r:Ag) (hp:okP p) (hq:okP q) (hr:okP r) (W:World) (ht:AM W):
  Ai Tryz.prog 93 #[cvV p,cvV q,cvV r] W (fun _:Unit=>tnV p q r) (fun _=>True) (fun _=>[]):=by
 obtain⟨sa,ea,va,ca⟩:=Sj (EO (Ca (some q.1) (some p.1)) (Ca (some r.2) (some p.2)))
 obtain⟨sb,eb,vb,cb⟩:=Sj (EO (Ca (some q.2) (some p.2)) (Ca (some r.1) (some p.1)))
 refine Ab (args:=[cvV p,cvV q,cvV r]) Tryz.func93 I I I ?_
 refine zA (zB ?_)
 (refine A5 rfl rfl rfl rfl ?_;intro)
 (refine A5 rfl rfl rfl rfl ?_;intro)
 (refine A5 rfl rfl rfl rfl ?_;intro)
 refine wP I (wP I (Aa ?_))
 rename_i b3 b4 b5
 refine zE (A0 ?_)
 refine Bg (X:=Nat) [true,true,true,true,true,true,true,true,true,true,true,true,true,true,true,false,false] (fun b=>[(3,Aj b3),(4,Aj b4),(5,Aj b5),(8,Aj b)]) (fun b=>[⟨b3,35,(cvV p).cells.toList,true,none⟩,⟨b4,35,(cvV q).cells.toList,true,none⟩,⟨b5,35,(cvV r).cells.toList,true,none⟩,⟨b,84,[str sa, .int .i64 ea],true,none⟩])
   2 [⟨b3,35,(cvV p).cells.toList,true,none⟩,⟨b4,35,(cvV q).cells.toList,true,none⟩,⟨b5,35,(cvV r).cells.toList,true,none⟩] Tryz.mixed (by kernel_rfl) ?_ ?_
 ·refine qP I (qB 1 I I I (qC I I (fun W hp=>DG q.1 W) (qP I (qB 0 I I I (qC I I (fun W hp=>DG p.1 W) (qC I I (fun W h=>EZ (some q.1) (some p.1) (CZ.2 hq.1) (CZ.2 hp.1) W (ht.hp h)) (qP I (qB 2 I I I (qC I I (fun W hp=>DG r.2 W) (qP I (qB 0 I I I (qC I I (fun W hp=>DG p.2 W) (qC I I (fun W h=>EZ (some r.2) (some p.2) (CZ.2 hr.2) (CZ.2 hp.2) W (ht.hp h)) ?_)))))))))))))
  refine qC I I (fun W h=>(JB (Ca (some q.1) (some p.1)) (Ca (some r.2) (some p.2)) (HR _ _) (HR _ _) W (ht.hp h)).cast va) (C1 (wX (wZ ?_)))
  refine Ah Tryz.hZ rfl rfl rfl rfl ?_;intro b
  refine Aa (Ac (wX (wZ (wS 3 I I I (Aa (Ac ?_))))))
  refine A9 I (by((repeat (first|refine AC.same ?_|refine AC.off I ?_));exact tO)) ?_
  exact Ar b ⟨I,I,I,I,tO⟩ [0,1,2,3] (by decide) I
 intro b8
 refine zE (A0 ?_)
 refine Bg (X:=Nat) [true,true,true,true,true,true,true,true,true,true,true,true,true,true,true,false,false] (fun b=>[(8,Aj b8),(9,Aj b)]) (fun b=>[⟨b3,35,(cvV p).cells.toList,true,none⟩,⟨b4,35,(cvV q).cells.toList,true,none⟩,⟨b5,35,(cvV r).cells.toList,true,none⟩,⟨b8,84,[str sa, .int .i64 ea],true,none⟩,⟨b,84,[str sb, .int .i64 eb],true,none⟩])
   2 [⟨b3,35,(cvV p).cells.toList,true,none⟩,⟨b4,35,(cvV q).cells.toList,true,none⟩,⟨b5,35,(cvV r).cells.toList,true,none⟩,⟨b8,84,[str sa, .int .i64 ea],true,none⟩] Tryz.mixed (by kernel_rfl) ?_ ?_
 ·refine qP I (qB 1 I I I (qC I I (fun W hp=>DG q.2 W) (qP I (qB 0 I I I (qC I I (fun W hp=>DG p.2 W) (qC I I (fun W h=>EZ (some q.2) (some p.2) (CZ.2 hq.2) (CZ.2 hp.2) W (ht.hp h)) (qP I (qB 2 I I I (qC I I (fun W hp=>DG r.1 W) (qP I (qB 0 I I I (qC I I (fun W hp=>DG p.1 W) (qC I I (fun W h=>EZ (some r.1) (some p.1) (CZ.2 hr.1) (CZ.2 hp.1) W (ht.hp h)) ?_)))))))))))))
  refine qC I I (fun W h=>(JB (Ca (some q.2) (some p.2)) (Ca (some r.1) (some p.1)) (HR _ _) (HR _ _) W (ht.hp h)).cast vb) (C1 (wX (wZ ?_)))
  refine Ah Tryz.hZ rfl rfl rfl rfl ?_;intro b
  refine Aa (Ac (wX (wZ (wS 4 I I I (Aa (Ac ?_))))))
  refine A9 I (by((repeat (first|refine AC.same ?_|refine AC.off I ?_));exact tO)) ?_
  exact Ar b ⟨I,I,tO⟩ [0,1,2,3,4] (by decide) I
 intro b9
 refine zE (zA (zA (zB ?_)))
 rcases ca with⟨ha,rfl,rfl⟩|⟨x,ha,rfl,rfl⟩
 ·skip
  refine wP I (wB 3 I I I (wP I (Aa (zE (zR I (zA (zU (qP I (qB 3 I I I (qP I (qP I (AT (Aa ?_)))))))))))))
  exact zE (zO (zP (wR2 I I (by rw[tnV,tA,ha]))))
 rcases cb with⟨hb,rfl,rfl⟩|⟨y,hb,rfl,rfl⟩
 ·skip
  refine wP I (wB 3 I I I (wP I (Aa (zE (zS I (zI (zE (zA (zA (zB (wP I (wB 4 I I I (wP I ?_)))))))))))))
  exact Aa (zE (zR I (zA (zU (qP I (qB 4 I I I (qP I (qP I (AT (Aa (zE (zO (zP (wR2 I I (by rw[tnV,tA,tB,ha,hb])))))))))))))))
 obtain⟨rs,re,hv⟩:=Wl x y
 have hx:okQ x:=by have h:=NO (Ca (some q.1) (some p.1)) (Ca (some r.2) (some p.2));rw[ha] at h;exact CZ.1 h
 have hy:okQ y:=by have h:=NO (Ca (some q.2) (some p.2)) (Ca (some r.1) (some p.1));rw[hb] at h;exact CZ.1 h
 refine wP I (wB 3 I I I (wP I (Aa (zE (zS I (zI (zE (zA (zA (zB (wP I (wB 4 I I I (wP I ?_)))))))))))))
 refine Aa (zE (zS I (zI (zE (zA (zB (wP I (wB 3 I I I (wP I (wB 4 I I I (wC I I (fun W h=>(Rv x y hx hy W (ht.hp h)).cast hv) (wP I (wP I (wP I (wP I ?_)))))))))))))))
 exact Aa (zE (zO (wR2 I I (by rw[tnV,tA,tB,ha,hb];exact hv.symm))))
-- BOXES 5
-- CODE2
def GZ (a:List UInt8):Bool:=(decide (12<a.length)&&decide (a.length<299))||decide (604<a.length)
theorem IW (a:List UInt8) (W:World):Ai Tryz.prog 125 #[str a] W (fun _:Unit=> .bool (GZ a)) (fun _=>True) (fun _=>[]):=by
 refine Ab (args:=[str a]) Tryz.func125 I I I ?_
 refine zA (zB (wP I (Aa (zE (zA (zB (wP I (wP I ?_))))))))
 refine Af 4 (.int .i64 (a.length:Nat)) I (congrArg (fun n:Nat=>Value.int .i64 (n:Int)) (A4 _)) ?_
 refine wP I ?_
 by_cases h1:12<a.length
 ·refine wU 5 true I (dT (by omega)) (wP I (wP I (wP I ?_)))
  refine Af 8 (.int .i64 (a.length:Nat)) I (congrArg (fun n:Nat=>Value.int .i64 (n:Int)) (A4 _)) ?_
  refine wP I ?_
  by_cases h2:a.length<299
  ·refine wU 9 true I (dT (by omega)) (wP I (wP I ?_))
   iterate 3 refine Al I I ?_
   exact wP I (wP I (Aa (zE (zO (wR1 I I (by unfold GZ;rw[dT h1,dT h2];rfl))))))
  ·refine wU 9 false I (dF (by omega)) (wP I (wP I (wP I (wP I ?_))))
   refine Af 13 (.int .i64 (a.length:Nat)) I (congrArg (fun n:Nat=>Value.int .i64 (n:Int)) (A4 _)) ?_
   exact wP I (wU 14 (decide (604<a.length)) I (decide_eq_decide.2 (by omega)) (wP I (wP I (Aa (zE (zO (wR1 I I (by unfold GZ;rw[dT h1,dF h2];rfl))))))))
 ·refine wU 5 false I (dF (by omega)) (wP I ?_)
  iterate 3 refine Al I I ?_
  refine wP I (wP I (wP I (wP I ?_)))
  refine Af 13 (.int .i64 (a.length:Nat)) I (congrArg (fun n:Nat=>Value.int .i64 (n:Int)) (A4 _)) ?_
  exact wP I (wU 14 (decide (604<a.length)) I (decide_eq_decide.2 (by omega)) (wP I (wP I (Aa (zE (zO (wR1 I I (by unfold GZ;rw[dF h1];rfl))))))))
abbrev PtS:=List UInt8×List UInt8
def GS (W:World) (p:Option Addr) (l:List PtS):Prop:=l=[]∨ ∃b off,p=some ⟨b,off,none⟩∧ ∀i (hi:i<l.length),Ak W b (off+i*2) [str l[i].1,str l[i].2]
theorem GS.hp {W0 W:World} {bxs:List Bx} {p:Option Addr} {l:List PtS} (h:GS W0 p l) (hp:Hp W0 bxs W):GS W p l:=by
 rcases h with h|⟨b,off,e,h⟩
 ·exact Or.inl h
 ·exact Or.inr ⟨b,off,e,fun i hi=>(h i hi).hp hp⟩
def KH (x:PtS):Bool:=GZ x.1||GZ x.2
def Kw (l:List PtS):Bool:=l.any KH||decide (8<l.length)
theorem MQ (W:World) (p:Option Addr) (cap:Nat) (l:List PtS) (hA:GS W p l) (hn:l.length<4611686018427387904):Ai Tryz.prog 58 #[slv p l.length cap] W (fun _:Unit=> .bool (Kw l)) (fun _=>True) (fun _=>[]):=by
 refine Ab (args:=[slv p l.length cap]) Tryz.func58 I I I ?_
 refine zA (zB (wP I (Aa (zE (zA (zA (zB (wP I (Aa (zE (zH ?_)))))))))))
 refine AA (X:=Nat) (fun i=>[(0,slv p l.length cap),(3, .int .i64 (i:Nat))]) (fun _=>[]) (fun i=>i≤l.length∧ ∀j (hj:j<l.length),j<i→KH l[j]=false) (fun i=>l.length-i) 0 ⟨Nat.zero_le _,fun j _ h=>by omega⟩ ⟨I,I,tO⟩ [] I ?_
 rintro i ⟨hi,hno⟩
 have hi:i≤l.length:=hi
 refine zA (zA (zB (wP I (wP I (wP I (wP I ?_))))))
 by_cases hlt:i<l.length
 ·refine wU 7 true I (dT (by omega)) (Aa (zE (zR I (zI (zE (zA (zH (zA (zB ?_)))))))))
  obtain⟨b,off,rfl,hrow⟩: ∃b off,p=some ⟨b,off,none⟩∧ ∀i (hi:i<l.length),Ak W b (off+i*2) [str l[i].1,str l[i].2]:=by
   rcases hA with h|h
   ·rw[h] at hlt;exact absurd hlt (by simp)
   ·exact h
  have hr:=hrow i hlt
  obtain⟨x,hx⟩: ∃x,l[i]=x:=⟨_,rfl⟩
  rw[hx] at hr
  refine wP I (wP I ?_)
  refine wJ ?_
  refine wP I (wL 0 I I (fun W1 hp=>hr.hp hp) I (wC I I (fun W1 _=>IW x.1 W1) ?_))
  have next:GZ x.1=false→GZ x.2=false→ ∀j (hj:j<l.length),j<i+1→KH l[j]=false:=by
   intro h1 h2 j hj hji
   rcases Nat.lt_or_ge j i with q|q
   ·exact hno j hj q
   ·obtain rfl:j=i:=by omega
    rw[hx,KH,h1,h2];rfl
  cases h1:GZ x.1 with
  |true=>
   refine wP I ?_
   iterate 6 refine Al I I ?_
   refine wP I (Aa (zE (zR I (zA (zB (wP I (Aa (zE (zO (zQ (zP (zP (zQ ?_)))))))))))))
   refine zP ?_
   exact Au tH I (.tmp I) () (by
    have:l.any KH=true:=List.any_eq_true.2 ⟨l[i],List.getElem_mem _,by rw[hx,KH,h1];rfl⟩
    rw[Kw,this];rfl) trivial fun W _=>As.nil _ _
  |false=>
   refine wP I (wP I (wP I ?_))
   refine wJ ?_
   refine wP I (wL 1 I I (fun W1 hp=>hr.hp hp) I (wC I I (fun W1 _=>IW x.2 W1) ?_))
   cases h2:GZ x.2 with
   |true=>
    refine wP I (Aa (zE (zR I (zA (zB (wP I (Aa (zE (zO (zQ (zP (zP (zQ ?_)))))))))))))
    refine zP ?_
    exact Au tH I (.tmp I) () (by
     have:l.any KH=true:=List.any_eq_true.2 ⟨l[i],List.getElem_mem _,by rw[hx,KH,h1,h2];rfl⟩
     rw[Kw,this];rfl) trivial fun W _=>As.nil _ _
   |false=>
    exact wP I (Aa (zE (zS I (zI (zN (zE (zB (wP I (wP I (wV 9 ((i+1:Nat):Int) I (Ay (by omega)) (wP I (Aa (A6 (i+1) ⟨hlt,next h1 h2⟩ (by show l.length-(i+1)<l.length-i;omega) ⟨I,I,tO⟩ [] I)))))))))))))
 ·refine wU 7 false I (dF (by omega)) (Aa (zE (zS I (zJ (zK (zK (zL (zE (zA (zB (wP I (wP I (wP I ?_)))))))))))))
  refine wU 26 (decide (8<l.length)) I (decide_eq_decide.2 (by omega)) (wP I (Aa (zE (zO ?_))))
  exact Au tH I (.tmp I) () (by
   have:l.any KH=false:=by
    rw[List.any_eq_false]
    intro x hx
    obtain⟨j,hj,rfl⟩:=List.getElem_of_mem hx
    rw[hno j hj (by omega)];decide
   rw[Kw,this];rfl) trivial fun W _=>As.nil _ _
-- BOXES 5
-- CODE2
def FX:List PtS→Int
 |[]=>0
 |x::l=>if (rdR x.1).2≠0 then(rdR x.1).2 else if (rdR x.2).2≠0 then(rdR x.2).2 else FX l
theorem Nt {l:List PtS} {i:Nat} (h:i<l.length):FX (l.drop i)=if (rdR l[i].1).2≠0 then(rdR l[i].1).2 else if (rdR l[i].2).2≠0 then(rdR l[i].2).2 else FX (l.drop (i+1)):=by
 rw[List.drop_eq_getElem_cons h]
 rfl
theorem GY (W:World) (p:Option Addr) (cap:Nat) (l:List PtS) (hA:GS W p l) (hn:l.length<4611686018427387904) (hs: ∀x∈l,x.1.length<4611686018427387904∧x.2.length<4611686018427387904) (ht:AM W):
  Ai Tryz.prog 92 #[slv p l.length cap] W (fun _:Unit=> .int .i64 (FX l)) (fun _=>True) (fun _=>[]):=by
 refine Ab (args:=[slv p l.length cap]) Tryz.func92 I I I ?_
 refine zA (zB (wP I (Aa (zE (zA (zA (zB (wP I (Aa (zE (zH ?_)))))))))))
 refine AA (X:=Nat) (fun i=>[(0,slv p l.length cap),(3, .int .i64 (i:Nat))]) (fun _=>[]) (fun i=>i≤l.length∧FX l=FX (l.drop i)) (fun i=>l.length-i) 0 ⟨Nat.zero_le _,I⟩ ⟨I,I,tO⟩ [] I ?_
 rintro i ⟨hi,he⟩
 have hi:i≤l.length:=hi
 have he:FX l=FX (l.drop i):=he
 refine zA (zA (zB (wP I (wP I (wP I (wP I ?_))))))
 by_cases hlt:i<l.length
 ·refine wU 9 true I (dT (by omega)) (Aa (zE (zR I (zI (zE (zA (zH (zA (zA (zB ?_))))))))))
  obtain⟨b,off,rfl,hrow⟩: ∃b off,p=some ⟨b,off,none⟩∧ ∀i (hi:i<l.length),Ak W b (off+i*2) [str l[i].1,str l[i].2]:=by
   rcases hA with h|h
   ·rw[h] at hlt;exact absurd hlt (by simp)
   ·exact h
  have hr:=hrow i hlt
  have hz:=hs l[i] (List.getElem_mem _)
  rw[Nt hlt] at he
  generalize l[i]=x at hr hz he
  generalize he1:(rdR x.1).2=e1 at he
  generalize he2:(rdR x.2).2=e2 at he
  refine wP I (wP I ?_)
  refine wJ ?_
  refine wP I (wL 0 I I (fun W1 hp=>hr.hp hp) I (wC I I (fun W1 hp=>(Dj x.1 hz.1 W1 (ht.hp hp)).cast (congrArg (Value.int .i64) he1)) (wP I (Aa (zE (zA (zB (wP I (wP I ?_)))))))))
  by_cases h1:e1=0
  ·subst h1
   refine Af 19 (.bool false) I I ?_
   refine Aa (zE (zS I (zI (zE (zA (zB (wP I (wP I ?_))))))))
   refine wJ ?_
   refine wP I (wL 1 I I (fun W1 hp=>hr.hp hp) I (wC I I (fun W1 hp=>(Dj x.2 hz.2 W1 (ht.hp hp)).cast (congrArg (Value.int .i64) he2)) (wP I (Aa (zE (zA (zB (wP I (wP I ?_)))))))))
   by_cases h2:e2=0
   ·subst h2
    refine Af 28 (.bool false) I I ?_
    exact Aa (zE (zS I (zI (zN (zE (zB (wP I (wP I (wV 11 ((i+1:Nat):Int) I (Ay (by omega)) (wP I (Aa (A6 (i+1) ⟨hlt,by rw[he];rfl⟩ (by show l.length-(i+1)<l.length-i;omega) ⟨I,I,tO⟩ [] I))))))))))))
   ·refine wU 28 true I (by show(!decide (e2=0))=true;rw[dF h2];rfl) (Aa (zE (zR I (zA (zB (wP I (wP I (Aa (zE (zO (zQ (zP (zP ?_)))))))))))))
    exact zQ (zP (wR1 I I (by rw[he,if_neg (by simp),if_pos h2])))
  ·refine wU 19 true I (by show(!decide (e1=0))=true;rw[dF h1];rfl) (Aa (zE (zR I (zA (zB (wP I (wP I (Aa (zE (zO (zP (zQ (zP (zP ?_))))))))))))))
   exact zQ (zP (wR1 I I (by rw[he,if_pos h1])))
 ·refine wU 9 false I (dF (by omega)) (Aa (zE (zS I (zJ (zK (zK (zL (zE (zA (zB (wP I (Aa (zE ?_)))))))))))))
  exact zO (wR1 I I (by rw[he,List.drop_of_length_le (by omega)];rfl))
-- BOXES 4
-- CODE2
section
variable {P:Program} {N:Nat} {D:List Deferred} {ops:List Oper} {o:Oper} {rest:List Oper} {env:Env} {A A2:World→Prop} {R:Act→World→Prop}
theorem TC (k:Nat) {d:Nat} {t e:TypeId} {m:Nat} {parts:Array (Nat×Operand)} {vs:List (Nat×Value)} (z:Value) {c:List Value} (ht:P.underlying t=some (.array m e)) (hz: ∀W,(zeroValue t).run P W= .ok z W) (hs: ∀W,(Go.sizeOf e).run P W= .ok k W)
  (hg:A8 ops N env o=some true) (hd:o.dst=some d) (ho:o.op= .build t parts) (hp:Ej (evO N env) parts.toList=some vs) (hc:Gt (Kg k) z.cells.toList vs=some c)
  (h:WQ P N D ops A2 R rest ((d, .agg c.toArray)::env) A):WQ P N D ops A2 R (o::rest) env A:=
 D7 hg hd (fun c e=>by rw[ho] at e;cases e) (fun ρ W hρ _=>by
  have hparts:(parts.map fun(i,x)=>(i,ρ x)).toList=vs:=by rw[←EN hρ hp];simp
  have hfill:=Lf hc
  simp only[Array.toArray_toList] at hfill
  have hfill':Instr.fill (fun i=>some (i*k,k)) z.cells (parts.map fun(i,x)=>(i,ρ x)).toList=some c.toArray:=by rw[hparts];exact hfill
  simp only[execOp,ho,Instr.build,Sem.run_bind,hz,Result.andThen_ok,run_underlying ht,hs,Sem.run_pure]
  rw[hfill']
  simp) h
end
section
variable {r:Option Nat} {n:Nat} {P:Program} {N:Nat} {D:List Deferred} {ops:List Oper} {Q:Exit→Act→World→Prop} {o:Oper} {rest:List Oper} {env:Env} {A A2:World→Prop} {R:Act→World→Prop}
theorem Iq {ρ:Operand→Value} {t e:TypeId} {m c:Nat} {x y:Operand} {k:IntKind} {b off:Nat} {z:Int} (ht:P.underlying t=some (.array m e)) (hs: ∀W,(Go.sizeOf e).run P W= .ok c W) (ho:o.op= .indexAddr t x y)
  (hx:ρ x= .pointer (some ⟨b,off,none⟩)) (hy:ρ y= .int k z) (h0:0≤z∧z<m) (W:World):(execOp ρ o).run P W= .ok (.value (.pointer (some ⟨b,off+z.toNat*c,none⟩))) W:=by
 simp[execOp,ho,hx,hy,Instr.indexAt,Instr.sureAddr,asIntOf,run_underlying ht,hs,h0.1,h0.2,Addr.add_none]
theorem EX {d:Nat} {t e:TypeId} {m c:Nat} {x y:Operand} {k:IntKind} {b off:Nat} {z:Int} (ht:P.underlying t=some (.array m e)) (hs: ∀W,(Go.sizeOf e).run P W= .ok c W) (hg:A8 ops N env o=some true) (hd:o.dst=some d) (ho:o.op= .indexAddr t x y)
  (hx:evO N env x=some (.pointer (some ⟨b,off,none⟩))) (hy:evO N env y=some (.int k z)) (h0:0≤z∧z<m)
  (h:WL r n P N D ops Q rest ((d, .pointer (some ⟨b,off+z.toNat*c,none⟩))::env) A):WL r n P N D ops Q (o::rest) env A:=
 Da hg hd (fun c e=>by rw[ho] at e;cases e) (fun _ W hρ _=>Iq ht hs ho (hρ _ _ hx) (hρ _ _ hy) h0 W) h
theorem B3 {d:Nat} {t e:TypeId} {m c:Nat} {x y:Operand} {k:IntKind} {b off:Nat} {z:Int} (ht:P.underlying t=some (.array m e)) (hs: ∀W,(Go.sizeOf e).run P W= .ok c W) (hg:A8 ops N env o=some true) (hd:o.dst=some d) (ho:o.op= .indexAddr t x y)
  (hx:evO N env x=some (.pointer (some ⟨b,off,none⟩))) (hy:evO N env y=some (.int k z)) (h0:0≤z∧z<m)
  (h:WQ P N D ops A2 R rest ((d, .pointer (some ⟨b,off+z.toNat*c,none⟩))::env) A):WQ P N D ops A2 R (o::rest) env A:=
 D7 hg hd (fun c e=>by rw[ho] at e;cases e) (fun _ W hρ _=>Iq ht hs ho (hρ _ _ hx) (hρ _ _ hy) h0 W) h
end
def Ci (W:World) (p:Option Addr) (l:List Ag):Prop:=l=[]∨ ∃b off,p=some ⟨b,off,none⟩∧ ∀i (hi:i<l.length),Ak W b (off+i*2) [str (Ad l[i].1),str (Ad l[i].2)]
theorem Ci.below {W W':World} {p:Option Addr} {l:List Ag} {n:Nat} (h:Ci W p l) (hn:W.heap.size≤n) (hb:Below n W W'):Ci W' p l:=by
 rcases h with h|⟨b,off,h1,h2⟩
 ·exact .inl h
 ·exact .inr ⟨b,off,h1,fun i hi=>(h2 i hi).below hn hb⟩
theorem Ci.hp {W0 W:World} {bxs:List Bx} {p:Option Addr} {l:List Ag} (h:Ci W0 p l) (hp:Hp W0 bxs W):Ci W p l:=h.below (Nat.le_refl _) hp.below
theorem Ci.at_ {W:World} {p:Option Addr} {l:List Ag} (h:Ci W p l) {i:Nat} (hi:i<l.length): ∃g off,p=some ⟨g,off,none⟩∧ ∀k (hk:k<l.length),Ak W g (off+k*2) [str (Ad l[k].1),str (Ad l[k].2)]:=by
 rcases h with h|⟨g,off,e,h⟩
 ·rw[h] at hi;exact absurd hi (Nat.not_lt_zero _)
 ·exact⟨g,off,e,h⟩
abbrev ptS (q:Ag):PtS:=(Ad q.1,Ad q.2)
structure Ug (b:Nat) (p:Option Addr) (cap:Nat) (l:List Ag) (W:World):Prop where
 var:Ak W b 0 [slv p l.length cap]
 pts:Ci W p l
abbrev sdV (p q:Ag):Value:= .agg #[str (Ad p.1),str (Ad p.2),str (Ad q.1),str (Ad q.2)]
abbrev XD (l:List Ag) (k:Nat):List Value:=[.int .i64 (k:Nat),sdV (Ae l k) (Ae l (k+1))]
theorem Ee (p:Option Addr) (n cap:Nat) (W:World):Ai Tryz.prog 44 #[slv p n cap] W (fun b:Nat=> .func (.func 103) #[] #[Aj b]) (fun _=>True) (fun b=>[⟨b,22,[slv p n cap],true,none⟩]):=by
 refine Ab (args:=[slv p n cap]) Tryz.func44 I I I ?_
 refine zA (zB ?_)
 (refine A5 rfl rfl rfl rfl ?_;intro)
 refine wP I (Aa ?_)
 rename_i b
 exact zE (zA (zB (wP I (wP I (Aa (zE (zO (Au tH I (.tmp I) b I tO fun W1 hp=>As.of_hp hp))))))))
abbrev MI (b:Nat) (q:Ag):List (Nat×Obj):=[(b, .cells (cvV q).cells 35 (0,0))]
theorem EE (l:List Ag) (b1:Nat) (p:Option Addr) (cap:Nat) (hn:l.length<1099511627776):Q6 Tryz.prog 103 [Aj b1] l.length (XD l) (fun _=>Ug b1 p cap l):=by
 refine⟨fun y J Jx hN hB hA hU hY W hJ=> ?_⟩
 have hdr: ∀k L W,J k L W→J k L { W with drawn:=W.drawn+1 }:=fun k L W h=>hB k L W _ h ⟨rfl,rfl,rfl,Nat.le_refl _,fun _ _=>rfl⟩
 have hp0:=(hN _ _ W hJ).1.pts
 refine Ev (args:=[.func (.yield y) #[] #[],Aj b1]) (J0:=J 0 []) (Jm:=fun W=> ∃L,J l.length L W) Tryz.func103 I I I hJ ?_
 refine zA (zB (wL 0 I I (fun W hp=>(hN _ _ W hp).1.var) I (wP I (wP I (Aa (zE (zH ?_)))))))
 refine Ea (X:=Nat×List (Nat×Obj)) (fun s=>[(0, .func (.yield y) #[] #[]),(1,Aj b1),(5,slv p l.length cap),(6, .int .i64 (l.length:Nat)),(7, .int .i64 (s.1:Nat))]) (fun s W=>J s.1 s.2 W)
  (fun s=>s.1≤l.length) (fun s=>l.length-s.1) (0,[]) (Nat.zero_le _) ⟨rfl,rfl,rfl,rfl,rfl,trivial⟩ (fun W hp=>hp) ?_
 rintro⟨i,L⟩ hi
 have hi:i≤l.length:=hi
 refine zA (zB (wP I ?_))
 by_cases hlt:i<l.length
 rotate_left
 ·refine wU 8 false I (dF (by omega)) (Aa (zE (zA (zS I (zJ (zK (zK (zL ?_))))))))
  exact HY I fun W hp=>⟨L,by
   have e:i=l.length:=by omega
   have hp:J i L W:=hp
   rw[e] at hp
   exact hp⟩
 refine wU 8 true I (dT (by omega)) (Aa (zE (zA (zR I (zI (zE (zA (zH (zA (zB ?_))))))))))
 have hn0:0<l.length:=by omega
 have l2:(i+1)%l.length<l.length:=Nat.mod_lt _ hn0
 obtain⟨g,off,hpe,hrow⟩: ∃g off,p=some ⟨g,off,none⟩∧ ∀W k L,J k L W→ ∀j,j<l.length→Ak W g (off+j*2) [str (Ad (Ae l j).1),str (Ad (Ae l j).2)]:=by
  obtain⟨g,off,e,_⟩:=hp0.at_ hlt
  refine⟨g,off,e,fun W1 k L1 h1 j hj=> ?_⟩
  obtain⟨g',off',e',h2⟩:=(hN _ _ W1 h1).1.pts.at_ hj
  rw[e] at e'
  cases e'
  rw[AE hj]
  exact h2 j hj
 subst hpe
 have hz:(l.length:Int)≠0:=by omega
 have e2:(w64 ((i:Int)+1)).tmod (l.length:Int)=(((i+1)%l.length:Nat):Int):=by
  rw[Ap (x:=(i:Int)+1) (by omega) (by omega)]
  rfl
 refine wP I ?_
 refine wJ ?_
 refine wL 0 I I (fun W hp=>hrow W _ _ hp i hlt) I ?_
 refine N1 (fun b W=>J i [(b, .cells (Value.agg #[str [],str []]).cells 35 (0,0))] W) I I I (Tryz.hZ.get I) (fun W W' b hp hb hl ho=>hA _ _ W W' b _ hp hb hl ho) fun b=> ?_
 refine wP I ?_
 refine N3 (cs:=[str [],str []]) (ty:=35) (fun W=>J i (MI b (Ae l i)) W) tH I I I I I I (fun W hp=>(hN _ _ W hp).2 (b,_) (List.mem_cons_self ..)) I I I (fun W W' hp hu=>hU _ _ _ _ W W' hp hu) ?_
 refine Aa (zE (A0 ?_))
 refine S8 12 (hdr _ _) Tryz.mixed (by kernel_rfl) I ?_
 refine qP I (qP I (qL 0 I I (fun W hp=>show Ak W b 0 (cvV (Ae l i)).cells.toList from Ak.of_block ((hN _ _ W hp).2 (b,_) (List.mem_cons_self ..))) I (qL 0 I I (fun W hp=>(hN _ _ W hp).1.var) I (qP I (qP I (qL 0 I I (fun W hp=>(hN _ _ W hp).1.var) I (qP I ?_)))))))
 refine Ex I I I I I hz ?_
 refine qV 20 (((i+1)%l.length:Nat):Int) I e2 ?_
 refine qJ ?_
 refine qL 0 I I (fun W hp=>hrow W _ _ hp ((i+1)%l.length) l2) I ?_
 refine TC 2 (.agg #[str [],str [],str [],str []]) Tryz.underlying66 (fun W=>by kernel_rfl) Tryz.sizeOf35 I I I I I ?_
 refine AT ?_
 have hYk: ∀W,J i (MI b (Ae l i)) W→YieldAt (Fw none) 0 Tryz.prog y (XD l i).toArray W fun e W'=>(e= .returned (.bool true)∧J (i+1) (MI b (Ae l i)) W')∨(e= .returned (.bool false)∧Jx W'):=fun W h=>hY _ _ W hlt h
 unfold XD at hYk
 rw[←B6 l (i+1)] at hYk
 refine Gi (A1:=fun W=>J (i+1) (MI b (Ae l i)) W) (A2:=Jx) I I I I I I hYk ?_ ?_
 rotate_left
 ·exact wP I (Aa (zE (zR I (zO (zQ (zP (zP (zQ (Dn I (fun W h=>h))))))))))
 exact wP I (Aa (zE (zS I (zI (zN (zE (zB (wP I (wV 26 ((i+1:Nat):Int) I (Ay (by omega)) (wP I (Aa (Ei (i+1,MI b (Ae l i)) hlt (by show l.length-(i+1)<l.length-i;omega) ⟨I,I,I,I,I,tO⟩ (fun W hp=>hp)))))))))))))
theorem Mu (W:World) (p:Option Addr) (cap:Nat) (l:List PtS) (hA:GS W p l) (hn:l.length<4611686018427387904) (hs: ∀x∈l,x.1.length≤4000000000∧x.2.length≤4000000000) (hv:BL W) (ht:AM W):
  Ai Tryz.prog 54 #[slv p l.length cap] W (fun _:Unit=> .int .i64 (FX l)) (fun _=>True) (fun _=>[]):=by
 refine Ab (args:=[slv p l.length cap]) Tryz.func54 I I I ?_
 refine zA (zB (wP I (Aa (zE (zA (zA (zB (wP I (wP I (wP I (Aa (zE (zH ?_)))))))))))))
 refine AA (X:=Nat) (fun i=>[(2, .int .i64 0),(8,slv p l.length cap),(9, .int .i64 (l.length:Nat)),(10, .int .i64 (i:Nat))]) (fun _=>[]) (fun i=>i≤l.length∧FX l=FX (l.drop i)) (fun i=>l.length-i) 0 ⟨Nat.zero_le _,I⟩ ⟨I,I,I,I,tO⟩ [] I ?_
 rintro i ⟨hi,he⟩
 have hi:i≤l.length:=hi
 have he:FX l=FX (l.drop i):=he
 refine zA (zB (wP I ?_))
 by_cases hlt:i<l.length
 rotate_left
 ·refine wU 11 false I (dF (by omega)) (Aa (zE (zA (zS I (zJ (zK (zK (zL (zE (zA (zB (wP I (Aa ?_)))))))))))))
  exact zE (zO (wR1 I I (by rw[he,List.drop_of_length_le (by omega)];rfl)))
 refine wU 11 true I (dT (by omega)) (Aa (zE (zA (zR I (zI (zE (zA (zH (zA (zB ?_))))))))))
 obtain⟨b,off,rfl,hrow⟩: ∃b off,p=some ⟨b,off,none⟩∧ ∀i (hi:i<l.length),Ak W b (off+i*2) [str l[i].1,str l[i].2]:=by
  rcases hA with h|h
  ·rw[h] at hlt;exact absurd hlt (by simp)
  ·exact h
 have hr:=hrow i hlt
 have hz:=hs l[i] (List.getElem_mem _)
 rw[Nt hlt] at he
 obtain⟨⟨x,y⟩,hx⟩: ∃x,x=l[i]:=⟨_,rfl⟩
 rw[←hx] at hr hz he
 simp only at hr hz he
 refine wJ ?_
 refine wL 0 I I (fun W1 hp=>hr.hp hp) I ?_
 (refine Ah Tryz.hZ rfl rfl rfl rfl ?_;intro)
 refine wS 0 I I I (Aa (zE (zA (zB (wP I (wB 0 I I I (wP I (wB 0 I I I ?_))))))))
 refine AF Tryz.hZ tH I I I I I I I I I I I fun bS=> ?_
 refine wP I (wP I (Aa ?_))
 rename_i b4
 refine zE (zH ?_)
 refine AA (X:=Nat) (fun k=>[(2, .int .i64 0),(8,slv (some ⟨b,off,none⟩) l.length cap),(9, .int .i64 (l.length:Nat)),(10, .int .i64 (i:Nat)),(18,slv (some ⟨bS,0,none⟩) 2 2),(19, .int .i64 2),(20, .int .i64 (k:Nat))]) (fun _=>[⟨b4,35,[str x,str y],true,none⟩,⟨bS,23,[str x,str y],true,none⟩]) (fun k=>k=0∨k=1∧(rdR x).2=0∨k=2∧(rdR x).2=0∧(rdR y).2=0) (fun k=>2-k) 0 (Or.inl I) ⟨I,I,I,I,I,I,I,tO⟩ [] I ?_
 rintro k (rfl|⟨rfl,h1⟩|⟨rfl,h1,h2⟩)
 ·refine zA (zB (wP I (Aa (zE (zA (zR I (zI (zE (zA (zH (zA (zB (wI I I (by decide) (by decide) ?_)))))))))))))
  refine wB 1 I I I (wP I (Aa (zE (zA (zB (wP I (wC I I (fun W1 hp=>GJ x hz.1 W1 (hv.hp hp) (ht.hp hp)) (wP I (Aa (zE (zA (zB (wP I (wP I ?_))))))))))))))
  by_cases h1:(rdR x).2=0
  rotate_left
  ·refine wU 27 true I (bne_iff_ne.2 h1) (Aa (zE (zR I (zA (zB (wP I (wP I (Aa (zE (zO (zQ (zP (zP ?_)))))))))))))
   refine zQ (zQ (zP (zP (zQ (zP ?_)))))
   rw[if_pos h1] at he
   exact wR1 I I (by rw[he])
  exact wU 27 false I (bne_eq_false_iff_eq.2 h1) (Aa (zE (zS I (zI (zN (zE (zB (wP I (wP I (Aa (A6 1 (Or.inr (Or.inl ⟨I,h1⟩)) (by decide) ⟨I,I,I,I,I,I,I,tO⟩ [] I)))))))))))
 ·rw[if_neg (fun h=>h h1)] at he
  refine zA (zB (wP I (Aa (zE (zA (zR I (zI (zE (zA (zH (zA (zB (wI I I (by decide) (by decide) ?_)))))))))))))
  refine wB 1 I I I (wP I (Aa (zE (zA (zB (wP I (wC I I (fun W1 hp=>GJ y hz.2 W1 (hv.hp hp) (ht.hp hp)) (wP I (Aa (zE (zA (zB (wP I (wP I ?_))))))))))))))
  by_cases h2:(rdR y).2=0
  rotate_left
  ·refine wU 27 true I (bne_iff_ne.2 h2) (Aa (zE (zR I (zA (zB (wP I (wP I (Aa (zE (zO (zQ (zP (zP ?_)))))))))))))
   refine zQ (zQ (zP (zP (zQ (zP ?_)))))
   rw[if_pos h2] at he
   exact wR1 I I (by rw[he])
  exact wU 27 false I (bne_eq_false_iff_eq.2 h2) (Aa (zE (zS I (zI (zN (zE (zB (wP I (wP I (Aa (A6 2 (Or.inr (Or.inr ⟨I,h1,h2⟩)) (by decide) ⟨I,I,I,I,I,I,I,tO⟩ [] I)))))))))))
 ·rw[if_neg (fun h=>h h1),if_neg (fun h=>h h2)] at he
  refine zA (zB (wP I (Aa (zE (zA (zS I (zJ (zK (zK (zL (zN (zE (zB ?_)))))))))))))
  exact wP I (wV 30 ((i+1:Nat):Int) I (Ay (by omega)) (wP I (Aa (A6 (i+1) ⟨hlt,he⟩ (by show l.length-(i+1)<l.length-i;omega) ⟨I,I,I,I,tO⟩ [_,_] I))))
-- BOXES 12
-- CODE2
def Ie (k:Nat) (l:List Ag):Prop:= ∀p∈l,szQ p.1 k∧szQ p.2 k
theorem Ie.at_ {k:Nat} {l:List Ag} (h:Ie k l) (h0:0<l.length) (i:Nat):szQ (Ae l i).1 k∧szQ (Ae l i).2 k:=h _ (AU h0 i)
theorem Sk {p q r:Ag} {k:Nat} (hp:szQ p.1 k∧szQ p.2 k) (hq:szQ q.1 k∧szQ q.2 k) (hr:szQ r.1 k∧szQ r.2 k) (hk:k≤36):WZ p q r:=by
 have a:=hq.1.sub hp.1
 have b:=hr.2.sub hp.2
 have c:=hq.2.sub hp.2
 have d:=hr.1.sub hp.1
 exact⟨sz2 hq.1 hp.1 (by omega),sz2 hr.2 hp.2 (by omega),sz2 hq.2 hp.2 (by omega),sz2 hr.1 hp.1 (by omega),sz2 a b (by omega),sz2 c d (by omega),sz2 (a.mul b) (c.mul d) (by omega)⟩
theorem Xt {x y:Rat} (h:y<x):Dy x y=1:=by
 have h1:=Mw x y
 rw[dT h] at h1
 have h2:=of_decide_eq_true h1
 rcases F3 x y with e|e|e<;>omega
theorem UM {p q r:Ag} (h:0<A7 p q r):RR p q r=1:=Xt (by unfold A7 at h;grind)
theorem UO {l:List Ag} (h:AY l) {k i:Nat} (hk:k<l.length) (hi:i<l.length) (h1:i≠k) (h2:i≠(k+1)%l.length):RR (Ae l k) (Ae l (k+1)) (Ae l i)=1:=by
 refine UM (BM.sideS h hk hi h1 ?_ ?_)
 ·intro e
  rw[e,Nat.mod_eq_of_lt (by omega)] at h2
  exact h2 I
 ·rintro⟨e,e2⟩
  rw[e,e2,Nat.mod_self] at h2
  exact h2 I
theorem B9 {W0 W:World} {bxs:List Bx} (hp:Hp W0 bxs W) (k:Nat) {c:Nat} (h:bxs[k]? =some ⟨c,61,[.int .i64 0],true,none⟩):CH W c:=
 (hp.own.cell k _ h (c,_) (List.mem_cons_self ..)).1
theorem Ci.b {W:World} {p:Option Addr} {l:List Ag} (h:Ci W p l):GS W p (l.map ptS):=by
 rcases h with e|⟨g,off,e,hr⟩
 ·exact .inl (by rw[e];rfl)
 ·refine .inr ⟨g,off,e,fun i hi=> ?_⟩
  rw[List.getElem_map]
  exact hr i (by rw[List.length_map] at hi;exact hi)
theorem SH: ∀ {l:List Ag},(∀p∈l,okQ p.1∧okQ p.2)→FX (l.map ptS)=0
 |[],_=>rfl
 |p::l,h=>by
  obtain⟨h1,h2⟩:=h p (List.mem_cons_self ..)
  show(if (rdR (Ad p.1)).2≠0 then _ else if (rdR (Ad p.2)).2≠0 then _ else FX (l.map ptS))=0
  rw[Ka h1,Ka h2,if_neg (fun h=>h rfl),if_neg (fun h=>h rfl)]
  exact SH fun q hq=>h q (List.mem_cons_of_mem _ hq)
theorem GX (W:World) (p:Option Addr) (cap:Nat) (l:List Ag) (hA:Ci W p l) (hn:l.length≤100000) (hk: ∀p∈l,okQ p.1∧okQ p.2) (hv:BL W) (ht:AM W):
  Ai Tryz.prog 54 #[slv p l.length cap] W (fun _:Unit=> .int .i64 0) (fun _=>True) (fun _=>[]):=by
 have h:=Mu W p cap (l.map ptS) hA.b (by rw[List.length_map];omega) (fun x hx=>by
  obtain⟨q,hq,rfl⟩:=List.mem_map.1 hx
  have h1:=Bj (hk q hq).1
  have h2:=Bj (hk q hq).2
  show(Ad q.1).length≤_∧(Ad q.2).length≤_
  omega) hv ht
 rwa [SH hk,List.length_map] at h
theorem Od (l:List Ag) (hP:AY l) (h3:3≤l.length) (hn:l.length≤4096) (hs:Ie 36 l) (p:Option Addr) (cap:Nat) (W:World) (hA:Ci W p l) (hv:BL W) (ht:AM W):
  Ai Tryz.prog 18 #[slv p l.length cap] W (fun _:Unit=> .int .i64 0) (fun _=>True) (fun _=>[]):=by
 have hn0:0<l.length:=by omega
 have hz:(l.length:Int)≠0:=by omega
 refine Ab (args:=[slv p l.length cap]) Tryz.func18 I I I ?_
 refine zA (zB ?_)
 (refine A5 rfl rfl rfl rfl ?_;intro)
 (refine Ah Tryz.hZ rfl rfl rfl rfl ?_;intro)
 refine Aa ?_
 rename_i b1 b2
 refine zE (zA (zH (zA (zB (wB 0 I I I (wP I (wP I (wU 13 false I (dF (by omega)) (wP I (Aa (zE (zS I (zA ?_)))))))))))))
 refine zB (wB 0 I I I (wP I (wP I (wU 17 false I (dF (by omega)) (wP I (Aa (zE (zS I (zI (zN (zE (zA (zA ?_)))))))))))))
 refine zB (wB 0 I I I (wC I I (fun W1 hp=>GX W1 p cap l (hA.hp hp) (by omega) (fun q hq=>⟨(hs q hq).1.ok (by decide),(hs q hq).2.ok (by decide)⟩) (hv.hp hp) (ht.hp hp)) (wP I (Aa (zE (zA (zB (wP I (wP I (Aa (zE (zS I (zI ?_)))))))))))))
 refine zE (zA (zB ?_))
 refine Az Tryz.hZ tH I I I I I I I I ?_
 (refine A5 rfl rfl rfl rfl ?_;intro)
 (refine Ah Tryz.hZ rfl rfl rfl rfl ?_;intro)
 (refine Ah Tryz.hZ rfl rfl rfl rfl ?_;intro)
 refine wS 3 I I I (wS 4 I I I (Aa ?_))
 rename_i bC b4 b5
 refine zE (zA (zA (zB (wB 0 I I I ?_))))
 refine wD (X:=Nat) I I (fun W1 _=>Ee p l.length cap W1) ?_
 intro bp _
 refine Aa (zE (zH ?_))
 refine Fp (X:=Unit) (fun _=>[⟨b1,22,[slv p l.length cap],true,none⟩,⟨b2,27,[.int .i64 0],true,none⟩,⟨bC,61,[.int .i64 0],true,none⟩,⟨b4,59,[Aj bC],true,none⟩,⟨b5,4,[.bool false],true,none⟩,⟨bp,22,[slv p l.length cap],true,none⟩])
  (fun _ _=>True) (fun _ _=>False) () rfl (by kernel_rfl) (EE l bp p cap (by omega)) (fun _=>rfl)
  trivial [] rfl (fun k x W1 _ hp=>⟨Ak.of_bx hp 5 rfl rfl,hA.hp hp⟩) ?_ ?_ (fun _ _ _ _ _ h=>h.elim)
 ·rintro k ⟨⟩ d l' rec L hk _ hrec
  have hk:k<l.length:=hk
  refine zA (zB (wP I (Aa (zE (zB ?_)))))
  (refine Ah Tryz.hZ rfl rfl rfl rfl ?_;intro)
  refine wS 9 I I I (Aa ?_)
  rename_i b7
  refine Dc 8 hrec I ?_
  refine CP (zA (zB (wB 1 I I I (wP I (wP I (Aa (zE (zH ?_))))))))
  refine AA (X:=Nat) (fun i=>[(1,Aj b1),(2,Aj b2),(4,Aj b4),(5,Aj b5),(6, .int .i64 (k:Nat)),(7,Aj b7),(29,slv p l.length cap),(30, .int .i64 (l.length:Nat)),(31, .int .i64 (i:Nat))])
   (fun _=>[AP L,⟨b1,22,[slv p l.length cap],true,none⟩,⟨b2,27,[.int .i64 0],true,none⟩,⟨bC,61,[.int .i64 0],true,none⟩,⟨b4,59,[Aj bC],true,none⟩,⟨b5,4,[.bool false],true,none⟩,⟨bp,22,[slv p l.length cap],true,none⟩,BF d,Bl l' rec .busy none,⟨b7,66,(sdV (Ae l k) (Ae l (k+1))).cells.toList,true,none⟩])
   (fun i=>i≤l.length) (fun i=>l.length-i) 0 (Nat.zero_le _) ⟨rfl,rfl,rfl,rfl,rfl,rfl,rfl,rfl,rfl,trivial⟩ [] rfl ?_
  intro i hi
  have hi:i≤l.length:=hi
  refine zA (zB (wP I ?_))
  by_cases hlt:i<l.length
  rotate_left
  ·exact wU 32 false I (dF (by omega)) (Aa (zE (zA (zS I (zJ (zK (zK (zL (zN (Cu 8 () hrec I tO [_] I))))))))))
  refine wU 32 true I (dT (by omega)) (Aa (zE (zA (zR I (zI (zE (zA (zH (zA (zB ?_))))))))))
  obtain⟨g,off,hpe,hrow⟩:=hA.at_ hlt
  have hrow:=hrow i hlt
  rw[←AE hlt] at hrow
  subst hpe
  refine wP I ?_
  refine wJ ?_
  refine wL 0 I I (fun W1 hp=>hrow.hp hp) I ?_
  (refine Ah Tryz.hZ rfl rfl rfl rfl ?_;intro)
  refine wP I (wS 10 I I I (Aa ?_))
  rename_i b9
  refine zE (zA (zA (zB (wP I (wP I (wP I ?_))))))
  by_cases h1:i=k
  ·refine wU 38 false I (bne_eq_false_iff_eq.2 (by omega)) (wP I ?_)
   iterate 7 refine Al I I ?_
   refine wP I (wP I ?_)
   iterate 8 refine Al I I ?_
   refine wP I (Aa (zE (zS I (zI (zE (zA (zB (wB 4 I I I ?_))))))))
   refine AO I I I I ?_
   exact wP I (wB 3 I I I (wP I (Aa (zE (zS I (zI (zN (zE (zB (wP I (wV 67 ((i+1:Nat):Int) I (Ay (by omega)) (wP I (Aa (A6 (i+1) hlt (by show l.length-(i+1)<l.length-i;omega) ⟨I,I,I,I,I,I,I,I,I,tO⟩ [_] I))))))))))))))
  refine wU 38 true I (bne_iff_ne.2 (by omega)) (wP I (wP I (wP I (wP I (wV 42 ((k+1:Nat):Int) I (Ay (by omega)) (wB 1 I I I (wP I ?_)))))))
  refine Ft I I I I I hz ?_
  refine wV 45 (((k+1)%l.length:Nat):Int) I I (wP I ?_)
  by_cases h2:i=(k+1)%l.length
  ·refine wU 46 false I (bne_eq_false_iff_eq.2 (by omega)) (wP I (wP I ?_))
   iterate 8 refine Al I I ?_
   refine wP I (Aa (zE (zS I (zI (zE (zA (zB (wB 4 I I I ?_))))))))
   refine AO I I I I ?_
   exact wP I (wB 3 I I I (wP I (Aa (zE (zS I (zI (zN (zE (zB (wP I (wV 67 ((i+1:Nat):Int) I (Ay (by omega)) (wP I (Aa (A6 (i+1) hlt (by show l.length-(i+1)<l.length-i;omega) ⟨I,I,I,I,I,I,I,I,I,tO⟩ [_] I))))))))))))))
  refine wU 46 true I (bne_iff_ne.2 (by omega)) (wP I (wP I (wB 4 I I I ?_)))
  refine EX Tryz.underlying66 Tryz.sizeOf35 I I I I I ⟨by decide,by decide⟩ ?_
  refine wB 9 I I I ?_
  refine EX Tryz.underlying66 Tryz.sizeOf35 I I I I I ⟨by decide,by decide⟩ ?_
  refine wB 9 I I I (wB 10 I I I (wC I I (fun W1 hp=>(Pp bC (Ae l k) (Ae l (k+1)) (Ae l i) (Sk (hs.at_ hn0 _) (hs.at_ hn0 _) (hs.at_ hn0 _) (by decide)) W1 (B9 hp 3 I) (hv.hp hp) (ht.hp hp)).cast (v':= .int .i64 1) (by rw[UO hP hk hlt h1 h2])) (wP I (wP I (Aa (zE (zS I (zI (zE (zA (zB (wB 4 I I I ?_))))))))))))
  refine AO I I I I ?_
  exact wP I (wB 3 I I I (wP I (Aa (zE (zS I (zI (zN (zE (zB (wP I (wV 67 ((i+1:Nat):Int) I (Ay (by omega)) (wP I (Aa (A6 (i+1) hlt (by show l.length-(i+1)<l.length-i;omega) ⟨I,I,I,I,I,I,I,I,I,tO⟩ [_] I))))))))))))))
 ·rintro⟨⟩ d l' rec _
  refine zN (zE (zA (zA (zB (wB 4 I I I (Aa (zE (zS I (zI (zE (zA (zB (wS 1 I I I ?_)))))))))))))
  refine Aa (zE (zO ?_))
  refine CW 6 I ?_
  exact Au tH I (.cell 1 I I I I I) () I tO fun W _=>As.nil _ _
-- BOXES 6
-- CODE2
structure He (W:World) (p:Option Addr) (l:List Ag):Prop where
 poly:AY l
 n3:3≤l.length
 n:l.length≤4096
 sz:Ie 36 l
 m:Ci W p l
 v:BL W
 t:AM W
theorem He.hp {W0 W:World} {bxs:List Bx} {p:Option Addr} {l:List Ag} (h:He W0 p l) (hp:Hp W0 bxs W):He W p l:=⟨h.poly,h.n3,h.n,h.sz,h.m.hp hp,h.v.hp hp,h.t.hp hp⟩
theorem He.chk {W:World} {p:Option Addr} {l:List Ag} (h:He W p l) (cap:Nat):Ai Tryz.prog 18 #[slv p l.length cap] W (fun _:Unit=> .int .i64 0) (fun _=>True) (fun _=>[]):=
 Od l h.poly h.n3 h.n h.sz p cap W h.m h.v h.t
theorem Ih (l:List Ag) (p:Option Addr) (cap:Nat) (W:World) (h:He W p l):
  Ai Tryz.prog 41 #[slv p l.length cap, .slice none 0 0] W (fun _:Unit=> .int .i64 0) (fun _=>True) (fun _=>[]):=by
 refine Ab (args:=[slv p l.length cap, .slice none 0 0]) Tryz.func41 I I I ?_
 refine zA (zB (wP I (Aa (zE (zA (zA (zB (wP I (wC I I (fun W1 hp=>(h.hp hp).chk cap) (wP I (Aa (zE (zS I ?_)))))))))))))
 refine zI (zE (zA (zA (zB (wP I (wP I (wP I (Aa (zE (zH ?_))))))))))
 refine AA (X:=Unit) (fun _=>[(1, .slice none 0 0),(4, .int .i64 0),(12, .int .i64 0),(13, .int .i64 0)]) (fun _=>[]) (fun _=>True) (fun _=>0) () tO ⟨I,I,I,I,tO⟩ [] I ?_
 intro _ _
 refine zA (zB (wP I (Aa (zE (zA (zS I (zJ (zK (zK (zL (zE (zA (zA ?_)))))))))))))
 refine zB (wP I (wP I (wP I (wP I ?_))))
 iterate 4 refine Al I I ?_
 refine wP I (wP I ?_)
 iterate 4 refine Al I I ?_
 exact wP I (Aa (zE (zS I (zI (zE (zA (zB (wP I (Aa (zE (zO (wR1 I I I))))))))))))
theorem Il (l:List Ag) (p:Option Addr) (cap:Nat) (a b d:Rat) (ha:okQ a) (hb:okQ b) (hd:okQ d) (h0:a≠0∨b≠0) (g cp:Nat) (W:World) (h:He W p l) (hrow:Ak W g 0 [str (Ad a),str (Ad b),str (Ad d)]):
  Ai Tryz.prog 41 #[slv p l.length cap,slv (some ⟨g,0,none⟩) 3 cp] W (fun _:Unit=> .int .i64 0) (fun _=>True) (fun _=>[]):=by
 have hv:=h.v
 have ht:=h.t
 have hS:H2 W (some ⟨g,0,none⟩) [Ad a,Ad b,Ad d]:= .inr ⟨g,0,rfl,hrow⟩
 have hok: ∀x∈[Ad a,Ad b,Ad d],x.length≤4000000000∧(rdR x).2=0:=fun x hx=>by
  have one: ∀ {q:Rat},okQ q→(Ad q).length≤4000000000∧(rdR (Ad q)).2=0:=fun {q} hq=>by
   have:=Bj hq
   exact⟨by omega,by rw[Ka hq]⟩
  rcases List.mem_cons.1 hx with rfl|hx
  ·exact one ha
  ·rcases List.mem_cons.1 hx with rfl|hx
   ·exact one hb
   ·obtain rfl:=List.mem_singleton.1 hx;exact one hd
 refine Ab (args:=[slv p l.length cap,slv (some ⟨g,0,none⟩) 3 cp]) Tryz.func41 I I I ?_
 refine zA (zB (wP I (Aa (zE (zA (zA (zB (wP I (wC I I (fun W1 hp=>(h.hp hp).chk cap) (wP I (Aa (zE (zS I ?_)))))))))))))
 refine zI (zE (zA (zA (zB (wP I (wP I (wP I (Aa (zE (zH ?_))))))))))
 refine AA (X:=Nat) (fun i=>[(1,slv (some ⟨g,0,none⟩) 3 cp),(4, .int .i64 0),(11,slv (some ⟨g,0,none⟩) 3 cp),(12, .int .i64 3),(13, .int .i64 (i:Nat))]) (fun _=>[]) (fun i=>i≤3) (fun i=>3-i) 0 (Nat.zero_le _) ⟨I,I,I,I,I,tO⟩ [] I ?_
 intro i hi
 have hi:i≤3:=hi
 refine zA (zB (wP I ?_))
 by_cases hlt:i<3
 ·refine wU 14 true I (dT (by omega)) (Aa (zE (zA (zR I (zI (zE (zA (zH (zA (zB ?_))))))))))
  obtain⟨g',off,hpe,hr⟩:=hS.row (i:=i) hlt
  have hr:=hr i hlt
  obtain⟨x,hx⟩: ∃x,x=[Ad a,Ad b,Ad d][i]'hlt:=⟨_,rfl⟩
  obtain⟨hl,hE⟩:=hok x (hx▸List.getElem_mem hlt)
  rw[←hx] at hr
  cases hpe
  refine wJ ?_
  refine wL 0 I I (fun W1 hp=>hr.hp hp) I (wP I (Aa (zE (zA (zB (wP I (wC I I (fun W1 hp=>(GJ x hl W1 (hv.hp hp) (ht.hp hp)).cast (v':= .int .i64 0) (by rw[hE])) (wP I (Aa (zE (zA (zB (wP I (wP I ?_))))))))))))))
  exact Aa (zE (zS I (zI (zN (zE (zB (wP I (wV 22 ((i+1:Nat):Int) I (Ay (by omega)) (wP I (Aa (A6 (i+1) hlt (by show 3-(i+1)<3-i;omega) ⟨I,I,I,I,I,tO⟩ [] I)))))))))))
 refine wU 14 false I (dF (by omega)) (Aa (zE (zA (zS I (zJ (zK (zK (zL (zE (zA (zA (zB ?_))))))))))))
 have r0:Ak W g (0+0*1) [str (Ad a)]:=⟨hrow.lt,fun k u hu=>by
  cases k with
  |zero=>simp at hu;exact hrow.get 0 u (by simpa using hu)
  |succ k=>simp at hu⟩
 have r1:Ak W g (0+1*1) [str (Ad b)]:=⟨hrow.lt,fun k u hu=>by
  cases k with
  |zero=>simp at hu;exact hrow.get 1 u (by simpa using hu)
  |succ k=>simp at hu⟩
 iterate 5 refine wP I ?_
 refine wI I I (by decide) (by decide) (wL 0 I I (fun W1 hp=>r0.hp hp) I (wP I ?_))
 by_cases ha0:a=0
 ·have hb0:b≠0:=by rcases h0 with h0|h0;exact absurd ha0 h0;exact h0
  refine wU 30 true I ((Bd _ _).trans ((Mr a).trans (dT ha0))) (wP I (wP I (wP I (wI I I (by decide) (by decide) (wL 0 I I (fun W1 hp=>r1.hp hp) I (wP I (wU 36 false I ((Bd _ _).trans ((Mr b).trans (dF hb0))) (wP I (Aa (zE (zS I (zI (zE ?_)))))))))))))
  exact zA (zB (wP I (Aa (zE (zO (wR1 I I I))))))
 ·refine wU 30 false I ((Bd _ _).trans ((Mr a).trans (dF ha0))) (wP I (wP I ?_))
  iterate 4 refine Al I I ?_
  exact wP I (Aa (zE (zS I (zI (zE (zA (zB (wP I (Aa (zE (zO (wR1 I I I))))))))))))
structure UC (f:AL) (q:Ag):Prop where
 m1:Sz2 f.a q.1
 m2:Sz2 f.b q.2
 s:Sz2 (f.a*q.1) (f.b*q.2)
 d:Sz2 (f.a*q.1+f.b*q.2) f.c
structure JO (b4 b5 b6 b7 c:Nat) (f:AL) (W:World):Prop where
 r4:Ak W b4 0 [Aj c]
 r5:Ak W b5 0 [str (Ad f.a)]
 r6:Ak W b6 0 [str (Ad f.b)]
 r7:Ak W b7 0 [str (Ad f.c)]
 k:CH W c
 v:BL W
 t:AM W
theorem CH.below {W W':World} {c n:Nat} (h:CH W c) (hn:W.heap.size≤n) (hb:Below n W W'):CH W' c:=
 (hb.block c (Nat.lt_of_lt_of_le (Array.getElem?_eq_some_iff.1 h).1 hn)).trans h
theorem JO.below {b4 b5 b6 b7 c:Nat} {f:AL} {W W':World} (h:JO b4 b5 b6 b7 c f W) (hb:Below W.heap.size W W'):JO b4 b5 b6 b7 c f W':=
 ⟨h.r4.below (Nat.le_refl _) hb,h.r5.below (Nat.le_refl _) hb,h.r6.below (Nat.le_refl _) hb,h.r7.below (Nat.le_refl _) hb,h.k.below (Nat.le_refl _) hb,h.v.below hb,h.t.below hb⟩
theorem JO.hp {b4 b5 b6 b7 c:Nat} {f:AL} {W0 W:World} {bxs:List Bx} (h:JO b4 b5 b6 b7 c f W0) (hp:Hp W0 bxs W):JO b4 b5 b6 b7 c f W:=h.below hp.below
theorem Fb (c:Nat) (f:AL) (W:World):Ai Tryz.prog 67 #[Aj c,str (Ad f.a),str (Ad f.b),str (Ad f.c)] W
  (fun x:Nat×Nat×Nat×Nat=> .func (.func 132) #[] #[Aj x.1,Aj x.2.1,Aj x.2.2.1,Aj x.2.2.2]) (fun _=>True)
  (fun x=>[⟨x.1,59,[Aj c],true,none⟩,⟨x.2.1,23,[str (Ad f.a)],true,none⟩,⟨x.2.2.1,23,[str (Ad f.b)],true,none⟩,⟨x.2.2.2,23,[str (Ad f.c)],true,none⟩]):=by
 refine Ab (args:=[Aj c,str (Ad f.a),str (Ad f.b),str (Ad f.c)]) Tryz.func67 I I I ?_
 refine zA (zB ?_)
 (refine A5 rfl rfl rfl rfl ?_;intro)
 (refine A5 rfl rfl rfl rfl ?_;intro)
 (refine A5 rfl rfl rfl rfl ?_;intro)
 (refine A5 rfl rfl rfl rfl ?_;intro)
 refine wP I (Aa ?_)
 rename_i b4 b5 b6 b7
 exact zE (zA (zB (wP I (wP I (Aa (zE (zO (Au tH I (.tmp I) (b4,b5,b6,b7) I tO fun W1 hp=>As.of_hp hp))))))))
theorem CS (b4 b5 b6 b7 c:Nat) (f:AL) (q:Ag) (hz:UC f q) (W:World) (hL:JO b4 b5 b6 b7 c f W):
  Ai Tryz.prog 132 #[cvV q,Aj b4,Aj b5,Aj b6,Aj b7] W (fun _:Unit=>str (Ad (f.at q))) (fun _=>True) (fun _=>[]):=by
 refine Ab (args:=[cvV q,Aj b4,Aj b5,Aj b6,Aj b7]) Tryz.func132 I I I ?_
 refine zA (zB ?_)
 (refine A5 rfl rfl rfl rfl ?_;intro)
 refine wP I (Aa (zE (zA (zU (qL 0 I I (fun W1 hp=>(hL.hp hp).r4) I (qL 0 I I (fun W1 hp=>(hL.hp hp).r5) I (qP I (qB 0 I I I (qC I I (fun W1 hp=>Co c f.a q.1 hz.m1 W1 (hL.hp hp).k (hL.hp hp).v (hL.hp hp).t) (qL 0 I I (fun W1 hp=>(hL.hp hp).r4) I (qL 0 I I (fun W1 hp=>(hL.hp hp).r6) I (qP I (qB 0 I I I ?_)))))))))))))
 refine qC I I (fun W1 hp=>Co c f.b q.2 hz.m2 W1 (hL.hp hp).k (hL.hp hp).v (hL.hp hp).t) (qP I (qP I (AT (Aa (zE (zA (zU (qL 0 I I (fun W1 hp=>(hL.hp hp).r4) I (qL 0 I I (fun W1 hp=>(hL.hp hp).r4) I (qP I (qP I (qC I I (fun W1 hp=>CK c (f.a*q.1) (f.b*q.2) hz.s W1 (hL.hp hp).k (hL.hp hp).v (hL.hp hp).t) (qL 0 I I (fun W1 hp=>(hL.hp hp).r7) I ?_)))))))))))))
 exact qC I I (fun W1 hp=>CJ c (f.a*q.1+f.b*q.2) f.c hz.d W1 (hL.hp hp).k (hL.hp hp).v (hL.hp hp).t) (qP I (AT (Aa (zE (zO (wR1 I I I))))))
abbrev vsC (l:List Rat):List Value:=l.map fun q=>str (Ad q)
theorem WA (a b:List Rat):vsC (a++b)=vsC a++vsC b:=List.map_append
theorem CR (l:List Ag) (F:Ag→Rat) (g:Nat) (capt:List Value) (hE:Bf Tryz.prog g=true) (hn:l.length≤4096) (p:Option Addr) (cap:Nat) (W:World) (hA:Ci W p l)
  (hg: ∀q∈l, ∀W1,Below W.heap.size W W1→Ai Tryz.prog g ([cvV q]++capt).toArray W1 (fun _:Unit=>str (Ad (F q))) (fun _=>True) (fun _=>[])):
  Ai Tryz.prog 66 #[slv p l.length cap, .func (.func g) #[] capt.toArray] W (fun V:Vec=>V.val l.length) (fun V=>V.OK 1 l.length (vsC (l.map F))) (fun V=>[V.bx 23 (vsC (l.map F))]):=by
 refine Ab (args:=[slv p l.length cap, .func (.func g) #[] capt.toArray]) Tryz.func66 I I I ?_
 refine zA (zB (wP I (Aa (zE (zA (zB (wP I (Aa (zE (zA (zA (zB (wP I (wP I (wP I ?_)))))))))))))))
 refine Aa (zE (zH ?_))
 refine F6 ?_
 refine AA (X:=Nat×Vec) (fun s=>[(1, .func (.func g) #[] capt.toArray),(5,s.2.val s.1),(8,slv p l.length cap),(9, .int .i64 (l.length:Nat)),(10, .int .i64 (s.1:Nat))])
  (fun s=>[s.2.bx 23 (vsC ((l.take s.1).map F))]) (fun s=>s.1≤l.length∧s.2.OK 1 s.1 (vsC ((l.take s.1).map F))) (fun s=>l.length-s.1) (0,Vec.empty) ⟨Nat.zero_le _,Vec.OK.empty 1⟩ ⟨rfl,rfl,rfl,rfl,rfl,trivial⟩ [] rfl ?_
 rintro⟨i,V⟩ ⟨hi,hV⟩
 have hi:i≤l.length:=hi
 have hV:V.OK 1 i (vsC ((l.take i).map F)):=hV
 refine zA (zB (wP I ?_))
 by_cases hlt:i<l.length
 ·refine wU 11 true I (dT (by omega)) (Aa (zE (zA (zR I (zI (zE (zA (zH (zA (zB ?_))))))))))
  obtain⟨gp,off,hpe,hrow⟩:=hA.at_ hlt
  have hrow:=hrow i hlt
  have hq:=hg l[i] (List.getElem_mem hlt)
  have hsu:(l.take (i+1)).map F=(l.take i).map F++[F l[i]]:=by
   rw[List.take_add_one,List.getElem?_eq_getElem hlt,List.map_append];rfl
  obtain⟨q,hqe⟩: ∃q,q=l[i]:=⟨_,rfl⟩
  rw[←hqe] at hrow hq hsu
  subst hpe
  refine wJ ?_
  refine wL 0 I I (fun W1 hp=>hrow.hp hp) I ?_
  (refine Ah Tryz.hZ rfl rfl rfl rfl ?_;intro)
  refine wS 1 I I I (Aa (zE (zB (wP I (wP I (wB 1 I I I ?_))))))
  refine Bo (capt:=capt) I I I I I I hE (fun W1 hp=>hq W1 hp.below) ?_
  refine AF Tryz.hZ tH I I I I I I I I I I I fun bS=> ?_
  refine Bs (V:=V) (len:=i) (xs:=vsC ((l.take i).map F)) 0 2 Tryz.vec87 (i+1) (vsC ((l.take (i+1)).map F)) I I I I I I I I I I I hV I I I (by rw[hsu,WA];rfl) (by simp only[maxLen];omega) (by omega) I ?_
  intro gV cV jV hV1
  exact wP I (Aa (zN (zE (zB (wP I (wV 20 ((i+1:Nat):Int) I (Ay (by omega)) (wP I (Aa (A6 (i+1,⟨some gV,cV,jV⟩) ⟨hlt,hV1⟩ (by show l.length-(i+1)<l.length-i;omega) ⟨I,I,I,I,I,tO⟩ _ I)))))))))
 have e:i=l.length:=by omega
 subst e
 have et:l.take l.length=l:=List.take_of_length_le (Nat.le_refl _)
 rw[et] at hV
 refine wU 11 false I (dF (by omega)) (Aa (zE (zA (zS I (zJ (zK (zK (zL (zE (zA (zB (wP I (wP I ?_)))))))))))))
 refine Aa (zE (zO ?_))
 exact Au tH I (.tmp I) V I hV fun W1 hp=>by
  have hp:Hp W [V.bx 23 (vsC ((l.take l.length).map F))] W1:=hp
  rw[et] at hp
  exact As.of_hp hp
end
end Go.Proofs.YthndmdimmgkpgaaGreatDoor
namespace Go.Proofs
open Go.Shelf
def Tryz.lays125_ren:Go.Shelf.Ren:=⟨fun|125=>134|128=>189|129=>190|n=>n,fun|3=>3|4=>4|5=>5|9=>9|46=>148|51=>196|53=>198|n=>n,fun n=>n⟩
theorem Tryz.lays125:Go.Proofs.Lays.n125 Tryz.prog Tryz.lays125_ren:= {
 mixed:=by kernel_rfl
 f125:=Tryz.func134.trans (congrArg some (by kernel_rfl))
 f128:=Tryz.func189.trans (congrArg some (by kernel_rfl))
 f129:=Tryz.func190.trans (congrArg some (by kernel_rfl))
 t3:=Tryz.underlying3
 a3:=Tryz.isAgg3
 z3:=Tryz.sizeOf3
 v3:=Tryz.zeroValue3
 t4:=Tryz.underlying4
 a4:=Tryz.isAgg4
 z4:=Tryz.sizeOf4
 v4:=Tryz.zeroValue4
 t5:=Tryz.underlying5
 a5:=Tryz.isAgg5
 z5:=Tryz.sizeOf5
 v5:=Tryz.zeroValue5
 t9:=Tryz.underlying9
 a9:=Tryz.isAgg9
 z9:=Tryz.sizeOf9
 v9:=Tryz.zeroValue9
 t46:=Tryz.underlying148
 a46:=Tryz.isAgg148
 z46:=Tryz.sizeOf148
 v46:=Tryz.zeroValue148
 t51:=Tryz.underlying196
 a51:=Tryz.isAgg196
 z51:=Tryz.sizeOf196
 v51:=Tryz.zeroValue196
 t53:=Tryz.underlying198
 a53:=Tryz.isAgg198
 z53:=Tryz.sizeOf198
 v53:=Tryz.zeroValue198 }
end Go.Proofs
namespace Go.Proofs.YthndmdimmgkpgaaGreatDoor
section
open Go Go.RowKit Go.Am Go.Lib
set_option maxRecDepth 10000
-- BOXES 3
structure Ga (W W':World) (g:Nat):Prop where
 os:W'.os=W.os
 tape:W'.tape=W.tape
 output:W'.output=W.output
 size:W.heap.size≤W'.heap.size
 at_: ∀x,x≠g→x<W.heap.size→W'.heap[x]? =W.heap[x]?
theorem FN {W W':World} {g:Nat} {B:Bx} {o:Obj} (hg:W.heap[g]? =some o) (hB: ∃o',(g,o')∈B.blk) (hp:Hp (AZ W) [AP (At W g),B] W'):Ga W W' g:=by
 have c0: ∀p∈At W g,W'.heap[p.1]? =some p.2:=fun p hq=>(hp.own.cell 0 _ rfl p hq).1
 have old: ∀x,x≠g→x<W.heap.size→W'.heap[x]? =W.heap[x]? :=fun x hx hlt=>by
  have h1:W.heap[x]? =some W.heap[x]:=Array.getElem?_eq_getElem hlt
  rw[h1]
  exact c0 (x,W.heap[x]) (DF.2 ⟨hx,h1⟩)
 refine⟨hp.below.os,hp.below.tape,hp.below.output, ?_,old⟩
 have hlt:=(Array.getElem?_eq_some_iff.1 hg).1
 by_cases e:W.heap.size-1=g
 ·obtain⟨o',ho⟩:=hB
  have:=(Array.getElem?_eq_some_iff.1 (hp.own.cell 1 B rfl _ ho).1).1
  have h2:g<W'.heap.size:=this
  omega
 ·have h1:=old (W.heap.size-1) e (by omega)
  rw[Array.getElem?_eq_getElem (show W.heap.size-1<W.heap.size by omega)] at h1
  have:=(Array.getElem?_eq_some_iff.1 h1).1
  omega
theorem Ga.trans {W W1 W2:World} {g:Nat} (h:Ga W W1 g) (h':Ga W1 W2 g):Ga W W2 g:=
 ⟨h'.os.trans h.os,h'.tape.trans h.tape,h'.output.trans h.output,Nat.le_trans h.size h'.size,fun x hx hlt=>(h'.at_ x hx (Nat.lt_of_lt_of_le hlt h.size)).trans (h.at_ x hx hlt)⟩
theorem Ga.below {W0 W W':World} {g:Nat} (hk:Ga W W' g) (hb:Below W0.heap.size W0 W) (hg:W0.heap.size≤g):Below W0.heap.size W0 W':=
 ⟨hk.os.trans hb.os,hk.tape.trans hb.tape,hk.output.trans hb.output,Nat.le_trans hb.size hk.size,fun i hi=>(hk.at_ i (by omega) (Nat.lt_of_lt_of_le hi hb.size)).trans (hb.block i hi)⟩
theorem JM {W0 W:World} {bxs:List Bx} (hp:Hp W0 bxs W) (k:Nat) {g:Nat} {e:TypeId} {xs A B C:List Value} {off:Nat} (hk:nth bxs k=some ⟨g,e,xs,true,none⟩) (hxs:xs=A++(B++C)) (hoff:off=A.length):Ak W g off B:=by
 have h:=Ak.of_bx hp k hk rfl
 refine⟨h.lt,fun m u hu=> ?_⟩
 have:=h.get (A.length+m) u (by
  show xs[A.length+m]? =some u
  rw[hxs,List.getElem?_append_right (by omega),Nat.add_sub_cancel_left,List.getElem?_append_left (List.getElem?_eq_some_iff.1 hu).1]
  exact hu)
 rw[Nat.zero_add, ←hoff] at this
 exact this
theorem XV {r:Option Nat} {n:Nat} {P:Program} {W0:World} {N:Nat} {D:List Deferred} {c:Code} {Q:Exit→Act→World→Prop} {env:Env} {bxs bxs':List Bx} (e:bxs=bxs') (h:WC r n P N D c Q env (Hp W0 bxs')):WC r n P N D c Q env (Hp W0 bxs):=e▸h
section
variable {r:Option Nat} {n:Nat} {P:Program} {N:Nat} {D:List Deferred} {ops:List Oper} {Q:Exit→Act→World→Prop} {o:Oper} {rest:List Oper} {env:Env} {A:World→Prop}
theorem LF {W:World} {t ty e:TypeId} {size bytes:Nat} {z:Value} (hty:VecTy P t e size bytes z) {b:Option Addr} {k c c':Nat} (hk:k≤c):
  (Builtin.append_ #[t,t] ty #[.slice b k c, .slice none 0 c']).run P W= .ok (.slice b k c) W:=by
 obtain⟨i,hi,hz,hsz,hby⟩:=hty.hi
 have hs:(Go.sizeOf e).run P W= .ok i.size W:=by simp[sizeOf,typeInfo,hi]
 cases b<;>simp[Builtin.append_,run_underlying hty.ht,hs,hk,Builtin.lenOf,Builtin.firstCells,storeCells]
theorem J5 {d:Nat} {t e:TypeId} {size bytes:Nat} {z:Value} (hty:VecTy P t e size bytes z) {c:Call} {s x:Operand} {b:Option Addr} {k cp cp':Nat}
  (hg:A8 ops N env o=some true) (hd:o.dst=some d) (ho:o.op= .call c) (hc:c.callee= .builtin .append) (ha:c.args= #[s,x]) (hat:c.argTypes= #[t,t])
  (hs:evO N env s=some (.slice b k cp)) (hx:evO N env x=some (.slice none 0 cp')) (hk:k≤cp)
  (h:WL r n P N D ops Q rest ((d, .slice b k cp)::env) A):WL r n P N D ops Q (o::rest) env A:= .mk fun act W h2 h3 hp=>by
 refine BQ hg h2 (fun c e=>by rw[ho] at e;cases e) ?_
 have hr:=LF (P:=P) (W:=W) (ty:=o.type) hty (b:=b) (c':=cp') hk
 have e1:c.args.map (ov env act).eval= #[.slice b k cp, .slice none 0 cp']:=by rw[ha];simp[AD h2 _ _ hs,AD h2 _ _ hx]
 have:(execOp (ov env act).eval o).run P W= .ok (.value (.slice b k cp)) W:=by
  simp only[execOp,ho,resolve,hc,invoke,builtin,e1,hat,Sem.run_bind,Sem.run_pure,Result.andThen_ok,hr]
 rw[this]
 simp only[Oper.uponIn,hd]
 exact h.out act W h2 h3 hp
end
def X3 (V:Vec):Option Addr:=V.p.map fun g=>⟨g,0,none⟩
def Wz (V:Vec):Nat:=match V.p with
 |none=>0
 |some _=>V.cap
theorem Li {V:Vec} {size n:Nat} {xs:List Value} (h:V.OK size n xs):V.val n= .slice (X3 V) n (Wz V):=by
 obtain⟨p,cap,junk⟩:=V
 cases p with
 |none=>rw[h.nil rfl];rfl
 |some g=>rfl
theorem UW {V:Vec} {size n:Nat} {xs:List Value} (h:V.OK size n xs):n≤Wz V:=by
 obtain⟨p,cap,junk⟩:=V
 cases p with
 |none=>rw[h.nil rfl];exact Nat.le_refl _
 |some g=>exact(h.cap (by simp)).1
def LQ (W:World) (p:Option Addr) (cs:List Value):Prop:=cs=[]∨ ∃b off,p=some ⟨b,off,none⟩∧Ak W b off cs
theorem LQ.none {W:World} {l:List Value} (h:LQ W none l):l=[]:=by
 rcases h with h|⟨b,off,e,_⟩
 ·exact h
 ·cases e
-- BOXES 3
def T2p (n0 n1:Nat):Nat→Nat
 |0=>0
 |1=>n0
 |_=>n0+n1
def C2p (c0 c1:List Value):Nat→List Value
 |0=>[]
 |1=>c0
 |_=>c0++c1
theorem O6 (W:World) (m:Nat) (hm:m≤1000000):Ai Tryz.prog 138 #[.slice none 0 0, .int .i64 (m:Nat)] W (fun V:Vec=>V.val 0) (fun V=>V.OK 2 0 []∧(0<m→V.p≠none)) (fun V=>[V.bx 35 []]):=by
 refine Ab (args:=[.slice none 0 0, .int .i64 (m:Nat)]) Tryz.func138 I I I ?_
 refine zA (zB (wP I (Aa (zE (zA (zA (zB (wP I (wP I (Aa (zE (zS I (zI ?_)))))))))))))
 refine zE (zA (zA (zB ?_)))
 iterate 8 refine wP I ?_
 refine Aa (zE (zA (zB (wP I (wP I (Aa (zE ?_)))))))
 have e14:w64 ((m:Int)-w64 (0-0))=m:=by
  have:w64 (0-0)=0:=rfl
  rw[this];exact(Ap (by omega) (by omega)).trans (by omega)
 refine Bh 16 _ I (show Value.bool (decide (w64 ((m:Int)-w64 (0-0))>0))= .bool (decide (0<m)) by rw[e14];congr 1;simp) ?_
 refine Av I (fun h=> ?_) (fun h=> ?_)
 ·have h:0<m:=by simpa using h
  refine zB (wP I (wP I (wP I ?_)))
  refine C6 0 tH I I I I I I I I (Nat.le_refl _) ?_
  refine wP I ?_
  refine MA Tryz.vec22 (ku:= .i64) (by kernel_rfl) m I I I I I I I I e14 h (by simp only[maxLen];omega) (by omega) ?_
  intro V hV hp hj
  refine wP I (wP I ?_)
  obtain⟨p,cap,junk⟩:=V
  cases p with
  |none=>exact absurd rfl hp
  |some g=>
  refine C6 (a:=some ⟨g,0,none⟩) (len:=m) (cap:=cap) 0 tH I I I I I I I I (Nat.zero_le _) ?_
  refine wP I (Aa (zE (zA (zB (wP I (wP I (Aa (zE (zO ?_)))))))))
  obtain⟨h1,h2,h3⟩:=hV.cap (by simp)
  refine Au tH rfl (.tmp rfl) (⟨some g,cap,Cc [.string ⟨#[]⟩, .string ⟨#[]⟩] m++junk⟩:Vec) rfl ⟨⟨rfl,(fun h=>by cases h),fun _=>⟨Nat.zero_le _,h2, ?_⟩⟩,fun _=>by simp⟩ fun W hp=>As.of_hp1 hp 0 rfl
  show 0+(Cc _ m++junk).length=cap*2
  rw[List.length_append,Nat.zero_add]
  exact h3
 ·have h:m=0:=by simp at h;omega
  subst h
  exact zI (zE (zA (zB (wP rfl (wP rfl (Aa (zE (zO (Au tH rfl (.tmp rfl) Vec.empty rfl ⟨Vec.OK.empty 2,fun h=>absurd h (Nat.lt_irrefl _)⟩ fun W hp=>Own.one (fun p hp=>by cases hp) List.nodup_nil)))))))))
theorem FE (W:World) (b cap:Nat) (p0 p1:Option Addr) (n0 n1 k0 k1:Nat) (c0 c1:List Value) (hrow:Ak W b 0 [.slice p0 n0 k0, .slice p1 n1 k1]) (h0:LQ W p0 c0) (h1:LQ W p1 c1) (l0:c0.length=n0*2) (l1:c1.length=n1*2)
  (o0: ∀u∈c0,u.oneCell'=true) (o1: ∀u∈c1,u.oneCell'=true) (b0:n0≤100000) (b1:n1≤100000):
  Ai Tryz.prog 77 #[.slice (some ⟨b,0,none⟩) 2 cap] W (fun V:Vec=>V.val (n0+n1)) (fun V=>V.OK 2 (n0+n1) (c0++c1)) (fun V=>[V.bx 35 (c0++c1)]):=by
 refine Ab (args:=[.slice (some ⟨b,0,none⟩) 2 cap]) Tryz.func77 I I I ?_
 refine zA (zB (wP I (Aa (zE (zA (zB (wP I (Aa (zE (zA (zA (zB (wP I (wP I (wP I ?_)))))))))))))))
 refine Aa (zE (zH ?_))
 refine AA (X:=Nat) (fun k=>[(0, .slice (some ⟨b,0,none⟩) 2 cap),(3, .int .i64 (T2p n0 n1 k:Nat)),(9, .slice (some ⟨b,0,none⟩) 2 cap),(10, .int .i64 2),(11, .int .i64 (k:Nat))]) (fun _=>[])
  (fun k=>k≤2) (fun k=>2-k) 0 (Nat.zero_le _) ⟨rfl,rfl,rfl,rfl,rfl,trivial⟩ [] rfl ?_
 intro i hi
 have hi:i=0∨i=1∨i=2:=by have:i≤2:=hi;omega
 rcases hi with rfl|rfl|rfl
 ·refine zA (zB (wP I (Aa (zE (zA (zR I (zI (zE (zA (zH (zA (zB ?_))))))))))))
  refine wJ ?_
  refine wL 0 I I (fun W hp=>hrow.hp hp) I (wP I (Aa (zE (zA (zB (wP I (wP I (wP I (wP I (wV 18 (T2p n0 n1 1:Nat) I (show w64 ((T2p n0 n1 0:Nat)+(n0:Nat))=(T2p n0 n1 1:Nat) by have hT0:T2p n0 n1 0=0:=I;have hT1:T2p n0 n1 1=n0:=I;rw[Ap (by omega) (by omega)];omega) (wP I (Aa (zE ?_)))))))))))))
  exact zA (zB (wP I (wP I (Aa (zE (zS I (zI (zN (zE (zB (wP I (wP I (Aa (A6 1 (by decide) (by decide) ⟨I,I,I,I,I,tO⟩ [] I))))))))))))))
 ·refine zA (zB (wP I (Aa (zE (zA (zR I (zI (zE (zA (zH (zA (zB ?_))))))))))))
  refine wJ ?_
  refine wL 1 I I (fun W hp=>hrow.hp hp) I (wP I (Aa (zE (zA (zB (wP I (wP I (wP I (wP I (wV 18 (T2p n0 n1 2:Nat) I (show w64 ((T2p n0 n1 1:Nat)+(n1:Nat))=(T2p n0 n1 2:Nat) by have hT0:T2p n0 n1 1=n0:=I;have hT1:T2p n0 n1 2=n0+n1:=I;rw[Ap (by omega) (by omega)];omega) (wP I (Aa (zE ?_)))))))))))))
  exact zA (zB (wP I (wP I (Aa (zE (zS I (zI (zN (zE (zB (wP I (wP I (Aa (A6 2 (by decide) (by decide) ⟨I,I,I,I,I,tO⟩ [] I))))))))))))))
 refine zA (zB (wP I (Aa (zE (zA (zS I (zJ (zK (zK (zL (zE (zA (zB ?_)))))))))))))
 refine wP I ?_
 refine wD (X:=Vec) I I (fun W _=>O6 W (n0+n1) (by omega)) ?_
 rintro V0 ⟨hV0,hV0p⟩
 refine wP I (Aa (zE (zA (zA (zB (wP I (wP I (wP I (Aa (zE (zH ?_)))))))))))
 refine AA (X:=Nat×Vec) (fun x=>[(6,x.2.val (T2p n0 n1 x.1)),(25, .slice (some ⟨b,0,none⟩) 2 cap),(26, .int .i64 2),(27, .int .i64 (x.1:Nat))]) (fun x=>[x.2.bx 35 (C2p c0 c1 x.1)])
  (fun x=>x.1≤2∧x.2.OK 2 (T2p n0 n1 x.1) (C2p c0 c1 x.1)) (fun x=>2-x.1) (0,V0) ⟨Nat.zero_le _,hV0⟩ ⟨rfl,rfl,rfl,rfl,trivial⟩ [] rfl ?_
 rintro⟨i,V⟩ ⟨hi,hV⟩
 have hi:i=0∨i=1∨i=2:=by have:i≤2:=hi;omega
 rcases hi with rfl|rfl|rfl
 ·have hV:V.OK 2 (T2p n0 n1 0) (C2p c0 c1 0):=hV
  have hT0:T2p n0 n1 0=0:=rfl
  have hT1:T2p n0 n1 1=n0:=rfl
  refine zA (zB (wP I (Aa (zE (zA (zR I (zI (zE (zA (zH (zA (zB ?_))))))))))))
  refine wJ ?_
  refine wL 0 I I (fun W hp=>hrow.hp hp) I (wP I (Aa (zE (zB (wP I (wP I ?_))))))
  cases p0 with
  |none=>
   have hc:=h0.none
   have hn0:n0=0:=by rw[hc,List.length_nil] at l0;omega
   refine Af 31 (.slice (X3 V) (T2p n0 n1 0) (Wz V)) I (Li hV) ?_
   refine Af 32 (.slice none 0 k0) I (by rw[hn0]) ?_
   refine J5 Tryz.vec22 I I I I I I I I (UW hV) ?_
   refine Af 33 (V.val (T2p n0 n1 0)) I (Li hV).symm ?_
   have eT:T2p n0 n1 0=T2p n0 n1 1:=by omega
   have eC:C2p c0 c1 0=C2p c0 c1 1:=by show[]=c0;rw[hc]
   rw[eT,eC] at hV
   rw[eT,eC]
   exact wP I (Aa (zN (zE (zB (wP I (wP I (Aa (A6 (1,V) ⟨by show 1≤2;decide,hV⟩ (by show 2-1<2-0;decide) ⟨I,I,I,I,tO⟩ [] I))))))))
  |some a=>
   refine Gh (len:=T2p n0 n1 0) (V:=V) 0 Tryz.vec22 I I I I I I I I I hV l0 (fun W hp j u hj=> ?_) o0 (by simp only[maxLen];omega) (by omega) ?_
   ·obtain⟨ab,ao,asp⟩:=a
    rcases h0 with h|⟨b',off',e,h⟩
    ·rw[h] at hj;simp at hj
    ·cases e
     rw[Addr.add_none]
     exact(h.hp hp).get j u hj
   intro V' hV' _
   have eT:T2p n0 n1 0+n0=T2p n0 n1 1:=by omega
   have eC:C2p c0 c1 0++c0=C2p c0 c1 1:=rfl
   rw[eT,eC] at hV'
   rw[eT,eC]
   exact wP I (Aa (zN (zE (zB (wP I (wP I (Aa (A6 (1,V') ⟨by show 1≤2;decide,hV'⟩ (by show 2-1<2-0;decide) ⟨I,I,I,I,tO⟩ [] I))))))))
 ·have hV:V.OK 2 (T2p n0 n1 1) (C2p c0 c1 1):=hV
  have hT0:T2p n0 n1 1=n0:=rfl
  have hT1:T2p n0 n1 2=n0+n1:=rfl
  refine zA (zB (wP I (Aa (zE (zA (zR I (zI (zE (zA (zH (zA (zB ?_))))))))))))
  refine wJ ?_
  refine wL 1 I I (fun W hp=>hrow.hp hp) I (wP I (Aa (zE (zB (wP I (wP I ?_))))))
  cases p1 with
  |none=>
   have hc:=h1.none
   have hn0:n1=0:=by rw[hc,List.length_nil] at l1;omega
   refine Af 31 (.slice (X3 V) (T2p n0 n1 1) (Wz V)) I (Li hV) ?_
   refine Af 32 (.slice none 0 k1) I (by rw[hn0]) ?_
   refine J5 Tryz.vec22 I I I I I I I I (UW hV) ?_
   refine Af 33 (V.val (T2p n0 n1 1)) I (Li hV).symm ?_
   have eT:T2p n0 n1 1=T2p n0 n1 2:=by omega
   have eC:C2p c0 c1 1=C2p c0 c1 2:=by show c0=c0++c1;rw[hc];simp
   rw[eT,eC] at hV
   rw[eT,eC]
   exact wP I (Aa (zN (zE (zB (wP I (wP I (Aa (A6 (2,V) ⟨by show 2≤2;decide,hV⟩ (by show 2-2<2-1;decide) ⟨I,I,I,I,tO⟩ [] I))))))))
  |some a=>
   refine Gh (len:=T2p n0 n1 1) (V:=V) 0 Tryz.vec22 I I I I I I I I I hV l1 (fun W hp j u hj=> ?_) o1 (by simp only[maxLen];omega) (by omega) ?_
   ·obtain⟨ab,ao,asp⟩:=a
    rcases h1 with h|⟨b',off',e,h⟩
    ·rw[h] at hj;simp at hj
    ·cases e
     rw[Addr.add_none]
     exact(h.hp hp).get j u hj
   intro V' hV' _
   have eT:T2p n0 n1 1+n1=T2p n0 n1 2:=by omega
   have eC:C2p c0 c1 1++c1=C2p c0 c1 2:=rfl
   rw[eT,eC] at hV'
   rw[eT,eC]
   exact wP I (Aa (zN (zE (zB (wP I (wP I (Aa (A6 (2,V') ⟨by show 2≤2;decide,hV'⟩ (by show 2-2<2-1;decide) ⟨I,I,I,I,tO⟩ [] I))))))))
 refine zA (zB (wP I (Aa (zE (zA (zS I (zJ (zK (zK (zL (zE (zA (zB ?_)))))))))))))
 exact wP I (wP I (Aa (zE (zO (Au tH I (.tmp I) V I hV fun W hp=>As.of_hp1 hp 0 I)))))
end
end Go.Proofs.YthndmdimmgkpgaaGreatDoor
