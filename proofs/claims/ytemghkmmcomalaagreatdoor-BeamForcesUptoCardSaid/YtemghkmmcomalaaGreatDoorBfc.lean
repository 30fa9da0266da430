/-
  Lemmas that the theorem beamForces_upto_card needs (part 3 of 6).
-/
import Derived.Test.YtemghkmmcomalaaGreatDoorBfb
import Derived.Lib.SlicesCompact
import Derived.Shelf.Lays
import Derived.Shelf.SlLaysN
set_option maxHeartbeats 64000000
namespace Go.Proofs.YtemghkmmcomalaaGreatDoor
section
open Go Go.RowKit Go.Am Go.Lib
set_option maxRecDepth 10000
-- BOXES 4
theorem CQ (p:Option Addr) (n cap:Nat) (W:World):Ad Tryz.prog 249 #[slv p n cap] W (fun b:Nat=> .func (.func 287) #[] #[.pointer (some ⟨b,0,none⟩)]) (fun _=>True) (fun b=>[⟨b,170,[slv p n cap],true,none⟩]):=by
 refine Ab (args:=[slv p n cap]) Tryz.func249 I I I ?_
 refine zA (zB ?_)
 refine Az rfl rfl rfl rfl ?_;intro b
 exact wP I (Aa (zE (zA (zB (wP I (wP I (Aa (zE (zO (AE tH I (.tmp I) b I O fun W hp=>A0.of_hp hp))))))))))
structure QS (b:Nat) (p:Option Addr) (cap:Nat) (l:List Nat) (W:World):Prop where
 var:Ao W b 0 [slv p l.length cap]
 ints:Ar W p l
theorem E6 (b:Nat) (p:Option Addr) (cap:Nat) (l:List Nat) (hn:l.length<4611686018427387904):
  RH Tryz.prog 287 [.pointer (some ⟨b,0,none⟩)] l.length (fun k=>[.int .i64 ((l.length-1-k:Nat):Int), .int .i64 (lim l (l.length-1-k):Nat)]) (QS b p cap l):=by
 refine⟨fun y J Jx hNeed hdr hY W hJ=> ?_⟩
 refine GS (args:=[.func (.yield y) #[] #[], .pointer (some ⟨b,0,none⟩)]) (J0:=J 0) Tryz.func287 I I I hJ ?_
 refine zA (zB (wL 0 I I (fun W hp=>(hNeed 0 W hp).var) I (wP I (wP I (wV 6 ((l.length:Int)-1-(0:Nat)) I (by show w64 ((l.length:Int)-1)=_;rw[Aj (by omega) (by omega)];omega) (wP I (Aa (zE (zH ?_)))))))))
 refine EO (X:=Nat) (fun k=>[(0, .func (.yield y) #[] #[]),(1, .pointer (some ⟨b,0,none⟩)),(3, .int .i64 ((l.length:Int)-1-(k:Nat)))]) J (fun k=>k≤l.length) (fun k=>l.length-k) 0 (Nat.zero_le _) ⟨I,I,I,O⟩ (fun W h=>h) ?_
 intro k hk
 refine zA (zA (zB (wP I (wP I (Aa (zE ?_))))))
 refine Ai I (fun hc=> ?_) (fun hc=> ?_)
 ·have hk':k<l.length:=by simp at hc;omega
  clear hc
  have hi:l.length-1-k<l.length:=by omega
  have e1:(l.length:Int)-1-(k:Nat)=((l.length-1-k:Nat):Int):=by omega
  obtain⟨b2,off,rfl,hrow⟩: ∃b2 off,p=some ⟨b2,off,none⟩∧ ∀W,J k W→Ao W b2 (off+(l.length-1-k)*1) [.int .i64 (lim l (l.length-1-k):Nat)]:=by
   obtain⟨b2,off,e,_⟩:=(hNeed 0 W hJ).ints.row hi
   refine⟨b2,off,e,fun W hW=> ?_⟩
   obtain⟨b3,off3,e',h⟩:=(hNeed k W hW).ints.row hi
   rw[e] at e'
   cases e'
   exact h _ hi
  refine zI (zE (zA (zH (zA (zB (wP I (wP I (wV 12 ((l.length-1-k:Nat):Int) I e1 (wL 0 I I (fun W hp=>(hNeed k W hp).var) I (wP I (wV 14 ((l.length-1-k:Nat):Int) I e1 ?_)))))))))))
  refine wJ ?_
  refine wL 0 I I (fun W hp=>hrow W hp) I ?_
  refine Jz (A1:=J (k+1)) (A2:=Jx) I I I I I I (fun W hp=>hY k W hk' hp) ?_ ?_
  ·exact wP I (Aa (zE (zS I (zI (zN (zE (zB (wP I (wP I (wP I (Aa (Fb (k+1) hk' (by omega) ⟨I,I,congrArg (fun z=>some (Value.int .i64 z)) (by show w64 ((l.length:Int)-1-(k:Nat)-1)=_;rw[Aj (by omega) (by omega)];omega),O⟩ (fun W h=>h)))))))))))))
  ·exact wP I (Aa (zE (zR I (zO (zQ (zP (zP (zQ (Fl I (fun W h=>h))))))))))
 ·have hk':k=l.length:=by simp at hc;omega
  subst hk'
  exact zJ (zK (zK (zL (M5 I fun W h=>h))))
def sg (mi:Bool) (m:Nat):Int:=if mi then -(m:Int) else m
def sgn (mi:Bool):List UInt8:=if mi then[45] else[]
theorem Gl (m:Nat):itoa (m:Int)=decDigits m:=by
 unfold itoa
 rw[if_neg (by omega)];rfl
theorem Sj {mi:Bool} {m:Nat} (hm:m≠0):itoa (sg mi m)=sgn mi++decDigits m:=by
 cases mi with
 |false=>exact Gl m
 |true=>
  unfold itoa sg
  rw[if_pos rfl,if_pos (by omega)]
  show 45::decDigits (-(m:Int)).natAbs=_
  rw[Int.natAbs_neg,Int.natAbs_natCast];rfl
theorem H5 (mi:Bool):sg mi 0=0:=by cases mi<;>rfl
theorem IB (c:UInt8): ∀n,repeatL [c] n=List.replicate n c
 |0=>rfl
 |n+1=>by
  have:=IB c n
  simp_all [repeatL,List.replicate_succ]
theorem Mb (n:Nat) (hn:n≤1000000):AZ Tryz.prog 251 [str [48], .int .i64 (n:Nat)] (str (List.replicate n 48)):=by
 intro W
 refine Ad.of1 ((Tryz.strings_Repeat ⟨#[48]⟩ n W (by omega) (by show 1*n≤_;omega)).mono ?_)
 rintro e w' ⟨rfl,hb⟩
 refine⟨?_,hb⟩
 show Ending.returned (str (repeatL [48] n))=_
 rw[IB]
theorem Kw {m:Nat} (hm:m≠0):0<(lbs bs m).length:=by
 rcases Nat.eq_zero_or_pos (lbs bs m).length with h|h
 ·exact absurd ((Ct bs2).1 (List.length_eq_zero_iff.1 h)) hm
 ·exact h
def wrt (mi:Bool) (m K k:Nat):List UInt8:=if k=0 then sgn mi else sgn mi++decDigits (m/bs^(K-k))
theorem Sz {mi:Bool} {m K:Nat} (hK:(lbs bs m).length=K) (hm:m≠0):wrt mi m K 0++decDigits (lim (lbs bs m) (K-1))=wrt mi m K 1:=by
 have h1:=A6 bs2 m
 have h0:=Kw hm
 rw[hK] at h1 h0
 have h2:m/bs^(K-1)<bs:=Nat.div_lt_of_lt_mul (by rw[←Nat.pow_succ,show(K-1).succ=K by omega];exact h1)
 show sgn mi++_=sgn mi++_
 rw[AP bs2,Nat.mod_eq_of_lt h2]
theorem QW {mi:Bool} {m K k:Nat} (hK:(lbs bs m).length=K) (hm:m≠0) (h0:0<k) (hk:k<K):(wrt mi m K k++List.replicate (9-(decDigits (lim (lbs bs m) (K-1-k))).length) 48)++decDigits (lim (lbs bs m) (K-1-k))=wrt mi m K (k+1):=by
 have h1:=L7 bs2 hm
 rw[hK] at h1
 unfold wrt
 rw[if_neg (by omega),if_neg (by omega),List.append_assoc,List.append_assoc]
 congr 1
 have hq:m/bs^(K-k)≠0:=by
  have h2:bs^(K-k)≤bs^(K-1):=Nat.pow_le_pow_right (by decide) (by omega)
  have h3:0<bs^(K-k):=Nat.pow_pos (by decide)
  have:=Nat.div_pos (Nat.le_trans h2 h1) h3
  omega
 have h9:bs=10^9:=by decide
 have hl:=AN bs2 (AS bs2 m) (K-1-k)
 have:=NH _ hq 9 (lim (lbs bs m) (K-1-k)) (by omega) (by rw[←h9];exact hl)
 unfold pad at this
 rw[←this, ←h9,AP bs2]
 have h4:m/bs^(K-k)=m/bs^(K-1-k)/bs:=by
  rw[Nat.div_div_eq_div_mul, ←Nat.pow_succ,show(K-1-k).succ=K-k by omega]
 rw[h4,show K-(k+1)=K-1-k by omega]
 congr 1
 have:=Nat.mod_add_div (m/bs^(K-1-k)) bs
 omega
theorem SU {mi:Bool} {m K k:Nat} (hK:(lbs bs m).length=K) (hK2:K≤10000):(wrt mi m K k).length≤100000:=by
 have hs:(sgn mi).length≤1:=by cases mi<;>decide
 unfold wrt
 split
 ·omega
 ·have h1:=A6 bs2 m
  rw[hK] at h1
  have h9:bs^K=10^(9*K):=by rw[show bs=10^9 by decide, ←Nat.pow_mul]
  rw[h9] at h1
  have h2:m/bs^(K-k)<10^(9*K+1):=Nat.lt_of_le_of_lt (Nat.div_le_self ..) (Nat.lt_of_lt_of_le h1 (Nat.pow_le_pow_right (by decide) (by omega)))
  have:=BE (9*K+1) _ (by omega) h2
  rw[List.length_append];omega
theorem MQ (W:World) (p:Option Addr) (cap:Nat) (mi:Bool) (m:Nat) (hA:Ar W p (lbs bs m)) (hK2:(lbs bs m).length≤10000) (ht:AB W):
  Ad Tryz.prog 197 #[.agg #[.bool mi,slv p (lbs bs m).length cap]] W (fun _:Unit=>str (itoa (sg mi m))) (fun _=>True) (fun _=>[]):=by
 obtain⟨K,hK⟩: ∃K,(lbs bs m).length=K:=⟨_,rfl⟩
 rw[hK] at hK2
 refine Ab (args:=[.agg #[.bool mi,slv p (lbs bs m).length cap]]) Tryz.func197 I I I ?_
 refine zA (zB ?_)
 (refine Az rfl rfl rfl rfl ?_;intro)
 refine wP I (Aa ?_)
 rename_i b1
 refine zE (zA (zA (zB (wP I (wB 0 I I I (wP I (wP I (Aa (zE ?_)))))))))
 by_cases hm:m=0
 ·have h0:(lbs bs m).length=0:=by rw[hm,AF];rfl
  refine AK 10 (.bool true) I (congrArg Value.bool (by rw[h0];rfl)) ?_
  exact zR I (zA (zB (wP I (Aa (zE (zO (zP (wR1 I I (by rw[hm,H5,BI])))))))))
 ·have h0:=Kw hm
  refine AK 10 (.bool false) I (congrArg Value.bool (by rw[beq_eq_false_iff_ne];omega)) ?_
  refine zS I (zI (zE (zA (zB ?_))))
  (refine Ae Tryz.hZ rfl rfl rfl rfl ?_;intro)
  refine Aa ?_
  rename_i b3
  refine zE (zA (zA (zB ?_)))
  refine Jf ?_
  refine wP I (wB 0 I I I (Aa (zE ?_)))
  refine A3 (X:=BS) (fun _=>[(1,Al b1),(3,Al b3)]) (fun x=>[⟨b1,172,[.bool mi,slv p (lbs bs m).length cap],true,none⟩,x.b1 b3,x.b2]) (fun x=>x.OK b3 (sgn mi)) ?_ ?_
  ·refine Ai I (fun hc=> ?_) (fun hc=> ?_)
   ·refine zB ?_
    refine SF (x:=BS.zero) (l:=[]) 1 2 45 I I I I (BS.OK.zero b3) (by decide) I I I I I I ?_
    intro x' hx'
    exact Aa (Ah x' (by rw[hc];exact hx') ⟨I,I,O⟩ [] I)
   ·exact zI (Ah BS.zero (by rw[hc];exact BS.OK.zero b3) ⟨I,I,O⟩ [] I)
  ·intro x0 hx0
   refine zA (zA (zB (wP I (wB 0 I I I ?_))))
   refine wD (X:=Nat) I I (fun W _=>CQ p (lbs bs m).length cap W) ?_
   intro b16 _
   refine Aa (zE (zH ?_))
   refine HI (X:=BS) (fun x=>[⟨b1,172,[.bool mi,slv p (lbs bs m).length cap],true,none⟩,x.b1 b3,x.b2,⟨b16,170,[slv p (lbs bs m).length cap],true,none⟩])
    (fun k x=>x.OK b3 (wrt mi m K k)) (fun _ _=>False) x0 rfl (by kernel_rfl) (E6 b16 p cap (lbs bs m) (by omega)) (fun _=>rfl) hx0 [] rfl (fun k x W _ hp=>⟨Ao.of_bx hp 3 rfl rfl,hA.hp hp⟩) ?_ ?_ (fun _ _ _ _ _ h=>h.elim)
   ·rintro k x d Lo rec hk hx hrec
    rw[hK] at hk
    have hwl:=SU (mi:=mi) (k:=k) hK hK2
    obtain⟨v,hv⟩: ∃v,lim (lbs bs m) (K-1-k)=v:=⟨_,rfl⟩
    have hvb:v<bs:=by rw[←hv];exact AN bs2 (AS bs2 m) _
    have hvb':v<1000000000:=hvb
    have hvl:(decDigits v).length≤9:=BE 9 v (by omega) hvb
    refine zA (zB (wP I (Aa (zE (zB (wP I (Aa ?_)))))))
    refine FU 5 hrec I ?_
    refine AK 5 (.int .i64 (v:Nat)) I (by rw[hK,hv]) ?_
    refine AK 4 (.int .i64 ((K-1-k:Nat):Int)) I (by rw[hK]) ?_
    refine zH (zA (zB (wP I (wC I I (fun W hp=>(Bh (v:Nat) (by omega) (by omega) W (ht.hp hp)).cast (by rw[Gl])) (wP I (Aa (zE (zA (zA (zB (wP I (wP I (wB 0 I I I ?_)))))))))))))
    refine wP I ?_
    refine Ag 24 (.int .i64 (K:Nat)) I (congrArg (fun n:Nat=>Value.int .i64 (n:Int)) hK) ?_
    refine wP I (wV 25 ((K-1:Nat):Int) I (by show w64 ((K:Int)-1)=_;rw[Aj (by omega) (by omega)];omega) (wP I (Aa (zE ?_))))
    by_cases hk0:k=0
    ·subst hk0
     refine AK 26 (.bool false) I (congrArg Value.bool (by rw[decide_eq_false_iff_not];omega)) ?_
     refine zS I (zI (zE (zB (wP I ?_))))
     refine LX (x:=x) (l:=wrt mi m K 0) 1 2 (decDigits v) I I I I hx (by omega) I I I I I I ?_
     intro x' hx'
     have e:=Sz (mi:=mi) hK hm
     rw[show K-1-0=K-1 by omega] at hv
     rw[hv] at e
     rw[e] at hx'
     exact Aa (zN (EE 5 x' hrec I hx' [] I))
    ·refine AK 26 (.bool true) I (congrArg Value.bool (by rw[decide_eq_true_iff];omega)) ?_
     refine zR I (zB (wP I (wP I (wV 28 ((decDigits v).length:Nat) I (congrArg (fun n:Nat=>(n:Int)) (As _)) (wP I (wV 29 ((9-(decDigits v).length:Nat):Int) I (by show w64 (9-((decDigits v).length:Int))=_;rw[Aj (by omega) (by omega)];omega) (wC I I (fun W _=>Mb (9-(decDigits v).length) (by omega) W) ?_)))))))
     refine LX (x:=x) (l:=wrt mi m K k) 1 2 (List.replicate (9-(decDigits v).length) 48) I I I I hx (by rw[List.length_replicate];omega) I I I I I I ?_
     intro x1 hx1
     refine Aa (zE (zB (wP I ?_)))
     refine LX (x:=x1) (l:=wrt mi m K k++List.replicate (9-(decDigits v).length) 48) 1 2 (decDigits v) I I I I hx1 (by rw[List.length_append,List.length_replicate];omega) I I I I I I ?_
     intro x' hx'
     have e:=QW (mi:=mi) hK hm (by omega) hk
     rw[hv] at e
     rw[e] at hx'
     exact Aa (zN (EE 5 x' hrec I hx' [] I))
   ·rintro x d Lo rec hx
    rw[hK] at hx
    have e:wrt mi m K K=itoa (sg mi m):=by
     unfold wrt
     rw[if_neg (by omega),Nat.sub_self,Nat.pow_zero,Nat.div_one,Sj hm]
    rw[e] at hx
    refine zN (zE (zA (zB ?_)))
    refine Si (x:=x) (l:=itoa (sg mi m)) 1 2 I I I I hx I I I I I I ?_
    intro x' hx'
    refine wP I (Aa (zE (zO ?_)))
    refine G0 4 I ?_
    exact wR1 I I I
def mxd:Nat:=300
def AU:Nat:=10^mxd
theorem F9 {m:Nat}:(decDigits m).length≤300↔m<AU:=by
 constructor
 ·intro h
  exact Nat.lt_of_lt_of_le (Dc m) (Nat.pow_le_pow_right (by decide) (show(decDigits m).length≤mxd from h))
 ·intro h
  exact(BE mxd m (by decide) h:(decDigits m).length≤mxd)
theorem Oa (mi:Bool) (m:Nat):(sg mi m).natAbs=m:=by
 cases mi with
 |false=>rfl
 |true=>show(-(m:Int)).natAbs=m;rw[Int.natAbs_neg,Int.natAbs_natCast]
def K6 (z:Int):Value:=if z.natAbs<AU then .tuple #[str (itoa z), .int .i64 0] else .tuple #[str [], .int .i64 4]
theorem BL (W:World) (p:Option Addr) (cap:Nat) (mi:Bool) (m:Nat) (hA:Ar W p (lbs bs m)) (hK2:(lbs bs m).length≤10000) (ht:AB W):
  Ad Tryz.prog 153 #[.agg #[.bool mi,slv p (lbs bs m).length cap]] W (fun _:Unit=>K6 (sg mi m)) (fun _=>True) (fun _=>[]):=by
 refine Ab (args:=[.agg #[.bool mi,slv p (lbs bs m).length cap]]) Tryz.func153 I I I ?_
 refine zA (zB ?_)
 (refine Az rfl rfl rfl rfl ?_;intro)
 refine wP I (wP I (Aa (zE (zA (zB (wB 0 I I I (wC I I (fun W hp=>MQ W p cap mi m (hA.hp hp) hK2 (ht.hp hp)) (wP I (Aa (zE (zA (zA (zB ?_)))))))))))))
 refine wP I (wC I I (fun W _=>Cu (itoa (sg mi m)) [45] W) ?_)
 refine Ag 8 (str (decDigits m)) I (by rw[Bd,Oa]) ?_
 refine wP I (wV 9 ((decDigits m).length:Nat) I (congrArg (fun n:Nat=>(n:Int)) (As _)) (wP I (Aa (zE ?_))))
 by_cases h:m<AU
 ·have h1:=F9.2 h
  refine AK 10 (.bool false) I (congrArg Value.bool (by rw[decide_eq_false_iff_not];omega)) ?_
  exact zS I (zI (zE (zA (zB (wP I (wP I (wP I (Aa (zE (zO (wR2 I I (by rw[K6,if_pos (by rw[Oa];exact h)]))))))))))))
 ·have h1: ¬(decDigits m).length≤300:=fun e=>h (F9.1 e)
  refine AK 10 (.bool true) I (congrArg Value.bool (by rw[decide_eq_true_iff];omega)) ?_
  exact zR I (zA (zB (wP I (wP I (Aa (zE (zO (zP (wR2 I I (by rw[K6,if_neg (by rw[Oa];exact h)]))))))))))
-- BOXES 5
theorem CI {B n i:Nat}:n/B^i=n/B^(i+1)*B+n/B^i%B:=by
 have h1:n/B^(i+1)=n/B^i/B:=by rw[Nat.pow_succ,Nat.div_div_eq_div_mul]
 rw[h1]
 have:=Nat.mod_add_div (n/B^i) B
 rw[Nat.mul_comm];omega
theorem L3 {a b m:Nat} (h:a/m<b/m):a<b:=by
 rcases Nat.lt_or_ge a b with h1|h1
 ·exact h1
 ·exact absurd (Nat.div_le_div_right (c:=m) h1) (by omega)
theorem Iu {a b:Nat} (h:(lbs bs a).length<(lbs bs b).length):a<b:=by
 rcases Nat.lt_or_ge a b with h1|h1
 ·exact h1
 ·have:=(Bt bs2 (n:=b)).2 (Nat.lt_of_le_of_lt h1 (A6 bs2 a))
  omega
def RF (a b:Nat) (c:Int):Prop:=(c<0↔a<b)∧(c=0↔a=b)
theorem QM {a b i:Nat} (h:a/bs^(i+1)=b/bs^(i+1)) (hne:lim (lbs bs a) i≠lim (lbs bs b) i):RF a b ((lim (lbs bs a) i:Int)-lim (lbs bs b) i):=by
 rw[AP bs2,AP bs2] at hne⊢
 have e1:=CI (B:=bs) (n:=a) (i:=i)
 have e2:=CI (B:=bs) (n:=b) (i:=i)
 rw[h] at e1
 rcases Nat.lt_or_ge (a/bs^i%bs) (b/bs^i%bs) with h1|h1
 ·have h2:a<b:=L3 (m:=bs^i) (by omega)
  exact⟨⟨fun _=>h2,fun _=>by omega⟩,⟨fun _=>by omega,fun _=>by omega⟩⟩
 ·have h2:b<a:=L3 (m:=bs^i) (by omega)
  exact⟨⟨fun _=>by omega,fun _=>by omega⟩,⟨fun _=>by omega,fun _=>by omega⟩⟩
theorem GB (W:World) (p q:Option Addr) (cap cap2 a b:Nat) (hA:Ar W p (lbs bs a)) (hB:Ar W q (lbs bs b)) (hna:(lbs bs a).length≤1000000) (hnb:(lbs bs b).length≤1000000):
  Ad Tryz.prog 200 #[slv p (lbs bs a).length cap,slv q (lbs bs b).length cap2] W (fun c:Int=> .int .i64 c) (RF a b) (fun _=>[]):=by
 refine Ab (args:=[slv p (lbs bs a).length cap,slv q (lbs bs b).length cap2]) Tryz.func200 I I I ?_
 refine zA (zB ?_)
 (refine Az rfl rfl rfl rfl ?_;intro)
 (refine Ae Tryz.hZ rfl rfl rfl rfl ?_;intro)
 refine Aa ?_
 rename_i b3 b4
 refine zE (zA (zA (zB (wP I (wP I (wB 0 I I I (wP I (wP I (Aa (zE ?_))))))))))
 by_cases hlen:(lbs bs a).length=(lbs bs b).length
 ·refine AK 11 (.bool false) I (congrArg Value.bool (by rw[bne_eq_false_iff_eq];omega)) ?_
  refine zS I (zI (zE (zA (zA (zB (wP I ?_))))))
  refine wD (X:=Nat) I I (fun W _=>CQ p (lbs bs a).length cap W) ?_
  intro b18 _
  refine Aa (zE (zH ?_))
  obtain⟨K,hK⟩: ∃K,(lbs bs a).length=K:=⟨_,rfl⟩
  have hKb:(lbs bs b).length=K:=by omega
  refine HI (X:=Int) (fun x=>[⟨b3,170,[slv q (lbs bs b).length cap2],true,none⟩,⟨b4,3,[.int .i64 x],true,none⟩,⟨b18,170,[slv p (lbs bs a).length cap],true,none⟩])
   (fun k _=>a/bs^(K-k)=b/bs^(K-k)) (fun c x=>c= .ret∧RF a b x) 0 rfl (by kernel_rfl) (E6 b18 p cap (lbs bs a) (by omega)) (fun _=>rfl)
   (by have h1:=A6 bs2 a;have h2:=A6 bs2 b;rw[hK] at h1;rw[hKb] at h2;rw[Nat.sub_zero,Nat.div_eq_of_lt h1,Nat.div_eq_of_lt h2]) [] rfl (fun k x W _ hp=>⟨Ao.of_bx hp 2 rfl rfl,hA.hp hp⟩) ?_ ?_ ?_
  ·rintro k x d Lo rec hk hx hrec
   rw[hK] at hk
   have hi:K-1-k<(lbs bs b).length:=by omega
   have hup:a/bs^(K-1-k+1)=b/bs^(K-1-k+1):=by rw[show K-1-k+1=K-k by omega];exact hx
   obtain⟨qb,qo,rfl,hrow⟩:=hB.row hi
   refine zA (zB (wP I (Aa (zE (zB (wP I (Aa ?_)))))))
   refine FU 4 hrec I ?_
   refine AK 5 (.int .i64 ((K-1-k:Nat):Int)) I (by rw[hK]) ?_
   refine AK 6 (.int .i64 (lim (lbs bs a) (K-1-k):Nat)) I (by rw[hK]) ?_
   refine zH (zA (zB (wP I (wB 0 I I I (wP I ?_)))))
   refine wJ ?_
   refine wL 0 I I (fun W' hp=>(hrow (K-1-k) hi).hp hp) I (wP I (Aa (zE ?_)))
   by_cases hne:lim (lbs bs a) (K-1-k)=lim (lbs bs b) (K-1-k)
   ·refine AK 26 (.bool false) I (congrArg Value.bool (by rw[bne_eq_false_iff_eq,hne])) ?_
    refine zS I (zI (zN ?_))
    refine EE 4 x hrec I ?_ [] I
    show a/bs^(K-(k+1))=b/bs^(K-(k+1))
    rw[AP bs2,AP bs2] at hne
    rw[show K-(k+1)=K-1-k by omega,CI (n:=a),CI (n:=b),hup,hne]
   ·refine AK 26 (.bool true) I (congrArg Value.bool (by rw[bne_iff_ne];omega)) ?_
    refine zR I (zA (zB (wP I (wB 0 I I I (wP I ?_)))))
    refine wJ ?_
    refine wL 0 I I (fun W' hp=>(hrow (K-1-k) hi).hp hp) I ?_
    have h1:=AN bs2 (AS bs2 a) (K-1-k)
    have h2:=AN bs2 (AS bs2 b) (K-1-k)
    have h1':lim (lbs bs a) (K-1-k)<1000000000:=h1
    have h2':lim (lbs bs b) (K-1-k)<1000000000:=h2
    exact wP I (wV 32 ((lim (lbs bs a) (K-1-k):Int)-lim (lbs bs b) (K-1-k)) I (Aj (by omega) (by omega)) (wS 1 I I I (Aa (zE (zO (zQ (LO 4 ((lim (lbs bs a) (K-1-k):Int)-lim (lbs bs b) (K-1-k)) hrec I ⟨I,QM hup hne⟩ [] I)))))))
  ·rintro x d Lo rec hx
   rw[hK,Nat.sub_self,Nat.pow_zero,Nat.div_one,Nat.div_one] at hx
   refine zN (zE (zA (zB (wS 1 I I I (Aa (zE (zO ?_)))))))
   refine G0 3 I ?_
   exact AE tH I (.cell 1 I I I I I) (0:Int) I ⟨⟨fun h=>by omega,fun h=>by omega⟩,⟨fun _=>hx,fun _=>rfl⟩⟩ fun W _=>A0.nil _ _
  ·rintro x d Lo rec c ⟨rfl,hx⟩
   refine zO (zQ (zP ?_))
   refine G0 3 I ?_
   exact AE tH I (.cell 1 I I I I I) x I hx fun W _=>A0.nil _ _
 ·refine AK 11 (.bool true) I (congrArg Value.bool (by rw[bne_iff_ne];omega)) ?_
  refine zR I (zA (zB (wP I (wP I (wB 0 I I I (wP I (wP I (wV 16 (((lbs bs a).length:Int)-(lbs bs b).length) I (Aj (by omega) (by omega)) (wS 1 I I I (Aa (zE (zO (zP ?_)))))))))))))
  refine AE tH I (.cell 1 I I I I I) (((lbs bs a).length:Int)-(lbs bs b).length) I ?_ fun W _=>A0.nil _ _
  rcases Nat.lt_or_ge (lbs bs a).length (lbs bs b).length with h|h
  ·have:=Iu h
   exact⟨⟨fun _=>this,fun _=>by omega⟩,⟨fun _=>by omega,fun _=>by omega⟩⟩
  ·have:=Iu (a:=b) (b:=a) (by omega)
   exact⟨⟨fun _=>by omega,fun _=>by omega⟩,⟨fun _=>by omega,fun _=>by omega⟩⟩
theorem RN (r:Nat):lv bs [r]=r:=by show r+bs*0=r;rw[Nat.mul_zero,Nat.add_zero]
theorem Ex (W:World) (p:Option Addr) (cap a dv:Nat) (hA:Ar W p (lbs bs a)) (hna:(lbs bs a).length≤1000000) (hd0:0<dv) (hd1:dv<bs):
  Ad Tryz.prog 266 #[slv p (lbs bs a).length cap, .int .i64 (dv:Nat)] W (fun x:NV×NV=> .tuple #[Bb x.1 (lbs bs (a/dv)).length,Bb x.2 (lbs bs (a%dv)).length]) (fun x=>B9 x.1 (lbs bs (a/dv))∧B9 x.2 (lbs bs (a%dv))) (fun x=>[Bn x.1 (lbs bs (a/dv)),Bn x.2 (lbs bs (a%dv))]):=by
 obtain⟨K,hK⟩: ∃K,(lbs bs a).length=K:=⟨_,rfl⟩
 have hd1':dv<1000000000:=hd1
 have hal:=A6 bs2 a
 rw[hK] at hna hal
 refine Ab (args:=[slv p (lbs bs a).length cap, .int .i64 (dv:Nat)]) Tryz.func266 I I I ?_
 refine zA (zB ?_)
 (refine Az rfl rfl rfl rfl ?_;intro)
 (refine Ae Tryz.hZ rfl rfl rfl rfl ?_;intro)
 refine wP I (Aa ?_)
 rename_i b3 b4
 refine zE (zA (zB (wP I (wP I ?_))))
 refine B4 Tryz.vec170 K I I I I I (congrArg (fun n:Nat=>(n:Int)) hK) (congrArg (fun n:Nat=>(n:Int)) hK) (by simp only[maxLen];omega) (by omega) ?_
 intro g
 have ez:Ck (Value.cells (.int .i64 0)).toList K=nI (List.replicate K 0)++[]:=by rw[List.append_nil];exact DQ K
 rw[ez]
 refine wS 1 I I I (Aa (zE (zA (zB ?_))))
 (refine Ae Tryz.hZ rfl rfl rfl rfl ?_;intro)
 refine wS 3 I I I (Aa ?_)
 rename_i b6
 refine zE (zA (zA (zB (wP I ?_))))
 refine wD (X:=Nat) I I (fun W _=>CQ p (lbs bs a).length cap W) ?_
 intro b13 _
 refine Aa (zE (zH ?_))
 refine HI (X:=List Nat×Nat×Nat) (fun x=>[⟨b3,3,[.int .i64 (dv:Nat)],true,none⟩,⟨b4,170,[slv (some ⟨g,0,none⟩) K K],true,none⟩,⟨g,3,nI x.1++[],true,none⟩,⟨b6,3,[.int .i64 (x.2.2:Nat)],true,none⟩,⟨b13,170,[slv p (lbs bs a).length cap],true,none⟩])
  (fun k x=>x.1.length=K∧(∀y∈x.1,y<bs)∧lv bs x.1=bs^(K-k)*x.2.1∧a/bs^(K-k)=x.2.1*dv+x.2.2∧x.2.2<dv) (fun _ _=>False) (List.replicate K 0,0,0) rfl (by kernel_rfl) (E6 b13 p cap (lbs bs a) (by omega)) (fun _=>rfl)
  ⟨List.length_replicate,Ga (by decide) K,by rw[Dx];show 0=bs^(K-0)*0;rw[Nat.mul_zero],by show a/bs^(K-0)=0*dv+0;rw[Nat.sub_zero,Nat.div_eq_of_lt hal];omega,hd0⟩ [] rfl (fun k x W _ hp=>⟨Ao.of_bx hp 4 rfl rfl,hA.hp hp⟩) ?_ ?_ (fun _ _ _ _ _ h=>h.elim)
 ·rintro k ⟨l,qh,rs⟩ d Lo rec hk ⟨hl,hlb,hlv,hq,hr⟩ hrec
  have hl:l.length=K:=hl
  have hlv:lv bs l=bs^(K-k)*qh:=hlv
  have hq:a/bs^(K-k)=qh*dv+rs:=hq
  have hr:rs<dv:=hr
  rw[hK] at hk
  have hi:K-1-k<l.length:=by rw[hl];omega
  obtain⟨v,hv⟩: ∃v,lim (lbs bs a) (K-1-k)=v:=⟨_,rfl⟩
  have hvb:v<bs:=by rw[←hv];exact AN bs2 (AS bs2 a) _
  have hvb':v<1000000000:=hvb
  have hve:v=a/bs^(K-1-k)%bs:=by rw[←hv];exact AP bs2 a _
  obtain⟨n,hn⟩: ∃n,n=v+rs*bs:=⟨_,rfl⟩
  have hrs:rs*1000000000≤999999999*1000000000:=Nat.mul_le_mul_right _ (by omega)
  have hn63:n<2000000000000000000:=by rw[hn];show v+rs*1000000000<_;omega
  have hnq:=MJ (B:=bs) (d:=dv) hvb hr hn
  have hnq':n/dv<1000000000:=hnq
  have hs:=GY (B:=bs) (d:=dv) (q:=qh) (r:=rs) (i:=K-1-k) (by rw[show K-1-k+1=K-k by omega];exact hq) (n:=n) (by rw[hn,hve])
  have hzero:l[K-1-k]? =some 0:=by
   rw[Cy hi,BK bs2 _ hlb,hlv,show K-k=K-1-k+1 by omega,Nat.pow_succ,Nat.mul_assoc,Nat.mul_div_cancel_left _ (Nat.pow_pos (by decide)),Nat.mul_mod_right]
  have hset:=FJ (B:=bs) (n/dv) hzero
  rw[Nat.mul_zero,Nat.add_zero,hlv,show K-k=K-1-k+1 by omega,Nat.pow_succ,Nat.mul_assoc, ←Nat.mul_add] at hset
  refine zA (zB (wP I (Aa (zE (zB (wP I (Aa ?_)))))))
  refine FU 6 hrec I ?_
  refine AK 7 (.int .i64 ((K-1-k:Nat):Int)) I (by rw[hK]) ?_
  refine AK 8 (.int .i64 (v:Nat)) I (by rw[hK,hv]) ?_
  refine zH (zA (zB (wP I (wB 3 I I I (wP I (wP I (wV 19 (n:Nat) I (by show w64 ((v:Int)+w64 ((rs:Int)*((1000000000:Nat):Int)))=_;rw[BB (by omega),AA (by omega)];exact congrArg (fun n:Nat=>(n:Int)) hn.symm) (wP I (Aa (A4 ?_))))))))))
  refine NG (X:=Unit) (fun _=>[]) (fun _=>[⟨b3,3,[.int .i64 (dv:Nat)],true,none⟩,⟨b4,170,[slv (some ⟨g,0,none⟩) K K],true,none⟩,⟨g,3,nI (l.set (K-1-k) (n/dv))++[],true,none⟩,⟨b6,3,[.int .i64 ((n%dv:Nat):Int)],true,none⟩,⟨b13,170,[slv p (lbs bs a).length cap],true,none⟩,Dk d,BX Lo rec .busy none])
   2 [⟨b3,3,[.int .i64 (dv:Nat)],true,none⟩,⟨b4,170,[slv (some ⟨g,0,none⟩) K K],true,none⟩,KT,KT,⟨b13,170,[slv p (lbs bs a).length cap],true,none⟩,Dk d,BX Lo rec .busy none] Tryz.mixed (by kernel_rfl) ?_ ?_
  ·refine qB 1 I I I (qP I (qP I (qB 0 I I I ?_)))
   refine Ha I I I I I (by omega) ?_
   refine qV 24 ((n/dv:Nat):Int) I (by rw[C4];exact Bl (by omega)) (qP I (qB 0 I I I ?_))
   refine Gj I I I I I (by omega) ?_
   refine qJ ?_
   refine Dr (wX (wZ ?_))
   refine A5 2 (nI (l.set (K-1-k) (n/dv))++[]) tH I I I I I I I I I I (by show 0+(K-1-k)*1+1≤(nI l++[]).length;rw[List.append_nil,Bk];omega) (BP hi _) ?_
   refine Aa (At (wX (wZ (wS 3 I I I (Aa (At ?_))))))
   refine Ce I (by((repeat (first|refine BG.same ?_|refine BG.off I ?_));exact O)) ?_
   exact AI () O [0,1,2,3,4,5,6] (by decide) I
  intro _
  refine zN ?_
  refine EE 6 (l.set (K-1-k) (n/dv),bs*qh+n/dv,n%dv) hrec I ⟨by rw[List.length_set];exact hl,Cf hlb hnq, ?_, ?_,Nat.mod_lt _ hd0⟩ [] I
  ·show lv bs _=bs^(K-(k+1))*_
   rw[hset,show K-(k+1)=K-1-k by omega]
  ·show a/bs^(K-(k+1))=(bs*qh+n/dv)*dv+n%dv
   rw[show K-(k+1)=K-1-k by omega,hs,Nat.mul_comm qh]
 ·rintro⟨l,qh,rs⟩ d Lo rec ⟨hl,hlb,hlv,hq,hr⟩
  have hl:l.length=K:=hl
  have hr:rs<dv:=hr
  have hlv:lv bs l=bs^(K-(lbs bs a).length)*qh:=hlv
  have hq:a/bs^(K-(lbs bs a).length)=qh*dv+rs:=hq
  rw[hK,Nat.sub_self,Nat.pow_zero] at hlv hq
  rw[Nat.one_mul] at hlv
  rw[Nat.div_one] at hq
  have e1:a/dv=qh:=by rw[hq,Nat.mul_comm,Nat.mul_add_div hd0,Nat.div_eq_of_lt hr,Nat.add_zero]
  have e2:a%dv=rs:=by rw[hq,Nat.mul_comm,Nat.mul_add_mod,Nat.mod_eq_of_lt hr]
  have hV0:(⟨some g,K,[]⟩:Vec).OK 1 l.length (nI l):=⟨Dm _,(fun h=>by cases h),fun _=>⟨by show _≤K;omega,by show K≤maxLen;simp only[maxLen];omega,by show(nI l).length+0=K*1;rw[Bk];omega⟩⟩
  obtain⟨j',hV2,he⟩:=Fc hV0 hlb
  have hrb: ∀y∈[rs],y<bs:=fun y hy=>by obtain rfl:=List.mem_singleton.1 hy;exact Nat.lt_trans hr hd1
  refine zN (zE (Ax ?_))
  refine NG (X:=Nat) (fun bR=>[(4,Al b4),(5,slv (some ⟨bR,0,none⟩) (lbs bs (lv bs [rs])).length 1)]) (fun bR=>[⟨b3,3,[.int .i64 (dv:Nat)],true,none⟩,⟨b4,170,[slv (some ⟨g,0,none⟩) (lbs bs (lv bs l)).length K],true,none⟩,⟨g,3,nI l++[],true,none⟩,⟨b6,3,[.int .i64 (rs:Nat)],true,none⟩,⟨b13,170,[slv p (lbs bs a).length cap],true,none⟩,Dk d,BX Lo rec .exhausted none,⟨bR,3,nI [rs]++[],true,none⟩])
   4 [⟨b3,3,[.int .i64 (dv:Nat)],true,none⟩,⟨b4,170,[slv (some ⟨g,0,none⟩) K K],true,none⟩,⟨g,3,nI l++[],true,none⟩,⟨b6,3,[.int .i64 (rs:Nat)],true,none⟩,⟨b13,170,[slv p (lbs bs a).length cap],true,none⟩,Dk d,BX Lo rec .exhausted none] Tryz.mixed (by kernel_rfl) ?_ ?_
  ·refine qB 1 I I I ?_
   refine GX 29 (slv (some ⟨g,0,none⟩) l.length K) I (by rw[hl]) ?_
   refine qC I I (fun W hp=>Co W _ K _ (Ar.of_bx hp 2 I) hlb (by omega) (by omega)) (qB 3 I I I (Dr (wX (wZ ?_))))
   refine Ap Tryz.hZ tH I I I I I I I I I I I fun bR=> ?_
   refine Aa (At (wX (wZ (wC I I (fun W hp=>Co W _ 1 [rs] (Ar.of_bx (junk:=[]) hp 7 I) hrb (Nat.le_refl _) (by show 1<_;omega)) (Aa (At (wX (wZ (wS 1 I I I (Aa (At (wY (wZ ?_)))))))))))))
   refine wP I (Aa (At ?_))
   refine AO I (by kernel_rfl) ?_
   exact AI bR ⟨I,I,O⟩ [0,1,2,3,4,5,6,7] (by decide) I
  intro bR
  have hR0:(⟨some bR,1,[]⟩:Vec).OK 1 [rs].length (nI [rs]):=⟨rfl,(fun h=>by cases h),fun _=>⟨Nat.le_refl _,(show 1≤maxLen by decide),rfl⟩⟩
  obtain⟨j2,hR2,he2⟩:=Fc hR0 hrb
  refine zE (zO ?_)
  rw[hlv] at hV2 he
  rw[RN] at hR2 he2
  rw[←e1] at hV2 he
  have he2':nI [rs]++[]=nI (lbs bs (a%dv))++j2:=by rw[e2];exact he2
  rw[←e2] at hR2
  refine G0 5 I ?_
  refine AH tH I (.cell 1 I I I I I) (.tmp I) (((g,K,j'),(bR,1,j2)):NV×NV) (by rw[hlv,RN, ←e1, ←e2]) ⟨hV2,hR2⟩ fun W hp=> ?_
  refine(hp.pick (l:=[⟨g,3,nI l++[],true,none⟩,⟨bR,3,nI [rs]++[],true,none⟩]) [2,7] (by decide) I).own.sub id ?_ (fun _ _ _ _ _ _ h=>h)
  intro k B hk _
  rw[he,he2']
  exact hk
-- BOXES 2
theorem SQ {U B j n:Nat} (hn:2≤n) (h:U<B^(j+n+1)):U/B^(j+n)%B*B+U/B^(j+n-1)%B=U/B^(j+n-1)∧U/B^(j+n-2)=U/B^(j+n-1)*B+U/B^(j+n-2)%B:=by
 have e1:=CI (B:=B) (n:=U) (i:=j+n-1)
 have e2:=CI (B:=B) (n:=U) (i:=j+n-2)
 rw[show j+n-1+1=j+n by omega] at e1
 rw[show j+n-2+1=j+n-1 by omega] at e2
 have h3:U/B^(j+n)<B:=Nat.div_lt_of_lt_mul (by rw[←Nat.pow_succ];exact h)
 rw[Nat.mod_eq_of_lt h3]
 exact⟨e1.symm,e2⟩
theorem Rw {U V B j n q r v1 v2:Nat} (hn:2≤n) (hB:2≤B) (hv1:v1=V/B^(n-1)) (hv2:v2=V/B^(n-2)%B) (htop:U/B^(j+n-1)=q*v1+r)
  (hc:q*v2>r*B+U/B^(j+n-2)%B):U/B^j/V<q:=by
 have e2:=CI (B:=B) (n:=U) (i:=j+n-2)
 rw[show j+n-2+1=j+n-1 by omega,htop] at e2
 have e3:=CI (B:=B) (n:=V) (i:=n-2)
 rw[show n-2+1=n-1 by omega, ←hv1, ←hv2] at e3
 have hm:0<B^(n-2):=Nat.pow_pos (by omega)
 have hV:(v1*B+v2)*B^(n-2)≤V:=by rw[←e3];exact Nat.div_mul_le_self ..
 refine ON (Pw (m:=B^(n-2)) hV hm (top:=U/B^(j+n-2)) ?_ ?_)
 ·rw[Nat.div_div_eq_div_mul, ←Nat.pow_add,show j+(n-2)=j+n-2 by omega]
 ·rw[e2,Nat.mul_add,Nat.add_mul,Nat.mul_assoc]
  omega
theorem Qj {U V B j n v1:Nat} (hn:2≤n) (hB:2≤B) (hv1:v1=V/B^(n-1)) (h1:0<v1):U/B^j/V≤U/B^(j+n-1)/v1:=by
 rcases Nat.lt_or_ge (U/B^(j+n-1)/v1) (U/B^j/V) with h|h
 ·exfalso
  have hm:0<B^(n-1):=Nat.pow_pos (by omega)
  have hV:v1*B^(n-1)≤V:=by rw[hv1];exact Nat.div_mul_le_self ..
  have h2:U/B^(j+n-1)<U/B^j/V*v1:=Nat.lt_mul_of_div_lt h h1
  have h3:=ON (Pw hV hm (top:=U/B^(j+n-1)) (W:=U/B^j) (q:=U/B^j/V) (by rw[Nat.div_div_eq_div_mul, ←Nat.pow_add,show j+(n-1)=j+n-1 by omega]) h2)
  omega
 ·exact h
theorem JV (W:World) (p q:Option Addr) (cap cap2 j:Nat) (u v:List Nat) (hA:Ar W p u) (hB:Ar W q v) (hub: ∀y∈u,y<bs) (hvb: ∀y∈v,y<bs) (hn:2≤v.length) (hju:j+v.length<u.length) (hl:u.length≤1000000)
  (hU:lv bs u<lv bs v*bs^(j+1)) (hv1:499999999≤lv bs v/bs^(v.length-1)):
  Ad Tryz.prog 267 #[slv p u.length cap,slv q v.length cap2, .int .i64 (j:Nat)] W (fun x:Nat=> .int .i64 (x:Nat)) (fun x=>lv bs u/bs^j/lv bs v≤x∧x≤2100000000) (fun _=>[]):=by
 obtain⟨n,hn'⟩: ∃n,v.length=n:=⟨_,rfl⟩
 obtain⟨U,hU'⟩: ∃x,lv bs u=x:=⟨_,rfl⟩
 obtain⟨V,hV'⟩: ∃x,lv bs v=x:=⟨_,rfl⟩
 have hVlt:=DV bs2 hvb
 rw[hn',hV'] at hVlt
 rw[hn'] at hn hju hv1
 rw[hU',hV'] at hU
 rw[hV'] at hv1
 have hUlt:U<bs^(j+n+1):=by
  have h1:V*bs^(j+1)≤bs^n*bs^(j+1):=Nat.mul_le_mul_right _ (by omega)
  rw[←Nat.pow_add,show n+(j+1)=j+n+1 by omega] at h1
  omega
 obtain⟨hd1,hd2⟩:=SQ hn hUlt
 obtain⟨top,htop⟩: ∃t,U/bs^(j+n-1)=t:=⟨_,rfl⟩
 obtain⟨v1,hv1'⟩: ∃t,V/bs^(n-1)=t:=⟨_,rfl⟩
 obtain⟨v2,hv2'⟩: ∃t,V/bs^(n-2)%bs=t:=⟨_,rfl⟩
 obtain⟨u2,hu2'⟩: ∃t,U/bs^(j+n-2)%bs=t:=⟨_,rfl⟩
 obtain⟨u1,hu1'⟩: ∃t,U/bs^(j+n-1)%bs=t:=⟨_,rfl⟩
 obtain⟨u0,hu0'⟩: ∃t,U/bs^(j+n)%bs=t:=⟨_,rfl⟩
 have hu2b:u2<1000000000:=by rw[←hu2'];exact Nat.mod_lt _ (by decide)
 have hu1b:u1<1000000000:=by rw[←hu1'];exact Nat.mod_lt _ (by decide)
 have hu0b:u0<1000000000:=by rw[←hu0'];exact Nat.mod_lt _ (by decide)
 have hv2b:v2<1000000000:=by rw[←hv2'];exact Nat.mod_lt _ (by decide)
 have hv1b:v1<1000000000:=by rw[←hv1'];exact Nat.div_lt_of_lt_mul (by rw[←Nat.pow_succ,show(n-1).succ=n by omega];exact hVlt)
 rw[hv1'] at hv1
 rw[hu0',hu1',htop] at hd1
 have hd1:u0*1000000000+u1=top:=hd1
 have htop18:top<1000000000000000000:=by omega
 have lu: ∀i,i<u.length→lim u i=U/bs^i%bs:=fun i _=>by rw[BK bs2 i hub,hU']
 have lvv: ∀i,lim v i=V/bs^i%bs:=fun i=>by rw[BK bs2 i hvb,hV']
 have lv1:lim v (n-1)=v1:=by
  rw[lvv,hv1',Nat.mod_eq_of_lt hv1b]
 obtain⟨pb,po,rfl,hrow⟩:=hA.row (show j<u.length by omega)
 obtain⟨qb,qo,rfl,hrow2⟩:=hB.row (show 0<v.length by omega)
 have ru0: ∀W' bx,Hp W bx W'→Ao W' pb (po+(j+n)*1) [.int .i64 (u0:Nat)]:=fun W' bx hp=>by have:=(hrow (j+n) (by omega)).hp hp;rwa [lu _ (by omega),hu0'] at this
 have ru1: ∀W' bx,Hp W bx W'→Ao W' pb (po+(j+n-1)*1) [.int .i64 (u1:Nat)]:=fun W' bx hp=>by have:=(hrow (j+n-1) (by omega)).hp hp;rwa [lu _ (by omega),hu1'] at this
 have ru2: ∀W' bx,Hp W bx W'→Ao W' pb (po+(j+n-2)*1) [.int .i64 (u2:Nat)]:=fun W' bx hp=>by have:=(hrow (j+n-2) (by omega)).hp hp;rwa [lu _ (by omega),hu2'] at this
 have rv1: ∀W' bx,Hp W bx W'→Ao W' qb (qo+(n-1)*1) [.int .i64 (v1:Nat)]:=fun W' bx hp=>by have:=(hrow2 (n-1) (by omega)).hp hp;rwa [lv1] at this
 have rv2: ∀W' bx,Hp W bx W'→Ao W' qb (qo+(n-2)*1) [.int .i64 (v2:Nat)]:=fun W' bx hp=>by have:=(hrow2 (n-2) (by omega)).hp hp;rwa [lvv,hv2'] at this
 have hq0:=Qj (U:=U) (V:=V) (B:=bs) (j:=j) hn bs2 hv1'.symm (by omega)
 rw[htop] at hq0
 have hq2:top/v1≤2100000000:=by
  have:top/v1≤top/499999999:=Nat.div_le_div_left hv1 (by decide)
  omega
 have hqB:U/bs^j/V<1000000000:=by
  refine Nat.div_lt_of_lt_mul (Nat.div_lt_of_lt_mul ?_)
  have:bs^j*(V*1000000000)=V*bs^(j+1):=by rw[Nat.pow_succ];show _=V*(bs^j*1000000000);grind
  omega
 refine Ab (args:=[slv (some ⟨pb,po,none⟩) u.length cap,slv (some ⟨qb,qo,none⟩) v.length cap2, .int .i64 (j:Nat)]) Tryz.func267 I I I ?_
 rw[hn']
 refine zA (zB (wP I (Aa (zE (zA (zB (wP I (wP I (wP I (Aa (zE (zA (zU ?_)))))))))))))
 refine qP I (qP I (qP I (qP I (qV 16 ((j+n:Nat):Int) I (AA (by omega)) ?_))))
 refine qJ ?_
 refine qL 0 I I (fun W' hp=>ru0 W' _ hp) I ?_
 iterate 6 refine qP I ?_
 refine qV 24 ((j+n-1:Nat):Int) I (by show w64 (w64 ((j:Int)+n)-1)=_;rw[AA (by omega),Aj (by omega) (by omega)];omega) ?_
 refine qJ ?_
 refine qL 0 I I (fun W' hp=>ru1 W' _ hp) I (qP I (qV 27 (top:Nat) I (by show w64 (w64 ((u0:Int)*((1000000000:Nat):Int))+u1)=_;rw[BB (by omega),AA (by omega),hd1]) (qP I (AM (Aa (zE (zA (zU (qP I (qP I (qP I (qP I (qV 31 ((n-1:Nat):Int) I (by show w64 ((n:Int)-1)=_;rw[Aj (by omega) (by omega)];omega) ?_)))))))))))))
 refine qJ ?_
 refine qL 0 I I (fun W' hp=>rv1 W' _ hp) I ?_
 refine Ha I I I I I (by omega) ?_
 refine qV 34 ((top/v1:Nat):Int) I (by rw[C4];exact Bl (by omega)) (qP I (qP I (qP I (qP I (qV 38 ((n-1:Nat):Int) I (by show w64 ((n:Int)-1)=_;rw[Aj (by omega) (by omega)];omega) ?_)))))
 refine qJ ?_
 refine qL 0 I I (fun W' hp=>rv1 W' _ hp) I ?_
 refine Gj I I I I I (by omega) ?_
 refine qP I (qP I (AM (Aa (A4 ?_))))
 refine Oe (X:=Nat) (fun x=>[(9, .int .i64 (x:Nat))]) (fun _=>[]) (fun x=>U/bs^j/V≤x∧x≤2100000000) ?_ ?_
 ·refine EN ?_
  refine Aw (X:=Nat×Nat) (fun x=>[(0,slv (some ⟨pb,po,none⟩) u.length cap),(1,slv (some ⟨qb,qo,none⟩) n cap2),(2, .int .i64 (j:Nat)),(7, .int .i64 (n:Nat)),(9, .int .i64 (x.1:Nat)),(10, .int .i64 (x.2:Nat))]) (fun _=>[])
   (fun x=>U/bs^j/V≤x.1∧x.1≤2100000000∧top=x.1*v1+x.2∧x.2<1000000000) (fun x=>x.1) (top/v1,top%v1) ⟨hq0,hq2,by show top=top/v1*v1+top%v1;rw[Nat.mul_comm];exact(Nat.div_add_mod top v1).symm,by have:=Nat.mod_lt top (show v1>0 by omega);show top%v1<_;omega⟩ ⟨rfl,rfl,rfl,rfl,rfl,rfl,trivial⟩ [] rfl ?_
  rintro⟨x,rr⟩ ⟨hx1,hx2,hx3,hx4⟩
  have hx1:U/bs^j/V≤x:=hx1
  have hx2:x≤2100000000:=hx2
  have hx3:top=x*v1+rr:=hx3
  have hx4:rr<1000000000:=hx4
  refine zA (zA (zU (qP I (qP I ?_))))
  by_cases hc1:1000000000≤x
  ·refine qU 43 true I (dT (by omega)) (qP I ?_)
   iterate 22 refine PF I I ?_
   refine qP I (AM (Aa (zE (zR I (zI (zE (zH (zA (zU ?_)))))))))
   iterate 6 refine qP I ?_
   refine qV 73 ((n-1:Nat):Int) I (by show w64 ((n:Int)-1)=_;rw[Aj (by omega) (by omega)];omega) ?_
   refine qJ ?_
   refine qL 0 I I (fun W' hp=>rv1 W' _ hp) I (qP I (qP I (qP I (qV 9 ((x-1:Nat):Int) I (by show w64 ((x:Int)-1)=_;rw[Aj (by omega) (by omega)];omega) (qV 10 ((rr+v1:Nat):Int) I (AA (by omega)) (AM (Aa (zE (zA (zB (wP I (wP I (Aa ?_)))))))))))))
   refine zE ?_
   have hx5:x*v1=(x-1)*v1+v1:=by rw[←Nat.succ_mul];congr 1;omega
   refine Ai I (fun hc=> ?_) (fun hc=> ?_)
   ·exact zJ (zM I (zK (zL (Ah (x-1) ⟨by omega,by omega⟩ ⟨I,O⟩ [] I))))
   ·have hc':rr+v1<1000000000:=by
     have h':decide (((rr+v1:Nat):Int)≥1000000000)=false:=hc
     rw[decide_eq_false_iff_not] at h';omega
    exact zI (zN (Ak (x-1,rr+v1) ⟨by show _≤x-1;omega,by show x-1≤_;omega,by show top=(x-1)*v1+(rr+v1);omega,hc'⟩ (by show x-1<x;omega) ⟨I,I,I,I,I,I,O⟩ [] I))
  ·refine qU 43 false I (dF (by omega)) ?_
   have hxv:x*v2≤999999999*999999999:=Nat.mul_le_mul (by omega) (by omega)
   refine qP I (qP I (qP I (qU 46 true I (dT (by omega)) ?_)))
   iterate 5 refine qP I ?_
   refine qV 51 ((n-2:Nat):Int) I (by show w64 ((n:Int)-2)=_;rw[Aj (by omega) (by omega)];omega) ?_
   refine qJ ?_
   refine qL 0 I I (fun W' hp=>rv2 W' _ hp) I ?_
   iterate 8 refine qP I ?_
   refine qV 61 ((j+n-2:Nat):Int) I (by show w64 (w64 ((j:Int)+n)-2)=_;rw[AA (by omega),Aj (by omega) (by omega)];omega) ?_
   refine qJ ?_
   refine qL 0 I I (fun W' hp=>ru2 W' _ hp) I (qP I (qP I ?_))
   refine GX 65 (.bool (decide (x*v2>rr*1000000000+u2))) I (congrArg Value.bool (by
    show decide (w64 ((x:Int)*v2)>w64 (w64 ((rr:Int)*((1000000000:Nat):Int))+u2))=_
    rw[BB (by omega),BB (by omega),AA (by omega)]
    exact decide_eq_decide.2 (by omega))) ?_
   refine qP I (qP I (AM (Aa (zE ?_))))
   refine Ai I (fun hc=> ?_) (fun hc=> ?_)
   ·have hc':x*v2>rr*1000000000+u2:=of_decide_eq_true hc
    have hlt:=Rw (U:=U) (V:=V) (B:=bs) (j:=j) (q:=x) (r:=rr) hn bs2 hv1'.symm hv2'.symm (by rw[htop,hx3]) (by rw[hu2'];exact hc')
    have hx0:0<x:=Nat.lt_of_le_of_lt (Nat.zero_le _) hlt
    refine zI (zE (zH (zA (zU ?_))))
    iterate 6 refine qP I ?_
    refine qV 73 ((n-1:Nat):Int) I (by show w64 ((n:Int)-1)=_;rw[Aj (by omega) (by omega)];omega) ?_
    refine qJ ?_
    refine qL 0 I I (fun W' hp=>rv1 W' _ hp) I (qP I (qP I (qP I (qV 9 ((x-1:Nat):Int) I (by show w64 ((x:Int)-1)=_;rw[Aj (by omega) (by omega)];omega) (qV 10 ((rr+v1:Nat):Int) I (AA (by omega)) (AM (Aa (zE (zA (zB (wP I (wP I (Aa ?_)))))))))))))
    refine zE ?_
    have hx5:x*v1=(x-1)*v1+v1:=by rw[←Nat.succ_mul];congr 1;omega
    refine Ai I (fun hc2=> ?_) (fun hc2=> ?_)
    ·exact zJ (zM I (zK (zL (Ah (x-1) ⟨by omega,by omega⟩ ⟨I,O⟩ [] I))))
    ·have hc':rr+v1<1000000000:=by
      have h':decide (((rr+v1:Nat):Int)≥1000000000)=false:=hc2
      rw[decide_eq_false_iff_not] at h';omega
     exact zI (zN (Ak (x-1,rr+v1) ⟨by show _≤x-1;omega,by show x-1≤_;omega,by show top=(x-1)*v1+(rr+v1);omega,hc'⟩ (by show x-1<x;omega) ⟨I,I,I,I,I,I,O⟩ [] I))
   ·exact zJ (zK (zK (zL (Ah x ⟨hx1,hx2⟩ ⟨I,O⟩ [] I))))
 ·rintro x hx
  refine zA (zB (wP I (wP I (Aa (zE (zO ?_))))))
  rw[hU',hV']
  exact AE tH I (.tmp I) x I hx fun W _=>A0.nil _ _
-- BOXES 2
theorem Ml {W W1:World} {g b off:Nat} {c:List Value} {l:List Bx} (h:Ao W b off c) (hne:b≠g) (hp:Hp (Bg W) (Ba (Av W g)::l) W1):Ao W1 b off c:=by
 have hm:(b,W.heap[b]'h.lt)∈Av W g:=CH.2 ⟨hne,Array.getElem?_eq_getElem h.lt⟩
 have h1:=hp.own.cell 0 _ rfl (b,W.heap[b]'h.lt) hm
 have e:W1.heap[b]? =W.heap[b]? :=by rw[h1.1,Array.getElem?_eq_getElem h.lt]
 refine⟨(Array.getElem?_eq_some_iff.1 h1.1).1,fun j u hu=> ?_⟩
 have h2:=h.get j u hu
 unfold World.cell? at h2⊢
 simp only at h2⊢
 rw[e]
 exact h2
theorem Ar.others {W W1:World} {g:Nat} {q:Option Addr} {v:List Nat} {l:List Bx} (h:Ar W q v) (hne: ∀b off,q=some ⟨b,off,none⟩→b≠g) (hp:Hp (Bg W) (Ba (Av W g)::l) W1):Ar W1 q v:=by
 rcases h with h|⟨b,off,h1,h2⟩
 ·exact .inl h
 ·exact .inr ⟨b,off,h1,Ml h2 (hne b off h1) hp⟩
structure Qp (u v:List Nat) (j x:Nat) (y:List Nat×Nat):Prop where
 len:y.1.length=u.length
 lt: ∀z∈y.1,z<bs
 val:lv bs y.1+bs^j*(x*lv bs v)=lv bs u+bs^(j+(v.length+1))*y.2
 drop:y.1.drop (j+(v.length+1))=u.drop (j+(v.length+1))
structure SV (u v:List Nat) (j x:Nat) (y:List Nat×Nat):Prop where
 len:y.1.length=u.length
 lt: ∀z∈y.1,z<bs
 val:lv bs y.1+bs^(j+(v.length+1))*y.2=lv bs u+bs^j*(x*lv bs v)
 drop:y.1.drop (j+(v.length+1))=u.drop (j+(v.length+1))
theorem Qy {u v:List Nat} {j x:Nat} {y z:List Nat×Nat} (hu: ∀a∈u,a<bs) (h1:Qp u v j x y) (h2:SV y.1 v j x z):z.1=u:=by
 have hv:lv bs z.1+bs^(j+(v.length+1))*z.2=lv bs u+bs^(j+(v.length+1))*y.2:=h2.val.trans h1.val
 have hm:=congrArg (· %bs^(j+(v.length+1))) hv
 simp only[Nat.add_mul_mod_self_left] at hm
 rw[←Mf bs2 h2.lt, ←Mf bs2 hu] at hm
 have ht:=Tp bs2 (fun a ha=>h2.lt a (List.mem_of_mem_take ha)) (fun a ha=>hu a (List.mem_of_mem_take ha)) (by rw[List.length_take,List.length_take,h2.len,h1.len]) hm
 rw[←List.take_append_drop (j+(v.length+1)) z.1,ht,h2.drop,h1.drop,List.take_append_drop]
theorem S7 {u v:List Nat} {j x:Nat} {y:List Nat×Nat} (h:Qp u v j x y) (h0:y.2=0):lv bs y.1+bs^j*(x*lv bs v)=lv bs u:=by
 have:=h.val
 rw[h0,Nat.mul_zero] at this
 exact this
theorem Rn {u v:List Nat} {j x:Nat} {y:List Nat×Nat} (hu: ∀a∈u,a<bs) (h:Qp u v j x y) (h0:0<y.2) (hU:lv bs u<bs^(j+(v.length+1))):lv bs u/bs^j/lv bs v<x:=by
 obtain⟨m,hm⟩: ∃m,m=j+(v.length+1):=⟨_,rfl⟩
 have hval:=h.val
 have hdrop:=h.drop
 rw[←hm] at hval hdrop hU
 have e1:lv bs y.1=lv bs (y.1.take m)+bs^(y.1.take m).length*lv bs (y.1.drop m):=by rw[←DM,List.take_append_drop]
 have e2:lv bs u=lv bs (u.take m)+bs^(u.take m).length*lv bs (u.drop m):=by rw[←DM,List.take_append_drop]
 have el:(y.1.take m).length=(u.take m).length:=by rw[List.length_take,List.length_take,h.len]
 rw[hdrop,el] at e1
 have hy:=DV bs2 (l:=y.1.take m) fun a ha=>h.lt a (List.mem_of_mem_take ha)
 have hlm:bs^(y.1.take m).length≤bs^m:=Nat.pow_le_pow_right (by decide) (by rw[List.length_take];omega)
 have hc:bs^m*1≤bs^m*y.2:=Nat.mul_le_mul_left _ h0
 refine ON (Nat.div_lt_of_lt_mul ?_)
 obtain⟨A,hA⟩: ∃A,bs^(u.take m).length*lv bs (u.drop m)=A:=⟨_,rfl⟩
 have e3:lv bs (u.take m)=lv bs u:=by rw[Mf bs2 hu,Nat.mod_eq_of_lt hU]
 rw[hA] at e1 e2
 omega
theorem OI (W:World) (g cap cap2 j x:Nat) (junk:List Value) (q:Option Addr) (u v:List Nat) (hg:W.heap[g]? =some (.cells (nI u++junk).toArray 3 (0,0))) (hB:Ar W q v) (hne: ∀b off,q=some ⟨b,off,none⟩→b≠g)
  (hub: ∀a∈u,a<bs) (hvb: ∀a∈v,a<bs) (hju:j+v.length<u.length) (hl:u.length≤1000000) (hx:x≤2100000000):
  Calls Tryz.prog 268 #[slv (some ⟨g,0,none⟩) u.length cap,slv q v.length cap2, .int .i64 (j:Nat), .int .i64 (x:Nat)] W fun e W'=> ∃y:List Nat×Nat,e= .returned ((fun y:List Nat×Nat=> .bool (decide ((y.2:Int)>0))) y)∧Qp u v j x y∧II W W' g ((fun _=>g) y) ((fun y:List Nat×Nat=> .cells (nI y.1++junk).toArray 3 (0,0)) y):=by
 have key:Calls Tryz.prog 268 [slv (some ⟨g,0,none⟩) u.length cap,slv q v.length cap2, .int .i64 (j:Nat), .int .i64 (x:Nat)].toArray W fun e W'=> ∃y:List Nat×Nat,e= .returned ((fun y:List Nat×Nat=> .bool (decide ((y.2:Int)>0))) y)∧Qp u v j x y∧Below (Bg W).heap.size (Bg W) W'∧A0 (Bg W) W' ((fun y:List Nat×Nat=>[Ba (Av W g),⟨g,3,nI y.1++junk,true,none⟩]) y):=by
  refine Bm (X:=List Nat×Nat) (val:=fun y=> .bool (decide ((y.2:Int)>0))) (Φ:=Qp u v j x) (nb:=fun y=>[Ba (Av W g),⟨g,3,nI y.1++junk,true,none⟩]) (Hp.enterT (B:=⟨g,3,nI u++junk,true,none⟩) I hg) Tryz.func268 I I I ?_
  obtain⟨n,hn⟩: ∃n,v.length=n:=⟨_,rfl⟩
  rw[hn] at hju⊢
  have hVn:lv bs v<bs^(n+1):=by
   have h1:=DV bs2 hvb
   rw[hn] at h1
   exact Nat.lt_of_lt_of_le h1 (Nat.pow_le_pow_right (by decide) (by omega))
  refine zA (zB (wP I (Aa (zE (zA (zB (wP I (Aa (zE (zA (zA (zB (wP I (wP I (wP I ?_)))))))))))))))
  refine wV 14 ((n+1:Nat):Int) I (An (by omega)) (wP I (Aa (zE (zH ?_))))
  refine Aw (X:=Nat×List Nat×Nat) (fun y=>[(0,slv (some ⟨g,0,none⟩) u.length cap),(1,slv q n cap2),(2, .int .i64 (j:Nat)),(3, .int .i64 (x:Nat)),(9, .int .i64 (y.2.2:Nat)),(14, .int .i64 ((n+1:Nat):Int)),(15, .int .i64 (y.1:Nat))]) (fun y=>[Ba (Av W g),⟨g,3,nI y.2.1++junk,true,none⟩])
   (fun y=>y.1≤n+1∧y.2.1.length=u.length∧(∀a∈y.2.1,a<bs)∧y.2.2≤3000000000∧lv bs y.2.1+bs^j*(x*(lv bs v%bs^y.1))=lv bs u+bs^(j+y.1)*y.2.2∧y.2.1.drop (j+(n+1))=u.drop (j+(n+1))) (fun y=>n+1-y.1) (0,u,0) ⟨Nat.zero_le _,rfl,hub,Nat.zero_le _,by show lv bs u+bs^j*(x*(lv bs v%bs^0))=lv bs u+bs^(j+0)*0;rw[Nat.pow_zero,Nat.mod_one];simp,rfl⟩ ⟨rfl,rfl,rfl,rfl,rfl,rfl,rfl,trivial⟩ [] rfl ?_
  rintro⟨i,l,c⟩ ⟨hi,hll,hlb,hcb,hval,hdr⟩
  have hi:i≤n+1:=hi
  have hll:l.length=u.length:=hll
  have hcb:c≤3000000000:=hcb
  refine zA (zB (wP I (Aa (zE (zA ?_)))))
  refine Ai I (fun hc=> ?_) (fun hc=> ?_)
  ·have hi':i<n+1:=by simp at hc;omega
   clear hc
   have hji:j+i<l.length:=by omega
   obtain⟨o,ho⟩: ∃o,lim l (j+i)=o:=⟨_,rfl⟩
   obtain⟨y,hy⟩: ∃y,lim v i=y:=⟨_,rfl⟩
   have hob:o<1000000000:=by rw[←ho];exact AN bs2 hlb _
   have hyb:y<1000000000:=by rw[←hy];exact AN bs2 hvb _
   have hlo:l[j+i]? =some o:=by rw[Cy hji,ho]
   have hyy:y=lv bs v/bs^i%bs:=by rw[←hy];exact BK bs2 i hvb
   have hxy:x*y≤2100000000*999999999:=Nat.mul_le_mul hx (by omega)
   have exy:(x:Int)*y=((x*y:Nat):Int):=(Int.natCast_mul x y).symm
   obtain⟨xy,hxyv⟩: ∃t,x*y=t:=⟨_,rfl⟩
   rw[hxyv] at hxy exy
   refine zI (zE (zA (zH (zA (zB (wP I (wP I (Aa (zE (zA (zU (qP I (qP I (qP I (qP I ?_)))))))))))))))
   refine qV 21 ((j+i:Nat):Int) I (AA (by omega)) ?_
   refine qJ ?_
   refine qL 0 I I (fun W' hp=>Ao.of_intsX hp 1 I hji ho) I ?_
   iterate 5 refine qP I ?_
   refine qC I I (fun W' hp=>FV W' q cap2 n v i y (hB.others hne hp) hn (by omega) hy) (qP I (qP I (qV 31 ((o:Int)-c-xy) I (by show w64 (w64 ((o:Int)-c)-w64 ((x:Int)*y))=_;rw[exy,Bl (by omega),Aj (x:=(o:Int)-c) (by omega) (by omega),Aj (by omega) (by omega)]) (qP I (AM (Aa (zE (zA (zB (wP I (Aa (zE (zA (zA ?_))))))))))))))
   refine zB (wP I (wP I (Aa (zE ?_))))
   refine A3 (X:=Nat×Nat) (fun z=>[(0,slv (some ⟨g,0,none⟩) u.length cap),(1,slv q n cap2),(2, .int .i64 (j:Nat)),(3, .int .i64 (x:Nat)),(9, .int .i64 (z.1:Nat)),(10, .int .i64 (i:Nat)),(11, .int .i64 ((o:Int)-c-xy)),(14, .int .i64 ((n+1:Nat):Int)),(15, .int .i64 (i:Nat))]) (fun _=>[Ba (Av W g),⟨g,3,nI l++junk,true,none⟩])
    (fun z=>z.2<1000000000∧z.2+c+xy=o+1000000000*z.1∧z.1≤3000000000) ?_ ?_
   ·refine Ai I (fun hc=> ?_) (fun hc=> ?_)
    ·have hc':o<c+xy:=by
      have h':decide ((o:Int)-c-xy<0)=true:=hc
      rw[decide_eq_true_iff] at h';omega
     obtain⟨dd,hdd⟩: ∃t,c+xy-o=t:=⟨_,rfl⟩
     refine zB (wP I (wP I (wP I (wP I ?_))))
     refine Ag 37 (.int .i64 ((dd+999999999:Nat):Int)) I (congrArg (Value.int .i64) (by
      show w64 (w64 (w64 (0-((o:Int)-c-xy))+1000000000)-1)=_
      rw[Aj (x:=0-((o:Int)-c-xy)) (by omega) (by omega),Aj (x:=0-((o:Int)-c-xy)+1000000000) (by omega) (by omega),Aj (by omega) (by omega)]
      omega)) ?_
     refine CG I I I I I (by decide) ?_
     exact wV 38 (((dd+999999999)/1000000000:Nat):Int) I (by show w64 (((dd+999999999:Nat):Int).tdiv ((1000000000:Nat):Int))=_;rw[C4];exact Bl (by omega)) (wP I (Aa (Ah ((dd+999999999)/1000000000,(dd+999999999)/1000000000*1000000000-dd) ⟨by show(dd+999999999)/1000000000*1000000000-dd<_;omega,by show(dd+999999999)/1000000000*1000000000-dd+c+xy=o+1000000000*((dd+999999999)/1000000000);omega,by show(dd+999999999)/1000000000≤_;omega⟩ ⟨I,I,I,I,I,I,I,I,I,O⟩ [] I)))
    ·have hc':c+xy≤o:=by
      have h':decide ((o:Int)-c-xy<0)=false:=hc
      rw[decide_eq_false_iff_not] at h';omega
     exact zI (Ah (0,o-c-xy) ⟨by show o-c-xy<_;omega,by show o-c-xy+c+xy=o+1000000000*0;omega,Nat.zero_le _⟩ ⟨I,I,I,I,I,I,I,I,I,O⟩ [] I)
   ·rintro⟨c',nn⟩ ⟨hn1,hn2,hn3⟩
    have hn1:nn<1000000000:=hn1
    have hn2:nn+c+xy=o+1000000000*c':=hn2
    have hn3:c'≤3000000000:=hn3
    have hstep:=Ql (B:=bs) (n:=nn) (c':=c') hlo hval (by rw[←hyy,hxyv];exact hn2)
    refine zB (wP I (wP I (wP I (wP I (wV 42 ((j+i:Nat):Int) I (AA (by omega)) (wP I (wP I (wP I (wP I ?_)))))))))
    refine Ag 46 (.int .i64 (nn:Nat)) I (congrArg (Value.int .i64) (by
     show w64 (((o:Int)-c-xy)+w64 ((c':Int)*((1000000000:Nat):Int)))=_
     rw[BB (by omega),Aj (by omega) (by omega)]
     omega)) ?_
    refine wJ ?_
    refine A5 1 (nI (l.set (j+i) nn)++junk) tH I I I I I I I I I I (by show 0+(j+i)*1+1≤(nI l++junk).length;rw[List.length_append,Bk];omega) (BP hji nn) ?_
    exact Aa (zN (zE (zB (wP I (wP I (Aa (Ak (i+1,l.set (j+i) nn,c') ⟨hi',by rw[List.length_set];exact hll,Cf hlb hn1,hn3,hstep,by rw[List.drop_set_of_lt (by omega)];exact hdr⟩ (by show n+1-(i+1)<n+1-i;omega) ⟨I,I,I,I,I,I,congrArg (fun z=>some (Value.int .i64 z)) (An (by omega)),O⟩ [] I)))))))
  ·have hi':i=n+1:=by simp at hc;omega
   subst hi'
   have hval:lv bs l+bs^j*(x*(lv bs v%bs^(n+1)))=lv bs u+bs^(j+(n+1))*c:=hval
   rw[Nat.mod_eq_of_lt hVn] at hval
   refine zJ (zK (zK (zL (zE (zA (zB (wP I (wP I (wP I (Aa (zE (zO ?_))))))))))))
   refine AE tH I (.tmp I) (l,c) I ⟨hll,hlb,by rw[hn];exact hval,by rw[hn];exact hdr⟩ fun W1 hp=> ?_
   exact(hp.pick (l:=[Ba (Av W g),⟨g,3,nI l++junk,true,none⟩]) [0,1] (by decide) I).own
 refine key.mono ?_
 rintro e W' ⟨y,he,hy,hb,hn'⟩
 exact⟨y,he,hy,Fz hg I hb hn'⟩
theorem KK (W:World) (g cap cap2 j x:Nat) (junk:List Value) (q:Option Addr) (u v:List Nat) (hg:W.heap[g]? =some (.cells (nI u++junk).toArray 3 (0,0))) (hB:Ar W q v) (hne: ∀b off,q=some ⟨b,off,none⟩→b≠g)
  (hub: ∀a∈u,a<bs) (hvb: ∀a∈v,a<bs) (hju:j+v.length<u.length) (hl:u.length≤1000000) (hx:x≤2100000000):
  Calls Tryz.prog 269 #[slv (some ⟨g,0,none⟩) u.length cap,slv q v.length cap2, .int .i64 (j:Nat), .int .i64 (x:Nat)] W fun e W'=> ∃y:List Nat×Nat,e= .returned ((fun _:List Nat×Nat=>slv (some ⟨g,0,none⟩) u.length cap) y)∧SV u v j x y∧II W W' g ((fun _=>g) y) ((fun y:List Nat×Nat=> .cells (nI y.1++junk).toArray 3 (0,0)) y):=by
 have key:Calls Tryz.prog 269 [slv (some ⟨g,0,none⟩) u.length cap,slv q v.length cap2, .int .i64 (j:Nat), .int .i64 (x:Nat)].toArray W fun e W'=> ∃y:List Nat×Nat,e= .returned ((fun _:List Nat×Nat=>slv (some ⟨g,0,none⟩) u.length cap) y)∧SV u v j x y∧Below (Bg W).heap.size (Bg W) W'∧A0 (Bg W) W' ((fun y:List Nat×Nat=>[Ba (Av W g),⟨g,3,nI y.1++junk,true,none⟩]) y):=by
  refine Bm (X:=List Nat×Nat) (val:=fun _=>slv (some ⟨g,0,none⟩) u.length cap) (Φ:=SV u v j x) (nb:=fun y=>[Ba (Av W g),⟨g,3,nI y.1++junk,true,none⟩]) (Hp.enterT (B:=⟨g,3,nI u++junk,true,none⟩) I hg) Tryz.func269 I I I ?_
  obtain⟨n,hn⟩: ∃n,v.length=n:=⟨_,rfl⟩
  rw[hn] at hju⊢
  have hVn:lv bs v<bs^(n+1):=by
   have h1:=DV bs2 hvb
   rw[hn] at h1
   exact Nat.lt_of_lt_of_le h1 (Nat.pow_le_pow_right (by decide) (by omega))
  refine zA (zB (wP I (Aa (zE (zA (zB (wP I (Aa (zE (zA (zA (zB (wP I (wP I (wP I ?_)))))))))))))))
  refine wV 14 ((n+1:Nat):Int) I (An (by omega)) (wP I (Aa (zE (zH ?_))))
  refine Aw (X:=Nat×List Nat×Nat) (fun y=>[(0,slv (some ⟨g,0,none⟩) u.length cap),(1,slv q n cap2),(2, .int .i64 (j:Nat)),(3, .int .i64 (x:Nat)),(9, .int .i64 (y.2.2:Nat)),(14, .int .i64 ((n+1:Nat):Int)),(15, .int .i64 (y.1:Nat))]) (fun y=>[Ba (Av W g),⟨g,3,nI y.2.1++junk,true,none⟩])
   (fun y=>y.1≤n+1∧y.2.1.length=u.length∧(∀a∈y.2.1,a<bs)∧y.2.2≤3000000000∧lv bs y.2.1+bs^(j+y.1)*y.2.2=lv bs u+bs^j*(x*(lv bs v%bs^y.1))∧y.2.1.drop (j+(n+1))=u.drop (j+(n+1))) (fun y=>n+1-y.1) (0,u,0) ⟨Nat.zero_le _,rfl,hub,Nat.zero_le _,by show lv bs u+bs^(j+0)*0=lv bs u+bs^j*(x*(lv bs v%bs^0));rw[Nat.pow_zero,Nat.mod_one];simp,rfl⟩ ⟨rfl,rfl,rfl,rfl,rfl,rfl,rfl,trivial⟩ [] rfl ?_
  rintro⟨i,l,c⟩ ⟨hi,hll,hlb,hcb,hval,hdr⟩
  have hi:i≤n+1:=hi
  have hll:l.length=u.length:=hll
  have hcb:c≤3000000000:=hcb
  refine zA (zB (wP I (Aa (zE (zA ?_)))))
  refine Ai I (fun hc=> ?_) (fun hc=> ?_)
  ·have hi':i<n+1:=by simp at hc;omega
   clear hc
   have hji:j+i<l.length:=by omega
   obtain⟨o,ho⟩: ∃o,lim l (j+i)=o:=⟨_,rfl⟩
   obtain⟨y,hy⟩: ∃y,lim v i=y:=⟨_,rfl⟩
   have hob:o<1000000000:=by rw[←ho];exact AN bs2 hlb _
   have hyb:y<1000000000:=by rw[←hy];exact AN bs2 hvb _
   have hlo:l[j+i]? =some o:=by rw[Cy hji,ho]
   have hyy:y=lv bs v/bs^i%bs:=by rw[←hy];exact BK bs2 i hvb
   have hxy:x*y≤2100000000*999999999:=Nat.mul_le_mul hx (by omega)
   obtain⟨nn,hnn⟩: ∃t,t=o+x*y+c:=⟨_,rfl⟩
   have hstep:=GQ (B:=bs) (n:=nn) hlo hval (by rw[←hyy];exact hnn)
   have hn3:nn/1000000000≤3000000000:=by omega
   refine zI (zE (zA (zH (zA (zB (wP I (wP I (Aa (zE (zA (zU (qP I (qP I (qP I (qP I ?_)))))))))))))))
   refine qV 21 ((j+i:Nat):Int) I (AA (by omega)) ?_
   refine qJ ?_
   refine qL 0 I I (fun W' hp=>Ao.of_intsX hp 1 I hji ho) I (qP I (qP I (qP I (qC I I (fun W' hp=>FV W' q cap2 n v i y (hB.others hne hp) hn (by omega) hy) (qP I (qP I (qP I (qP I (qV 31 (nn:Nat) I (by show w64 (w64 ((o:Int)+w64 ((x:Int)*y))+c)=_;rw[BB (by omega),AA (by omega),AA (by omega),hnn]) (qP I (AM (Aa (zE ?_)))))))))))))
   refine zB (wP I (wP I (wP I (wP I (wV 35 ((j+i:Nat):Int) I (AA (by omega)) (wP I ?_))))))
   refine Fh I I I I I (by decide) ?_
   refine wP I ?_
   refine CG I I I I I (by decide) ?_
   refine wV 39 ((nn/bs:Nat):Int) I (by show w64 ((nn:Int).tdiv ((bs:Nat):Int))=_;rw[C4];exact Bl (Nat.lt_of_le_of_lt hn3 (by decide))) ?_
   refine wJ ?_
   refine A5 1 (nI (l.set (j+i) (nn%bs))++junk) tH I I I I I I I I I I (by show 0+(j+i)*1+1≤(nI l++junk).length;rw[List.length_append,Bk];omega) (BP hji (nn%bs)) ?_
   exact wP I (Aa (zN (zE (zB (wP I (wP I (Aa (Ak (i+1,l.set (j+i) (nn%bs),nn/bs) ⟨hi',by rw[List.length_set];exact hll,Cf hlb (Nat.mod_lt _ (by decide)),hn3,hstep,by rw[List.drop_set_of_lt (by omega)];exact hdr⟩ (by show n+1-(i+1)<n+1-i;omega) ⟨I,I,I,I,I,I,congrArg (fun z=>some (Value.int .i64 z)) (An (by omega)),O⟩ [] I))))))))
  ·have hi':i=n+1:=by simp at hc;omega
   subst hi'
   have hval:lv bs l+bs^(j+(n+1))*c=lv bs u+bs^j*(x*(lv bs v%bs^(n+1))):=hval
   rw[Nat.mod_eq_of_lt hVn] at hval
   refine zJ (zK (zK (zL (zE (zA (zB (wP I (wP I (Aa (zE (zO ?_)))))))))))
   refine AE tH I (.tmp I) (l,c) I ⟨hll,hlb,by rw[hn];exact hval,by rw[hn];exact hdr⟩ fun W1 hp=> ?_
   exact(hp.pick (l:=[Ba (Av W g),⟨g,3,nI l++junk,true,none⟩]) [0,1] (by decide) I).own
 refine key.mono ?_
 rintro e W' ⟨y,he,hy,hb,hn'⟩
 exact⟨y,he,hy,Fz hg I hb hn'⟩
-- BOXES 9
theorem SK {f:Nat} (h0:0<f) (h1:f<bs):lbs bs f=[f]:=by
 rw[EQ bs2 (by omega),Nat.mod_eq_of_lt h1,Nat.div_eq_of_lt h1,AF]
theorem Hm {a b:Nat} (h:a≤b):(lbs bs a).length≤(lbs bs b).length:=(Bt bs2).2 (Nat.lt_of_le_of_lt h (A6 bs2 b))
theorem Q5 {t f:Nat} (ht:2≤t) (hf:1≤f) (h:1000000000<f*t+t):499999999≤(t-1)*f:=by
 obtain⟨t',rfl⟩: ∃t',t=t'+2:=⟨t-2,by omega⟩
 obtain⟨f',rfl⟩: ∃f',f=f'+1:=⟨f-1,by omega⟩
 rw[show t'+2-1=t'+1 by omega]
 have e1:(f'+1)*(t'+2)=f'*t'+2*f'+t'+2:=by grind
 have e2:(t'+1)*(f'+1)=f'*t'+f'+t'+1:=by grind
 rw[e1] at h
 rw[e2]
 omega
theorem Sg {b n f:Nat} (hn:(lbs bs b).length=n) (hn1:1≤n) (hf:f=bs/(lim (lbs bs b) (n-1)+1)):1≤f∧f<bs∧(lbs bs (b*f)).length=n∧499999999≤b*f/bs^(n-1):=by
 have hb0:b≠0:=fun e=>by rw[e,AF] at hn;simp at hn;omega
 have h1:=L7 bs2 hb0
 have h2:=A6 bs2 b
 rw[hn] at h1 h2
 have hlt:b/bs^(n-1)<bs:=Nat.div_lt_of_lt_mul (by rw[←Nat.pow_succ,show(n-1).succ=n by omega];exact h2)
 rw[AP bs2,Nat.mod_eq_of_lt hlt] at hf
 obtain⟨m,hm⟩: ∃m,bs^(n-1)=m:=⟨_,rfl⟩
 have hm0:0<m:=by rw[←hm];exact Nat.pow_pos (by decide)
 rw[hm] at h1 hlt hf
 obtain⟨t,ht⟩: ∃t,b/m=t:=⟨_,rfl⟩
 rw[ht] at hlt hf
 have ht1:1≤t:=by rw[←ht];exact Nat.div_pos h1 hm0
 have hbt:b<(t+1)*m:=by rw[←ht];exact Nat.lt_mul_of_div_lt (Nat.lt_succ_self _) hm0
 have hbt2:t*m≤b:=by rw[←ht];exact Nat.div_mul_le_self ..
 have hft:f*(t+1)≤bs:=by rw[hf];exact Nat.div_mul_le_self ..
 have hf1:1≤f:=by rw[hf];exact Nat.div_pos (by omega) (by omega)
 have hfb:f<bs:=by
  have:f*2≤f*(t+1):=Nat.mul_le_mul_left _ (by omega)
  omega
 have hpn:bs^n=bs*m:=by rw[←hm,Nat.mul_comm, ←Nat.pow_succ,show(n-1).succ=n by omega]
 have hu:b*f<bs^n:=by
  have h3:b*f<(t+1)*m*f:=Nat.mul_lt_mul_of_pos_right hbt (by omega)
  have h4:(t+1)*m*f=f*(t+1)*m:=by grind
  have h5:=Nat.mul_le_mul_right m hft
  rw[hpn];omega
 refine⟨hf1,hfb, ?_, ?_⟩
 ·have h3:=(Bt bs2).2 hu
  have h4:=Hm (Nat.le_mul_of_pos_right b hf1)
  omega
 ·rw[hm,Nat.le_div_iff_mul_le hm0]
  have h3:=Nat.lt_succ_of_le (Nat.le_refl (bs/(t+1)))
  have h4:bs<(f+1)*(t+1):=by rw[hf];exact Nat.lt_mul_of_div_lt h3 (by omega)
  have h5:=Q5 (t:=t+1) (f:=f) (by omega) hf1 (by
   have:(f+1)*(t+1)=f*(t+1)+(t+1):=by rw[Nat.add_mul,Nat.one_mul]
   have h9:bs=1000000000:=rfl
   omega)
  rw[Nat.add_sub_cancel] at h5
  have h6:t*m*f≤b*f:=Nat.mul_le_mul_right _ hbt2
  have h7:=Nat.mul_le_mul_right m h5
  have h8:t*f*m=t*m*f:=by grind
  omega
theorem Tq {a b f Q R:Nat} (hf:0<f) (h:a*f=Q*(b*f)+R) (hR:R<b*f):a/b=Q∧R/f=a%b:=by
 have h1:Q*b*f≤a*f:=by rw[h,Nat.mul_assoc];omega
 have h2:Q*b≤a:=Nat.le_of_mul_le_mul_right h1 hf
 obtain⟨r,rfl⟩: ∃r,a=Q*b+r:=⟨a-Q*b,by omega⟩
 have h3:R=r*f:=by
  rw[Nat.add_mul,Nat.mul_assoc] at h
  omega
 subst h3
 have h4:r<b:=Nat.lt_of_mul_lt_mul_right hR
 rw[Nat.mul_div_cancel _ hf]
 have e:Q*b+r=b*Q+r:=by rw[Nat.mul_comm]
 rw[e]
 exact⟨by rw[Nat.mul_add_div (by omega),Nat.div_eq_of_lt h4,Nat.add_zero],by rw[Nat.mul_add_mod,Nat.mod_eq_of_lt h4]⟩
theorem RZ {U V L L' Q x j:Nat} (h:U=Q*V*bs^(j+1)+L) (hx:L/bs^j/V≤x) (hV:0<V) (hL:L'+bs^j*(x*V)=L):U=(bs*Q+x)*V*bs^j+L'∧L'<V*bs^j:=by
 have hp:0<bs^j:=Nat.pow_pos (by decide)
 constructor
 ·rw[h, ←hL,Nat.pow_succ];grind
 ·have h1:L/bs^j<(x+1)*V:=Nat.lt_mul_of_div_lt (Nat.lt_succ_of_le hx) hV
  have h2:L<(x+1)*V*bs^j:=Nat.lt_mul_of_div_lt h1 hp
  have h3:(x+1)*V*bs^j=bs^j*(x*V)+V*bs^j:=by grind
  omega
theorem QC {V L L' x j:Nat} (hL:L'+bs^j*(x*V)=L) (h:L<V*bs^(j+1)):x<bs:=by
 rcases Nat.lt_or_ge x bs with h1|h1
 ·exact h1
 ·have h2:bs^j*(bs*V)≤bs^j*(x*V):=Nat.mul_le_mul_left _ (Nat.mul_le_mul_right _ h1)
  have h3:V*bs^(j+1)=bs^j*(bs*V):=by rw[Nat.pow_succ];grind
  omega
theorem HH (W:World) (p q:Option Addr) (cap a f:Nat) (hA:Ar W p (lbs bs a)) (hF:Ar W q [f]) (hna:(lbs bs a).length≤1000000) (h0:0<f) (h1:f<bs):
  Ad Tryz.prog 190 #[slv p (lbs bs a).length cap,slv q 1 1] W (fun x:NV=>Bb x (lbs bs (a*f)).length) (fun x=>B9 x (lbs bs (a*f))) (fun x=>[Bn x (lbs bs (a*f))]):=by
 have e:=SK h0 h1
 have:=I0 W p q cap 1 a f hA (by rw[e];exact hF) hna (by rw[e];show 1≤1000000;decide)
 rwa [e] at this
structure PU (b:Nat) (p:Option Addr) (cap n k:Nat) (W:World):Prop where
 var:Ao W b 0 [slv p n cap]
 int: ∀b2 off,p=some ⟨b2,off,none⟩→k<n→Ao W b2 (off+(n-1-k)*1) [.int .i64 0]
theorem KC (b b2 off:Nat) (cap n:Nat) (hn:n<4611686018427387904):
  NR Tryz.prog 287 [.pointer (some ⟨b,0,none⟩)] n (fun k=>[.int .i64 ((n-1-k:Nat):Int), .int .i64 0]) (PU b (some ⟨b2,off,none⟩) cap n):=by
 refine⟨fun y J Jx hNeed hdr hY W hJ=> ?_⟩
 refine GS (args:=[.func (.yield y) #[] #[], .pointer (some ⟨b,0,none⟩)]) (J0:=J 0) Tryz.func287 I I I hJ ?_
 refine zA (zB (wL 0 I I (fun W hp=>(hNeed 0 W hp).var) I (wP I (wP I (wV 6 ((n:Int)-1-(0:Nat)) I (by show w64 ((n:Int)-1)=_;rw[Aj (by omega) (by omega)];omega) (wP I (Aa (zE (zH ?_)))))))))
 refine EO (X:=Nat) (fun k=>[(0, .func (.yield y) #[] #[]),(1, .pointer (some ⟨b,0,none⟩)),(3, .int .i64 ((n:Int)-1-(k:Nat)))]) J (fun k=>k≤n) (fun k=>n-k) 0 (Nat.zero_le _) ⟨I,I,I,O⟩ (fun W h=>h) ?_
 intro k hk
 refine zA (zA (zB (wP I (wP I (Aa (zE ?_))))))
 refine Ai I (fun hc=> ?_) (fun hc=> ?_)
 ·have hk':k<n:=by simp at hc;omega
  clear hc
  have e1:(n:Int)-1-(k:Nat)=((n-1-k:Nat):Int):=by omega
  refine zI (zE (zA (zH (zA (zB (wP I (wP I (wV 12 ((n-1-k:Nat):Int) I e1 (wL 0 I I (fun W hp=>(hNeed k W hp).var) I (wP I (wV 14 ((n-1-k:Nat):Int) I e1 ?_)))))))))))
  refine wJ ?_
  refine wL 0 I I (fun W hp=>(hNeed k W hp).int b2 off I hk') I ?_
  refine Jz (A1:=J (k+1)) (A2:=Jx) I I I I I I (fun W hp=>hY k W hk' hp) ?_ ?_
  ·exact wP I (Aa (zE (zS I (zI (zN (zE (zB (wP I (wP I (wP I (Aa (Fb (k+1) hk' (by omega) ⟨I,I,congrArg (fun z=>some (Value.int .i64 z)) (by show w64 ((n:Int)-1-(k:Nat)-1)=_;rw[Aj (by omega) (by omega)];omega),O⟩ (fun W h=>h)))))))))))))
  ·exact wP I (Aa (zE (zR I (zO (zQ (zP (zP (zQ (Fl I (fun W h=>h))))))))))
 ·have hk':k=n:=by simp at hc;omega
  subst hk'
  exact zJ (zK (zK (zL (M5 I fun W h=>h))))
def dvV (p:Option Addr) (cap a b:Nat) (x:Vec×Option NV):Value:= .tuple #[x.1.val (lbs bs (a/b)).length,match x.2 with
 |none=>slv p (lbs bs a).length cap
 |some R=>Bb R (lbs bs (a%b)).length]
def Uh (a b:Nat) (x:Vec×Option NV):Prop:=x.1.OK 1 (lbs bs (a/b)).length (nI (lbs bs (a/b)))∧match x.2 with
 |none=>a<b
 |some R=>B9 R (lbs bs (a%b))
def dvB (a b:Nat) (x:Vec×Option NV):List Bx:=x.1.bx 3 (nI (lbs bs (a/b)))::match x.2 with
 |none=>[]
 |some R=>[Bn R (lbs bs (a%b))]
-- BOXES 9
theorem Sx {l:List Nat} (h: ∀x∈l,x<bs): ∀x∈l++[0],x<bs:=fun x hx=>by
 rcases List.mem_append.1 hx with hx|hx
 ·exact h x hx
 ·rw[List.mem_singleton.1 hx];decide
theorem Sf (l:List Nat):lv bs (l++[0])=lv bs l:=by
 rw[DM]
 show lv bs l+bs^l.length*(0+bs*0)=_
 simp
theorem HK (W:World) (p q:Option Addr) (cap cap2 a b:Nat) (hA:Ar W p (lbs bs a)) (hB:Ar W q (lbs bs b)) (hb:b≠0) (hna:(lbs bs a).length≤100000) (hnb:(lbs bs b).length≤100000):
  Ad Tryz.prog 241 #[slv p (lbs bs a).length cap,slv q (lbs bs b).length cap2] W (dvV p cap a b) (Uh a b) (dvB a b):=by
 refine Ab (args:=[slv p (lbs bs a).length cap,slv q (lbs bs b).length cap2]) Tryz.func241 I I I ?_
 refine zA (zB ?_)
 (refine Ae Tryz.hZ rfl rfl rfl rfl ?_;intro)
 refine wP I (Aa ?_)
 rename_i b4
 refine zE (zA (zA (zB (wP I (wP I ?_)))))
 refine wD (X:=Int) I I (fun W' hp=>GB W' p q cap cap2 a b (hA.hp hp) (hB.hp hp) (by omega) (by omega)) ?_
 intro c hc
 refine wP I (Aa (zE ?_))
 by_cases hab:a<b
 ·refine AK 14 (.bool true) I (congrArg Value.bool (dT (hc.1.2 hab))) ?_
  refine zR I (zA (zB (wP I (wS 0 I I I (wP I (Aa (zE (zO (zP ?_)))))))))
  refine AH tH I (.cell 0 I I I I I) (.tmp I) (Vec.empty,none) I ⟨?_,hab⟩ fun W' hp=> ?_
  ·rw[Nat.div_eq_of_lt hab,AF];exact Vec.OK.empty 1
  ·exact Own.one (fun p hp=>by cases hp) List.nodup_nil
 have hba:b≤a:=by omega
 refine AK 14 (.bool false) I (congrArg Value.bool (dF (fun h=>hab (hc.1.1 h)))) ?_
 refine zS I (zI (zE (zA (zA (zB (wP I (wP I (wP I (Aa (zE ?_))))))))))
 by_cases hone:(lbs bs b).length=1
 ·refine AK 18 (.bool true) I (congrArg Value.bool (by rw[hone];rfl)) ?_
  have hblt:=A6 bs2 b
  rw[hone,Nat.pow_one] at hblt
  obtain⟨qb,qo,rfl,hrow⟩:=hB.row (show 0<(lbs bs b).length by omega)
  have hb0:lim (lbs bs b) 0=b:=by rw[AP bs2,Nat.pow_zero,Nat.div_one,Nat.mod_eq_of_lt hblt]
  have hrb: ∀W' bx,Hp W bx W'→Ao W' qb (qo+0*1) [.int .i64 (b:Nat)]:=fun W' bx hp=>by
   have:=(hrow 0 (by omega)).hp hp
   rwa [hb0] at this
  refine zR I (zA (zB (wP I (wP I ?_))))
  refine wJ ?_
  refine wL 0 I I (fun W' hp=>hrb W' _ hp) I ?_
  refine wD (X:=NV×NV) I I (fun W' hp=>Ex W' p cap a b (hA.hp hp) (by omega) (by omega) hblt) ?_
  rintro⟨V1,V2⟩ ⟨hV1,hV2⟩
  refine wP I (wP I (wS 0 I I I (wP I (Aa (zE (zO (zP ?_)))))))
  refine AH tH I (.cell 0 I I I I I) (.tmp I) (nvV V1,some V2) I ⟨hV1,hV2⟩ fun W' hp=> ?_
  exact(hp.pick (l:=[Bn V1 (lbs bs (a/b)),Bn V2 (lbs bs (a%b))]) [1,2] (by decide) I).own
 obtain⟨n,hn⟩: ∃n,(lbs bs b).length=n:=⟨_,rfl⟩
 have hn0:=Kw hb
 rw[hn] at hone hn0
 refine AK 18 (.bool false) I (congrArg Value.bool (by rw[hn,beq_eq_false_iff_ne];omega)) ?_
 obtain⟨qb,qo,rfl,hrow⟩:=hB.row (show n-1<(lbs bs b).length by omega)
 obtain⟨f,hf⟩: ∃f,f=bs/(lim (lbs bs b) (n-1)+1):=⟨_,rfl⟩
 obtain⟨hf1,hf2,hvn,hnorm⟩:=Sg hn (by omega) hf
 have hbtl:lim (lbs bs b) (n-1)<1000000000:=AN bs2 (AS bs2 b) _
 refine zS I (zI (zE (zA (zB (wP I (wP I (wP I ?_)))))))
 refine Ag 28 (.int .i64 (n:Nat)) I (congrArg (fun n:Nat=>Value.int .i64 (n:Int)) hn) ?_
 refine wP I (wV 29 ((n-1:Nat):Int) I (by show w64 ((n:Int)-1)=_;rw[Aj (by omega) (by omega)];omega) ?_)
 refine wJ ?_
 refine wL 0 I I (fun W' hp=>(hrow (n-1) (by omega)).hp hp) I (wP I (wV 32 ((lim (lbs bs b) (n-1)+1:Nat):Int) I (An (by omega)) ?_))
 refine CG I I I I I (by omega) ?_
 refine wV 33 (f:Nat) I (by show w64 (((bs:Nat):Int).tdiv ((lim (lbs bs b) (n-1)+1:Nat):Int))=_;rw[C4, ←hf];exact Bl (Nat.lt_trans hf2 (by decide))) (wP I (Aa ?_))
 have hF1:a*f≠0:=Nat.mul_ne_zero (by omega) (by omega)
 have hF2:b*f≠0:=Nat.mul_ne_zero hb (by omega)
 refine zE (zA (zB (wP I (wP I ?_))))
 refine Ap Tryz.hZ tH I I I I I I I I I I I fun bF=> ?_
 refine wD (X:=NV) I I (fun W' hp=>HH W' p _ cap a f (hA.hp hp) (Ar.of_bx (l:=[f]) (junk:=[]) hp 1 I) (by omega) hf1 hf2) ?_
 intro V1 hV1
 refine Ap Tryz.hZ tH I I I I I I I I I I I fun bZ=> ?_
 have hua:(lbs bs a).length≤(lbs bs (a*f)).length:=Hm (Nat.le_mul_of_pos_right a hf1)
 have hua2:(lbs bs (a*f)).length≤(lbs bs a).length+1:=(Bt bs2).2 (by
  rw[Nat.pow_succ]
  have h1:=A6 bs2 a
  exact Nat.mul_lt_mul'' h1 hf2)
 obtain⟨M,hM⟩: ∃M,(lbs bs (a*f)).length=M:=⟨_,rfl⟩
 rw[hM] at hua hua2
 refine Cc (V:=nvV V1) (len:=(lbs bs (a*f)).length) (xs:=nI (lbs bs (a*f))) 2 3 Tryz.vec170 (M+1) (nI (lbs bs (a*f)++[0])) I I I I I I I I I I I hV1 I I (by rw[hM]) (GO (lbs bs (a*f)) [0]).symm (by simp only[maxLen];omega) (by omega) I ?_
 intro gu cu ju hVu
 refine wP I (wP I ?_)
 refine Ap Tryz.hZ tH I I I I I I I I I I I fun bG=> ?_
 refine wD (X:=NV) I I (fun W' hp=>HH W' (some ⟨qb,qo,none⟩) _ cap2 b f (hB.hp hp) (Ar.of_bx (l:=[f]) (junk:=[]) hp 4 I) (by omega) hf1 hf2) ?_
 rintro⟨gv,cv,jv⟩ hVv
 (refine Ae Tryz.hZ rfl rfl rfl rfl ?_;intro)
 (refine Ae Tryz.hZ rfl rfl rfl rfl ?_;intro)
 refine wS 6 I I I (wS 7 I I I (Aa ?_))
 rename_i b7 b8
 obtain⟨u0,hu0⟩: ∃l,lbs bs (a*f)++[0]=l:=⟨_,rfl⟩
 obtain⟨v,hv⟩: ∃l,lbs bs (b*f)=l:=⟨_,rfl⟩
 have hul:u0.length=M+1:=by rw[←hu0,List.length_append,hM];rfl
 have hvl:v.length=n:=by rw[←hv];exact hvn
 have hub: ∀x∈u0,x<bs:=by rw[←hu0];exact Sx (AS bs2 _)
 have hvb: ∀x∈v,x<bs:=by rw[←hv];exact AS bs2 _
 have huv:lv bs u0=a*f:=by rw[←hu0,Sf,Io bs2]
 have hvv:lv bs v=b*f:=by rw[←hv];exact Io bs2 _
 have hnM:n≤M:=by
  have:=Hm hba
  omega
 have hcv:v.length≤cv:=by have:=(hVv.cap (by simp)).1;rw[hv] at this;exact this
 rw[hu0,hv]
 rw[hu0] at hVu
 refine zE (zA (zH ?_))
 refine Aw (X:=Unit) (fun _=>[(0,slv p (lbs bs a).length cap),(4,Al b4),(6, .int .i64 (f:Nat)),(7,Al b7),(8,Al b8)]) (fun _=>[⟨b4,170,[.slice none 0 0],true,none⟩,⟨bF,3,[.int .i64 (f:Nat)],true,none⟩,⟨gu,3,nI u0++ju,true,none⟩,⟨bZ,3,[.int .i64 0],true,none⟩,⟨bG,3,[.int .i64 (f:Nat)],true,none⟩,⟨gv,3,nI v++jv,true,none⟩,⟨b7,170,[slv (some ⟨gu,0,none⟩) (M+1) cu],true,none⟩,⟨b8,170,[slv (some ⟨gv,0,none⟩) v.length cv],true,none⟩])
  (fun _=>True) (fun _=>0) () trivial ⟨rfl,rfl,rfl,rfl,rfl,trivial⟩ [] rfl ?_
 intro _ _
 refine zA (zA (zB (wB 6 I I I (wP I (wP I (wP I (wP I (wV 48 (((lbs bs a).length+1:Nat):Int) I (An (by omega)) (wP I (Aa (zE ?_)))))))))))
 refine AK 49 (.bool false) I (congrArg Value.bool (dF (by omega))) ?_
 refine zS I (zJ (zK (zK (zL (zE (zA (zB ?_)))))))
 obtain⟨K,hK⟩: ∃K,K=M+1-n:=⟨_,rfl⟩
 refine wB 6 I I I (wP I (wB 7 I I I (wP I (wP I (wV 57 (K:Nat) I (by show w64 (((M+1:Nat):Int)-(v.length:Nat))=_;rw[hvl,Aj (by omega) (by omega)];omega) ?_)))))
 refine B4 Tryz.vec170 K I I I I I I I (by simp only[maxLen];omega) (by omega) ?_
 intro gq
 have ez:Ck (Value.cells (.int .i64 0)).toList K=nI (List.replicate K 0)++[]:=by rw[List.append_nil];exact DQ K
 rw[ez]
 refine wS 0 I I I (Aa (zE (zA (zA (zB (wB 0 I I I ?_))))))
 refine wD (X:=Nat) I I (fun W _=>CQ _ K K W) ?_
 intro bI _
 refine Aa (zE (zH ?_))
 refine L4 (X:=List Nat×List Nat×Nat) (fun x=>[⟨b4,170,[slv (some ⟨gq,0,none⟩) K K],true,none⟩,⟨bF,3,[.int .i64 (f:Nat)],true,none⟩,⟨gu,3,nI x.2.1++ju,true,none⟩,⟨bZ,3,[.int .i64 0],true,none⟩,⟨bG,3,[.int .i64 (f:Nat)],true,none⟩,⟨gv,3,nI v++jv,true,none⟩,⟨b7,170,[slv (some ⟨gu,0,none⟩) (M+1) cu],true,none⟩,⟨b8,170,[slv (some ⟨gv,0,none⟩) v.length cv],true,none⟩,⟨gq,3,nI x.1++[],true,none⟩,⟨bI,170,[slv (some ⟨gq,0,none⟩) K K],true,none⟩])
  (fun k x=>(x.1.length=K∧(∀y∈x.1,y<bs)∧lv bs x.1=bs^(K-k)*x.2.2)∧x.2.1.length=M+1∧(∀y∈x.2.1,y<bs)∧a*f=x.2.2*(b*f)*bs^(K-k)+lv bs x.2.1∧lv bs x.2.1<b*f*bs^(K-k)) (fun _ _=>False) (List.replicate K 0,u0,0) rfl (by kernel_rfl) (KC bI gq 0 K K (by omega)) (fun _=>rfl)
  ⟨⟨List.length_replicate,Ga (by decide) K,by rw[Dx];show 0=bs^(K-0)*0;rw[Nat.mul_zero]⟩,hul,hub,by show a*f=0*(b*f)*bs^(K-0)+lv bs u0;rw[huv];omega, ?_⟩ [] rfl ?_ ?_ ?_ (fun _ _ _ _ _ h=>h.elim)
 ·show lv bs u0<b*f*bs^(K-0)
  have h1:=A6 bs2 (a*f)
  have h2:=L7 bs2 hF2
  rw[hM] at h1
  rw[hvn] at h2
  have h3:bs^(n-1)*bs^K≤b*f*bs^K:=Nat.mul_le_mul_right _ h2
  rw[←Nat.pow_add,show n-1+K=M by omega] at h3
  rw[huv,Nat.sub_zero];omega
 ·rintro k ⟨ql,ul,Q⟩ W' ⟨⟨hql,hqb,hqv⟩,_⟩ hp
  have hql:ql.length=K:=hql
  have hqv:lv bs ql=bs^(K-k)*Q:=hqv
  refine⟨Ao.of_bx hp 9 I I,fun b2 off e hk=> ?_⟩
  cases e
  refine Ao.of_intsX hp 8 I (by omega) ?_
  rw[BK bs2 _ hqb,hqv,show K-k=K-1-k+1 by omega,Nat.pow_succ,Nat.mul_assoc,Nat.mul_div_cancel_left _ (Nat.pow_pos (by decide)),Nat.mul_mod_right]
 ·rintro k ⟨ql,ul,Q⟩ d Lo rec hk ⟨⟨hql,hqb,hqv⟩,hull,hulb,hU,hUs⟩ hrec
  have hql:ql.length=K:=hql
  have hqv:lv bs ql=bs^(K-k)*Q:=hqv
  have hull:ul.length=M+1:=hull
  have hU:a*f=Q*(b*f)*bs^(K-k)+lv bs ul:=hU
  have hUs:lv bs ul<b*f*bs^(K-k):=hUs
  have hulb: ∀y∈ul,y<bs:=hulb
  have hqb: ∀y∈ql,y<bs:=hqb
  obtain⟨j,hj⟩: ∃j,K-1-k=j:=⟨_,rfl⟩
  have hjK:j<ql.length:=by omega
  rw[show K-k=j+1 by omega] at hqv hU hUs
  have hju:j+v.length<ul.length:=by omega
  have hUm:lv bs ul<bs^(j+(v.length+1)):=by
   have h1:=DV bs2 hvb
   rw[hvv] at h1
   have h2:b*f*bs^(j+1)≤bs^v.length*bs^(j+1):=Nat.mul_le_mul_right _ (by omega)
   rw[←Nat.pow_add,show v.length+(j+1)=j+(v.length+1) by omega] at h2
   omega
  refine zB (wP I (Aa ?_))
  refine FU 11 hrec I ?_
  refine AK 9 (.int .i64 (j:Nat)) I (by rw[hj]) ?_
  refine zH (zA (zB (wB 6 I I I (wB 7 I I I (wP I ?_)))))
  refine Ag 63 (slv (some ⟨gu,0,none⟩) ul.length cu) I (by rw[hull]) ?_
  refine wD (X:=Nat) I I (fun W' hp=>JV W' _ _ cu cv j ul v (Ar.of_bx hp 2 I) (Ar.of_bx hp 5 I) hulb hvb (by omega) hju (by omega) (by rw[hvv];exact hUs) (by rw[hvv,hvl];exact hnorm)) ?_
  rintro x0 ⟨hx0,hx0b⟩
  rw[List.append_nil]
  refine wP I (Aa (zE (zA (zH ?_))))
  refine Aw (X:=Nat) (fun x=>[(7,Al b7),(8,Al b8),(4,Al b4),(9, .int .i64 (j:Nat)),(10, .int .i64 (x:Nat))]) (fun _=>[⟨b4,170,[slv (some ⟨gq,0,none⟩) K K],true,none⟩,⟨bF,3,[.int .i64 (f:Nat)],true,none⟩,⟨gu,3,nI ul++ju,true,none⟩,⟨bZ,3,[.int .i64 0],true,none⟩,⟨bG,3,[.int .i64 (f:Nat)],true,none⟩,⟨gv,3,nI v++jv,true,none⟩,⟨b7,170,[slv (some ⟨gu,0,none⟩) (M+1) cu],true,none⟩,⟨b8,170,[slv (some ⟨gv,0,none⟩) v.length cv],true,none⟩,⟨gq,3,nI ql++[],true,none⟩,⟨bI,170,[slv (some ⟨gq,0,none⟩) K K],true,none⟩,Dk d,BX Lo rec .busy none])
   (fun x=>lv bs ul/bs^j/lv bs v≤x∧x≤2100000000) (fun x=>x) x0 ⟨hx0,hx0b⟩ ⟨rfl,rfl,rfl,rfl,rfl,trivial⟩ [] rfl ?_
  rintro x ⟨hx1,hx2⟩
  have hgv: ∀W' bx,Hp W bx W'→nth bx 2=some (⟨gu,3,nI ul++ju,true,none⟩:Bx)→nth bx 5=some (⟨gv,3,nI v++jv,true,none⟩:Bx)→gv≠gu:=fun W' bx hp h2 h5=>by
   rw[AX] at h2 h5
   exact hp.own.apart 5 2 _ _ h5 h2 (by decide) (gv,_) (List.mem_cons_self ..) (gu,_) (List.mem_cons_self ..)
  refine zA (zA (zB (wB 6 I I I (wB 7 I I I (wP I (wP I ?_))))))
  refine Ag 67 (slv (some ⟨gu,0,none⟩) ul.length cu) I (by rw[hull]) ?_
  refine AT (X:=List Nat×Nat) (L1:=[]) (L2:=[]) (capt:=[]) 2 (fun y=>⟨gu,3,nI y.1++ju,true,none⟩) rfl rfl rfl rfl rfl rfl (by kernel_rfl) rfl rfl (fun _ _=>rfl) (fun W' hp=>OI W' gu cu cv j x ju (some ⟨gv,0,none⟩) ul v (hp.at_ 2 _ rfl rfl).1 (Ar.of_bx hp 5 rfl) (fun b off e=>by cases e;exact hgv W' _ hp rfl rfl) hulb hvb hju (by omega) hx2) ?_
  rintro⟨ul1,c1⟩ hT1
  refine Aa (zE ?_)
  refine Ai I (fun hc1=> ?_) (fun hc1=> ?_)
  ·have hc1':0<c1:=by
    have h':decide ((c1:Int)>0)=true:=hc1
    rw[decide_eq_true_iff] at h';omega
   have hfar:=Rn hulb hT1 hc1' hUm
   have hl1:ul1.length=ul.length:=hT1.len
   refine zI (zE (zH (zA (zB (wB 6 I I I (wB 7 I I I (wP I (wP I ?_))))))))
   refine Ag 72 (slv (some ⟨gu,0,none⟩) ul1.length cu) I (by rw[hl1,hull]) ?_
   refine AT (X:=List Nat×Nat) (L1:=[]) (L2:=[]) (capt:=[]) 2 (fun y=>⟨gu,3,nI y.1++ju,true,none⟩) I I I I I I (by kernel_rfl) I I (fun _ _=>rfl) (fun W' hp=>KK W' gu cu cv j x ju (some ⟨gv,0,none⟩) ul1 v (hp.at_ 2 _ I I).1 (Ar.of_bx hp 5 I) (fun b off e=>by
    cases e
    exact hp.own.apart 5 2 _ _ I I (by decide) (gv,_) (List.mem_cons_self ..) (gu,_) (List.mem_cons_self ..)) hT1.lt hvb (by omega) (by omega) hx2) ?_
   rintro⟨ul2,c2⟩ hT2
   have e2:=Qy hulb hT1 hT2
   have e2':ul2=ul:=e2
   subst e2'
   refine Ag 76 (slv (some ⟨gu,0,none⟩) (M+1) cu) I (by rw[hl1,hull]) ?_
   exact wS 6 I I I (Aa (zE (zB (wP I (wP I (wV 78 ((x-1:Nat):Int) I (by show w64 ((x:Int)-1)=_;rw[Aj (by omega) (by omega)];have:=Nat.lt_of_le_of_lt (Nat.zero_le _) hfar;omega) (wP I (Aa (zN (Ak (x-1) ⟨Nat.le_sub_one_of_lt hfar,by omega⟩ (by have:=Nat.lt_of_le_of_lt (Nat.zero_le _) hfar;omega) ⟨I,I,I,I,I,O⟩ [] I))))))))))
  ·have hc1':c1=0:=by
    have h':decide ((c1:Int)>0)=false:=hc1
    rw[decide_eq_false_iff_not] at h';omega
   have hok:=S7 hT1 hc1'
   have hok':lv bs ul1+bs^j*(x*(b*f))=lv bs ul:=by rw[←hvv];exact hok
   rw[hvv] at hx1
   have hxb:=QC hok' hUs
   have hxb':x<1000000000:=hxb
   obtain⟨hr1,hr2⟩:=RZ hU hx1 (by omega) hok'
   have hzero:ql[j]? =some 0:=by
    rw[Cy hjK,BK bs2 _ hqb,hqv,Nat.pow_succ,Nat.mul_assoc,Nat.mul_div_cancel_left _ (Nat.pow_pos (by decide)),Nat.mul_mod_right]
   have hset:=FJ (B:=bs) x hzero
   rw[Nat.mul_zero,Nat.add_zero,hqv,Nat.pow_succ,Nat.mul_assoc, ←Nat.mul_add] at hset
   refine zJ (zK (zK (zL (zE (zB (wB 0 I I I (wP I (wP I ?_))))))))
   refine wJ ?_
   refine A5 8 (nI (ql.set j x)++[]) tH I I I I I I I I I I (by show 0+j*1+1≤(nI ql++[]).length;rw[List.append_nil,Bk];omega) (BP hjK x) ?_
   refine Aa (zN ?_)
   refine EE 11 (ql.set j x,ul1,bs*Q+x) hrec I ⟨⟨by rw[List.length_set];exact hql,Cf hqb hxb, ?_⟩,by rw[hT1.len];exact hull,hT1.lt, ?_, ?_⟩ [] I
   ·show lv bs (ql.set j x)=bs^(K-(k+1))*(bs*Q+x)
    rw[hset,show K-(k+1)=j by omega]
   ·show a*f=(bs*Q+x)*(b*f)*bs^(K-(k+1))+lv bs ul1
    rw[show K-(k+1)=j by omega];exact hr1
   ·show lv bs ul1<b*f*bs^(K-(k+1))
    rw[show K-(k+1)=j by omega];exact hr2
 ·rintro⟨ql,ul,Q⟩ d Lo rec ⟨⟨hql,hqb,hqv⟩,hull,hulb,hU,hUs⟩
  have hql:ql.length=K:=hql
  have hqv:lv bs ql=bs^(K-K)*Q:=hqv
  have hull:ul.length=M+1:=hull
  have hU:a*f=Q*(b*f)*bs^(K-K)+lv bs ul:=hU
  have hUs:lv bs ul<b*f*bs^(K-K):=hUs
  have hulb: ∀y∈ul,y<bs:=hulb
  have hqb: ∀y∈ql,y<bs:=hqb
  rw[Nat.sub_self,Nat.pow_zero] at hqv hU hUs
  rw[Nat.one_mul] at hqv
  rw[Nat.mul_one] at hU hUs
  obtain⟨e1,e2⟩:=Tq (show 0<f by omega) hU hUs
  have hul2:(lbs bs (lv bs ul)).length≤M+1:=by
   have:=(Bt bs2).2 (DV bs2 hulb)
   omega
  have hV0:(⟨some gq,K,[]⟩:Vec).OK 1 ql.length (nI ql):=⟨Dm _,(fun h=>by cases h),fun _=>⟨by show _≤K;omega,by show K≤maxLen;simp only[maxLen];omega,by show(nI ql).length+0=K*1;rw[Bk];omega⟩⟩
  obtain⟨j',hV2,he⟩:=Fc hV0 hqb
  rw[hqv, ←e1] at hV2 he
  refine zN (zE (zA (zB (wB 6 I I I ?_))))
  refine Ag 84 (slv (some ⟨gu,0,none⟩) ul.length cu) I (by rw[hull]) ?_
  refine wC I I (fun W' hp=>Co W' _ cu _ (Ar.of_bx hp 2 I) hulb (by have:=(hVu.cap (by simp)).1;have h9:M+1≤cu:=this;omega) (by omega)) (wP I ?_)
  refine wD (X:=NV×NV) I I (fun W' hp=>Ex W' _ cu (lv bs ul) f ((Ar.of_bx hp 2 I).trim hulb) (by omega) (by omega) hf2) ?_
  rintro⟨R1,R2⟩ ⟨hR1, -⟩
  refine wP I (wP I (wP I (wP I (Aa (zE (zA (zB (wB 0 I I I ?_))))))))
  refine Ag 90 (slv (some ⟨gq,0,none⟩) ql.length K) I (by rw[hql]) ?_
  refine wC I I (fun W' hp=>Co W' _ K _ (Ar.of_bx hp 8 I) hqb (by omega) (by omega)) (wP I (wS 0 I I I (wP I (Aa (zE (zO ?_))))))
  rw[e2] at hR1
  refine G0 10 I ?_
  refine AH tH I (.cell 0 I I I I I) (.tmp I) ((⟨some gq,K,j'⟩:Vec),some R1) ?_ ⟨hV2,hR1⟩ fun W' hp=> ?_
  ·show Value.tuple #[slv (some ⟨gq,0,none⟩) (lbs bs (lv bs ql)).length K,Bb R1 (lbs bs (lv bs ul/f)).length]= .tuple #[slv (some ⟨gq,0,none⟩) (lbs bs (a/b)).length K,Bb R1 (lbs bs (a%b)).length]
   rw[hqv, ←e1,e2]
  ·have h:=(hp.pick (l:=[⟨gq,3,nI ql++[],true,none⟩,Bn R1 (lbs bs (lv bs ul/f))]) [8,12] (by decide) rfl).own
   rw[he,e2] at h
   exact h
-- BOXES 2
def mns (x y c:Nat):Nat×Nat:=if y+c≤x then(x-y-c,0) else(x+bs-y-c,1)
def pls (x y c:Nat):Nat×Nat:=((x+y+c)%bs,(x+y+c)/bs)
theorem Ng (x y c:Nat) (hx:x<bs) (hy:y<bs) (hc:c≤1):AZ Tryz.prog 201 [.int .i64 (x:Nat), .int .i64 (y:Nat), .int .i64 (c:Nat)] (.tuple #[.int .i64 ((mns x y c).1:Nat), .int .i64 ((mns x y c).2:Nat)]):=by
 intro W
 have hxb:x<1000000000:=hx
 have hyb:y<1000000000:=hy
 have e0:w64 (w64 ((x:Int)-y)-c)=(x:Int)-y-c:=by
  rw[Aj (x:=(x:Int)-y) (by omega) (by omega),Aj (by omega) (by omega)]
 refine Ab Tryz.func201 I I I ?_
 refine zA (zB (wP I (wP I (Aa (zE (zA (zA (zB ?_))))))))
 iterate 5 refine wP I ?_
 refine wV 13 ((x:Int)-y-c) I e0 (wP I (Aa (zE (zA (zB (wP I (wP I (Aa (zE ?_)))))))))
 refine Ai I (fun h=> ?_) (fun h=> ?_)
 ·have h:y+c≤x:=by simp at h;omega
  refine zA (zB (wP I (wP I (wP I (Aa (zE (zO (zP ?_))))))))
  refine wR2 I I ?_
  unfold mns
  rw[if_pos h]
  show Value.tuple #[.int .i64 ((x:Int)-y-c), .int .i64 0]= .tuple #[.int .i64 ((x-y-c:Nat):Int), .int .i64 0]
  rw[show(x:Int)-y-c=((x-y-c:Nat):Int) by omega]
 ·have h: ¬y+c≤x:=by simp at h;omega
  refine zI (zE (zA (zB ?_)))
  iterate 5 refine wP I ?_
  refine wV 21 ((x:Int)-y-c) I e0 (wP I (wP I (wP I (Aa (zE (zO ?_))))))
  refine wR2 I I ?_
  unfold mns
  rw[if_neg h]
  show Value.tuple #[.int .i64 (w64 ((x:Int)-y-c+1000000000)), .int .i64 1]= .tuple #[.int .i64 ((x+bs-y-c:Nat):Int), .int .i64 1]
  rw[Aj (by omega) (by omega),show(x:Int)-y-c+1000000000=((x+bs-y-c:Nat):Int) by show _=((x+1000000000-y-c:Nat):Int);omega]
theorem JT {x y c:Nat} (hx:x<bs) (hy:y<bs) (hc:c≤1):(mns x y c).1<bs∧(mns x y c).2≤1∧(mns x y c).1+y+c=x+bs*(mns x y c).2:=by
 unfold mns
 split
 ·exact⟨by show x-y-c<bs;omega,Nat.zero_le _,by show x-y-c+y+c=x+bs*0;omega⟩
 ·exact⟨by show x+bs-y-c<bs;omega,Nat.le_refl _,by show x+bs-y-c+y+c=x+bs*1;omega⟩
theorem Th {x y c:Nat} (hx:x<bs) (hy:y<bs) (hc:c≤1):(pls x y c).1<bs∧(pls x y c).2≤1:=by
 refine⟨Nat.mod_lt _ (by decide), ?_⟩
 show(x+y+c)/bs≤1
 have:(x+y+c)/bs<2:=Nat.div_lt_of_lt_mul (by omega)
 omega
def BT (pf:Nat→Nat→Nat→Nat×Nat) (la lb:List Nat):Nat→List Nat×Nat
 |0=>([],0)
 |i+1=>((BT pf la lb i).1++[(pf (lim la i) (lim lb i) (BT pf la lb i).2).1],(pf (lim la i) (lim lb i) (BT pf la lb i).2).2)
theorem ET (pf:Nat→Nat→Nat→Nat×Nat) (la lb:List Nat): ∀i,(BT pf la lb i).1.length=i
 |0=>rfl
 |i+1=>by show(_++[_]).length=_;rw[List.length_append,ET pf la lb i];rfl
theorem K3 {pf:Nat→Nat→Nat→Nat×Nat} {la lb:List Nat} (hpf: ∀x y c,x<bs→y<bs→c≤1→(pf x y c).1<bs∧(pf x y c).2≤1) (ha: ∀x∈la,x<bs) (hb: ∀x∈lb,x<bs): ∀i,(∀x∈(BT pf la lb i).1,x<bs)∧(BT pf la lb i).2≤1
 |0=>⟨fun x hx=>(by cases hx),Nat.zero_le _⟩
 |i+1=>by
  obtain⟨h1,h2⟩:=K3 hpf ha hb i
  obtain⟨h3,h4⟩:=hpf (lim la i) (lim lb i) (BT pf la lb i).2 (AN bs2 ha i) (AN bs2 hb i) h2
  refine⟨fun x hx=> ?_,h4⟩
  rcases List.mem_append.1 hx with hx|hx
  ·exact h1 x hx
  ·obtain rfl:=List.mem_singleton.1 hx;exact h3
theorem Qv {a b m:Nat} (ha:a<bs^m) (hb:b<bs^m):lv bs (BT pls (lbs bs a) (lbs bs b) (m+1)).1=a+b:=by
 have h: ∀i,lv bs (BT pls (lbs bs a) (lbs bs b) i).1+bs^i*(BT pls (lbs bs a) (lbs bs b) i).2=a%bs^i+b%bs^i:=by
  intro i
  induction i with
  |zero=>show 0+bs^0*0=a%bs^0+b%bs^0;rw[Nat.pow_zero];omega
  |succ i ih=>exact La (ET _ _ _ i) ih (by rw[AP bs2,AP bs2])
 exact RT bs2 (h (m+1)) ha hb
theorem Oo {a b m:Nat} (ha:a<bs^m) (hb:b≤a):lv bs (BT mns (lbs bs a) (lbs bs b) (m+1)).1=a-b:=by
 have hok:=fun i=>K3 (pf:=mns) (fun x y c h1 h2 h3=>⟨(JT h1 h2 h3).1,(JT h1 h2 h3).2.1⟩) (AS bs2 a) (AS bs2 b) i
 have h: ∀i,lv bs (BT mns (lbs bs a) (lbs bs b) i).1+b%bs^i=a%bs^i+bs^i*(BT mns (lbs bs a) (lbs bs b) i).2:=by
  intro i
  induction i with
  |zero=>show 0+b%bs^0=a%bs^0+bs^0*0;rw[Nat.pow_zero];omega
  |succ i ih=>
   refine J7 (ET _ _ _ i) ih ?_
   have:=(JT (AN bs2 (AS bs2 a) i) (AN bs2 (AS bs2 b) i) (hok i).2).2.2
   rw[←AP bs2 b i, ←AP bs2 a i]
   exact this
 refine Ln bs2 (ET _ _ _ _) (hok (m+1)).1 (h (m+1)) (Nat.lt_of_lt_of_le ha (Nat.pow_le_pow_right (by decide) (by omega))) hb
theorem GH (W:World) (p q:Option Addr) (cap cap2:Nat) (la lb:List Nat) (g:Nat) (pf:Nat→Nat→Nat→Nat×Nat) (hE:Bz Tryz.prog g=true)
  (hg: ∀x y c,x<bs→y<bs→c≤1→AZ Tryz.prog g [.int .i64 (x:Nat), .int .i64 (y:Nat), .int .i64 (c:Nat)] (.tuple #[.int .i64 ((pf x y c).1:Nat), .int .i64 ((pf x y c).2:Nat)]))
  (hpf: ∀x y c,x<bs→y<bs→c≤1→(pf x y c).1<bs∧(pf x y c).2≤1)
  (hA:Ar W p la) (hB:Ar W q lb) (hla: ∀x∈la,x<bs) (hlb: ∀x∈lb,x<bs) (hna:la.length≤1000000) (hnb:lb.length≤1000000) (o:List Nat) (ho:o=(BT pf la lb (max la.length lb.length+1)).1):
  Ad Tryz.prog 198 #[slv p la.length cap,slv q lb.length cap2, .func (.func g) #[] #[]] W (fun x:NV=>Bb x (lbs bs (lv bs o)).length) (fun x=>B9 x (lbs bs (lv bs o))) (fun x=>[Bn x (lbs bs (lv bs o))]):=by
 obtain⟨m,hm⟩: ∃m,m=max la.length lb.length:=⟨_,rfl⟩
 have hmx:(if (lb.length:Int)>(la.length:Int) then(lb.length:Int) else(la.length:Int))=(m:Int):=by
  rw[hm];split<;>omega
 have hm6:m≤1000000:=by omega
 refine Ab (args:=[slv p la.length cap,slv q lb.length cap2, .func (.func g) #[] #[]]) Tryz.func198 I I I ?_
 refine zA (zB (wP I (Aa (zE (zA (zB (wP I (Aa (zE (zA (zB (wP I (Aa ?_)))))))))))))
 refine zE (zA (zA (zB ?_)))
 iterate 5 refine wP I ?_
 refine wV 16 (m:Nat) I hmx (wP I (wV 17 ((m+1:Nat):Int) I (by show w64 ((m:Int)+1)=_;rw[Aj (by omega) (by omega)];omega) ?_))
 refine Jf ?_
 refine wP I (Aa (zE (zH ?_)))
 refine Aw (X:=Nat×Vec) (fun x=>[(0,slv p la.length cap),(1,slv q lb.length cap2),(2, .func (.func g) #[] #[]),(7,x.2.val x.1),(8, .int .i64 ((BT pf la lb x.1).2:Nat)),(17, .int .i64 ((m+1:Nat):Int)),(18, .int .i64 (x.1:Nat))]) (fun x=>[x.2.bx 3 (nI (BT pf la lb x.1).1)])
  (fun x=>x.1≤m+1∧x.2.OK 1 x.1 (nI (BT pf la lb x.1).1)) (fun x=>m+1-x.1) (0,Vec.empty) ⟨Nat.zero_le _,Vec.OK.empty 1⟩ ⟨rfl,rfl,rfl,rfl,rfl,rfl,rfl,trivial⟩ [] rfl ?_
 rintro⟨i,V⟩ ⟨hi,hV⟩
 obtain⟨h1,h2⟩:=K3 hpf hla hlb i
 have h3:=AN bs2 hla i
 have h4:=AN bs2 hlb i
 refine zA (zB (wP I (Aa (zE (zA ?_)))))
 refine Ai I (fun hc=> ?_) (fun hc=> ?_)
 ·have hi':i<m+1:=by simp at hc;omega
  clear hc
  refine zI (zE (zA (zH (zA (zB (wP I (wP I (Aa (zE (zA (zB (wP I (wP I (wP I ?_))))))))))))))
  refine wC I I (fun W hp=>GV W p cap la i (hA.hp hp) (by omega)) (wP I (wP I (wC I I (fun W hp=>GV W q cap2 lb i (hB.hp hp) (by omega)) (wP I ?_))))
  refine BY (capt:=[]) I I I I I I hE (fun W _=>hg _ _ _ h3 h4 h2 W) ?_
  iterate 5 refine wP I ?_
  refine Aa (zE (zB (wP I (wP I ?_))))
  (refine Ap Tryz.hZ tH rfl rfl rfl rfl rfl rfl rfl rfl rfl rfl rfl ?_;intro)
  refine Cc (V:=V) (len:=i) (xs:=nI (BT pf la lb i).1) 0 1 Tryz.vec170 (i+1) (nI (BT pf la lb (i+1)).1) I I I I I I I I I I I hV I I I (GO (BT pf la lb i).1 [(pf (lim la i) (lim lb i) (BT pf la lb i).2).1]).symm (by simp only[maxLen];omega) (by omega) I ?_
  intro g' cap' junk hV'
  exact wP I (wP I (wP I (Aa (zN (zE (zB (wP I (wP I (Aa (Ak (i+1,(⟨some g',cap',junk⟩:Vec)) ⟨hi',hV'⟩ (by show m+1-(i+1)<m+1-i;omega) ⟨I,I,I,I,I,I,congrArg (fun z=>some (Value.int .i64 z)) (Ja (x:=(i:Int)+1) (by omega) (by omega)),O⟩ [_] I))))))))))
 ·have hi':i=m+1:=by simp at hc;omega
  subst hi'
  rw[←hm] at ho
  subst ho
  have hl:(BT pf la lb (m+1)).1.length=m+1:=ET _ _ _ _
  refine zJ (zK (zK (zL (zE (zA (zB ?_))))))
  obtain⟨pV,cV,jV⟩:=V
  cases pV with
  |none=>exact absurd (hV.nil rfl) (by omega)
  |some gV=>
  have hV0:(⟨some gV,cV,jV⟩:Vec).OK 1 (BT pf la lb (m+1)).1.length (nI (BT pf la lb (m+1)).1):=by rw[hl];exact hV
  obtain⟨j',hV2,he⟩:=Fc hV0 h1
  refine wP I ?_
  refine Ag 39 (slv (some ⟨gV,0,none⟩) (BT pf la lb (m+1)).1.length cV) I (by rw[hl];rfl) ?_
  exact wC I I (fun W hp=>Co W _ cV _ (Ar.of_bx hp 0 I) h1 (by rw[hl];exact(hV.cap (by simp)).1) (by rw[hl];omega)) (wP I (Aa (zE (zO (AE tH I (.tmp I) ((gV,cV,j'):NV) I hV2 fun W hp=>A0.of_hp1 hp 0 (by show some (⟨gV,3,nI (BT pf la lb (m+1)).1++jV,true,none⟩:Bx)=some ⟨gV,3,nI (lbs bs (lv bs (BT pf la lb (m+1)).1))++j',true,none⟩;rw[he]))))))
-- BOXES 5
theorem Mj (n:Int) (hlen:(decDigits n.natAbs).length≤300):AZ Tryz.prog 194 [str (itoa n)] (.int .i64 0):=by
 intro W
 refine Ab Tryz.func194 I I I ?_
 refine zA (zB (wP I (Aa (zE (zA (zB (wP I (wC I I (fun W _=>Cu (itoa n) [45] W) ?_))))))))
 refine Ag 5 (str (decDigits n.natAbs)) I (by rw[Bd]) ?_
 refine wP I (Aa (zE (zA (zA (zB (wP I (wP I ?_)))))))
 obtain⟨b,rest,hd,hb1,hb2⟩:=Cd n.natAbs
 have hne:((⟨(decDigits n.natAbs).toArray⟩:ByteArray).toList==(⟨#[]⟩:ByteArray).toList)=false:=by
  rw[Df,Df []];simp[EV]
 refine wU 7 false I hne (wP I (wP I ?_))
 refine AJ 0 tH I I I I I I I I (by rw[hd];rfl) ?_
 refine wP I ?_
 have hlen63:(decDigits n.natAbs).length≤9223372036854775807:=by omega
 by_cases hn:n=0
 ·have hb:b.toNat=48:=by
   rw[hn,show Int.natAbs 0=0 from rfl,Fo] at hd
   injection hd with hd _
   rw[←hd];rfl
  refine wU 11 true I (by rw[hb];rfl) (wP I (wP I (wP I (wU 14 false I (by rw[hn,BI];simp) (wP I (wP I (wP I (wP I (wC I I (fun W _=>Js (decDigits n.natAbs) hlen63 W) ?_)))))))))
  refine Ag 19 (str []) I (by rw[P7]) ?_
  refine wP I (wU 20 false I (by simp) (wP I (Aa (zE (zS I (zI (zE (zA (zA (zB (wP I (wP I (wP I ?_)))))))))))))
  refine Aa (A4 ?_)
  refine AK 24 (.bool false) I (congrArg Value.bool (by
   show decide (((⟨(decDigits n.natAbs).toArray⟩:ByteArray).size:Int)>300)=false
   have e:(⟨(decDigits n.natAbs).toArray⟩:ByteArray).size=(decDigits n.natAbs).length:=by show(decDigits n.natAbs).toArray.size=_;simp
   rw[e,decide_eq_false_iff_not];omega)) ?_
  exact zS I (zI (zE (zA (zB (wP I (Aa (zE (zO (wR1 I I I)))))))))
 ·have hb:b.toNat≠48:=by
   obtain⟨b',r',e1,e2⟩:=IP n.natAbs (by omega)
   rw[hd] at e1
   injection e1 with e1 _
   rw[e1];exact e2
  refine wU 11 false I (by rw[beq_eq_false_iff_ne];omega) (wP I ?_)
  iterate 2 refine Af I I ?_
  refine wP I (wP I (wP I (wP I (wC I I (fun W _=>Js (decDigits n.natAbs) hlen63 W) ?_))))
  refine Ag 19 (str []) I (by rw[P7]) ?_
  refine wP I (wU 20 false I (by simp) (wP I (Aa (zE (zS I (zI (zE (zA (zA (zB (wP I (wP I (wP I ?_)))))))))))))
  refine Aa (A4 ?_)
  refine AK 24 (.bool false) I (congrArg Value.bool (by
   show decide (((⟨(decDigits n.natAbs).toArray⟩:ByteArray).size:Int)>300)=false
   have e:(⟨(decDigits n.natAbs).toArray⟩:ByteArray).size=(decDigits n.natAbs).length:=by show(decDigits n.natAbs).toArray.size=_;simp
   rw[e,decide_eq_false_iff_not];omega)) ?_
  exact zS I (zI (zE (zA (zB (wP I (Aa (zE (zO (wR1 I I I)))))))))
def okN (z:Int):Prop:=z.natAbs<AU
theorem okN.dd {z:Int} (h:okN z):(decDigits z.natAbs).length≤300:=F9.2 h
theorem okN.check {z:Int} (h:okN z):AZ Tryz.prog 194 [str (itoa z)] (.int .i64 0):=Mj z h.dd
theorem CO (a b:Int) (ha:okN a) (hb:okN b):AZ Tryz.prog 150 [str (itoa a),str (itoa b)] (.int .i64 0):=by
 intro W
 refine Ab Tryz.func150 I I I ?_
 refine zA (zB (wP I (Aa (zE (zA (zA (zB (wP I (wC I I (fun W _=>ha.check W) (wP I (Aa (zE (zA ?_)))))))))))))
 refine zB (wP I (wP I (Aa (zE (zS I (zI (zE (zA (zB (wP I (wC I I (fun W _=>hb.check W) (wP I (Aa ?_)))))))))))))
 exact zE (zO (wR1 I I I))
theorem J3 (n:Int):n.natAbs<10^(itoa n).length:=by
 unfold itoa
 split
 ·have:=Dc n.natAbs
  rw[List.length_cons,Nat.pow_succ]
  omega
 ·have:=Dc n.toNat
  rw[show n.natAbs=n.toNat by omega];exact this
theorem On {n:Int} {k:Nat} (h:(itoa n).length≤k):n.natAbs<10^k:=Nat.lt_of_lt_of_le (J3 n) (Nat.pow_le_pow_right (by decide) h)
theorem Dq {n:Int} (h:(itoa n).length≤18): -1000000000000000000<n∧n<1000000000000000000:=by
 have:=On h
 have h2:n.natAbs<1000000000000000000:=this
 omega
theorem N5 (n:Int):0<(itoa n).length:=by
 unfold itoa
 split
 ·simp
 ·have:=EV n.toNat
  exact List.length_pos_iff.2 this
theorem Dh (a b:Int) (ha:(itoa a).length≤18) (hb:(itoa b).length≤18):AZ Tryz.prog 151 [str (itoa a),str (itoa b), .int .i64 18] (.tuple #[.int .i64 a, .int .i64 b, .bool true]):=by
 intro W
 obtain⟨a1,a2⟩:=Dq ha
 obtain⟨b1,b2⟩:=Dq hb
 refine Ab Tryz.func151 I I I ?_
 refine zA (zB (wP I (wP I (wP I (Aa (zE (zA (zA (zB (wP I (wP I (wP I (wP I ?_)))))))))))))
 refine wU 16 false I (by show decide (((⟨(itoa a).toArray⟩:ByteArray).size:Int)>18)=false;rw[As,decide_eq_false_iff_not];omega) ?_
 iterate 5 refine wP I ?_
 refine wU 21 false I (by show decide (((⟨(itoa b).toArray⟩:ByteArray).size:Int)>18)=false;rw[As,decide_eq_false_iff_not];omega) (wP I (Aa (zE (zS I (zI (zE (zA (zB (wP I (wC I I (fun W _=>K0 a (by omega) (by omega) W) ?_))))))))))
 iterate 5 refine wP I ?_
 refine Aa (zE (zA (zB (wP I (wC I I (fun W _=>K0 b (by omega) (by omega) W) ?_)))))
 iterate 5 refine wP I ?_
 refine Aa (zE (zA (zU (qP I (qP I (qP I ?_))))))
 refine KZ I I I I I ?_
 refine qP I (qP I ?_)
 refine KZ I I I I I ?_
 exact qP I (qP I (qP I (qP I (AM (Aa (zE (zO (wR3 I I I))))))))
theorem EX (a b:Int) (h: ¬((itoa a).length≤18∧(itoa b).length≤18)):AZ Tryz.prog 151 [str (itoa a),str (itoa b), .int .i64 18] (.tuple #[.int .i64 0, .int .i64 0, .bool false]):=by
 intro W
 refine Ab Tryz.func151 I I I ?_
 refine zA (zB (wP I (wP I (wP I (Aa (zE (zA (zA (zB (wP I (wP I (wP I (wP I ?_)))))))))))))
 by_cases ha:(itoa a).length≤18
 ·have hb: ¬(itoa b).length≤18:=fun hb=>h ⟨ha,hb⟩
  refine wU 16 false I (by show decide (((⟨(itoa a).toArray⟩:ByteArray).size:Int)>18)=false;rw[As,decide_eq_false_iff_not];omega) ?_
  iterate 5 refine wP I ?_
  exact wU 21 true I (by show decide (((⟨(itoa b).toArray⟩:ByteArray).size:Int)>18)=true;rw[As,decide_eq_true_iff];omega) (wP I (Aa (zE (zR I (zA (zB (wP I (wP I (wP I (Aa (zE (zO (zP (wR3 I I I))))))))))))))
 ·refine wU 16 true I (by show decide (((⟨(itoa a).toArray⟩:ByteArray).size:Int)>18)=true;rw[As,decide_eq_true_iff];omega) (wP I ?_)
  iterate 4 refine Af I I ?_
  exact wP I (Aa (zE (zR I (zA (zB (wP I (wP I (wP I (Aa (zE (zO (zP (wR3 I I I)))))))))))))
theorem PY: ∀k,mxd≤9*k→AU≤bs^k:=fun k hk=>by
 have h:bs^k=10^(9*k):=by rw[show bs=10^9 by decide, ←Nat.pow_mul]
 rw[h]
 unfold AU
 exact Nat.pow_le_pow_right (by decide) hk
theorem CV {m:Nat} (h:m<AU):(lbs bs m).length≤34:=(Bt bs2).2 (Nat.lt_of_lt_of_le h (PY 34 (by decide)))
theorem HS (z:Int): ∃s e,K6 z= .tuple #[str s, .int .i64 e]:=by
 unfold K6
 split
 ·exact⟨_,_,I⟩
 ·exact⟨_,_,I⟩
theorem Eo {z:Int} (h:okN z):K6 z= .tuple #[str (itoa z), .int .i64 0]:=if_pos h
theorem HU {z:Int} (h:z.natAbs<10^20):okN z:=Nat.lt_of_lt_of_le h (Nat.pow_le_pow_right (by decide) (show 20≤mxd by decide))
theorem DB (a:Int):sg (decide (a<0)) a.natAbs=a:=by
 unfold sg
 by_cases h:a<0
 ·rw[dT h,if_pos rfl];omega
 ·rw[dF h,if_neg (by decide)];omega
theorem Tt (a b:Int):sg (decide (a<0) !=decide (b<0)) (a.natAbs*b.natAbs)=a*b:=by
 have e1:=DB a
 have e2:=DB b
 conv=>rhs;rw[←e1, ←e2]
 unfold sg
 by_cases ha:a<0<;>by_cases hb:b<0<;>simp[ha,hb,Int.neg_mul,Int.mul_neg]
theorem MH (W:World) (p q:Option Addr) (cap cap2 a b:Nat) (hA:Ar W p (lbs bs a)) (hB:Ar W q (lbs bs b)) (hna:(lbs bs a).length≤1000000) (hnb:(lbs bs b).length≤1000000):
  Ad Tryz.prog 198 #[slv p (lbs bs a).length cap,slv q (lbs bs b).length cap2, .func (.func 199) #[] #[]] W (fun x:NV=>Bb x (lbs bs (a+b)).length) (fun x=>B9 x (lbs bs (a+b))) (fun x=>[Bn x (lbs bs (a+b))]):=by
 have h:=GH W p q cap cap2 (lbs bs a) (lbs bs b) 199 pls (by kernel_rfl) (fun x y c h1 h2 h3=>Ou x y c h1 h2 h3) (fun x y c h1 h2 h3=>Th h1 h2 h3) hA hB (AS bs2 a) (AS bs2 b) hna hnb _ rfl
 rw[Qv (m:=max (lbs bs a).length (lbs bs b).length) (Nat.lt_of_lt_of_le (A6 bs2 a) (Nat.pow_le_pow_right (by decide) (Nat.le_max_left ..))) (Nat.lt_of_lt_of_le (A6 bs2 b) (Nat.pow_le_pow_right (by decide) (Nat.le_max_right ..)))] at h
 exact h
theorem H2 (W:World) (p q:Option Addr) (cap cap2 a b:Nat) (hA:Ar W p (lbs bs a)) (hB:Ar W q (lbs bs b)) (hna:(lbs bs a).length≤1000000) (hnb:(lbs bs b).length≤1000000) (hab:b≤a):
  Ad Tryz.prog 198 #[slv p (lbs bs a).length cap,slv q (lbs bs b).length cap2, .func (.func 201) #[] #[]] W (fun x:NV=>Bb x (lbs bs (a-b)).length) (fun x=>B9 x (lbs bs (a-b))) (fun x=>[Bn x (lbs bs (a-b))]):=by
 have h:=GH W p q cap cap2 (lbs bs a) (lbs bs b) 201 mns (by kernel_rfl) (fun x y c h1 h2 h3=>Ng x y c h1 h2 h3) (fun x y c h1 h2 h3=>⟨(JT h1 h2 h3).1,(JT h1 h2 h3).2.1⟩) hA hB (AS bs2 a) (AS bs2 b) hna hnb _ rfl
 rw[Oo (m:=max (lbs bs a).length (lbs bs b).length) (Nat.lt_of_lt_of_le (A6 bs2 a) (Nat.pow_le_pow_right (by decide) (Nat.le_max_left ..))) hab] at h
 exact h
abbrev FD (b:Nat) (mi:Bool) (p:Option Addr) (n cap:Nat):Bx:=⟨b,172,[.bool mi,slv p n cap],true,none⟩
theorem GK (W:World) (p q:Option Addr) (cap cap2 a b:Nat) (mi mj:Bool) (hA:Ar W p (lbs bs a)) (hB:Ar W q (lbs bs b)) (hna:(lbs bs a).length≤1000000) (hnb:(lbs bs b).length≤1000000):
  Ad Tryz.prog 154 #[.agg #[.bool mi,slv p (lbs bs a).length cap], .agg #[.bool mj,slv q (lbs bs b).length cap2]] W (fun x:Bool×Nat×NV=> .agg #[.bool x.1,Bb x.2.2 (lbs bs x.2.1).length]) (fun x=>sg x.1 x.2.1=sg mi a+sg mj b∧B9 x.2.2 (lbs bs x.2.1)∧x.2.1≤a+b) (fun x=>[Bn x.2.2 (lbs bs x.2.1)]):=by
 refine Ab (args:=[.agg #[.bool mi,slv p (lbs bs a).length cap], .agg #[.bool mj,slv q (lbs bs b).length cap2]]) Tryz.func154 I I I ?_
 refine zA (zB ?_)
 (refine Az rfl rfl rfl rfl ?_;intro)
 (refine Az rfl rfl rfl rfl ?_;intro)
 (refine Ae Tryz.hZ rfl rfl rfl rfl ?_;intro)
 refine Aa ?_
 rename_i b2 b3 b4
 refine zE (zA (zH (zA (zB (wP I (wB 0 I I I (wP I (wB 1 I I I ?_))))))))
 refine FG Tryz.underlying4 I I I I I I ?_
 refine wP I (Aa (zE ?_))
 by_cases hm:mi=mj
 ·refine AK 5 (.bool true) I (congrArg Value.bool (by rw[hm];simp)) ?_
  refine zR I (Ax ?_)
  refine BA (X:= { x:NV//B9 x (lbs bs (a+b)) }) [true,true,true,true,true,true,false,false,false] (fun _=>[(4,Al b4)]) (fun x=>[FD b2 mi p (lbs bs a).length cap,FD b3 mj q (lbs bs b).length cap2,FD b4 mi (some ⟨x.1.1,0,none⟩) (lbs bs (a+b)).length x.1.2.1,Bn x.1 (lbs bs (a+b))])
   3 [FD b2 mi p (lbs bs a).length cap,FD b3 mj q (lbs bs b).length cap2,KT] Tryz.mixed (by kernel_rfl) ?_ ?_
  ·refine qP I (qB 0 I I I (qP I (qB 0 I I I (qP I (qB 1 I I I (Dr (wX (wZ ?_))))))))
   refine wD (X:=NV) I I (fun W' hp=>MH W' p q cap cap2 a b (hA.hp hp) (hB.hp hp) hna hnb) (fun x hx=> ?_)
   refine Aa (At (wX (wZ ?_)))
   refine Au Tryz.hZ tH I I I I I I I I ?_
   refine Aa (At (wX (wZ (wS 2 I I I (Aa (At ?_))))))
   refine Ce I (by((repeat (first|refine BG.same ?_|refine BG.off I ?_));exact O)) ?_
   exact AI (⟨x,hx⟩: { x:NV//B9 x (lbs bs (a+b)) }) ⟨I,O⟩ [0,1,2,3] (by decide) I
  rintro⟨x,hx⟩
  exact zE (zO (zQ (zP (AE tH rfl (.cell 2 rfl rfl rfl rfl rfl) (mi,a+b,x) rfl ⟨by subst hm;cases mi<;>simp[sg]<;>omega,hx,Nat.le_refl _⟩ fun W' hp=>A0.of_hp1 hp 3 rfl))))
 ·refine AK 5 (.bool false) I (congrArg Value.bool (by simp[hm])) ?_
  refine zS I (zA (zB (wP I (wB 0 I I I (wP I (wB 1 I I I ?_))))))
  refine wD (X:=Int) I I (fun W' hp=>GB W' p q cap cap2 a b (hA.hp hp) (hB.hp hp) hna hnb) ?_
  intro c hc
  refine wP I (wP I (Aa (zE ?_)))
  by_cases hab:b≤a
  ·refine AK 19 (.bool true) I (congrArg Value.bool (dT (by
    rcases Nat.lt_or_ge b a with h|h
    ·have h1:=hc.1;have h2:=hc.2;omega
    ·have h2:=hc.2.2 (by omega);omega))) ?_
   refine zR I (Ax ?_)
   refine BA (X:= { x:NV//B9 x (lbs bs (a-b)) }) [true,true,true,true,true,true,false,false,false] (fun _=>[(4,Al b4)]) (fun x=>[FD b2 mi p (lbs bs a).length cap,FD b3 mj q (lbs bs b).length cap2,FD b4 mi (some ⟨x.1.1,0,none⟩) (lbs bs (a-b)).length x.1.2.1,Bn x.1 (lbs bs (a-b))])
    3 [FD b2 mi p (lbs bs a).length cap,FD b3 mj q (lbs bs b).length cap2,KT] Tryz.mixed (by kernel_rfl) ?_ ?_
   ·refine qP I (qB 0 I I I (qP I (qB 0 I I I (qP I (qB 1 I I I (Dr (wX (wZ ?_))))))))
    refine wD (X:=NV) I I (fun W' hp=>H2 W' p q cap cap2 a b (hA.hp hp) (hB.hp hp) hna hnb hab) (fun x hx=> ?_)
    refine Aa (At (wX (wZ ?_)))
    refine Au Tryz.hZ tH I I I I I I I I ?_
    refine Aa (At (wX (wZ (wS 2 I I I (Aa (At ?_))))))
    refine Ce I (by((repeat (first|refine BG.same ?_|refine BG.off I ?_));exact O)) ?_
    exact AI (⟨x,hx⟩: { x:NV//B9 x (lbs bs (a-b)) }) ⟨I,O⟩ [0,1,2,3] (by decide) I
   rintro⟨x,hx⟩
   exact zE (zO (zQ (zP (AE tH rfl (.cell 2 rfl rfl rfl rfl rfl) (mi,a-b,x) rfl ⟨by cases mi<;>cases mj<;>simp_all [sg]<;>omega,hx,by show a-b≤a+b;omega⟩ fun W' hp=>A0.of_hp1 hp 3 rfl))))
  ·refine AK 19 (.bool false) I (congrArg Value.bool (dF (by have h1:=hc.1.2 (by omega);omega))) ?_
   refine zS I (zI (zN (zE (Ax ?_))))
   refine BA (X:= { x:NV//B9 x (lbs bs (b-a)) }) [true,true,true,true,true,true,false,false,false] (fun _=>[(4,Al b4)]) (fun x=>[FD b2 mi p (lbs bs a).length cap,FD b3 mj q (lbs bs b).length cap2,FD b4 mj (some ⟨x.1.1,0,none⟩) (lbs bs (b-a)).length x.1.2.1,Bn x.1 (lbs bs (b-a))])
    3 [FD b2 mi p (lbs bs a).length cap,FD b3 mj q (lbs bs b).length cap2,KT] Tryz.mixed (by kernel_rfl) ?_ ?_
   ·refine qP I (qB 1 I I I (qP I (qB 1 I I I (qP I (qB 0 I I I (Dr (wX (wZ ?_))))))))
    refine wD (X:=NV) I I (fun W' hp=>H2 W' q p cap2 cap b a (hB.hp hp) (hA.hp hp) hnb hna (by omega)) (fun x hx=> ?_)
    refine Aa (At (wX (wZ ?_)))
    refine Au Tryz.hZ tH I I I I I I I I ?_
    refine Aa (At (wX (wZ (wS 2 I I I (Aa (At ?_))))))
    refine Ce I (by((repeat (first|refine BG.same ?_|refine BG.off I ?_));exact O)) ?_
    exact AI (⟨x,hx⟩: { x:NV//B9 x (lbs bs (b-a)) }) ⟨I,O⟩ [0,1,2,3] (by decide) I
   rintro⟨x,hx⟩
   exact zE (zO (AE tH rfl (.cell 2 rfl rfl rfl rfl rfl) (mj,b-a,x) rfl ⟨by cases mi<;>cases mj<;>simp_all [sg]<;>omega,hx,by show b-a≤a+b;omega⟩ fun W' hp=>A0.of_hp1 hp 3 rfl))
-- BOXES 5
theorem Sl (a b:Nat):(lbs bs (a*b)).length≤(lbs bs a).length+(lbs bs b).length:=(Bt bs2).2 (by
 rw[Nat.pow_add]
 exact Nat.mul_lt_mul'' (A6 bs2 a) (A6 bs2 b))
theorem Ma {a b k:Nat} (h:a≤b) (hb:(lbs bs b).length≤k):(lbs bs a).length≤k:=Nat.le_trans (Hm h) hb
theorem PQ {a b:Nat} (ha:(lbs bs a).length≤34) (hb:(lbs bs b).length≤34):(lbs bs (a+b)).length≤35:=(Bt bs2).2 (by
 have h1:=(Bt bs2).1 ha
 have h2:=(Bt bs2).1 hb
 have h3:bs^35=bs^34*bs:=Nat.pow_succ ..
 have h4:bs^34*2≤bs^34*bs:=Nat.mul_le_mul_left _ (by decide)
 rw[h3];omega)
theorem Pe {a b i j k:Nat} (ha:a<10^i) (hb:b<10^j) (h:i+j≤k):a*b<10^k:=by
 have h1:a*b<10^i*10^j:=Nat.mul_lt_mul'' ha hb
 rw[←Nat.pow_add] at h1
 exact Nat.lt_of_lt_of_le h1 (Nat.pow_le_pow_right (by decide) h)
theorem Ed (a b:Int) (ha:okN a) (hb:okN b) (W:World) (ht:AB W):
  Ad Tryz.prog 148 #[str (itoa a),str (itoa b)] W (fun _:Unit=>K6 (a*b)) (fun _=>True) (fun _=>[]):=by
 have hla:=CV ha
 have hlb:=CV hb
 refine Ab (args:=[str (itoa a),str (itoa b)]) Tryz.func148 I I I ?_
 refine zA (zB (wP I (wP I (Aa (zE (zA (zA (zB (wP I (wP I (wC I I (fun W _=>CO a b ha hb W) (wP I (Aa ?_)))))))))))))
 refine zE (zA (zB (wP I (wP I (Aa (zE (zS I (zI (zE (zA (zA (zB (wP I (wP I ?_))))))))))))))
 refine Ag 19 (.int .i64 ((itoa a).length:Nat)) I (congrArg (fun n:Nat=>Value.int .i64 (n:Int)) (As _)) ?_
 refine wP I (wP I ?_)
 refine Ag 21 (.int .i64 ((itoa b).length:Nat)) I (congrArg (fun n:Nat=>Value.int .i64 (n:Int)) (As _)) ?_
 have hia:(itoa a).length≤301:=by
  have:=ha.dd
  unfold itoa
  split
  ·rw[List.length_cons];omega
  ·rw[show a.toNat=a.natAbs by omega];omega
 have hib:(itoa b).length≤301:=by
  have:=hb.dd
  unfold itoa
  split
  ·rw[List.length_cons];omega
  ·rw[show b.toNat=b.natAbs by omega];omega
 refine wP I (wV 22 (((itoa a).length+(itoa b).length:Nat):Int) I (AA (by omega)) (wP I (Aa (zE ?_))))
 by_cases hs:(itoa a).length+(itoa b).length≤18
 ·have hpa:=N5 a
  have hpb:=N5 b
  have hm:(a*b).natAbs<10^18:=by
   rw[Int.natAbs_mul]
   exact Pe (J3 a) (J3 b) hs
  have hm':(a*b).natAbs<1000000000000000000:=hm
  refine AK 23 (.bool true) I (congrArg Value.bool (dT (by omega))) ?_
  refine zR I (zA (zB (wP I (wP I (wC I I (fun W _=>Dh a b (by omega) (by omega) W) ?_)))))
  iterate 7 refine wP I ?_
  refine Aa (zE (zA (zB (wP I (Aa (zE (zR I (zA (zB (wP I (wP I (wP I (wV 34 (a*b) I (Aj (by omega) (by omega)) ?_)))))))))))))
  exact wC I I (fun W hp=>Bh (a*b) (by omega) (by omega) W (ht.hp hp)) (wP I (wP I (Aa (zE (zO (zP (AH tH I (.tmp I) (.tmp I) () (Eo (HU (Nat.lt_trans hm (by decide)))).symm O fun W _=>A0.nil _ _)))))))
 ·refine AK 23 (.bool false) I (congrArg Value.bool (dF (by omega))) ?_
  refine zS I (zI (zE (zA (zB ?_))))
  obtain⟨s,e,hres⟩:=HS (a*b)
  refine wP I ?_
  refine wD (X:=NV) I I (fun W _=>B1 W a (by have:=ha.dd;omega)) ?_
  rintro⟨g1,c1,j1⟩ hV1
  refine wP I ?_
  refine wD (X:=NV) I I (fun W _=>B1 W b (by have:=hb.dd;omega)) ?_
  rintro⟨g2,c2,j2⟩ hV2
  (refine Ae Tryz.hZ rfl rfl rfl rfl ?_;intro)
  (refine Ae Tryz.hZ rfl rfl rfl rfl ?_;intro)
  refine wS 2 I I I (wS 3 I I I (Aa ?_))
  rename_i b10 b11
  refine zE (Ax ?_)
  refine BA (X:=Unit) [true,true,true,true,true,true,true,true,true,false,false,false,false,false,false,false] (fun _=>[(4,str s),(5, .int .i64 e)]) (fun _=>[])
   7 [Bn (g1,c1,j1) (lbs bs a.natAbs),Bn (g2,c2,j2) (lbs bs b.natAbs),FD b10 (decide (a<0)) (some ⟨g1,0,none⟩) (lbs bs a.natAbs).length c1,FD b11 (decide (b<0)) (some ⟨g2,0,none⟩) (lbs bs b.natAbs).length c2] Tryz.mixed (by kernel_rfl) ?_ ?_
  ·refine qP I (qB 2 I I I (qP I (qB 3 I I I ?_)))
   refine QV Tryz.underlying4 I I I I I I ?_
   refine qP I (qB 2 I I I (qP I (qB 3 I I I (Dr (wX (wZ ?_))))))
   refine wD (X:=NV) I I (fun W' hp=>I0 W' _ _ c1 c2 a.natAbs b.natAbs (Ar.of_bx hp 0 I) (Ar.of_bx hp 1 I) (by omega) (by omega)) (fun x hx=> ?_)
   refine Aa (At (wX (wZ ?_)))
   refine Au Tryz.hZ tH I I I I I I I I ?_
   refine Aa (At (wX (wZ (wC I I (fun W' hp=>(BL W' (some ⟨x.1,0,none⟩) x.2.1 (decide (a<0) !=decide (b<0)) (a.natAbs*b.natAbs) (Ar.of_bx hp 4 I) (by have:=Sl a.natAbs b.natAbs;omega) (ht.hp hp)).cast (by rw[Tt,hres])) (Aa (At (wX ?_)))))))
   refine RS.cons ?_ (RS.cons ?_ (RS.nil))
   ·refine wP I (Aa (At (wX (wZ (wP I (Aa (At (wX (wZ (wP I (Aa (At (wX ?_)))))))))))))
    refine wZ (wP I (Aa (At ?_)))
    refine Ce I (by((repeat (first|refine BG.same ?_|refine BG.off I ?_));exact O)) ?_
    exact AI () ⟨I,I,O⟩ [] (by decide) I
   ·refine wP I (Aa (At (wX (wZ (wP I (Aa (At (wX (wZ (wP I (Aa (At (wX ?_)))))))))))))
    refine wZ (wP I (Aa (At ?_)))
    refine Ce I (by((repeat (first|refine BG.same ?_|refine BG.off I ?_));exact O)) ?_
    exact AI () ⟨I,I,O⟩ [] (by decide) I
  intro _
  exact zE (zO (wR2 I I hres.symm))
-- BOXES 6
theorem RC (mi:Bool) (m:Nat):sg (!mi) m= -sg mi m:=by cases mi<;>simp[sg]
theorem MY (a b:Int) (ha:okN a) (hb:okN b) (W:World) (ht:AB W):
  Ad Tryz.prog 80 #[str (itoa a),str (itoa b)] W (fun _:Unit=>K6 (a+b)) (fun _=>True) (fun _=>[]):=by
 have hla:=CV ha
 have hlb:=CV hb
 refine Ab (args:=[str (itoa a),str (itoa b)]) Tryz.func80 I I I ?_
 refine zA (zB (wP I (wP I (Aa (zE (zA (zA (zB (wP I (wP I (wC I I (fun W _=>CO a b ha hb W) (wP I (Aa ?_)))))))))))))
 refine zE (zA (zB (wP I (wP I (Aa (zE (zS I (zI (zE (zA (zA (zB (wP I (wP I ?_))))))))))))))
 by_cases hs:(itoa a).length≤18∧(itoa b).length≤18
 ·obtain⟨a1,a2⟩:=Dq hs.1
  obtain⟨b1,b2⟩:=Dq hs.2
  have hm:(a+b).natAbs<10^20:=by
   have:(a+b).natAbs<100000000000000000000:=by omega
   exact this
  refine wC I I (fun W _=>Dh a b hs.1 hs.2 W) ?_
  iterate 7 refine wP I ?_
  refine Aa (zE (zA (zB (wP I (Aa (zE (zR I (zA (zB (wP I (wP I (wP I (wV 26 (a+b) I (Aj (by omega) (by omega)) ?_)))))))))))))
  exact wC I I (fun W hp=>Bh (a+b) (by omega) (by omega) W (ht.hp hp)) (wP I (wP I (Aa (zE (zO (zP (AH tH I (.tmp I) (.tmp I) () (Eo (HU hm)).symm O fun W _=>A0.nil _ _)))))))
 ·obtain⟨s,e,hres⟩:=HS (a+b)
  refine wC I I (fun W _=>EX a b hs W) ?_
  iterate 7 refine wP I ?_
  refine Aa (zE (zA (zB (wP I (Aa (zE (zS I (zI (zE (zA (zB (wP I ?_))))))))))))
  refine wD (X:=NV) I I (fun W _=>B1 W a (by have:=ha.dd;omega)) ?_
  rintro⟨g1,c1,j1⟩ hV1
  refine wP I ?_
  refine wD (X:=NV) I I (fun W _=>B1 W b (by have:=hb.dd;omega)) ?_
  rintro⟨g2,c2,j2⟩ hV2
  refine wD (X:=Bool×Nat×NV) I I (fun W' hp=>GK W' _ _ c1 c2 a.natAbs b.natAbs (decide (a<0)) (decide (b<0)) (Ar.of_bx hp 0 I) (Ar.of_bx hp 1 I) (by omega) (by omega)) ?_
  rintro⟨mk,k,x⟩ ⟨hk1,hk2,hk3⟩
  have hk1:sg mk k=sg (decide (a<0)) a.natAbs+sg (decide (b<0)) b.natAbs:=hk1
  rw[DB,DB] at hk1
  have hk3:k≤a.natAbs+b.natAbs:=hk3
  exact wC I I (fun W' hp=>(BL W' (some ⟨x.1,0,none⟩) x.2.1 mk k (Ar.of_bx hp 2 I) (by have:=Ma hk3 (PQ hla hlb);omega) (ht.hp hp)).cast (by rw[hk1,hres])) (wP I (wP I (wP I (wP I (Aa (zE (zO (wR2 I I hres.symm))))))))
theorem O5 (a b:Int) (ha:okN a) (hb:okN b) (W:World) (ht:AB W):
  Ad Tryz.prog 179 #[str (itoa a),str (itoa b)] W (fun _:Unit=>K6 (a-b)) (fun _=>True) (fun _=>[]):=by
 have hla:=CV ha
 have hlb:=CV hb
 refine Ab (args:=[str (itoa a),str (itoa b)]) Tryz.func179 I I I ?_
 refine zA (zB (wP I (wP I (Aa (zE (zA (zA (zB (wP I (wP I (wC I I (fun W _=>CO a b ha hb W) (wP I (Aa ?_)))))))))))))
 refine zE (zA (zB (wP I (wP I (Aa (zE (zS I (zI (zE (zA (zA (zB (wP I (wP I ?_))))))))))))))
 by_cases hs:(itoa a).length≤18∧(itoa b).length≤18
 ·obtain⟨a1,a2⟩:=Dq hs.1
  obtain⟨b1,b2⟩:=Dq hs.2
  have hm:(a-b).natAbs<10^20:=by
   have:(a-b).natAbs<100000000000000000000:=by omega
   exact this
  refine wC I I (fun W _=>Dh a b hs.1 hs.2 W) ?_
  iterate 7 refine wP I ?_
  refine Aa (zE (zA (zB (wP I (Aa (zE (zR I (zA (zB (wP I (wP I (wP I (wV 27 (a-b) I (Aj (by omega) (by omega)) ?_)))))))))))))
  exact wC I I (fun W hp=>Bh (a-b) (by omega) (by omega) W (ht.hp hp)) (wP I (wP I (Aa (zE (zO (zP (AH tH I (.tmp I) (.tmp I) () (Eo (HU hm)).symm O fun W _=>A0.nil _ _)))))))
 ·obtain⟨s,e,hres⟩:=HS (a-b)
  refine wC I I (fun W _=>EX a b hs W) ?_
  iterate 7 refine wP I ?_
  refine Aa (zE (zA (zB (wP I (Aa (zE (zS I (zI (zE (zA (zB (wP I ?_))))))))))))
  refine wD (X:=NV) I I (fun W _=>B1 W b (by have:=hb.dd;omega)) ?_
  rintro⟨g2,c2,j2⟩ hV2
  (refine Ae Tryz.hZ rfl rfl rfl rfl ?_;intro)
  refine wS 1 I I I (Aa ?_)
  rename_i b10
  refine zE (zA (zB (wP I (wB 1 I I I (wP I (wP I (wS 1 I I I (Aa (zE (Ax ?_))))))))))
  refine BA (X:=Unit) [true,false,true,false,false,false,false,false,false] (fun _=>[(4,str s),(5, .int .i64 e)]) (fun _=>[])
   7 [Bn (g2,c2,j2) (lbs bs b.natAbs),FD b10 (!(decide (b<0))) (some ⟨g2,0,none⟩) (lbs bs b.natAbs).length c2] Tryz.mixed (by kernel_rfl) ?_ ?_
  ·refine qP I (qB 1 I I I (Dr (wX (wZ ?_))))
   refine wD (X:=NV) I I (fun W _=>B1 W a (by have:=ha.dd;omega)) (fun y hy=> ?_)
   refine Aa (At (wX (wZ ?_)))
   refine wD (X:=Bool×Nat×NV) I I (fun W' hp=>GK W' _ _ y.2.1 c2 a.natAbs b.natAbs (decide (a<0)) (!(decide (b<0))) (Ar.of_bx hp 2 I) (Ar.of_bx hp 0 I) (by omega) (by omega)) (fun x hx=> ?_)
   refine Aa (At (wX (wZ (wC I I (fun W' hp=>(BL W' (some ⟨x.2.2.1,0,none⟩) x.2.2.2.1 x.1 x.2.1 (Ar.of_bx hp 3 I) (by have:=Ma hx.2.2 (PQ hla hlb);omega) (ht.hp hp)).cast (by rw[hx.1,DB,RC,DB, ←Int.sub_eq_add_neg,hres])) (Aa (At (wX ?_)))))))
   refine RS.cons ?_ (RS.cons ?_ (RS.nil))
   ·refine wP I (Aa (At (wX (wZ (wP I (Aa (At (wX (wZ (wP I (Aa (At (wX ?_)))))))))))))
    refine wZ (wP I (Aa (At ?_)))
    refine Ce I (by((repeat (first|refine BG.same ?_|refine BG.off I ?_));exact O)) ?_
    exact AI () ⟨I,I,O⟩ [] (by decide) I
   ·refine wP I (Aa (At (wX (wZ (wP I (Aa (At (wX (wZ (wP I (Aa (At (wX ?_)))))))))))))
    refine wZ (wP I (Aa (At ?_)))
    refine Ce I (by((repeat (first|refine BG.same ?_|refine BG.off I ?_));exact O)) ?_
    exact AI () ⟨I,I,O⟩ [] (by decide) I
  intro _
  exact zE (zO (wR2 I I hres.symm))
def EI (a b:Int):Int:=if a<b then -1 else if a=b then 0 else 1
theorem KV (a b:Int):compareInt a b=EI a b:=by
 unfold compareInt EI
 repeat split
 all_goals first|rfl|omega
theorem Ks (a b:Int):AZ Tryz.prog 167 [.int .i64 a, .int .i64 b] (.int .i64 (EI a b)):=by
 intro W
 refine Ad.of1 ((Tryz.cmp_Compare_int a b W).mono ?_)
 rintro e w' ⟨rfl,rfl⟩
 exact⟨by rw[KV],Below.refl _ _⟩
theorem Ko (a b:Int) (ha:okN a) (hb:okN b) (W:World):
  Ad Tryz.prog 168 #[str (itoa a),str (itoa b)] W (fun _:Unit=> .tuple #[.int .i64 (EI a b), .int .i64 0]) (fun _=>True) (fun _=>[]):=by
 have hla:=CV ha
 have hlb:=CV hb
 refine Ab (args:=[str (itoa a),str (itoa b)]) Tryz.func168 I I I ?_
 refine zA (zB (wP I (wP I (Aa (zE (zA (zA (zB (wP I (wP I (wC I I (fun W _=>CO a b ha hb W) (wP I (Aa ?_)))))))))))))
 refine zE (zA (zB (wP I (wP I (Aa (zE (zS I (zI (zE (zA (zA (zB (wP I (wP I ?_))))))))))))))
 by_cases hs:(itoa a).length≤18∧(itoa b).length≤18
 ·refine wC I I (fun W _=>Dh a b hs.1 hs.2 W) ?_
  iterate 7 refine wP I ?_
  refine Aa (zE (zA (zB (wP I (Aa (zE (zR I (zA (zB (wP I (wP I (wC I I (fun W _=>Ks a b W) (wP I (wP I ?_))))))))))))))
  exact Aa (zE (zO (zP (wR2 I I I))))
 ·refine wC I I (fun W _=>EX a b hs W) ?_
  iterate 7 refine wP I ?_
  refine Aa (zE (zA (zB (wP I (Aa (zE (zS I (zI (zE (zA (zB (wP I ?_))))))))))))
  refine wD (X:=NV) I I (fun W _=>B1 W a (by have:=ha.dd;omega)) ?_
  rintro⟨g1,c1,j1⟩ hV1
  refine wP I ?_
  refine wD (X:=NV) I I (fun W _=>B1 W b (by have:=hb.dd;omega)) ?_
  rintro⟨g2,c2,j2⟩ hV2
  (refine Ae Tryz.hZ rfl rfl rfl rfl ?_;intro)
  (refine Ae Tryz.hZ rfl rfl rfl rfl ?_;intro)
  refine wS 2 I I I (wS 3 I I I (Aa ?_))
  rename_i b10 b11
  refine zE (zA (zB (wP I (wB 3 I I I (wP I (wP I (wS 3 I I I (Aa (zE (zA (zA (zB (wB 2 I I I ?_)))))))))))))
  refine wB 3 I I I ?_
  refine wD (X:=Bool×Nat×NV) I I (fun W' hp=>GK W' _ _ c1 c2 a.natAbs b.natAbs (decide (a<0)) (!(decide (b<0))) (Ar.of_bx hp 0 I) (Ar.of_bx hp 1 I) (by omega) (by omega)) ?_
  rintro⟨mk,k,x⟩ ⟨hk1,hk2,hk3⟩
  have hk1:sg mk k=sg (decide (a<0)) a.natAbs+sg (!(decide (b<0))) b.natAbs:=hk1
  rw[DB,RC,DB] at hk1
  (refine Ae Tryz.hZ rfl rfl rfl rfl ?_;intro)
  refine wS 5 I I I (Aa ?_)
  rename_i b12
  refine zE (zH (zA (zB (wP I (wB 5 I I I (wP I (wP I (wP I (Aa (zE ?_))))))))))
  by_cases hz:k=0
  ·have hab:a=b:=by subst hz;rw[H5] at hk1;omega
   refine AK 41 (.bool true) I (congrArg Value.bool (by rw[hz,AF];rfl)) ?_
   exact zR I (zA (zB (wP I (wP I (Aa (zE (zO (zQ (zP (wR2 I I (by unfold EI;rw[if_neg (by omega),if_pos hab])))))))))))
  ·have h0:=Kw hz
   refine AK 41 (.bool false) I (congrArg Value.bool (by rw[beq_eq_false_iff_ne];show((lbs bs k).length:Int)≠0;omega)) ?_
   refine zS I (zA (zB (wP I (wB 5 I I I (wP I (Aa (zE ?_)))))))
   cases mk with
   |true=>
    have hab:a<b:=by
     have:sg true k= -(k:Int):=rfl
     omega
    exact zR I (zA (zB (wP I (wP I (Aa (zE (zO (zQ (zP (wR2 I I (by unfold EI;rw[if_pos hab])))))))))))
   |false=>
    have hab:b<a:=by
     have:sg false k=(k:Int):=rfl
     omega
    exact zS I (zI (zN (zE (zA (zB (wP I (wP I (Aa (zE (zO (wR2 I I (by unfold EI;rw[if_neg (by omega),if_neg (by omega)]))))))))))))
-- BOXES 6
theorem RL (x y:Int):Int.gcd y (x.tmod y)=Int.gcd x y:=by
 unfold Int.gcd
 rw[Int.natAbs_tmod,Nat.gcd_comm x.natAbs,Nat.gcd_rec y.natAbs x.natAbs,Nat.gcd_comm]
theorem T3 {a b:Int} {n:Nat} (ha:a.natAbs<n) (hb:b.natAbs<n):Int.gcd a b<n:=by
 unfold Int.gcd
 by_cases h:a.natAbs=0
 ·rw[h,Nat.gcd_zero_left];exact hb
 ·exact Nat.lt_of_le_of_lt (Nat.gcd_le_left _ (by omega)) ha
theorem OR (a b:Int) (ha:okN a) (hb:okN b) (W:World) (ht:AB W):
  Ad Tryz.prog 189 #[str (itoa a),str (itoa b)] W (fun _:Unit=> .tuple #[str (decDigits (Int.gcd a b)), .int .i64 0]) (fun _=>True) (fun _=>[]):=by
 have hla:=CV ha
 have hlb:=CV hb
 refine Ab (args:=[str (itoa a),str (itoa b)]) Tryz.func189 I I I ?_
 refine zA (zB (wP I (wP I (Aa (zE (zA (zA (zB (wP I (wP I (wC I I (fun W _=>CO a b ha hb W) (wP I (Aa ?_)))))))))))))
 refine zE (zA (zB (wP I (wP I (Aa (zE (zS I (zI (zE (zA (zA (zB (wP I (wP I ?_))))))))))))))
 by_cases hs:(itoa a).length≤18∧(itoa b).length≤18
 ·obtain⟨a1,a2⟩:=Dq hs.1
  obtain⟨b1,b2⟩:=Dq hs.2
  refine wC I I (fun W _=>Dh a b hs.1 hs.2 W) ?_
  iterate 7 refine wP I ?_
  refine Aa (zE (zA (zB (wP I (Aa (zE (zR I (zA (zH ?_)))))))))
  refine Aw (X:=Int×Int) (fun x=>[(7, .int .i64 x.1),(8, .int .i64 x.2)]) (fun _=>[]) (fun x=>(-1000000000000000000<x.1∧x.1<1000000000000000000)∧(-1000000000000000000<x.2∧x.2<1000000000000000000)∧Int.gcd x.1 x.2=Int.gcd a b) (fun x=>x.2.natAbs) (a,b) ⟨⟨a1,a2⟩,⟨b1,b2⟩,I⟩ ⟨I,I,O⟩ [] I ?_
  rintro⟨x,y⟩ ⟨⟨hx1,hx2⟩,⟨hy1,hy2⟩,hg⟩
  have hx1: -1000000000000000000<x:=hx1
  have hx2:x<1000000000000000000:=hx2
  have hy1: -1000000000000000000<y:=hy1
  have hy2:y<1000000000000000000:=hy2
  have hg:Int.gcd x y=Int.gcd a b:=hg
  refine zA (zA (zB (wP I (wP I (Aa (zE ?_))))))
  by_cases hy:y=0
  ·refine AK 29 (.bool false) I (congrArg Value.bool (by rw[hy];rfl)) ?_
   refine zS I (zJ (zK (zK (zL (zE (zA (zB ?_)))))))
   have hgx:(if w64 (0-x)>x then w64 (0-x) else x)=((Int.gcd a b:Nat):Int):=by
    rw[←hg,hy,Int.gcd_zero_right,Aj (by omega) (by omega)]
    split<;>omega
   have hgb:Int.gcd a b<1000000000000000000:=T3 (by omega) (by omega)
   exact wP I (wP I (wP I (wP I (wV 37 ((Int.gcd a b:Nat):Int) I hgx (wC I I (fun W hp=>(Bh ((Int.gcd a b:Nat):Int) (by omega) (by omega) W (ht.hp hp)).cast (by rw[Gl])) (wP I (wP I (Aa (zE (zO (zP (wR2 I I I))))))))))))
  ·refine AK 29 (.bool true) I (congrArg Value.bool (by rw[bne_iff_ne];exact hy)) ?_
   refine zR I (zI (zE (zH (zU (qP I (qP I (qP I ?_)))))))
   refine Gj I I I I I hy ?_
   refine qP I (qP I (AM (Aa (zN ?_))))
   have hr:(x.tmod y).natAbs=x.natAbs%y.natAbs:=Int.natAbs_tmod ..
   have hr2:x.natAbs%y.natAbs<y.natAbs:=Nat.mod_lt _ (by omega)
   exact Ak (y,x.tmod y) ⟨⟨hy1,hy2⟩,⟨by show _<x.tmod y;omega,by show x.tmod y<_;omega⟩,by show Int.gcd y (x.tmod y)=_;rw[RL];exact hg⟩ (by show(x.tmod y).natAbs<y.natAbs;omega) ⟨I,I,O⟩ [] I
 ·refine wC I I (fun W _=>EX a b hs W) ?_
  iterate 7 refine wP I ?_
  refine Aa (zE (zA (zB (wP I (Aa (zE (zS I (zI (zE (zA (zB (wP I ?_))))))))))))
  refine wD (X:=NV) I I (fun W _=>B1 W a (by have:=ha.dd;omega)) ?_
  rintro⟨g1,c1,j1⟩ hV1
  refine wP I (wP I ?_)
  refine wD (X:=NV) I I (fun W _=>B1 W b (by have:=hb.dd;omega)) ?_
  rintro⟨g2,c2,j2⟩ hV2
  refine wP I (wP I (wP I (Aa (zE (zA (zH ?_))))))
  refine QQ (X:=(Nat×NV)×Nat×NV) (fun _=>[]) (fun x=>[(10,Bb x.1.2 (lbs bs x.1.1).length),(11,Bb x.2.2 (lbs bs x.2.1).length)]) (fun x=>[Bn x.1.2 (lbs bs x.1.1),Bn x.2.2 (lbs bs x.2.1)])
   (fun x=>x.1.1<AU∧x.2.1<AU∧Nat.gcd x.1.1 x.2.1=Int.gcd a b) (fun x=>x.2.1) ((a.natAbs,g1,c1,j1),b.natAbs,g2,c2,j2) ⟨ha,hb,rfl⟩ rfl ⟨rfl,rfl,trivial⟩ [] rfl ?_
  rintro⟨⟨m,A⟩,n,B⟩ ⟨hm,hn,hg⟩
  have hm:m<AU:=hm
  have hn:n<AU:=hn
  have hg:Nat.gcd m n=Int.gcd a b:=hg
  have hlm:=CV hm
  have hln:=CV hn
  refine zA (zA (zB (wP I (wP I (wP I (Aa (zE ?_)))))))
  by_cases h0:n=0
  ·refine AK 47 (.bool false) I (congrArg Value.bool (by rw[h0,AF];rfl)) ?_
   refine zS I (zJ (zK (zK (zL (zE (zA (zB ?_)))))))
   have hgm:m=Int.gcd a b:=by rw[←hg,h0,Nat.gcd_zero_right]
   have hz:K6 (sg false m)= .tuple #[str (decDigits (Int.gcd a b)), .int .i64 0]:=by
    have e:sg false m=((m:Nat):Int):=rfl
    rw[e,Eo (show okN ((m:Nat):Int) from hm),Gl,hgm]
   refine wP I ?_
   refine Au Tryz.hZ tH I I I I I I I I ?_
   exact wC I I (fun W' hp=>(BL W' _ A.2.1 false m (Ar.of_bx hp 0 I) (by omega) (ht.hp hp)).cast hz) (wP I (wP I (wP I (wP I (Aa (zE (zO (wR2 I I I))))))))
  ·have hk:=Kw h0
   refine AK 47 (.bool true) I (congrArg Value.bool (dT (by show((lbs bs n).length:Int)>0;omega))) ?_
   refine zR I (zI (zE (zH (zA (zB (wP I (wP I ?_)))))))
   refine wD (X:=Vec×Option NV) I I (fun W' hp=>HK W' _ _ A.2.1 B.2.1 m n (Ar.of_bx hp 0 I) (Ar.of_bx hp 1 I) h0 (by omega) (by omega)) ?_
   rintro⟨V,R⟩ ⟨hV,hR⟩
   cases R with
   |none=>
    have hR:m<n:=hR
    iterate 5 refine wP I ?_
    exact Aa (zE (zB (wP I (wP I (wP I (wP I (Aa (zN (Nc ((n,B),m,A) ⟨hn,hm,by show Nat.gcd n m=_;rw[Nat.gcd_comm];exact hg⟩ hR I ⟨I,I,O⟩ [1,0] (by decide) I)))))))))
   |some R=>
    iterate 5 refine wP I ?_
    refine Aa (zE (zB (wP I (wP I (wP I (wP I (Aa (zN ?_))))))))
    have hmn:m%n<n:=Nat.mod_lt _ (by omega)
    exact Nc ((n,B),m%n,R) ⟨hn,Nat.lt_trans hmn hn,by show Nat.gcd n (m%n)=_;rw[Nat.gcd_comm, ←Nat.gcd_rec,Nat.gcd_comm];exact hg⟩ hmn I ⟨I,I,O⟩ [1,3] (by decide) I
-- BOXES 6
theorem Rb {g:Int} (hg:0<g):itoa g≠[48]:=by
 intro e
 have h:=Gl g.toNat
 rw[show((g.toNat:Nat):Int)=g by omega,e] at h
 obtain⟨b,r,h1,h2⟩:=IP g.toNat (by omega)
 rw[h1] at h
 injection h with h3 _
 rw[←h3] at h2
 exact h2 I
theorem Kn (g k:Int) (hg:0<g) (ha:okN (g*k)) (hb:okN g) (W:World) (ht:AB W):
  Ad Tryz.prog 193 #[str (itoa (g*k)),str (itoa g)] W (fun _:Unit=> .tuple #[str (itoa k),str [48], .int .i64 0]) (fun _=>True) (fun _=>[]):=by
 obtain⟨a,hav⟩: ∃a,g*k=a:=⟨_,rfl⟩
 have hka:k.natAbs≤a.natAbs:=by
  rw[←hav,Int.natAbs_mul]
  exact Nat.le_mul_of_pos_left _ (by omega)
 have hk:okN k:=by rw[hav] at ha;exact Nat.lt_of_le_of_lt hka ha
 have hna:a.natAbs=g.natAbs*k.natAbs:=by rw[←hav,Int.natAbs_mul]
 have hq:a.tdiv g=k:=by rw[←hav];exact Int.mul_tdiv_cancel_left _ (by omega)
 have hr:a.tmod g=0:=by rw[←hav,Int.mul_comm];exact Int.mul_tmod_left ..
 rw[hav] at ha⊢
 have hla:=CV ha
 have hlb:=CV hb
 refine Ab (args:=[str (itoa a),str (itoa g)]) Tryz.func193 I I I ?_
 refine zA (zB (wP I (wP I (wP I (Aa (zE (zA (zA (zB (wP I (wP I (wC I I (fun W _=>CO a g ha hb W) (wP I ?_)))))))))))))
 refine Aa (zE (zA (zB (wP I (wP I (Aa (zE (zS I (zI (zE (zA (zA (zB ?_)))))))))))))
 refine wP I (wP I ?_)
 refine Ag 28 (.bool false) I (congrArg Value.bool (by
  rw[Df,Df [48],beq_eq_false_iff_ne]
  exact Rb hg)) ?_
 refine Aa (zE (zS I (zI (zE (zA (zA (zB (wP I (wP I ?_)))))))))
 by_cases hs:(itoa a).length≤18∧(itoa g).length≤18
 ·obtain⟨a1,a2⟩:=Dq hs.1
  obtain⟨b1,b2⟩:=Dq hs.2
  refine wC I I (fun W _=>Dh a g hs.1 hs.2 W) ?_
  iterate 7 refine wP I ?_
  refine Aa (zE (zA (zB (wP I (Aa (zE (zR I (zA (zU (qP I (qP I ?_)))))))))))
  refine Ha I I I I I (by omega) ?_
  refine qV 39 k I (by rw[hq];exact Aj (by omega) (by omega)) (qP I (qP I ?_))
  refine Gj I I I I I (by omega) ?_
  refine qV 42 0 I hr (qP I (qP I (AM (Aa (zE (zA (zA (zB (wP I (wP I (wP I ?_)))))))))))
  iterate 5 refine Af I I ?_
  refine wP I (Aa (zE (zS I (zI (zE (zA (zB (wP I (wC I I (fun W hp=>Bh k (by omega) (by omega) W (ht.hp hp)) (wP I (wC I I (fun W hp=>(Bh 0 (by decide) (by decide) W (ht.hp hp)).cast (by rw[BI])) (wP I (wP I (wP I ?_))))))))))))))
  exact Aa (zE (zO (zP (wR3 I I I))))
 ·refine wC I I (fun W _=>EX a g hs W) ?_
  have hg0:g.natAbs≠0:=by omega
  have eq:a.natAbs/g.natAbs=k.natAbs:=by rw[hna];exact Nat.mul_div_cancel_left _ (by omega)
  have er:a.natAbs%g.natAbs=0:=by rw[hna];exact Nat.mul_mod_right ..
  have hgf:decide (g<0)=false:=dF (by omega)
  have esg:sg (decide (a<0) !=decide (g<0)) k.natAbs=k:=by
   rw[hgf,Bool.bne_false]
   have h1:=DB k
   by_cases h0:k=0
   ·subst h0;exact H5 _
   ·have:decide (a<0)=decide (k<0):=by
     rw[←hav]
     apply decide_eq_decide.2
     constructor
     ·intro h
      by_cases h2:k<0
      ·exact h2
      ·have:=Int.mul_nonneg (Int.le_of_lt hg) (show 0≤k by omega);omega
     ·intro h
      exact Int.mul_neg_of_pos_of_neg hg h
    rw[this];exact h1
  iterate 7 refine wP I ?_
  refine Aa (zE (zA (zB (wP I (Aa (zE (zS I (zI (zE (zA (zB (wP I ?_))))))))))))
  refine wD (X:=NV) I I (fun W _=>B1 W a (by have:=ha.dd;omega)) ?_
  rintro⟨g1,c1,j1⟩ hV1
  refine wP I ?_
  refine wD (X:=NV) I I (fun W _=>B1 W g (by have:=hb.dd;omega)) ?_
  rintro⟨g2,c2,j2⟩ hV2
  (refine Ae Tryz.hZ rfl rfl rfl rfl ?_;intro)
  (refine Ae Tryz.hZ rfl rfl rfl rfl ?_;intro)
  refine wS 2 I I I (wS 3 I I I (Aa ?_))
  rename_i b13 b14
  refine zE (zA (zB (wP I (wB 2 I I I (wP I (wB 3 I I I ?_))))))
  refine wD (X:=Vec×Option NV) I I (fun W' hp=>HK W' _ _ c1 c2 a.natAbs g.natAbs (Ar.of_bx hp 0 I) (Ar.of_bx hp 1 I) hg0 (by omega) (by omega)) ?_
  rintro⟨V,R⟩ ⟨hV,hR⟩
  obtain⟨p1,cp1,hv1, -,hI1⟩:=RE hV
  obtain⟨p2,cp2,hv2,hI2⟩: ∃p2 cp2,dvV (some ⟨g1,0,none⟩) c1 a.natAbs g.natAbs (V,R)= .tuple #[slv p1 (lbs bs (a.natAbs/g.natAbs)).length cp1,slv p2 0 cp2]∧ ∀W',Ar W' p2 (lbs bs 0):=by
   cases R with
   |none=>
    have hR:a.natAbs<g.natAbs:=hR
    have h0:a.natAbs=0:=by rw[←er,Nat.mod_eq_of_lt hR]
    refine⟨some ⟨g1,0,none⟩,c1, ?_,fun W'=> .inl AF⟩
    show Value.tuple #[V.val _,slv (some ⟨g1,0,none⟩) (lbs bs a.natAbs).length c1]=_
    rw[hv1,h0,AF];rfl
   |some R=>
    refine⟨some ⟨R.1,0,none⟩,R.2.1, ?_,fun W'=> .inl AF⟩
    show Value.tuple #[V.val _,Bb R (lbs bs (a.natAbs%g.natAbs)).length]=_
    rw[hv1,er,AF];rfl
  refine Ag 70 (.tuple #[slv p1 (lbs bs (a.natAbs/g.natAbs)).length cp1,slv p2 0 cp2]) I hv2 ?_
  iterate 5 refine wP I ?_
  refine Aa (zE (zA (zA (zB (wP I (wB 2 I I I (wP I (wB 3 I I I ?_))))))))
  refine FG Tryz.underlying4 I I I I I I ?_
  have hbx: ∃bxr,dvB a.natAbs g.natAbs (V,R)=V.bx 3 (nI (lbs bs (a.natAbs/g.natAbs)))::bxr:=⟨_,rfl⟩
  obtain⟨bxr,hbxr⟩:=hbx
  rw[hbxr]
  refine C7 77 I (fun h77=> ?_) (fun h77=> ?_)
  ·refine wP I (wP I (wP I (wP I (wP I (Aa (zE (zS I (zI (zE (zA (zB (wP I (wB 2 I I I ?_)))))))))))))
   refine wP I (wB 3 I I I ?_)
   refine FG Tryz.underlying4 I I I I I I ?_
   refine wP I ?_
   refine Au Tryz.hZ tH I I I I I I I I ?_
   refine wC I I (fun W' hp=>(BL W' p1 cp1 (decide (a<0) !=decide (g<0)) (a.natAbs/g.natAbs) (hI1 hp 4 I) (by rw[eq];have:=Ma hka hla;omega) (ht.hp hp)).cast (by rw[eq,esg,Eo hk])) ?_
   iterate 5 refine wP I ?_
   refine Aa (zE (zA (zB (wP I (wB 3 I I I (wP I ?_))))))
   refine Au Tryz.hZ tH I I I I I I I I ?_
   refine BY (v:= .tuple #[str [48], .int .i64 0]) I I I I I I (by kernel_rfl) (fun W' hp=>by
    have h:=BL W' p2 cp2 (decide (g<0)) 0 (hI2 W') (by rw[AF];decide) (ht.hp hp)
    rw[AF,H5,Eo (show okN 0 from Nat.pow_pos (by decide)),BI] at h
    exact h) ?_
   iterate 5 refine wP I ?_
   refine Aa (zE (zA (zA (zB ?_))))
   iterate 6 refine wP I ?_
   refine Aa (zE (zS I (zI (zE (zA (zB ?_))))))
   iterate 5 refine wP I ?_
   exact Aa (zE (zO (wR3 I I I)))
  ·refine wP I ?_
   iterate 3 refine Af I I ?_
   refine wP I (Aa (zE (zS I (zI (zE (zA (zB (wP I (wB 2 I I I (wP I (wB 3 I I I ?_)))))))))))
   refine FG Tryz.underlying4 I I I I I I ?_
   refine wP I ?_
   refine Au Tryz.hZ tH I I I I I I I I ?_
   refine wC I I (fun W' hp=>(BL W' p1 cp1 (decide (a<0) !=decide (g<0)) (a.natAbs/g.natAbs) (hI1 hp 4 I) (by rw[eq];have:=Ma hka hla;omega) (ht.hp hp)).cast (by rw[eq,esg,Eo hk])) ?_
   iterate 5 refine wP I ?_
   refine Aa (zE (zA (zB (wP I (wB 3 I I I (wP I ?_))))))
   refine Au Tryz.hZ tH I I I I I I I I ?_
   refine BY (v:= .tuple #[str [48], .int .i64 0]) I I I I I I (by kernel_rfl) (fun W' hp=>by
    have h:=BL W' p2 cp2 (decide (g<0)) 0 (hI2 W') (by rw[AF];decide) (ht.hp hp)
    rw[AF,H5,Eo (show okN 0 from Nat.pow_pos (by decide)),BI] at h
    exact h) ?_
   iterate 5 refine wP I ?_
   refine Aa (zE (zA (zA (zB ?_))))
   iterate 6 refine wP I ?_
   refine Aa (zE (zS I (zI (zE (zA (zB ?_))))))
   iterate 5 refine wP I ?_
   exact Aa (zE (zO (wR3 I I I)))
-- BOXES 3
def rdR (a:List UInt8):(List UInt8×List UInt8)×Int:=match frm a with
 |none=>(([],[]),11)
 |some (z,d)=>if z.natAbs<AU∧d<AU then(if Nat.gcd z.natAbs d=1 then((itoa z,decDigits d),0) else(([],[]),11)) else(([],[]),4)
def rdV (a:List UInt8):Value:= .tuple #[Ho (rdR a).1.1 (rdR a).1.2, .int .i64 (rdR a).2]
theorem SR {a:List UInt8} (h:frm a=none):rdV a= .tuple #[Ho [] [], .int .i64 11]:=by
 have e:rdR a=(([],[]),11):=by unfold rdR;rw[h]
 rw[rdV,e]
theorem Pu {a:List UInt8} {z:Int} {d:Nat} (h:frm a=some (z,d)) (hl: ¬(z.natAbs<AU∧d<AU)):rdV a= .tuple #[Ho [] [], .int .i64 4]:=by
 have e:rdR a=(([],[]),4):=by unfold rdR;rw[h];exact if_neg hl
 rw[rdV,e]
theorem T1 {a:List UInt8} {z:Int} {d:Nat} (h:frm a=some (z,d)) (hl:z.natAbs<AU∧d<AU) (hg:Nat.gcd z.natAbs d≠1):rdV a= .tuple #[Ho [] [], .int .i64 11]:=by
 have e:rdR a=(([],[]),11):=by unfold rdR;rw[h];exact(if_pos hl).trans (if_neg hg)
 rw[rdV,e]
theorem Px {a:List UInt8} {z:Int} {d:Nat} (h:frm a=some (z,d)) (hl:z.natAbs<AU∧d<AU) (hg:Nat.gcd z.natAbs d=1):rdV a= .tuple #[Ho (itoa z) (decDigits d), .int .i64 0]:=by
 have e:rdR a=((itoa z,decDigits d),0):=by unfold rdR;rw[h];exact(if_pos hl).trans (if_pos hg)
 rw[rdV,e]
theorem PR {a:List UInt8} {z:Int} {d:Nat} (h:frm a=some (z,d)):(decDigits z.natAbs).length≤a.length∧(decDigits d).length≤a.length+1:=by
 obtain⟨h1,h2⟩:=Jn h
 have h3:(decDigits z.natAbs).length≤(itoa z).length:=by
  unfold itoa
  split
  ·rw[List.length_cons];omega
  ·rename_i hz;rw[show z.toNat=z.natAbs by omega];exact Nat.le_refl _
 rw[h2]
 unfold CS
 split
 ·rename_i e;rw[e,DU];exact⟨h3,by simp⟩
 ·rw[List.length_append,List.length_cons];omega
theorem JE (z:Int) (d:Nat) (hz:z.natAbs<AU) (hd:d<AU) (W:World) (ht:AB W):
  Ad Tryz.prog 189 #[str (itoa z),str (decDigits d)] W (fun _:Unit=> .tuple #[str (decDigits (Nat.gcd z.natAbs d)), .int .i64 0]) (fun _=>True) (fun _=>[]):=by
 have h:=OR z (d:Nat) hz (by show Int.natAbs _<_;rw[Int.natAbs_natCast];exact hd) W ht
 rw[Bw,show Int.gcd z (d:Nat)=Nat.gcd z.natAbs d by rw[Int.gcd,Int.natAbs_natCast]] at h
 exact h
theorem CN (a:List UInt8) (hl:a.length≤4000000000) (W:World) (hv:Br W) (ht:AB W):
  Ad Tryz.prog 145 #[str a] W (fun _:Unit=>rdV a) (fun _=>True) (fun _=>[]):=by
 refine Ab (args:=[str a]) Tryz.func145 I I I ?_
 refine zA (zB ?_)
 (refine Ae Tryz.hZ rfl rfl rfl rfl ?_;intro)
 refine wP I (Aa ?_)
 rename_i b2
 refine zE (zA (zB (wP I ?_)))
 cases hf:frm a with
 |none=>
  refine wC I I (fun W hp=>(Kf a hl W (hv.hp hp)).cast (by rw[Ky,hf])) (wP I (wP I (wP I ?_)))
  (refine Ae Tryz.hZ rfl rfl rfl rfl ?_;intro)
  refine wS 1 I I I (wP I (Aa (zE (zA (zA (zB (wP I (wP I (Aa (zE (zR I (zA (zB ?_)))))))))))))
  refine Au Tryz.hZ tH I I I I I I I I ?_
  exact wS 0 I I I (wP I (Aa (zE (zO (zP (AH tH I (.cell 0 I I I I I) (.tmp I) () (SR hf).symm O fun W _=>A0.nil _ _))))))
 |some x=>
  obtain⟨z,d⟩:=x
  obtain⟨hd1,hap⟩:=Jn hf
  obtain⟨hz2,hd2⟩:=PR hf
  refine wC I I (fun W hp=>(Kf a hl W (hv.hp hp)).cast (by rw[Ky,hf])) (wP I (wP I (wP I ?_)))
  (refine Ae Tryz.hZ rfl rfl rfl rfl ?_;intro)
  refine wS 1 I I I (wP I (Aa ?_))
  rename_i b4
  refine zE (zA (zA (zB (wP I (wP I (Aa (zE (zS I (zI (zE (zA (zA (zB ?_)))))))))))))
  refine wP I ?_
  cases hn:D1 a with
  |some y=>
   obtain⟨z',d'⟩:=y
   obtain⟨e1,e2,e3,e4⟩:=HZ.1 hn
   rw[hf] at e1
   injection e1 with e1
   injection e1 with ez ed
   subst ez;subst ed
   have hlt: ∀n,n<100000000→n<AU:=fun n h=>Nat.lt_of_lt_of_le (Nat.lt_of_lt_of_le h (show 100000000≤10^8 by decide)) (Nat.pow_le_pow_right (by decide) (show 8≤mxd by decide))
   refine wC I I (fun W _=>(Bc a (by omega) W).cast (by rw[CB,hn])) (wP I (wP I (wP I ?_)))
   (refine Ae Tryz.hZ rfl rfl rfl rfl ?_;intro)
   refine wS 2 I I I (wP I (Aa (zE (zA (zB (wP I (Aa (zE (zR I (zA (zB (wB 1 I I I (wS 0 I I I ?_)))))))))))))
   exact wP I (Aa (zE (zO (zP (AH tH I (.cell 0 I I I I I) (.tmp I) () (Px hf ⟨hlt _ e2,hlt _ e3⟩ e4).symm O fun W _=>A0.nil _ _)))))
  |none=>
   refine wC I I (fun W _=>(Bc a (by omega) W).cast (by rw[CB,hn])) (wP I (wP I (wP I ?_)))
   (refine Ae Tryz.hZ rfl rfl rfl rfl ?_;intro)
   refine wS 2 I I I (wP I (Aa ?_))
   rename_i b6
   refine zE (zA (zB (wP I (Aa (zE (zS I (zI (zE (zA (zA (zB (wP I (wB 1 I I I ?_)))))))))))))
   refine wC I I (fun W _=>(Cu (itoa z) [45] W).cast (by rw[Bd])) (wP I ?_)
   refine Ag 28 (.int .i64 ((decDigits z.natAbs).length:Nat)) I (congrArg (fun n:Nat=>Value.int .i64 (n:Int)) (As _)) ?_
   refine wP I ?_
   by_cases hzl:z.natAbs<AU
   ·have hz3:=F9.2 hzl
    refine wU 29 false I (dF (by omega)) (wP I (wP I (wB 1 I I I (wP I ?_))))
    refine Ag 33 (.int .i64 ((decDigits d).length:Nat)) I (congrArg (fun n:Nat=>Value.int .i64 (n:Int)) (As _)) ?_
    refine wP I ?_
    by_cases hdl:d<AU
    ·have hd3:=F9.2 hdl
     refine wU 34 false I (dF (by omega)) (wP I (Aa (zE (zS I (zI (zE (zA (zA (zB (wP I (wB 1 I I I (wP I ?_))))))))))))
     by_cases h1:d=1
     ·exact wU 39 true I ((AQ _ [49]).trans (dT (by rw[h1,DU]))) (Aa (zE (zR I (zA (zB (wB 1 I I I (wS 0 I I I (wP I (Aa (zE (zO (zP (AH tH I (.cell 0 I I I I I) (.tmp I) () (Px hf ⟨hzl,hdl⟩ (by rw[h1,Nat.gcd_one_right])).symm O fun W _=>A0.nil _ _)))))))))))))
     ·refine wU 39 false I ((AQ _ [49]).trans (dF (fun e=>h1 (by have:=congrArg A9 e;rw[Bs] at this;exact this)))) (Aa (zE (zS I (zI (zE (zA (zA (zB (wP I (wB 1 I I I (wP I (wB 1 I I I (wC I I (fun W hp=>JE z d hzl hdl W (ht.hp hp)) ?_)))))))))))))
      iterate 5 refine wP I ?_
      refine Aa (zE (zA (zB ?_)))
      iterate 5 refine wP I ?_
      by_cases hg:Nat.gcd z.natAbs d=1
      ·refine wU 53 false I (by show(!_)=false;rw[AQ,hg,DU];rfl) (wP I (Aa (zE (zS I (zI (zE (zA (zB (wB 1 I I I (wS 0 I I I (wP I (Aa (zE ?_)))))))))))))
       exact zO (AH tH I (.cell 0 I I I I I) (.tmp I) () (Px hf ⟨hzl,hdl⟩ hg).symm O fun W _=>A0.nil _ _)
      ·refine wU 53 true I (by show(!_)=true;rw[AQ,dF (fun e=>hg (by have:=congrArg A9 e;rw[Bs] at this;exact this))];rfl) (wP I (Aa (zE (zR I (zA (zB ?_))))))
       refine Au Tryz.hZ tH I I I I I I I I ?_
       exact wS 0 I I I (wP I (Aa (zE (zO (zP (AH tH I (.cell 0 I I I I I) (.tmp I) () (T1 hf ⟨hzl,hdl⟩ hg).symm O fun W _=>A0.nil _ _))))))
    ·have hd3: ¬(decDigits d).length≤300:=fun h=>hdl (F9.1 h)
     refine wU 34 true I (dT (by omega)) (wP I (Aa (zE (zR I (zA (zB ?_))))))
     refine Au Tryz.hZ tH I I I I I I I I ?_
     exact wS 0 I I I (wP I (Aa (zE (zO (zP (AH tH I (.cell 0 I I I I I) (.tmp I) () (Pu hf fun h=>hdl h.2).symm O fun W _=>A0.nil _ _))))))
   ·have hz3: ¬(decDigits z.natAbs).length≤300:=fun h=>hzl (F9.1 h)
    refine wU 29 true I (dT (by omega)) (wP I ?_)
    iterate 4 refine Af I I ?_
    refine wP I (Aa (zE (zR I (zA (zB ?_)))))
    refine Au Tryz.hZ tH I I I I I I I I ?_
    exact wS 0 I I I (wP I (Aa (zE (zO (zP (AH tH I (.cell 0 I I I I I) (.tmp I) () (Pu hf fun h=>hzl h.1).symm O fun W _=>A0.nil _ _))))))
-- BOXES 3
theorem DP (z:Int):hasPrefix (itoa z) [45]=decide (z<0):=by
 rw[AY]
 refine decide_eq_decide.2 ?_
 unfold itoa
 split
 ·rename_i h;exact⟨fun _=>h,fun _=>rfl⟩
 ·rename_i h
  obtain⟨b,r,hb,h3,h4⟩:=Cd z.toNat
  rw[hb]
  constructor
  ·intro e
   have e:b=45:=by simpa using e
   rw[e] at h3;exact absurd h3 (by decide)
  ·intro h5;exact absurd h5 h
theorem Hc {z:Int}:itoa z=[48]↔z=0:=by
 constructor
 ·intro h
  have h2:=Bd z
  rw[h] at h2
  have h3:=congrArg A9 h2
  rw[Bs] at h3
  have h4:A9 (trimPrefix [48] [45])=0:=by decide
  rw[h4] at h3;omega
 ·rintro rfl;exact BI
theorem D0 {z:Int} (h:okN z):(itoa z).length≤301:=by
 have h2:=F9.2 h
 unfold itoa
 split
 ·rw[List.length_cons];omega
 ·rename_i hz;rw[show z.toNat=z.natAbs by omega];omega
theorem FM (z:Int) (hz:okN z):AZ Tryz.prog 192 [str (itoa z)] (str (itoa (-z))):=by
 intro W
 refine Ab Tryz.func192 I I I ?_
 refine zA (zB (wP I (Aa (zE (zA (zA (zB (wP I (wP I ?_)))))))))
 by_cases h0:z=0
 ·exact wU 6 true I ((AQ _ [48]).trans (dT (Hc.2 h0))) (Aa (zE (zR I (zA (zB (wP I (wP I (Aa (zE (zO (zP (wR1 I I (by rw[h0];rfl)))))))))))))
 ·refine wU 6 false I ((AQ _ [48]).trans (dF fun e=>h0 (Hc.1 e))) (Aa (zE (zS I (zI (zE (zA (zA (zB (wP I ?_)))))))))
  by_cases hn:z<0
  ·refine wC I I (fun W _=>(C5 (itoa z) [45] W).cast (by rw[Bd,DP,dT hn])) ?_
   iterate 5 refine wP I ?_
   refine Aa (zE (zA (zB (wP I (Aa (zE (zR I (zA (zB (wP I (wP I (Aa (zE ?_)))))))))))))
   exact zO (zP (wR1 I I (by rw[itoa,if_neg (by omega),show(-z).toNat=z.natAbs by omega])))
  ·refine wC I I (fun W _=>(C5 (itoa z) [45] W).cast (by rw[Bd,DP,dF hn])) ?_
   iterate 5 refine wP I ?_
   refine Aa (zE (zA (zB (wP I (Aa (zE (zS I (zI (zE (zA (zB (wP I ?_))))))))))))
   refine By I I I I I (by decide) (Nat.le_trans (D0 hz) (by decide)) ?_
   refine wP I (Aa (zE (zO ?_)))
   exact AE tH I (.tmp I) () (by
    rw[show itoa (-z)=45::decDigits (-z).natAbs by rw[itoa,if_pos (by omega)],Int.natAbs_neg]
    rw[show itoa z=decDigits z.natAbs by rw[itoa,if_neg hn,show z.toNat=z.natAbs by omega]];rfl) trivial fun W _=>A0.nil _ _
theorem Jd {z:Int} (h:okN z):okN (-z):=by unfold okN;rw[Int.natAbs_neg];exact h
theorem D6 (z d:Int) (hd:d≠0) (hz:okN z) (hd2:okN d) (W:World) (ht:AB W):
  Ad Tryz.prog 149 #[str (itoa z),str (itoa d)] W (fun _:Unit=> .tuple #[str (Ac (mkRat (if d<0 then -z else z) d.natAbs)), .int .i64 0]) (fun _=>True) (fun _=>[]):=by
 refine Ab (args:=[str (itoa z),str (itoa d)]) Tryz.func149 I I I ?_
 refine zA (zB (wP I (wP I (Aa (zE (zA (zA (zB (wP I (wC I I (fun W _=>(Mh (itoa d) [45] W).cast (by rw[DP])) (Aa (A4 ?_))))))))))))
 refine A3 (X:=Unit) (fun _=>[(0,str (itoa (if d<0 then -z else z))),(1,str (decDigits d.natAbs)),(4,str []),(5, .int .i64 0)]) (fun _=>[]) (fun _=>True) ?_ ?_
 ·refine Ai I (fun hc=> ?_) (fun hc=> ?_)
  ·have hc:=of_decide_eq_true hc
   refine zB (wP I (wC I I (fun W _=>FM z hz W) (wP I (wC I I (fun W _=>FM d hd2 W) (wP I (wP I (Aa ?_)))))))
   rw[if_pos hc]
   exact Ah () O ⟨I,by rw[show itoa (-d)=decDigits d.natAbs by rw[itoa,if_neg (by omega),show(-d).toNat=d.natAbs by omega]];rfl,I,I,O⟩ [] I
  ·have hc:=of_decide_eq_false hc
   refine zI ?_
   rw[if_neg hc]
   exact Ah () O ⟨I,by rw[show decDigits d.natAbs=itoa d by rw[itoa,if_neg hc,show d.toNat=d.natAbs by omega]];rfl,I,I,O⟩ [] I
 ·intro _ _
  obtain⟨x,hx⟩: ∃x,(if d<0 then -z else z)=x:=⟨_,rfl⟩
  obtain⟨e,he⟩: ∃e,d.natAbs=e:=⟨_,rfl⟩
  have hxo:okN x:=by rw[←hx];split;exact Jd hz;exact hz
  have heo:e<AU:=by rw[←he];exact hd2
  rw[hx,he]
  have he0:e≠0:=by omega
  obtain⟨g,hg⟩: ∃g,Nat.gcd x.natAbs e=g:=⟨_,rfl⟩
  have hg0:0<g:=by rw[←hg];exact Nat.gcd_pos_of_pos_right _ (by omega)
  obtain⟨k,hk⟩: ∃k,x=(g:Int)*k:=Int.natAbs_dvd_natAbs.1 (by rw[Int.natAbs_natCast, ←hg];exact Nat.gcd_dvd_left ..)
  obtain⟨m,hm⟩: ∃m,e=g*m:=by rw[←hg];exact Nat.gcd_dvd_right ..
  have hge:g≤e:=by rw[hm];exact Nat.le_mul_of_pos_right _ (Nat.pos_of_ne_zero fun h=>he0 (by rw[hm,h,Nat.mul_zero]))
  have hgo:okN (g:Int):=by unfold okN;rw[Int.natAbs_natCast];omega
  have hkx:k.natAbs≤x.natAbs:=by rw[hk,Int.natAbs_mul];exact Nat.le_mul_of_pos_left _ (by omega)
  have hme:m≤e:=by rw[hm];exact Nat.le_mul_of_pos_left _ hg0
  have hko:okN k:=Nat.lt_of_le_of_lt hkx hxo
  have hmo:m<AU:=by omega
  have hq1:x/(g:Int)=k:=by rw[hk];exact Int.mul_ediv_cancel_left _ (by omega)
  have hq2:e/g=m:=by rw[hm];exact Nat.mul_div_cancel_left _ hg0
  have hone:m=1→Ac (mkRat x e)=itoa k:=fun h=>by rw[HG he0 (by rw[hg,hq2,h]),hg,hq1]
  have htwo:m≠1→Ac (mkRat x e)=itoa k++[47]++decDigits m:=fun h=>by rw[HO he0 (by rw[hg,hq2];exact h),hg,hq1,hq2,Bw]
  refine Ax (zB (wP I (wP I (wC I I (fun W hp=>(JE x e hxo heo W (ht.hp hp)).cast (by rw[hg])) ?_))))
  iterate 5 refine wP I ?_
  refine Aa (zE (zA (zA (zB (wP I (wP I (Aa (zE (zS I (zI (zE (zA (zA ?_)))))))))))))
  refine zB (wP I (wP I (wU 24 (decide (g≠1)) I (by show(!_)=_;rw[AQ,decide_not];exact congrArg not (decide_eq_decide.2 ⟨fun h=>by have:=congrArg A9 h;rw[Bs] at this;exact this,fun h=>by rw[h,DU]⟩)) (Aa (A4 ?_)))))
  refine A3 (X:=Unit) (fun _=>[(0,str (itoa k)),(1,str (decDigits m)),(4,str []),(5, .int .i64 0)]) (fun _=>[]) (fun _=>True) ?_ ?_
  ·refine Ai I (fun hc=> ?_) (fun hc=> ?_)
   ·refine zA (zB (wP I (wP I (wC I I (fun W hp=>by have h:=Kn (g:Int) k (by omega) (by rw[←hk];exact hxo) hgo W (ht.hp hp);rw[←hk,Bw] at h;exact h) ?_))))
    iterate 5 refine wP I ?_
    refine Aa (zE (zB (wP I (wP I (wC I I (fun W hp=>by have h:=Kn (g:Int) (m:Nat) (by omega) (by rw[←Int.natCast_mul, ←hm];unfold okN;rw[Int.natAbs_natCast];exact heo) hgo W (ht.hp hp);rw[←Int.natCast_mul, ←hm,Bw,Bw,Bw] at h;exact h) ?_)))))
    iterate 5 refine wP I ?_
    exact Aa (Ah () O ⟨I,I,I,I,O⟩ [] I)
   ·have hc:=of_decide_eq_false hc
    have h1:g=1:=Decidable.byContradiction hc
    have hkx:k=x:=by rw[hk,h1];omega
    have hme:m=e:=by rw[hm,h1];omega
    refine zI ?_
    rw[hkx,hme]
    exact Ah () O ⟨I,I,I,I,O⟩ [] I
  ·intro _ _
   refine zA (zA (zB (wP I (wP I ?_))))
   by_cases h1:m=1
   ·exact wU 40 true I ((AQ _ [49]).trans (dT (by rw[h1,DU]))) (Aa (zE (zR I (zA (zB (wP I (wP I (wP I (Aa (zE (zO (zP (wR2 I I (by rw[hone h1]))))))))))))))
   ·refine wU 40 false I ((AQ _ [49]).trans (dF (fun e=>h1 (by have:=congrArg A9 e;rw[Bs] at this;exact this)))) (Aa (zE (zS I (zI (zE (zA (zB (wP I ?_))))))))
    refine By I I I I I (Nat.le_trans (D0 hko) (by decide)) (by decide) ?_
    refine wP I ?_
    refine By I I I I I (by have:=D0 hko;rw[List.length_append];show _+1≤_;omega) (Nat.le_trans (F9.2 hmo) (by decide)) ?_
    exact wP I (wP I (Aa (zE (zO (wR2 I I (by rw[htwo h1]))))))
-- BOXES 4
theorem DX {x y:Int} (hx:x.natAbs<100000000) (hy:y.natAbs<100000000):(x*y).natAbs<10000000000000000:=by
 rw[Int.natAbs_mul]
 exact Nat.lt_of_le_of_lt (Nat.mul_le_mul (Nat.le_of_lt_succ (Nat.lt_succ_of_lt hx)) (Nat.le_of_lt_succ (Nat.lt_succ_of_lt hy))|>fun h=>Nat.le_trans (Nat.mul_le_mul (show x.natAbs≤99999999 by omega) (show y.natAbs≤99999999 by omega)) (Nat.le_refl _)) (by decide)
theorem Cj {x y:Int} (hx:x.natAbs<100000000) (hy:y.natAbs<100000000):w64 (x*y)=x*y:=by
 have:=DX hx hy
 exact Aj (by omega) (by omega)
theorem Og (z d z' d':Int) (h1:z.natAbs<100000000) (h2:d.natAbs<100000000) (h3:z'.natAbs<100000000) (h4:d'.natAbs<100000000):AZ Tryz.prog 77 [EG z d,EG z' d'] (EG (z*d'+z'*d) (d*d')):=by
 intro W
 have a1:=DX h1 h4
 have a2:=DX h3 h2
 refine Ab Tryz.func77 I I I ?_
 refine zA (zB ?_)
 (refine Az rfl rfl rfl rfl ?_;intro)
 (refine Az rfl rfl rfl rfl ?_;intro)
 (refine Ae Tryz.hZ rfl rfl rfl rfl ?_;intro)
 refine Aa (zE (zA (zB (wP I (wB 0 I I I (wP I (wB 1 I I I (wP I (wV 9 (z*d') I (Cj h1 h4) (wP I (wB 1 I I I (wP I (wB 0 I I I ?_)))))))))))))
 refine wP I (wV 14 (z'*d) I (Cj h3 h2) (wP I (wV 15 (z*d'+z'*d) I (Aj (by omega) (by omega)) (wP I (wB 0 I I I (wP I (wB 1 I I I (wP I (wV 20 (d*d') I (Cj h2 h4) ?_)))))))))
 refine Au Tryz.hZ tH I I I I I I I I ?_
 exact wS 2 I I I (Aa (zE (zO (AE tH I (.cell 2 I I I I I) () I O fun W _=>A0.nil _ _))))
theorem OT (z d z' d':Int) (h1:z.natAbs<100000000) (h2:d.natAbs<100000000) (h3:z'.natAbs<100000000) (h4:d'.natAbs<100000000):AZ Tryz.prog 178 [EG z d,EG z' d'] (EG (z*d'-z'*d) (d*d')):=by
 intro W
 have a1:=DX h1 h4
 have a2:=DX h3 h2
 refine Ab Tryz.func178 I I I ?_
 refine zA (zB ?_)
 (refine Az rfl rfl rfl rfl ?_;intro)
 (refine Az rfl rfl rfl rfl ?_;intro)
 (refine Ae Tryz.hZ rfl rfl rfl rfl ?_;intro)
 refine Aa (zE (zA (zB (wP I (wB 0 I I I (wP I (wB 1 I I I (wP I (wV 9 (z*d') I (Cj h1 h4) (wP I (wB 1 I I I (wP I (wB 0 I I I ?_)))))))))))))
 refine wP I (wV 14 (z'*d) I (Cj h3 h2) (wP I (wV 15 (z*d'-z'*d) I (Aj (by omega) (by omega)) (wP I (wB 0 I I I (wP I (wB 1 I I I (wP I (wV 20 (d*d') I (Cj h2 h4) ?_)))))))))
 refine Au Tryz.hZ tH I I I I I I I I ?_
 exact wS 2 I I I (Aa (zE (zO (AE tH I (.cell 2 I I I I I) () I O fun W _=>A0.nil _ _))))
theorem OZ (z d z' d':Int) (h1:z.natAbs<100000000) (h2:d.natAbs<100000000) (h3:z'.natAbs<100000000) (h4:d'.natAbs<100000000):AZ Tryz.prog 180 [EG z d,EG z' d'] (EG (z*z') (d*d')):=by
 intro W
 refine Ab Tryz.func180 I I I ?_
 refine zA (zB ?_)
 (refine Az rfl rfl rfl rfl ?_;intro)
 (refine Az rfl rfl rfl rfl ?_;intro)
 (refine Ae Tryz.hZ rfl rfl rfl rfl ?_;intro)
 refine Aa (zE (zA (zB (wP I (wB 0 I I I (wP I (wB 1 I I I (wP I (wV 9 (z*z') I (Cj h1 h3) (wP I (wB 0 I I I (wP I (wB 1 I I I ?_)))))))))))))
 refine wP I (wV 14 (d*d') I (Cj h2 h4) ?_)
 refine Au Tryz.hZ tH I I I I I I I I ?_
 exact wS 2 I I I (Aa (zE (zO (AE tH I (.cell 2 I I I I I) () I O fun W _=>A0.nil _ _))))
theorem Oq (z d z' d':Int) (h1:z.natAbs<100000000) (h2:d.natAbs<100000000) (h3:z'.natAbs<100000000) (h4:d'.natAbs<100000000):AZ Tryz.prog 184 [EG z d,EG z' d'] (EG (z*d') (d*z')):=by
 intro W
 refine Ab Tryz.func184 I I I ?_
 refine zA (zB ?_)
 (refine Az rfl rfl rfl rfl ?_;intro)
 (refine Az rfl rfl rfl rfl ?_;intro)
 (refine Ae Tryz.hZ rfl rfl rfl rfl ?_;intro)
 refine Aa (zE (zA (zB (wP I (wB 0 I I I (wP I (wB 1 I I I (wP I (wV 9 (z*d') I (Cj h1 h4) (wP I (wB 0 I I I (wP I (wB 1 I I I ?_)))))))))))))
 refine wP I (wV 14 (d*z') I (Cj h2 h3) ?_)
 refine Au Tryz.hZ tH I I I I I I I I ?_
 exact wS 2 I I I (Aa (zE (zO (AE tH I (.cell 2 I I I I I) () I O fun W _=>A0.nil _ _))))
def smQ (p:Rat):Prop:=p.num.natAbs<100000000∧p.den<100000000
instance (p:Rat):Decidable (smQ p):=by unfold smQ;infer_instance
theorem CJ (p:Rat):CB (Ac p)=if smQ p then .tuple #[EG p.num (p.den:Nat), .bool true] else Jp:=by
 have hf:frm (Ac p)=some (p.num,p.den):=Dy _ p.den_pos
 by_cases h:smQ p
 ·have e:D1 (Ac p)=some (p.num,p.den):=HZ.2 ⟨hf,h.1,h.2,p.reduced⟩
  rw[if_pos h,CB,e]
 ·have e:D1 (Ac p)=none:=by
   cases hn:D1 (Ac p) with
   |none=>rfl
   |some x=>
    obtain⟨x1,x2⟩:=x
    obtain⟨e1,e2,e3,_⟩:=HZ.1 hn
    rw[hf] at e1
    injection e1 with e1
    injection e1 with ea eb
    subst ea;subst eb
    exact absurd ⟨e2,e3⟩ h
  rw[if_neg h,CB,e]
theorem Ew (p q r:Rat) (z d:Int) (g:Nat) (hE:Bz Tryz.prog g=true) (hlp:(Ac p).length<4611686018427387904) (hlq:(Ac q).length<4611686018427387904)
  (hg:smQ p→smQ q→AZ Tryz.prog g [EG p.num (p.den:Nat),EG q.num (q.den:Nat)] (EG z d)∧d≠0∧z.natAbs<1000000000000000000∧d.natAbs<1000000000000000000∧mkRat (if d<0 then -z else z) d.natAbs=r) (W:World) (ht:AB W):
  Ad Tryz.prog 76 #[str (Ac p),str (Ac q), .func (.func g) #[] #[]] W (fun _:Unit=>if smQ p∧smQ q then .tuple #[str (Ac r), .bool true] else .tuple #[str [], .bool false]) (fun _=>True) (fun _=>[]):=by
 refine Ab (args:=[str (Ac p),str (Ac q), .func (.func g) #[] #[]]) Tryz.func76 I I I ?_
 refine zA (zB (wP I (wP I (Aa (zE (zA (zB (wP I ?_))))))))
 by_cases hp:smQ p
 ·refine wC I I (fun W _=>(Bc (Ac p) hlp W).cast ((CJ p).trans (if_pos hp))) (wP I (wP I (wP I ?_)))
  (refine Ae Tryz.hZ rfl rfl rfl rfl ?_;intro)
  refine wS 0 I I I (wP I (Aa ?_))
  rename_i b8
  refine zE (zA (zA (zB (wP I (wP I (Aa (zE (zS I (zI (zE (zA (zB (wP I ?_)))))))))))))
  by_cases hq:smQ q
  ·obtain⟨hg1,hd,hz1,hd1,hr⟩:=hg hp hq
   refine wC I I (fun W _=>(Bc (Ac q) hlq W).cast ((CJ q).trans (if_pos hq))) (wP I (wP I (wP I ?_)))
   (refine Ae Tryz.hZ rfl rfl rfl rfl ?_;intro)
   refine wS 1 I I I (wP I (Aa ?_))
   rename_i b10
   refine zE (zA (zA (zB (wP I (wP I (Aa (zE (zS I (zI (zE (zA (zB (wP I ?_)))))))))))))
   refine wB 0 I I I (wB 1 I I I ?_)
   refine BY (capt:=[]) I I I I I I hE (fun W _=>hg1 W) ?_
   exact wC I I (fun W hp=>(M4 z d hd hz1 hd1 W (ht.hp hp)).cast (by rw[hr])) (wP I (wP I (Aa (zE (zO (AH tH I (.tmp I) (.tmp I) () (if_pos ⟨hp,hq⟩).symm O fun W _=>A0.nil _ _))))))
  ·refine wC I I (fun W _=>(Bc (Ac q) hlq W).cast ((CJ q).trans (if_neg hq))) (wP I (wP I (wP I ?_)))
   (refine Ae Tryz.hZ rfl rfl rfl rfl ?_;intro)
   refine wS 1 I I I (wP I (Aa (zE (zA (zA (zB (wP I (wP I (Aa (zE (zR I (zA (zB ?_)))))))))))))
   exact wP I (wP I (Aa (zE (zO (zP (AH tH I (.tmp I) (.tmp I) () (if_neg fun h=>hq h.2).symm O fun W _=>A0.nil _ _))))))
 ·refine wC I I (fun W _=>(Bc (Ac p) hlp W).cast ((CJ p).trans (if_neg hp))) (wP I (wP I (wP I ?_)))
  (refine Ae Tryz.hZ rfl rfl rfl rfl ?_;intro)
  refine wS 0 I I I (wP I (Aa (zE (zA (zA (zB (wP I (wP I (Aa (zE (zR I (zA (zB ?_)))))))))))))
  exact wP I (wP I (Aa (zE (zO (zP (AH tH I (.tmp I) (.tmp I) () (if_neg fun h=>hp h.1).symm O fun W _=>A0.nil _ _))))))
-- BOXES 4
abbrev Ft (q:Rat):Value:=Ho (itoa q.num) (itoa (q.den:Nat))
def okQ (q:Rat):Prop:=okN q.num∧okN (q.den:Nat)
theorem GZ {z:Int} (h:okN z):K6 z= .tuple #[str (itoa z), .int .i64 0]:=if_pos h
theorem J5 {q:Rat} (h:okQ q):rdV (Ac q)= .tuple #[Ft q, .int .i64 0]:=by
 have hd:q.den<AU:=by have:=h.2;unfold okN at this;rwa [Int.natAbs_natCast] at this
 have hf:frm (Ac q)=some (q.num,q.den):=Dy q.num q.den_pos
 rw[Px hf ⟨h.1,hd⟩ q.reduced, ←Bw]
theorem B2 {q:Rat} (h:okQ q):(Ac q).length≤1000:=by
 have h1:=D0 h.1
 have h2:=D0 h.2
 rw[Bw] at h2
 unfold Ac CS
 split
 ·omega
 ·rw[List.length_append,List.length_cons];omega
theorem E3 (p q:Rat) (hp:okQ p) (hq:okQ q) (h1:okN (p.num*(q.den:Nat))) (h2:okN (q.num*(p.den:Nat))) (W:World) (ht:AB W):
  Ad Tryz.prog 147 #[Ft p,Ft q] W (fun _:Unit=> .tuple #[str (itoa (p.num*(q.den:Nat))),str (itoa (q.num*(p.den:Nat))), .int .i64 0]) (fun _=>True) (fun _=>[]):=by
 refine Ab (args:=[Ft p,Ft q]) Tryz.func147 I I I ?_
 refine zA (zB ?_)
 (refine Az rfl rfl rfl rfl ?_;intro)
 (refine Az rfl rfl rfl rfl ?_;intro)
 refine wP I (wP I (wP I (Aa (zE (zA (zB (wP I (wB 0 I I I (wP I (wB 1 I I I (wC I I (fun W h=>(Ed p.num (q.den:Nat) hp.1 hq.2 W (ht.hp h)).cast (GZ h1)) ?_)))))))))))
 iterate 5 refine wP I ?_
 refine Aa (zE (zA (zA (zB (wP I (wP I (Aa (zE (zS I (zI (zE (zA (zB ?_)))))))))))))
 refine wP I (wB 1 I I I (wP I (wB 0 I I I (wC I I (fun W h=>(Ed q.num (p.den:Nat) hq.1 hp.2 W (ht.hp h)).cast (GZ h2)) ?_))))
 iterate 5 refine wP I ?_
 refine Aa (zE (zA (zB ?_)))
 iterate 6 refine wP I ?_
 exact Aa (zE (zO (wR3 I I I)))
theorem Eu (p q:Rat) (v:List UInt8) (e:Int) (g:Nat) (capt:List Value) (hp:okQ p) (hq:okQ q) (W0:World) (hv:Br W0) (ht:AB W0) (hE:Bz Tryz.prog g=true)
  (hg: ∀W,Below W0.heap.size W0 W→Ad Tryz.prog g ([Ft p,Ft q]++capt).toArray W (fun _:Unit=> .tuple #[str v, .int .i64 e]) (fun _=>True) (fun _=>[])):
  Ad Tryz.prog 78 #[str (Ac p),str (Ac q), .func (.func g) #[] capt.toArray] W0 (fun _:Unit=> .tuple #[str v, .int .i64 e]) (fun _=>True) (fun _=>[]):=by
 have hlp:=B2 hp
 have hlq:=B2 hq
 refine Ab (args:=[str (Ac p),str (Ac q), .func (.func g) #[] capt.toArray]) Tryz.func78 I I I ?_
 refine zA (zB (wP I (wP I (Aa (zE (zA (zB (wP I (wC I I (fun W h=>(CN (Ac p) (by omega) W (hv.hp h) (ht.hp h)).cast (J5 hp)) (wP I (wP I (wP I ?_))))))))))))
 (refine Ae Tryz.hZ rfl rfl rfl rfl ?_;intro)
 refine wS 0 I I I (wP I (Aa ?_))
 rename_i b8
 refine zE (zA (zA (zB (wP I (wP I (Aa (zE (zS I (zI (zE (zA (zB (wP I ?_)))))))))))))
 refine wC I I (fun W h=>(CN (Ac q) (by omega) W (hv.hp h) (ht.hp h)).cast (J5 hq)) (wP I (wP I (wP I ?_)))
 (refine Ae Tryz.hZ rfl rfl rfl rfl ?_;intro)
 refine wS 1 I I I (wP I (Aa ?_))
 rename_i b10
 refine zE (zA (zA (zB (wP I (wP I (Aa (zE (zS I (zI (zE (zA (zB (wP I ?_)))))))))))))
 refine wB 0 I I I (wB 1 I I I ?_)
 refine BY (capt:=capt) I I I I I I hE (fun W h=>hg W h.below) ?_
 exact wP I (wP I (wP I (wP I (Aa (zE (zO (wR2 I I I)))))))
end
section
open Go Go.Lib
abbrev nrm (z d:Int):Rat:=mkRat (if d<0 then -z else z) d.natAbs
theorem Ey (z:Int) {d:Int} (hd:d≠0):nrm z d=Rat.divInt z d:=by
 unfold nrm
 cases d with
 |ofNat n=>
  rw[if_neg (by intro h;exact absurd h (by simp))]
  rfl
 |negSucc n=>
  rw[if_pos (Int.negSucc_lt_zero n)]
  show mkRat (-z) (n+1)=_
  rw[Rat.divInt]
  rw[Rat.normalize_eq_mkRat]
theorem Jb (p q:Rat):nrm (p.num*(q.den:Nat)+q.num*(p.den:Nat)) ((p.den:Nat)*(q.den:Nat))=p+q:=by
 have h1:((p.den:Nat):Int)≠0:=by have:=p.den_nz;omega
 have h2:((q.den:Nat):Int)≠0:=by have:=q.den_nz;omega
 rw[Ey _ (Int.mul_ne_zero h1 h2)]
 rw[←Rat.divInt_add_divInt _ _ h1 h2,Rat.num_divInt_den,Rat.num_divInt_den]
theorem LC (p q:Rat):nrm (p.num*(q.den:Nat)-q.num*(p.den:Nat)) ((p.den:Nat)*(q.den:Nat))=p-q:=by
 have h1:((p.den:Nat):Int)≠0:=by have:=p.den_nz;omega
 have h2:((q.den:Nat):Int)≠0:=by have:=q.den_nz;omega
 rw[Ey _ (Int.mul_ne_zero h1 h2)]
 rw[←Rat.divInt_sub_divInt _ _ h1 h2,Rat.num_divInt_den,Rat.num_divInt_den]
theorem IZ (p q:Rat):nrm (p.num*q.num) ((p.den:Nat)*(q.den:Nat))=p*q:=by
 have h1:((p.den:Nat):Int)≠0:=by have:=p.den_nz;omega
 have h2:((q.den:Nat):Int)≠0:=by have:=q.den_nz;omega
 rw[Ey _ (Int.mul_ne_zero h1 h2)]
 rw[←Rat.divInt_mul_divInt,Rat.num_divInt_den,Rat.num_divInt_den]
theorem IS (p q:Rat) (hq:q.num≠0):nrm (p.num*(q.den:Nat)) ((p.den:Nat)*q.num)=p/q:=by
 have h1:((p.den:Nat):Int)≠0:=by have:=p.den_nz;omega
 rw[Ey _ (Int.mul_ne_zero h1 hq)]
 rw[←Rat.divInt_mul_divInt,Rat.num_divInt_den,Rat.div_def,Rat.inv_def]
def szQ (q:Rat) (k:Nat):Prop:=q.num.natAbs<10^k∧q.den<10^k
theorem HB (z:Int) {d:Int} (hd:d≠0) {k:Nat} (hz:z.natAbs<10^k) (hd2:d.natAbs<10^k):szQ (nrm z d) k:=by
 have h0:d.natAbs≠0:=by omega
 have hx:(if d<0 then -z else z).natAbs=z.natAbs:=by split;rw[Int.natAbs_neg];rfl
 unfold nrm
 rw[mkRat,dif_neg h0,Rat.normalize_eq]
 constructor
 ·show((if d<0 then -z else z)/_).natAbs<_
  refine Nat.lt_of_le_of_lt ?_ hz
  rw[←hx]
  exact Int.natAbs_ediv_le_natAbs ..
 ·exact Nat.lt_of_le_of_lt (Nat.div_le_self ..) hd2
end
section
open Go Go.RowKit Go.Am Go.Lib
set_option maxRecDepth 10000
-- BOXES 4
theorem Gi (h:Nat) (W:World):Ad Tryz.prog 79 #[.func (.func h) #[] #[]] W (fun b:Nat=> .func (.func 146) #[] #[Al b]) (fun _=>True) (fun b=>[⟨b,104,[.func (.func h) #[] #[]],true,none⟩]):=by
 refine Ab (args:=[.func (.func h) #[] #[]]) Tryz.func79 I I I ?_
 refine zA (zB ?_)
 refine Az rfl rfl rfl rfl ?_;intro b
 exact wP I (Aa (zE (zA (zB (wP I (wP I (Aa (zE (zO (AE tH I (.tmp I) b I O fun W hp=>A0.of_hp hp))))))))))
theorem E0 {p q:Rat}:((p.den:Nat):Int)*(q.den:Nat)≠0:=Int.mul_ne_zero (by have:=p.den_nz;omega) (by have:=q.den_nz;omega)
theorem I3 (p q:Rat) (b h:Nat) (z:Int) (hp:okQ p) (hq:okQ q) (h1:okN (p.num*(q.den:Nat))) (h2:okN (q.num*(p.den:Nat))) (hz:okN z) (hd:okN ((p.den:Nat)*(q.den:Nat))) (hE:Bz Tryz.prog h=true)
  (hop: ∀W,AB W→Ad Tryz.prog h #[str (itoa (p.num*(q.den:Nat))),str (itoa (q.num*(p.den:Nat)))] W (fun _:Unit=> .tuple #[str (itoa z), .int .i64 0]) (fun _=>True) (fun _=>[])) (W:World) (ht:AB W) (hrow:Ao W b 0 [.func (.func h) #[] #[]]):
  Ad Tryz.prog 146 #[Ft p,Ft q,Al b] W (fun _:Unit=> .tuple #[str (Ac (nrm z ((p.den:Nat)*(q.den:Nat)))), .int .i64 0]) (fun _=>True) (fun _=>[]):=by
 refine Ab (args:=[Ft p,Ft q,Al b]) Tryz.func146 I I I ?_
 refine zA (zB ?_)
 (refine Az rfl rfl rfl rfl ?_;intro)
 (refine Az rfl rfl rfl rfl ?_;intro)
 refine wP I (wP I (Aa (zE (zA (zB (wB 0 I I I (wB 1 I I I (wC I I (fun W h=>E3 p q hp hq h1 h2 W (ht.hp h)) ?_))))))))
 iterate 7 refine wP I ?_
 refine Aa (zE (zA (zA (zB (wP I (wP I (Aa (zE (zS I (zI (zE (zA (zB ?_)))))))))))))
 refine wL 0 I I (fun W h=>hrow.hp h) I (wP I (wP I ?_))
 refine BY (capt:=[]) I I I I I I hE (fun W h=>hop W (ht.hp h)) ?_
 iterate 5 refine wP I ?_
 refine Aa (zE (zA (zA (zB (wP I (wP I (Aa (zE (zS I (zI (zE (zA (zB ?_)))))))))))))
 refine wP I (wB 0 I I I (wP I (wB 1 I I I (wC I I (fun W h=>(Ed (p.den:Nat) (q.den:Nat) hp.2 hq.2 W (ht.hp h)).cast (GZ hd)) ?_))))
 iterate 5 refine wP I ?_
 refine Aa (zE (zA (zA (zB (wP I (wP I (Aa (zE (zS I (zI (zE (zA (zB ?_)))))))))))))
 exact wP I (wP I (wC I I (fun W h=>D6 z ((p.den:Nat)*(q.den:Nat)) E0 hz hd W (ht.hp h)) (wP I (wP I (wP I (wP I (Aa (zE (zO (wR2 I I I))))))))))
theorem OV (p q:Rat) (hp:okQ p) (hq:okQ q) (hz:okN (p.num*q.num)) (hd:okN ((p.den:Nat)*(q.den:Nat))) (W:World) (ht:AB W):
  Ad Tryz.prog 181 #[Ft p,Ft q] W (fun _:Unit=> .tuple #[str (Ac (p*q)), .int .i64 0]) (fun _=>True) (fun _=>[]):=by
 refine Ab (args:=[Ft p,Ft q]) Tryz.func181 I I I ?_
 refine zA (zB ?_)
 (refine Az rfl rfl rfl rfl ?_;intro)
 (refine Az rfl rfl rfl rfl ?_;intro)
 refine wP I (wP I (Aa (zE (zA (zB (wP I (wB 0 I I I (wP I (wB 1 I I I (wC I I (fun W h=>(Ed p.num q.num hp.1 hq.1 W (ht.hp h)).cast (GZ hz)) ?_))))))))))
 iterate 5 refine wP I ?_
 refine Aa (zE (zA (zA (zB (wP I (wP I (Aa (zE (zS I (zI (zE (zA (zB ?_)))))))))))))
 refine wP I (wB 0 I I I (wP I (wB 1 I I I (wC I I (fun W h=>(Ed (p.den:Nat) (q.den:Nat) hp.2 hq.2 W (ht.hp h)).cast (GZ hd)) ?_))))
 iterate 5 refine wP I ?_
 refine Aa (zE (zA (zA (zB (wP I (wP I (Aa (zE (zS I (zI (zE (zA (zB ?_)))))))))))))
 exact wP I (wP I (wC I I (fun W h=>(D6 (p.num*q.num) ((p.den:Nat)*(q.den:Nat)) E0 hz hd W (ht.hp h)).cast (congrArg (fun r=>Value.tuple #[str (Ac r), .int .i64 0]) (IZ p q))) (wP I (wP I (wP I (wP I (Aa (zE (zO (wR2 I I I))))))))))
def KI (p q:Rat):List UInt8×Int:=if q.num=0 then([],12) else(Ac (p/q),0)
theorem Rm (p q:Rat) (hq:q.num≠0):nrm (p.num*(q.den:Nat)) (q.num*(p.den:Nat))=p/q:=by rw[Int.mul_comm q.num,IS p q hq]
theorem NX (p q:Rat) (hp:okQ p) (hq:okQ q) (h1:okN (p.num*(q.den:Nat))) (h2:okN (q.num*(p.den:Nat))) (W:World) (ht:AB W):
  Ad Tryz.prog 185 #[Ft p,Ft q] W (fun _:Unit=> .tuple #[str (KI p q).1, .int .i64 (KI p q).2]) (fun _=>True) (fun _=>[]):=by
 refine Ab (args:=[Ft p,Ft q]) Tryz.func185 I I I ?_
 refine zA (zB ?_)
 (refine Az rfl rfl rfl rfl ?_;intro)
 (refine Az rfl rfl rfl rfl ?_;intro)
 refine wP I (wP I (Aa (zE (zA (zA (zB (wP I (wB 1 I I I (wP I ?_)))))))))
 by_cases h0:q.num=0
 ·exact wU 11 true I ((AQ _ [48]).trans (dT (Hc.2 h0))) (Aa (zE (zR I (zA (zB (wP I (wP I (Aa (zE (zO (zP (wR2 I I (by rw[KI,if_pos h0])))))))))))))
 ·refine wU 11 false I ((AQ _ [48]).trans (dF fun e=>h0 (Hc.1 e))) (Aa (zE (zS I (zI (zE (zA (zB (wB 0 I I I (wB 1 I I I (wC I I (fun W h=>E3 p q hp hq h1 h2 W (ht.hp h)) ?_))))))))))
  iterate 7 refine wP I ?_
  refine Aa (zE (zA (zA (zB (wP I (wP I (Aa (zE (zS I (zI (zE (zA (zB ?_)))))))))))))
  exact wP I (wP I (wC I I (fun W h=>(D6 (p.num*(q.den:Nat)) (q.num*(p.den:Nat)) (Int.mul_ne_zero h0 (by have:=p.den_nz;omega)) h1 h2 W (ht.hp h)).cast (congrArg (fun r=>Value.tuple #[str (Ac r), .int .i64 0]) (Rm p q h0))) (wP I (wP I (wP I (wP I (Aa (zE (zO (wR2 I I (by rw[KI,if_neg h0])))))))))))
-- BOXES 4
theorem Et {z:Int} {k:Nat} (h:z.natAbs<10^k) (hk:k≤300):okN z:=Nat.lt_of_lt_of_le h (Nat.pow_le_pow_right (by decide) (show k≤mxd from hk))
theorem szQ.ok {q:Rat} {k:Nat} (h:szQ q k) (hk:k≤300):okQ q:=⟨Et h.1 hk,Et (k:=k) (by rw[Int.natAbs_natCast];exact h.2) hk⟩
theorem szQ.mono {q:Rat} {k m:Nat} (h:szQ q k) (hk:k≤m):szQ q m:=⟨Nat.lt_of_lt_of_le h.1 (Nat.pow_le_pow_right (by decide) hk),Nat.lt_of_lt_of_le h.2 (Nat.pow_le_pow_right (by decide) hk)⟩
theorem BM {x y:Int} {a b:Nat} (hx:x.natAbs<10^a) (hy:y.natAbs<10^b):(x*y).natAbs<10^(a+b):=by
 rw[Int.natAbs_mul];exact Pe hx hy (Nat.le_refl _)
theorem NJ {x y:Int} {a:Nat} (hx:x.natAbs<10^a) (hy:y.natAbs<10^a):(x+y).natAbs<10^(a+1):=by
 rw[Nat.pow_succ];omega
theorem N0 {x y:Int} {a:Nat} (hx:x.natAbs<10^a) (hy:y.natAbs<10^a):(x-y).natAbs<10^(a+1):=by
 rw[Nat.pow_succ];omega
structure Sz2 (p q:Rat):Prop where
 okp:okQ p
 okq:okQ q
 c1:okN (p.num*(q.den:Nat))
 c2:okN (q.num*(p.den:Nat))
 d:okN ((p.den:Nat)*(q.den:Nat))
 n:okN (p.num*q.num)
 add:okN (p.num*(q.den:Nat)+q.num*(p.den:Nat))
 sub:okN (p.num*(q.den:Nat)-q.num*(p.den:Nat))
theorem sz2 {p q:Rat} {a b:Nat} (hp:szQ p a) (hq:szQ q b) (hk:a+b+1≤300):Sz2 p q:=by
 have hqd:((q.den:Nat):Int).natAbs<10^b:=by rw[Int.natAbs_natCast];exact hq.2
 have hpd:((p.den:Nat):Int).natAbs<10^a:=by rw[Int.natAbs_natCast];exact hp.2
 have e1:=BM hp.1 hqd
 have e2:=BM hq.1 hpd
 rw[Nat.add_comm b a] at e2
 exact⟨hp.ok (by omega),hq.ok (by omega),Et e1 (by omega),Et e2 (by omega),Et (BM hpd hqd) (by omega),Et (BM hp.1 hq.1) (by omega),Et (NJ e1 e2) hk,Et (N0 e1 e2) hk⟩
theorem szQ.add {p q:Rat} {a b:Nat} (hp:szQ p a) (hq:szQ q b):szQ (p+q) (a+b+1):=by
 have hqd:((q.den:Nat):Int).natAbs<10^b:=by rw[Int.natAbs_natCast];exact hq.2
 have hpd:((p.den:Nat):Int).natAbs<10^a:=by rw[Int.natAbs_natCast];exact hp.2
 have e1:=BM hp.1 hqd
 have e2:=BM hq.1 hpd
 rw[Nat.add_comm b a] at e2
 rw[←Jb]
 exact HB _ E0 (NJ e1 e2) (Nat.lt_of_lt_of_le (BM hpd hqd) (Nat.pow_le_pow_right (by decide) (by omega)))
theorem szQ.sub {p q:Rat} {a b:Nat} (hp:szQ p a) (hq:szQ q b):szQ (p-q) (a+b+1):=by
 have hqd:((q.den:Nat):Int).natAbs<10^b:=by rw[Int.natAbs_natCast];exact hq.2
 have hpd:((p.den:Nat):Int).natAbs<10^a:=by rw[Int.natAbs_natCast];exact hp.2
 have e1:=BM hp.1 hqd
 have e2:=BM hq.1 hpd
 rw[Nat.add_comm b a] at e2
 rw[←LC]
 exact HB _ E0 (N0 e1 e2) (Nat.lt_of_lt_of_le (BM hpd hqd) (Nat.pow_le_pow_right (by decide) (by omega)))
theorem szQ.mul {p q:Rat} {a b:Nat} (hp:szQ p a) (hq:szQ q b):szQ (p*q) (a+b):=by
 have hqd:((q.den:Nat):Int).natAbs<10^b:=by rw[Int.natAbs_natCast];exact hq.2
 have hpd:((p.den:Nat):Int).natAbs<10^a:=by rw[Int.natAbs_natCast];exact hp.2
 rw[←IZ]
 exact HB _ E0 (BM hp.1 hq.1) (BM hpd hqd)
theorem szQ.div {p q:Rat} {a b:Nat} (hp:szQ p a) (hq:szQ q b) (h0:q.num≠0):szQ (p/q) (a+b):=by
 have hqd:((q.den:Nat):Int).natAbs<10^b:=by rw[Int.natAbs_natCast];exact hq.2
 have hpd:((p.den:Nat):Int).natAbs<10^a:=by rw[Int.natAbs_natCast];exact hp.2
 rw[←IS p q h0]
 exact HB _ (Int.mul_ne_zero (by have:=p.den_nz;omega) h0) (BM hp.1 hqd) (BM hpd hq.1)
theorem AB.below {W0 W:World} (h:AB W0) (hb:Below W0.heap.size W0 W):AB W:=tabBelow_of_tabIs h W hb
theorem Em (p:Rat) (h:smQ p):((p.den:Nat):Int).natAbs<100000000:=by rw[Int.natAbs_natCast];exact h.2
theorem OF (p q:Rat) (h:Sz2 p q) (W0:World) (hv:Br W0) (ht:AB W0):
  Ad Tryz.prog 30 #[str (Ac p),str (Ac q)] W0 (fun _:Unit=> .tuple #[str (Ac (p+q)), .int .i64 0]) (fun _=>True) (fun _=>[]):=by
 have hlp:=B2 h.okp
 have hlq:=B2 h.okq
 refine Ab (args:=[str (Ac p),str (Ac q)]) Tryz.func30 I I I ?_
 refine zA (zB (wP I (wP I (Aa (zE (zA (zA (zB (wP I (wP I ?_))))))))))
 have hquick: ∀W,AB W→Ad Tryz.prog 76 #[str (Ac p),str (Ac q), .func (.func 77) #[] #[]] W (fun _:Unit=>if smQ p∧smQ q then .tuple #[str (Ac (p+q)), .bool true] else .tuple #[str [], .bool false]) (fun _=>True) (fun _=>[]):=
  fun W ht=>Ew p q (p+q) (p.num*(q.den:Nat)+q.num*(p.den:Nat)) ((p.den:Nat)*(q.den:Nat)) _ (by kernel_rfl) (by omega) (by omega) (fun hp hq=>by
   have m1:=DX hp.1 (Em q hq)
   have m2:=DX hq.1 (Em p hp)
   have m3:=DX (Em p hp) (Em q hq)
   exact⟨Og _ _ _ _ hp.1 (Em p hp) hq.1 (Em q hq),E0,by omega,by omega,Jb p q⟩) W ht
 by_cases hs:smQ p∧smQ q
 ·refine wC I I (fun W h=>(hquick W (ht.hp h)).cast (if_pos hs)) ?_
  iterate 5 refine wP I ?_
  refine Aa (zE (zA (zB (wP I (Aa (zE (zR I (zA (zB (wP I (wP I (wP I (Aa ?_)))))))))))))
  exact zE (zO (zP (wR2 I I I)))
 ·refine wC I I (fun W h=>(hquick W (ht.hp h)).cast (if_neg hs)) ?_
  iterate 5 refine wP I ?_
  refine Aa (zE (zA (zB (wP I (Aa (zE (zS I (zI (zE (zA (zB (wP I (wP I ?_)))))))))))))
  refine wD (X:=Nat) I I (fun W _=>Gi 80 W) ?_
  intro b18 _
  exact wC I I (fun W hp=>Eu p q (Ac (p+q)) 0 146 [Al b18] h.okp h.okq W (hv.hp hp) (ht.hp hp) (by kernel_rfl) (fun W' hb=>(I3 p q b18 80 (p.num*(q.den:Nat)+q.num*(p.den:Nat)) h.okp h.okq h.c1 h.c2 h.add h.d (by kernel_rfl) (fun W2 ht2=>(MY _ _ h.c1 h.c2 W2 ht2).cast (GZ h.add)) W' ((ht.hp hp).below hb) ((Ao.of_bx hp 0 I I).below (Nat.le_refl _) hb)).cast (congrArg (fun r=>Value.tuple #[str (Ac r), .int .i64 0]) (Jb p q)))) (wP I (wP I (wP I (wP I (Aa (zE (zO (wR2 I I I))))))))
-- BOXES 4
theorem OA (p q:Rat) (h:Sz2 p q) (W0:World) (hv:Br W0) (ht:AB W0):
  Ad Tryz.prog 136 #[str (Ac p),str (Ac q)] W0 (fun _:Unit=> .tuple #[str (Ac (p-q)), .int .i64 0]) (fun _=>True) (fun _=>[]):=by
 have hlp:=B2 h.okp
 have hlq:=B2 h.okq
 refine Ab (args:=[str (Ac p),str (Ac q)]) Tryz.func136 I I I ?_
 refine zA (zB (wP I (wP I (Aa (zE (zA (zA (zB (wP I (wP I ?_))))))))))
 have hquick: ∀W,AB W→Ad Tryz.prog 76 #[str (Ac p),str (Ac q), .func (.func 178) #[] #[]] W (fun _:Unit=>if smQ p∧smQ q then .tuple #[str (Ac (p-q)), .bool true] else .tuple #[str [], .bool false]) (fun _=>True) (fun _=>[]):=
  fun W ht=>Ew p q (p-q) (p.num*(q.den:Nat)-q.num*(p.den:Nat)) ((p.den:Nat)*(q.den:Nat)) _ (by kernel_rfl) (by omega) (by omega) (fun hp hq=>by
   have m1:=DX hp.1 (Em q hq)
   have m2:=DX hq.1 (Em p hp)
   have m3:=DX (Em p hp) (Em q hq)
   exact⟨OT _ _ _ _ hp.1 (Em p hp) hq.1 (Em q hq),E0,by omega,by omega,LC p q⟩) W ht
 by_cases hs:smQ p∧smQ q
 ·refine wC I I (fun W h=>(hquick W (ht.hp h)).cast (if_pos hs)) ?_
  iterate 5 refine wP I ?_
  refine Aa (zE (zA (zB (wP I (Aa (zE (zR I (zA (zB (wP I (wP I (wP I (Aa ?_)))))))))))))
  exact zE (zO (zP (wR2 I I I)))
 ·refine wC I I (fun W h=>(hquick W (ht.hp h)).cast (if_neg hs)) ?_
  iterate 5 refine wP I ?_
  refine Aa (zE (zA (zB (wP I (Aa (zE (zS I (zI (zE (zA (zB (wP I (wP I ?_)))))))))))))
  refine wD (X:=Nat) I I (fun W _=>Gi 179 W) ?_
  intro b18 _
  exact wC I I (fun W hp=>Eu p q (Ac (p-q)) 0 146 [Al b18] h.okp h.okq W (hv.hp hp) (ht.hp hp) (by kernel_rfl) (fun W' hb=>(I3 p q b18 179 (p.num*(q.den:Nat)-q.num*(p.den:Nat)) h.okp h.okq h.c1 h.c2 h.sub h.d (by kernel_rfl) (fun W2 ht2=>(O5 _ _ h.c1 h.c2 W2 ht2).cast (GZ h.sub)) W' ((ht.hp hp).below hb) ((Ao.of_bx hp 0 I I).below (Nat.le_refl _) hb)).cast (congrArg (fun r=>Value.tuple #[str (Ac r), .int .i64 0]) (LC p q)))) (wP I (wP I (wP I (wP I (Aa (zE (zO (wR2 I I I))))))))
theorem OQ (p q:Rat) (h:Sz2 p q) (W0:World) (hv:Br W0) (ht:AB W0):
  Ad Tryz.prog 137 #[str (Ac p),str (Ac q)] W0 (fun _:Unit=> .tuple #[str (Ac (p*q)), .int .i64 0]) (fun _=>True) (fun _=>[]):=by
 have hlp:=B2 h.okp
 have hlq:=B2 h.okq
 refine Ab (args:=[str (Ac p),str (Ac q)]) Tryz.func137 I I I ?_
 refine zA (zB (wP I (wP I (Aa (zE (zA (zA (zB (wP I (wP I ?_))))))))))
 have hquick: ∀W,AB W→Ad Tryz.prog 76 #[str (Ac p),str (Ac q), .func (.func 180) #[] #[]] W (fun _:Unit=>if smQ p∧smQ q then .tuple #[str (Ac (p*q)), .bool true] else .tuple #[str [], .bool false]) (fun _=>True) (fun _=>[]):=
  fun W ht=>Ew p q (p*q) (p.num*q.num) ((p.den:Nat)*(q.den:Nat)) _ (by kernel_rfl) (by omega) (by omega) (fun hp hq=>by
   have m1:=DX hp.1 hq.1
   have m3:=DX (Em p hp) (Em q hq)
   exact⟨OZ _ _ _ _ hp.1 (Em p hp) hq.1 (Em q hq),E0,by omega,by omega,IZ p q⟩) W ht
 by_cases hs:smQ p∧smQ q
 ·refine wC I I (fun W h=>(hquick W (ht.hp h)).cast (if_pos hs)) ?_
  iterate 5 refine wP I ?_
  refine Aa (zE (zA (zB (wP I (Aa (zE (zR I (zA (zB (wP I (wP I (wP I (Aa ?_)))))))))))))
  exact zE (zO (zP (wR2 I I I)))
 ·refine wC I I (fun W h=>(hquick W (ht.hp h)).cast (if_neg hs)) ?_
  iterate 5 refine wP I ?_
  refine Aa (zE (zA (zB (wP I (Aa (zE (zS I (zI (zE (zA (zB (wP I (wP I ?_)))))))))))))
  exact wC I I (fun W hp=>Eu p q (Ac (p*q)) 0 181 [] h.okp h.okq W (hv.hp hp) (ht.hp hp) (by kernel_rfl) (fun W' hb=>OV p q h.okp h.okq h.n h.d W' ((ht.hp hp).below hb))) (wP I (wP I (wP I (wP I (Aa (zE (zO (wR2 I I I))))))))
theorem Gd {q:Rat}:Ac q=[48]↔q.num=0:=by
 constructor
 ·intro h
  unfold Ac CS at h
  split at h
  ·exact Hc.1 h
  ·have:(47:UInt8)∈([48]:List UInt8):=by rw[←h];exact List.mem_append_right _ (List.mem_cons_self ..)
   exact absurd this (by decide)
 ·intro h
  have hd:q.den=1:=by
   have:=q.reduced
   rw[h] at this
   simpa[Nat.Coprime] using this
  rw[Ac,CS,if_pos hd,h,BI]
theorem O2 (p q:Rat) (h:Sz2 p q) (W0:World) (hv:Br W0) (ht:AB W0):
  Ad Tryz.prog 142 #[str (Ac p),str (Ac q)] W0 (fun _:Unit=> .tuple #[str (KI p q).1, .int .i64 (KI p q).2]) (fun _=>True) (fun _=>[]):=by
 have hlp:=B2 h.okp
 have hlq:=B2 h.okq
 have hboth: ∀W,Br W→AB W→Ad Tryz.prog 78 #[str (Ac p),str (Ac q), .func (.func 185) #[] #[]] W (fun _:Unit=> .tuple #[str (KI p q).1, .int .i64 (KI p q).2]) (fun _=>True) (fun _=>[]):=
  fun W hv ht=>Eu p q _ _ 185 [] h.okp h.okq W hv ht (by kernel_rfl) (fun W' hb=>NX p q h.okp h.okq h.c1 h.c2 W' (ht.below hb))
 refine Ab (args:=[str (Ac p),str (Ac q)]) Tryz.func142 I I I ?_
 refine zA (zB (wP I (wP I (Aa (zE (zA (zA (zB (wP I (wP I ?_))))))))))
 by_cases h0:q.num=0
 ·refine wU 9 false I (by show(!_)=false;rw[AQ,dT (Gd.2 h0)];rfl) (Aa (zE (zS I (zI (zE (zA (zB (wP I (wP I (wC I I (fun W hp=>hboth W (hv.hp hp) (ht.hp hp)) (wP I (wP I (wP I (wP I ?_))))))))))))))
  exact Aa (zE (zO (wR2 I I I)))
 ·have hval:KI p q=(Ac (p/q),0):=if_neg h0
  refine wU 9 true I (by show(!_)=true;rw[AQ,dF fun e=>h0 (Gd.1 e)];rfl) (Aa (zE (zR I (zA (zB (wP I (wP I ?_)))))))
  have hquick: ∀W,AB W→Ad Tryz.prog 76 #[str (Ac p),str (Ac q), .func (.func 184) #[] #[]] W (fun _:Unit=>if smQ p∧smQ q then .tuple #[str (Ac (p/q)), .bool true] else .tuple #[str [], .bool false]) (fun _=>True) (fun _=>[]):=
   fun W ht=>Ew p q (p/q) (p.num*(q.den:Nat)) ((p.den:Nat)*q.num) _ (by kernel_rfl) (by omega) (by omega) (fun hp hq=>by
    have m1:=DX hp.1 (Em q hq)
    have m3:=DX (Em p hp) hq.1
    exact⟨Oq _ _ _ _ hp.1 (Em p hp) hq.1 (Em q hq),Int.mul_ne_zero (by have:=p.den_nz;omega) h0,by omega,by omega,IS p q h0⟩) W ht
  by_cases hs:smQ p∧smQ q
  ·refine wC I I (fun W h=>(hquick W (ht.hp h)).cast (if_pos hs)) ?_
   iterate 5 refine wP I ?_
   refine Aa (zE (zA (zB (wP I (Aa (zE (zR I (zA (zB (wP I (wP I (wP I (Aa ?_)))))))))))))
   exact zE (zO (zP (wR2 I I (by rw[hval]))))
  ·refine wC I I (fun W h=>(hquick W (ht.hp h)).cast (if_neg hs)) ?_
   iterate 5 refine wP I ?_
   refine Aa (zE (zA (zB (wP I (Aa (zE (zS I (zI (zE (zA (zB (wP I (wP I ?_)))))))))))))
   exact wC I I (fun W hp=>hboth W (hv.hp hp) (ht.hp hp)) (wP I (wP I (wP I (wP I (Aa (zE (zO (wR2 I I I))))))))
-- BOXES 5
theorem Jh (p q:Rat) (h:Sz2 p q) (W0:World) (hv:Br W0) (ht:AB W0):
  Ad Tryz.prog 113 #[str (Ac p),str (Ac q)] W0 (fun _:Unit=> .tuple #[.int .i64 (EI (p.num*(q.den:Nat)) (q.num*(p.den:Nat))), .int .i64 0]) (fun _=>True) (fun _=>[]):=by
 have hlp:=B2 h.okp
 have hlq:=B2 h.okq
 refine Ab (args:=[str (Ac p),str (Ac q)]) Tryz.func113 I I I ?_
 refine zA (zB (wP I (wP I (Aa (A4 (Ax ?_))))))
 refine A3 (X:=Unit) (fun _=>[(0,str (Ac p)),(1,str (Ac q)),(4, .int .i64 0),(5, .int .i64 0)]) (fun _=>[]) (fun _=>True) ?_ ?_
 ·refine zA (zB (wP I ?_))
  by_cases hp:smQ p
  ·refine wC I I (fun W _=>(Bc (Ac p) (by omega) W).cast ((CJ p).trans (if_pos hp))) (wP I (wP I (wP I ?_)))
   (refine Ae Tryz.hZ rfl rfl rfl rfl ?_;intro)
   refine wS 0 I I I (wP I (Aa ?_))
   rename_i b6
   refine zE (zA (zB (wP I (Aa (zE (zR I (zA (zB (wP I ?_)))))))))
   by_cases hq:smQ q
   ·refine wC I I (fun W _=>(Bc (Ac q) (by omega) W).cast ((CJ q).trans (if_pos hq))) (wP I (wP I (wP I ?_)))
    (refine Ae Tryz.hZ rfl rfl rfl rfl ?_;intro)
    refine wS 1 I I I (wP I (Aa ?_))
    rename_i b8
    refine zE (zA (zB (wP I (Aa (zE (zR I (zA (zB (wP I (wB 0 I I I (wP I (wB 1 I I I (wP I ?_)))))))))))))
    exact wV 31 (p.num*(q.den:Nat)) I (Cj hp.1 (Em q hq)) (wP I (wB 1 I I I (wP I (wB 0 I I I (wP I (wV 36 (q.num*(p.den:Nat)) I (Cj hq.1 (Em p hp)) (wC I I (fun W _=>Ks _ _ W) (wP I (wP I (Aa (zE (zO (zP (wR2 I I I))))))))))))))
   ·refine wC I I (fun W _=>(Bc (Ac q) (by omega) W).cast ((CJ q).trans (if_neg hq))) (wP I (wP I (wP I ?_)))
    (refine Ae Tryz.hZ rfl rfl rfl rfl ?_;intro)
    exact wS 1 I I I (wP I (Aa (zE (zA (zB (wP I (Aa (zE (zS I (zI (Ah () O ⟨I,I,I,I,O⟩ _ I)))))))))))
  ·refine wC I I (fun W _=>(Bc (Ac p) (by omega) W).cast ((CJ p).trans (if_neg hp))) (wP I (wP I (wP I ?_)))
   (refine Ae Tryz.hZ rfl rfl rfl rfl ?_;intro)
   exact wS 0 I I I (wP I (Aa (zE (zA (zB (wP I (Aa (zE (zS I (zI (Ah () O ⟨I,I,I,I,O⟩ _ I)))))))))))
 ·intro _ _
  refine zA (zB (wP I (wC I I (fun W hp=>(CN (Ac p) (by omega) W (hv.hp hp) (ht.hp hp)).cast (J5 h.okp)) (wP I (wP I (wP I ?_))))))
  (refine Ae Tryz.hZ rfl rfl rfl rfl ?_;intro)
  refine wS 0 I I I (wP I (Aa ?_))
  rename_i b10
  refine zE (zA (zA (zB (wP I (wP I (Aa (zE (zS I (zI (zE (zA (zB (wP I ?_)))))))))))))
  refine wC I I (fun W hp=>(CN (Ac q) (by omega) W (hv.hp hp) (ht.hp hp)).cast (J5 h.okq)) (wP I (wP I (wP I ?_)))
  (refine Ae Tryz.hZ rfl rfl rfl rfl ?_;intro)
  refine wS 1 I I I (wP I (Aa ?_))
  rename_i b12
  refine zE (zA (zA (zB (wP I (wP I (Aa (zE (zS I (zI (zE (zA (zB (wB 0 I I I ?_)))))))))))))
  refine wB 1 I I I (wC I I (fun W hp=>E3 p q h.okp h.okq h.c1 h.c2 W (ht.hp hp)) ?_)
  iterate 7 refine wP I ?_
  refine Aa (zE (zA (zA (zB (wP I (wP I (Aa (zE (zS I (zI (zE (zA (zB ?_)))))))))))))
  exact wP I (wP I (wC I I (fun W _=>Ko _ _ h.c1 h.c2 W) (wP I (wP I (wP I (wP I (Aa (zE (zO (wR2 I I I))))))))))
-- BOXES 4
theorem DA (a:List UInt8) (hl:a.length≤4000000000) (W:World) (hv:Br W) (ht:AB W):
  Ad Tryz.prog 103 #[str a] W (fun _:Unit=> .int .i64 (rdR a).2) (fun _=>True) (fun _=>[]):=by
 refine Ab (args:=[str a]) Tryz.func103 I I I ?_
 refine zA (zB (wP I (Aa (zE (zA (zB (wP I (wC I I (fun W h=>CN a hl W (hv.hp h) (ht.hp h)) (wP I (wP I (wP I ?_)))))))))))
 (refine Ae Tryz.hZ rfl rfl rfl rfl ?_;intro)
 exact wS 0 I I I (wP I (Aa (zE (zA (zB (wP I (wP I (Aa (zE (zO (wR1 I I I)))))))))))
theorem OW {q:Rat} (h:okQ q):rdR (Ac q)=((itoa q.num,decDigits q.den),0):=by
 have hd:q.den<AU:=by have:=h.2;unfold okN at this;rwa [Int.natAbs_natCast] at this
 have hf:frm (Ac q)=some (q.num,q.den):=Dy q.num q.den_pos
 unfold rdR;rw[hf];exact(if_pos ⟨h.1,hd⟩).trans (if_pos q.reduced)
theorem S4 (p q:Rat):p.num*(q.den:Nat)<q.num*(p.den:Nat)↔p<q:=(Rat.lt_iff p q).symm
def G6 (p q:Rat):Int:=if p<q then -1 else if p=q then 0 else 1
theorem QL (p q:Rat):EI (p.num*(q.den:Nat)) (q.num*(p.den:Nat))=G6 p q:=by
 unfold EI G6
 have h1:=S4 p q
 have h2:p.num*(q.den:Nat)=q.num*(p.den:Nat)↔p=q:=by
  constructor
  ·intro h
   have a:=Rat.num_divInt_den p
   have b:=Rat.num_divInt_den q
   rw[←a, ←b]
   exact(Rat.divInt_eq_divInt_iff (by have:=p.den_nz;omega) (by have:=q.den_nz;omega)).2 h
  ·rintro rfl;rfl
 by_cases h:p<q
 ·rw[if_pos h,if_pos (h1.2 h)]
 ·rw[if_neg h,if_neg (fun e=>h (h1.1 e))]
  by_cases e:p=q
  ·rw[if_pos e,if_pos (h2.2 e)]
  ·rw[if_neg e,if_neg (fun h=>e (h2.1 h))]
theorem Sm (p q:Rat):(decide (G6 p q≤0))=decide (p≤q):=by
 unfold G6
 refine decide_eq_decide.2 ?_
 by_cases h:p<q
 ·rw[if_pos h];exact⟨fun _=>Rat.le_of_lt h,fun _=>by decide⟩
 ·rw[if_neg h]
  by_cases e:p=q
  ·rw[if_pos e];exact⟨fun _=>by rw[e];exact Rat.le_refl,fun _=>by decide⟩
  ·rw[if_neg e]
   exact⟨fun h=>absurd h (by decide),fun h2=>absurd (Rat.lt_of_le_of_ne h2 e) h⟩
theorem B0:Ac 0=[48]:=Gd.2 rfl
theorem C3 (p q:Rat):(decide (G6 p q<0))=decide (p<q):=by
 unfold G6
 refine decide_eq_decide.2 ?_
 by_cases h:p<q
 ·rw[if_pos h];exact⟨fun _=>h,fun _=>by decide⟩
 ·rw[if_neg h]
  by_cases e:p=q
  ·rw[if_pos e];exact⟨fun h2=>absurd h2 (by decide),fun h2=>absurd h2 h⟩
  ·rw[if_neg e]
   exact⟨fun h=>absurd h (by decide),fun h2=>absurd h2 h⟩
theorem NF {p q:Rat}:Ac p=Ac q↔p=q:=by
 refine⟨fun h=> ?_,fun h=>by rw[h]⟩
 have h1:=Dy p.num p.den_pos
 have h2:=Dy q.num q.den_pos
 have h:CS p.num p.den=CS q.num q.den:=h
 rw[h,h2] at h1
 injection h1 with h1
 injection h1 with a b
 exact Rat.ext a.symm b.symm
theorem Rv (q:Rat):decide (Ac q=[48])=decide (q=0):=decide_eq_decide.2 (by rw[←B0,NF])
theorem Mv {q:Rat} (h:q≠0):q.num≠0:=by rwa [ne_eq,Rat.num_eq_zero]
theorem D2 (p q:Rat):(decide (G6 p q≤0))=decide (p≤q):=Sm p q
theorem EP (p q:Rat):(decide (G6 p q>0))=decide (q<p):=by
 have h:=D2 p q
 rw[decide_eq_decide] at h⊢
 constructor
 ·intro h1
  exact Rat.not_le.1 fun h2=>by have:=h.2 h2;omega
 ·intro h1
  have: ¬G6 p q≤0:=fun h2=>Rat.not_le.2 h1 (h.1 h2)
  omega
theorem DR (p q:Rat):(decide (G6 p q≥0))=decide (q≤p):=by
 have h:=C3 p q
 rw[decide_eq_decide] at h⊢
 constructor
 ·intro h1
  exact Rat.not_lt.1 fun h2=>by have:=h.2 h2;omega
 ·intro h1
  have: ¬G6 p q<0:=fun h2=>Rat.not_lt.2 h1 (h.1 h2)
  omega
-- BOXES 4
theorem DH (q:Rat) (h:okQ q) (W:World) (hv:Br W) (ht:AB W):
  Ad Tryz.prog 104 #[str (Ac q)] W (fun _:Unit=> .tuple #[str (itoa q.num),str (itoa (q.den:Nat)), .int .i64 0]) (fun _=>True) (fun _=>[]):=by
 have hl:=B2 h
 refine Ab (args:=[str (Ac q)]) Tryz.func104 I I I ?_
 refine zA (zB (wP I (wP I (wP I (Aa (zE (zA (zB (wP I (wC I I (fun W hp=>(CN (Ac q) (by omega) W (hv.hp hp) (ht.hp hp)).cast (J5 h)) (wP I (wP I (wP I ?_)))))))))))))
 (refine Ae Tryz.hZ rfl rfl rfl rfl ?_;intro)
 refine wS 0 I I I (wP I (Aa (zE (zA (zU (qP I (qB 0 I I I (qP I (qB 0 I I I (qP I (qP I (qP I (qP I ?_)))))))))))))
 exact AM (Aa (zE (zO (wR3 I I I))))
def HF (W:World) (p:Option Addr) (l:List (List UInt8)):Prop:=l=[]∨ ∃b off,p=some ⟨b,off,none⟩∧Ao W b off (l.map str)
theorem HF.row {W:World} {p:Option Addr} {l:List (List UInt8)} (h:HF W p l) {i:Nat} (hi:i<l.length): ∃b off,p=some ⟨b,off,none⟩∧ ∀k (hk:k<l.length),Ao W b (off+k*1) [str l[k]]:=by
 rcases h with rfl|⟨b,off,h1,h2⟩
 ·exact absurd hi (Nat.not_lt_zero _)
 ·refine⟨b,off,h1,fun k hk=>⟨h2.lt,fun j u hu=> ?_⟩⟩
  have hj:j=0:=by have:=(List.getElem?_eq_some_iff.1 hu).1;simpa using this
  subst hj
  have:=h2.get k (str l[k]) (by rw[List.getElem?_map,List.getElem?_eq_getElem hk];rfl)
  rw[Nat.mul_one,Nat.add_zero,this]
  simpa using hu
theorem Ch (n:Nat):itoa (n:Int)=decDigits n:=by
 unfold itoa;rw[if_neg (by omega)];rfl
abbrev q2 (n:Int) (d:Nat) (h:d≠0:=by decide) (hc:n.natAbs.Coprime d:=by decide):Rat:=⟨n,d,h,hc⟩
theorem dd1 (n:Nat) (h:n<10):decDigits n=[UInt8.ofNat (48+n)]:=by rw[decDigits,dif_pos h]
theorem dd2 (n:Nat) (h: ¬n<10) (h2:n/10<10):decDigits n=[UInt8.ofNat (48+n/10),UInt8.ofNat (48+n%10)]:=by
 rw[decDigits,dif_neg h,dd1 _ h2];rfl
theorem ns0:Ac (q2 0 1)=[48]:=by rw[Ac,CS,if_pos rfl];exact(Ch 0).trans (dd1 0 (by decide))
theorem ns1:Ac (q2 1 1)=[49]:=by rw[Ac,CS,if_pos rfl];exact(Ch 1).trans (dd1 1 (by decide))
theorem ns2:Ac (q2 2 1)=[50]:=by rw[Ac,CS,if_pos rfl];exact(Ch 2).trans (dd1 2 (by decide))
theorem ns6:Ac (q2 6 1)=[54]:=by rw[Ac,CS,if_pos rfl];exact(Ch 6).trans (dd1 6 (by decide))
theorem ns8:Ac (q2 8 1)=[56]:=by rw[Ac,CS,if_pos rfl];exact(Ch 8).trans (dd1 8 (by decide))
theorem Uf:Ac (q2 1 2)=[49,47,50]:=by
 rw[Ac,CS,if_neg (by decide),show itoa (q2 1 2).num=[49] from(Ch 1).trans (dd1 1 (by decide)),show decDigits (q2 1 2).den=[50] from dd1 2 (by decide)];rfl
-- BOXES 4
theorem Cg (p q:Rat) (h:Sz2 p q) (W:World) (hv:Br W) (ht:AB W):
  Ad Tryz.prog 90 #[str (Ac p),str (Ac q)] W (fun _:Unit=>str (Ac (p+q))) (fun _=>True) (fun _=>[]):=by
 refine Ab (args:=[str (Ac p),str (Ac q)]) Tryz.func90 I I I ?_
 refine zA (zB (wP I (Aa (zE (zA (zB (wP I (wP I (wC I I (fun W hp=>OF p q h W (hv.hp hp) (ht.hp hp)) ?_)))))))))
 iterate 5 refine wP I ?_
 exact Aa (zE (zA (zB (wP I (wP I (Aa (zE (zO (wR1 I I I)))))))))
theorem Ci (p q:Rat) (h:Sz2 p q) (W:World) (hv:Br W) (ht:AB W):
  Ad Tryz.prog 92 #[str (Ac p),str (Ac q)] W (fun _:Unit=>str (Ac (p-q))) (fun _=>True) (fun _=>[]):=by
 refine Ab (args:=[str (Ac p),str (Ac q)]) Tryz.func92 I I I ?_
 refine zA (zB (wP I (Aa (zE (zA (zB (wP I (wP I (wC I I (fun W hp=>OA p q h W (hv.hp hp) (ht.hp hp)) ?_)))))))))
 iterate 5 refine wP I ?_
 exact Aa (zE (zA (zB (wP I (wP I (Aa (zE (zO (wR1 I I I)))))))))
theorem Eg (p q:Rat) (h:Sz2 p q) (W:World) (hv:Br W) (ht:AB W):
  Ad Tryz.prog 91 #[str (Ac p),str (Ac q)] W (fun _:Unit=>str (Ac (p*q))) (fun _=>True) (fun _=>[]):=by
 refine Ab (args:=[str (Ac p),str (Ac q)]) Tryz.func91 I I I ?_
 refine zA (zB (wP I (Aa (zE (zA (zB (wP I (wP I (wC I I (fun W hp=>OQ p q h W (hv.hp hp) (ht.hp hp)) ?_)))))))))
 iterate 5 refine wP I ?_
 exact Aa (zE (zA (zB (wP I (wP I (Aa (zE (zO (wR1 I I I)))))))))
theorem GW (p q:Rat) (h:Sz2 p q) (h0:q.num≠0) (W:World) (hv:Br W) (ht:AB W):
  Ad Tryz.prog 93 #[str (Ac p),str (Ac q)] W (fun _:Unit=>str (Ac (p/q))) (fun _=>True) (fun _=>[]):=by
 refine Ab (args:=[str (Ac p),str (Ac q)]) Tryz.func93 I I I ?_
 refine zA (zB (wP I (Aa (zE (zA (zB (wP I (wP I (wC I I (fun W hp=>(O2 p q h W (hv.hp hp) (ht.hp hp)).cast (by rw[KI,if_neg h0])) ?_)))))))))
 iterate 5 refine wP I ?_
 exact Aa (zE (zA (zB (wP I (wP I (Aa (zE (zO (wR1 I I I)))))))))
theorem A7 (p q:Rat) (h:Sz2 p q) (W:World) (hv:Br W) (ht:AB W):
  Ad Tryz.prog 52 #[str (Ac p),str (Ac q)] W (fun _:Unit=> .int .i64 (G6 p q)) (fun _=>True) (fun _=>[]):=by
 refine Ab (args:=[str (Ac p),str (Ac q)]) Tryz.func52 I I I ?_
 refine zA (zB (wP I (Aa (zE (zA (zB (wP I (wP I (wC I I (fun W hp=>(Jh p q h W (hv.hp hp) (ht.hp hp)).cast (by rw[QL])) ?_)))))))))
 iterate 5 refine wP I ?_
 exact Aa (zE (zA (zB (wP I (wP I (Aa (zE (zO (wR1 I I I)))))))))
end
section
def FA (x:Rat):List Rat→List Rat
 |[]=>[x]
 |y::l=>if x<y then x::y::l else y::FA x l
def AW (l:List Rat):List Rat:=l.foldl (fun s x=>FA x s) []
theorem MG (x:Rat): ∀l,(FA x l).length=l.length+1
 |[]=>rfl
 |y::l=>by
  unfold FA
  split
  ·rfl
  ·simp[MG x l]
theorem JK {x z:Rat}: ∀ {l},z∈FA x l↔z=x∨z∈l
 |[]=>by simp[FA]
 |y::l=>by
  unfold FA
  split
  ·simp
  ·rw[List.mem_cons,JK,List.mem_cons]
   constructor
   ·rintro(h|h|h)
    ·exact .inr (.inl h)
    ·exact .inl h
    ·exact .inr (.inr h)
   ·rintro(h|h|h)
    ·exact .inr (.inl h)
    ·exact .inl h
    ·exact .inr (.inr h)
theorem IC {x:Rat}: ∀ {l},l.Pairwise (· ≤ ·)→(FA x l).Pairwise (· ≤ ·)
 |[],_=>by simp[FA]
 |y::l,h=>by
  have h2:=List.pairwise_cons.1 h
  unfold FA
  split
  ·rename_i hxy
   refine List.pairwise_cons.2 ⟨fun z hz=> ?_,h⟩
   rcases List.mem_cons.1 hz with rfl|hz
   ·exact Rat.le_of_lt hxy
   ·exact Rat.le_trans (Rat.le_of_lt hxy) (h2.1 z hz)
  ·rename_i hxy
   refine List.pairwise_cons.2 ⟨fun z hz=> ?_,IC h2.2⟩
   rcases JK.1 hz with rfl|hz
   ·exact Rat.not_lt.1 hxy
   ·exact h2.1 z hz
theorem Mk (l:List Rat):(AW l).Pairwise (· ≤ ·):=by
 have: ∀(l s:List Rat),s.Pairwise (· ≤ ·)→(l.foldl (fun s x=>FA x s) s).Pairwise (· ≤ ·):=by
  intro l
  induction l with
  |nil=>exact fun s h=>h
  |cons x l ih=>exact fun s h=>ih _ (IC h)
 exact this l [] List.Pairwise.nil
theorem EU {z:Rat} {l:List Rat}:z∈AW l↔z∈l:=by
 have: ∀(l s:List Rat),z∈l.foldl (fun s x=>FA x s) s↔z∈l∨z∈s:=by
  intro l
  induction l with
  |nil=>exact fun s=>by simp
  |cons x l ih=>
   intro s
   rw[List.foldl_cons,ih,JK,List.mem_cons]
   constructor
   ·rintro(h|h|h)
    ·exact .inl (.inr h)
    ·exact .inl (.inl h)
    ·exact .inr h
   ·rintro((h|h)|h)
    ·exact .inr (.inl h)
    ·exact .inl h
    ·exact .inr (.inr h)
 rw[AW,this];simp
end
section
def AR:List Rat→List Rat
 |[]=>[]
 |[x]=>[x]
 |x::y::l=>if y=x then AR (x::l) else x::AR (y::l)
termination_by l=>l.length
theorem HY {z:Rat} (l:List Rat):z∈AR l↔z∈l:=by
 fun_induction AR l with
 |case1=>exact Iff.rfl
 |case2 x=>exact Iff.rfl
 |case3 x l ih=>rw[ih];simp
 |case4 x y l h ih=>rw[List.mem_cons,ih,List.mem_cons (b:=x)]
end
section
theorem J9 {x:Rat}: ∀(s:List Rat) (j:Nat),j≤s.length→(∀y∈s.take j, ¬x<y)→(∀y∈s.drop j,x<y)→FA x s=s.take j++x::s.drop j
 |[],j,hj,_,_=>by
  obtain rfl:j=0:=by simpa using hj
  rfl
 |y::l,0,_,_,h2=>by
  unfold FA
  rw[if_pos (h2 y (List.mem_cons_self ..))];rfl
 |y::l,j+1,hj,h1,h2=>by
  unfold FA
  rw[if_neg (h1 y (by simp)),J9 l j (by simpa using hj) (fun z hz=>h1 z (by simp[hz])) (fun z hz=>h2 z (by simpa using hz))]
  rfl
theorem Gu (l:List Rat):(AW l).length=l.length:=by
 have: ∀(l s:List Rat),(l.foldl (fun s x=>FA x s) s).length=l.length+s.length:=by
  intro l
  induction l with
  |nil=>exact fun s=>by simp
  |cons x l ih=>exact fun s=>by rw[List.foldl_cons,ih,MG,List.length_cons];omega
 rw[AW,this];simp
theorem O0 (l:List Rat) {i:Nat} (hi:i<l.length):AW (l.take (i+1))=FA l[i] (AW (l.take i)):=by
 rw[AW,List.take_add_one,List.getElem?_eq_getElem hi,List.foldl_append];rfl
theorem Rr {x:Rat} {s:List Rat} {j:Nat} (hs:s.Pairwise (· ≤ ·)) (hj:j≤s.length) (h2: ∀y∈s.drop j,x<y) (h1: ∀(h:0<j), ¬x<s[j-1]):FA x s=s.take j++x::s.drop j:=by
 refine J9 s j hj (fun y hy=> ?_) h2
 obtain⟨k,hk,rfl⟩:=List.getElem_of_mem hy
 have hk':k<j:=by simp at hk;omega
 rw[List.getElem_take]
 have h3:=h1 (by omega)
 refine Rat.not_lt.2 (Rat.le_trans ?_ (Rat.not_lt.1 h3))
 by_cases e:k=j-1
 ·subst e;exact Rat.le_refl
 ·exact List.pairwise_iff_getElem.1 hs k (j-1) (by omega) (by omega) (by omega)
theorem Im:AR []=[]:=by rw[AR]
theorem Iq (x:Rat):AR [x]=[x]:=by rw[AR]
theorem Ej (x y:Rat) (l:List Rat):AR (x::y::l)=if y=x then AR (x::l) else x::AR (y::l):=by rw[AR]
theorem HX (x y:Rat):AR [x,y]=if y=x then AR [x] else AR [x]++[y]:=by
 rw[Ej]
 by_cases h:y=x
 ·rw[if_pos h,if_pos h]
 ·rw[if_neg h,if_neg h,Iq,Iq];rfl
theorem GT (l:List Rat) (x y:Rat):AR (l++[x,y])=if y=x then AR (l++[x]) else AR (l++[x])++[y]:=by
 match l with
 |[]=>exact HX x y
 |[a]=>
  show AR (a::x::[y])=if y=x then AR (a::x::[]) else AR (a::x::[])++[y]
  rw[Ej a x [y],Ej a x []]
  by_cases h2:x=a
  ·rw[if_pos h2,if_pos h2]
   subst h2
   exact HX x y
  ·rw[if_neg h2,if_neg h2,HX x y]
   by_cases h:y=x
   ·rw[if_pos h,if_pos h]
   ·rw[if_neg h,if_neg h];rfl
 |a::b::l=>
  show AR (a::b::(l++[x,y]))=if y=x then AR (a::b::(l++[x])) else AR (a::b::(l++[x]))++[y]
  rw[Ej a b (l++[x,y]),Ej a b (l++[x])]
  by_cases h2:b=a
  ·rw[if_pos h2,if_pos h2]
   exact GT (a::l) x y
  ·rw[if_neg h2,if_neg h2]
   have:=GT (b::l) x y
   rw[List.cons_append,List.cons_append] at this
   rw[this]
   by_cases h:y=x
   ·rw[if_pos h,if_pos h]
   ·rw[if_neg h,if_neg h];rfl
termination_by l.length
theorem Ls (l:List Rat): ∀(m:Nat),m≤l.length→Lib.compactUpTo (l.map Ac).toArray m=(AR (l.take m)).map Ac
 |0,_=>by simp[Lib.compactUpTo,AR]
 |m+1,hm=>by
  have hb: ∀i (hi:i<l.length),(l.map Ac).toArray[i]! =Ac l[i]:=fun i hi=>by simp[hi]
  rw[Lib.compactUpTo_succ,Ls l m (by omega),hb m (by omega)]
  have e1:l.take (m+1)=l.take m++[l[m]]:=by rw[List.take_add_one,List.getElem?_eq_getElem hm];rfl
  cases m with
  |zero=>
   rw[e1]
   have:Lib.keeps (l.map Ac).toArray 0=true:=Lib.keeps_lt_one _ 0 (by omega)
   rw[if_pos this,List.take_zero,List.nil_append,Im,Iq]
   rfl
  |succ k=>
   have e2:l.take (k+1)=l.take k++[l[k]]:=by rw[List.take_add_one,List.getElem?_eq_getElem (by omega)];rfl
   rw[e1,e2,List.append_assoc]
   show _=(AR (l.take k++[l[k],l[k+1]])).map Ac
   rw[GT]
   have h1:Lib.keeps (l.map Ac).toArray (k+1)=decide (¬l[k+1]=l[k]):=by
    unfold Lib.keeps
    rw[decide_eq_decide,Nat.add_sub_cancel,hb (k+1) hm,hb k (by omega)]
    constructor
    ·rintro(h|h)
     ·omega
     ·exact fun e=>h (by rw[e])
    ·exact fun h=> .inr fun e=>h (NF.1 e)
   rw[h1]
   by_cases h:l[k+1]=l[k]
   ·rw[if_pos h,if_neg (by simp[h]),List.append_nil]
   ·rw[if_neg h,if_pos (by simp[h]),List.map_append];rfl
theorem LT (l:List Rat):Lib.compact (l.map Ac)=(AR l).map Ac:=by
 have:=Ls l l.length (Nat.le_refl _)
 rw[List.take_length] at this
 rw[←this]
 unfold Lib.compact
 simp
end
end Go.Proofs.YtemghkmmcomalaaGreatDoor
namespace Go.Proofs
open Go.Shelf
def Tryz.lays125_ren:Go.Shelf.Ren:=⟨fun|125=>161|128=>216|129=>217|n=>n,fun|3=>3|4=>4|5=>5|9=>9|46=>182|51=>230|53=>232|n=>n,fun n=>n⟩
theorem Tryz.lays125:Go.Proofs.Lays.n125 Tryz.prog Tryz.lays125_ren:= {
 mixed:=by kernel_rfl
 f125:=Tryz.func161.trans (congrArg some (by kernel_rfl))
 f128:=Tryz.func216.trans (congrArg some (by kernel_rfl))
 f129:=Tryz.func217.trans (congrArg some (by kernel_rfl))
 t3:=Tryz.underlying3
 a3:=Tryz.isAgg3
 z3:=Tryz.sizeOf3
 v3:=Tryz.zeroValue3
 t4:=Tryz.underlying4
 a4:=Tryz.isAgg4
 z4:=Tryz.sizeOf4
 v4:=Tryz.zeroValue4
 t5:=Tryz.underlying5
 a5:=Tryz.isAgg5
 z5:=Tryz.sizeOf5
 v5:=Tryz.zeroValue5
 t9:=Tryz.underlying9
 a9:=Tryz.isAgg9
 z9:=Tryz.sizeOf9
 v9:=Tryz.zeroValue9
 t46:=Tryz.underlying182
 a46:=Tryz.isAgg182
 z46:=Tryz.sizeOf182
 v46:=Tryz.zeroValue182
 t51:=Tryz.underlying230
 a51:=Tryz.isAgg230
 z51:=Tryz.sizeOf230
 v51:=Tryz.zeroValue230
 t53:=Tryz.underlying232
 a53:=Tryz.isAgg232
 z53:=Tryz.sizeOf232
 v53:=Tryz.zeroValue232 }
def Tryz.laysN44_ren:Go.Shelf.Ren:=⟨fun|44=>158|n=>n,fun|0=>0|3=>3|4=>4|25=>108|26=>22|n=>n,fun n=>n⟩
theorem Tryz.laysN44:Go.Proofs.SlLaysN.n44 Tryz.prog Tryz.laysN44_ren:= {
 mixed:=by kernel_rfl
 f44:=⟨Tryz.f158.name,by kernel_rfl,Tryz.func158.trans (congrArg some (by kernel_rfl))⟩
 t0:=Tryz.underlying0
 a0:=Tryz.isAgg0
 z0:=Tryz.sizeOf0
 v0:=Tryz.zeroValue0
 t3:=Tryz.underlying3
 a3:=Tryz.isAgg3
 z3:=Tryz.sizeOf3
 v3:=Tryz.zeroValue3
 t4:=Tryz.underlying4
 a4:=Tryz.isAgg4
 z4:=Tryz.sizeOf4
 v4:=Tryz.zeroValue4
 t25:=Tryz.underlying108
 a25:=Tryz.isAgg108
 z25:=Tryz.sizeOf108
 v25:=Tryz.zeroValue108
 t26:=Tryz.underlying22
 a26:=Tryz.isAgg22
 z26:=Tryz.sizeOf22
 v26:=Tryz.zeroValue22
 i26:=by kernel_rfl }
end Go.Proofs
