/-
  Lemmas that the theorem frontPlans_upto_card needs (part 7 of 7).
-/
import Derived.Test.YtmblgcglonikiaaGreatDoorFqf
import Derived.Test.YtmblgcglonikiaaGreatDoorRows
import Derived.Deep.Slices
import Derived.ChangeArms
import Derived.ChangeShapes
import Derived.WideShapes
import Derived.Carry
import Derived.Test.YtmblgcglonikiaaGreatDoorCards
import Derived.Test.YtmblgcglonikiaaGreatDoorTie
import Derived.ProofKit
import Derived.OpenShut
import Derived.Deep.DeepHandedRow
import Derived.Lib.LaidTab
import Derived.Stop.LaidErr
import Derived.Lay
import Derived.SevenTiedAt
import Derived.Shelf.Vars
import Derived.ChangeMaps5
set_option maxHeartbeats 64000000
namespace Go.Proofs.YtmblgcglonikiaaGreatDoor
section
open Go Go.RowKit Go.Am Go.Lib
theorem T5 {z:Int}:(z:Rat)=0↔z=0:=⟨fun e=>by have h:=congrArg Rat.num e;rwa [Rat.num_intCast] at h,fun e=>by rw[e];rfl⟩
theorem Vr {z d:Int} {k:Nat} (hd:d≠0) (h1:z.natAbs<10^k) (h2:d.natAbs<10^k):szQ ((z:Rat)/(d:Rat)) k:=by
 have h:=I9 z hd h1 h2
 rw[H4 z hd,Rat.divInt_eq_div] at h
 exact h
theorem IY {q:Rat} {n:Nat} (h:(Ac q).length≤n) (hn:1≤n):szQ q n:=by
 have hi:(itoa q.num).length≤n∧(decDigits q.den).length≤n:=by
  unfold Ac Dc at h
  split at h
  ·rename_i e
   exact⟨h,by rw[e];exact Nat.le_trans (C6 1 1 (by decide) (by decide)) hn⟩
  ·rw[List.length_append,List.length_cons] at h
   omega
 have h2:(decDigits q.num.natAbs).length≤n:=by
  have h1:=hi.1
  rw[BJ,List.length_append] at h1
  omega
 exact⟨Nat.lt_of_lt_of_le (DR _) (Nat.pow_le_pow_right (by decide) h2),Nat.lt_of_lt_of_le (DR _) (Nat.pow_le_pow_right (by decide) hi.2)⟩
theorem Qt (q:Rat):q=(q.num:Rat)/((q.den:Int):Rat):=by
 rw[←Rat.divInt_eq_div]
 exact(Rat.num_divInt_den q).symm
theorem FrP.OK.vfr {f:FrP} (h:f.OK) (hs:szQ f.sp 30): ∃c b:Int,f.vel=(c:Rat)/(b:Rat)∧c.natAbs<10^30∧b.natAbs<10^30∧b≠0:=by
 refine⟨f.hd*f.sp.num,(f.sp.den:Int), ?_, ?_, ?_, ?_⟩
 ·unfold FrP.vel
  conv=>lhs;rw[Qt f.sp]
  rw[Rat.intCast_mul]
  grind
 ·have:=hs.1
  rcases h.hd with e|e<;>rw[e]<;>omega
 ·rw[Int.natAbs_natCast];exact hs.2
 ·have:=f.sp.den_pos;omega
theorem Ww (y h h' D u u' w w':Rat):y*(h*h'*D)*(u*u'*(w*w'))=y*(D*(u*u'))*((h*w)*(h'*w')):=by grind
theorem SC {G c b s h c' b' s' h' D:Rat} (B:b≠0) (B':b'≠0) (H:h≠0) (H':h'≠0) (D0:D≠0) (hD:D=c*b'-c'*b):
  (G+(c/b*(s/h)-c'/b'*(s'/h')))/(c/b-c'/b')=(G*(b*h)*(b'*h')+s*c*(b'*h')-s'*c'*(b*h))/(h*h'*D):=by
 obtain⟨u,hu⟩: ∃u,u=b⁻¹:=⟨_,rfl⟩
 obtain⟨u',hu'⟩: ∃u,u=b'⁻¹:=⟨_,rfl⟩
 obtain⟨w,hw⟩: ∃u,u=h⁻¹:=⟨_,rfl⟩
 obtain⟨w',hw'⟩: ∃u,u=h'⁻¹:=⟨_,rfl⟩
 have p1:b*u=1:=by rw[hu];exact Rat.mul_inv_cancel _ B
 have p2:b'*u'=1:=by rw[hu'];exact Rat.mul_inv_cancel _ B'
 have p3:h*w=1:=by rw[hw];exact Rat.mul_inv_cancel _ H
 have p4:h'*w'=1:=by rw[hw'];exact Rat.mul_inv_cancel _ H'
 have q1:c/b=c*u:=by rw[hu,Rat.div_def]
 have q2:c'/b'=c'*u':=by rw[hu',Rat.div_def]
 have q3:s/h=s*w:=by rw[hw,Rat.div_def]
 have q4:s'/h'=s'*w':=by rw[hw',Rat.div_def]
 obtain⟨N,hN⟩: ∃N,N=G*(b*h)*(b'*h')+s*c*(b'*h')-s'*c'*(b*h):=⟨_,rfl⟩
 have hB:c*u-c'*u'=D*(u*u'):=by rw[hD];grind
 have hA:G+(c*u*(s*w)-c'*u'*(s'*w'))=N*(u*u'*(w*w')):=by rw[hN];grind
 rw[←hN,q1,q2,q3,q4,hA,hB]
 have n1:u*u'≠0:=fun e=>by
  have:b*u*(b'*u')=b*b'*(u*u'):=by grind
  rw[p1,p2,e] at this
  grind
 have n2:D*(u*u')≠0:=fun e=>by
  rcases Rat.mul_eq_zero.1 e with e|e
  ·exact D0 e
  ·exact n1 e
 have n3:h*h'*D≠0:=fun e=>by
  rcases Rat.mul_eq_zero.1 e with e|e
  ·rcases Rat.mul_eq_zero.1 e with e|e
   ·exact H e
   ·exact H' e
  ·exact D0 e
 obtain⟨y,hy⟩: ∃y,y=N/(h*h'*D):=⟨_,rfl⟩
 have y1:y*(h*h'*D)=N:=by rw[hy,Rat.div_def,Rat.mul_assoc,Rat.inv_mul_cancel _ n3,Rat.mul_one]
 have y3:y*(h*h'*D)*(u*u'*(w*w'))=y*(D*(u*u'))*((h*w)*(h'*w')):=Ww ..
 have y2:N*(u*u'*(w*w'))=y*(D*(u*u')):=by rw[←y1,y3,p3,p4,Rat.mul_one,Rat.mul_one]
 rw[←hy,y2,Rat.div_def,Rat.mul_assoc,Rat.mul_inv_cancel _ n2,Rat.mul_one]
theorem Pm {f g:FrP} (hf:f.OK) (hg:g.OK) (a1:szQ f.sp 30) (b1:szQ f.st 30) (a2:szQ g.sp 30) (b2:szQ g.st 30) (h0:f.vel≠g.vel):szQ ((Ck f g+(f.vel*f.st-g.vel*g.st))/(f.vel-g.vel)) 127:=by
 obtain⟨c,b,v1,hc,hb,nb⟩:=hf.vfr a1
 obtain⟨c',b',v2,hc',hb',nb'⟩:=hg.vfr a2
 obtain⟨s,hs⟩: ∃s,s=f.st.num:=⟨_,rfl⟩
 obtain⟨h,hh⟩: ∃h:Int,h=(f.st.den:Int):=⟨_,rfl⟩
 obtain⟨s',hs'⟩: ∃s,s=g.st.num:=⟨_,rfl⟩
 obtain⟨h',hh'⟩: ∃h:Int,h=(g.st.den:Int):=⟨_,rfl⟩
 have e1:f.st=(s:Rat)/(h:Rat):=by rw[hs,hh];exact Qt f.st
 have e2:g.st=(s':Rat)/(h':Rat):=by rw[hs',hh'];exact Qt g.st
 have zs:s.natAbs<10^30:=by rw[hs];exact b1.1
 have zh:h.natAbs<10^30:=by rw[hh,Int.natAbs_natCast];exact b1.2
 have zs':s'.natAbs<10^30:=by rw[hs'];exact b2.1
 have zh':h'.natAbs<10^30:=by rw[hh',Int.natAbs_natCast];exact b2.2
 have nh:h≠0:=by have:=f.st.den_pos;omega
 have nh':h'≠0:=by have:=g.st.den_pos;omega
 obtain⟨G,hG⟩: ∃G:Int,G=g.pos-f.pos:=⟨_,rfl⟩
 have hGb:G.natAbs<10^5:=by
  have:=hf.p0;have:=hf.p1;have:=hg.p0;have:=hg.p1
  show _<100000
  omega
 have hgap:Ck f g=(G:Rat):=by
  unfold Ck
  rw[hG,Rat.intCast_sub]
 have B:(b:Rat)≠0:=fun e=>nb (T5.1 e)
 have B':(b':Rat)≠0:=fun e=>nb' (T5.1 e)
 have H:(h:Rat)≠0:=fun e=>nh (T5.1 e)
 have H':(h':Rat)≠0:=fun e=>nh' (T5.1 e)
 obtain⟨D,hD⟩: ∃D:Int,D=c*b'-c'*b:=⟨_,rfl⟩
 have hDR:(D:Rat)=(c:Rat)*b'-(c':Rat)*b:=by rw[hD,Rat.intCast_sub,Rat.intCast_mul,Rat.intCast_mul]
 have hD0:D≠0:=fun e=>h0 (by
  rw[e] at hDR
  have hDR:(0:Rat)=(c:Rat)*b'-(c':Rat)*b:=hDR
  rw[v1,v2]
  grind)
 have D0:(D:Rat)≠0:=fun e=>hD0 (T5.1 e)
 have e:(Ck f g+(f.vel*f.st-g.vel*g.st))/(f.vel-g.vel)=((G*(b*h)*(b'*h')+(s*c)*(b'*h')-(s'*c')*(b*h):Int):Rat)/(((h*h')*D:Int):Rat):=by
  rw[v1,v2,e1,e2,hgap,Rat.intCast_sub,Rat.intCast_add]
  simp only[Rat.intCast_mul]
  exact SC B B' H H' D0 hDR
 rw[e]
 have k1:=AU hb zh
 have k2:=AU hb' zh'
 have k3:=AU (AU hGb k1) k2
 have k4:=AU (AU zs hc) k2
 have k5:=AU (AU zs' hc') k1
 have k6:D.natAbs<10^61:=by
  have m1:=AU hc hb'
  have m2:=AU hc' hb
  have m3:(-(c'*b)).natAbs<10^(30+30):=by rw[Int.natAbs_neg];exact m2
  have:=He m1 m3
  rw[hD,Int.sub_eq_add_neg]
  exact this
 have k7:=AU (AU zh zh') k6
 refine Vr ?_ ?_ ?_
 ·exact Int.mul_ne_zero (Int.mul_ne_zero nh nh') hD0
 ·have m4:((s*c)*(b'*h')).natAbs<10^125:=Nat.lt_of_lt_of_le k4 (Nat.pow_le_pow_right (by decide) (by decide))
  have m5:(-((s'*c')*(b*h))).natAbs<10^126:=by rw[Int.natAbs_neg];exact Nat.lt_of_lt_of_le k5 (Nat.pow_le_pow_right (by decide) (by decide))
  have:=He (He k3 m4) m5
  rw[Int.sub_eq_add_neg]
  exact this
 ·exact Nat.lt_of_lt_of_le k7 (Nat.pow_le_pow_right (by decide) (by decide))
theorem FrP.OK.v31 {f:FrP} (h:f.OK) (hs:szQ f.sp 30):szQ f.vel 31:=h.hdz.mul hs
theorem Tc {f g:FrP} (hf:f.OK) (hg:g.OK) (a1:szQ f.sp 30) (b1:szQ f.st 30) (a2:szQ g.sp 30) (b2:szQ g.st 30):Rk f g∧ ∀t∈AP f g,szQ t 127:=by
 have v1:=hf.v31 a1
 have v2:=hg.v31 a2
 have zg:szQ (Ck f g) 11:=hg.posz.sub hf.posz
 have zm1:=v1.mul b1
 have zm2:=v2.mul b2
 have zs:=zm1.sub zm2
 have za:=zg.add zs
 have zw:=v1.sub v2
 refine⟨⟨fun _=>sz2 zg v1 (by decide),fun h=>sz2 b1 (zg.div v1 (Ez h)) (by decide),fun _=>sz2 zg v2 (by decide),fun h=>sz2 b2 (zg.div v2 (Ez h)) (by decide),
  sz2 v1 b1 (by decide),sz2 v2 b2 (by decide),sz2 zm1 zm2 (by decide),sz2 zg zs (by decide),sz2 v1 v2 (by decide),fun _=>sz2 za zw (by decide)⟩,fun t ht=> ?_⟩
 rcases JA.1 ht with h|h|⟨h0,h⟩|⟨h0,h⟩|⟨h0,h⟩<;>rw[h]
 ·exact b1.mono (by decide)
 ·exact b2.mono (by decide)
 ·exact(b1.add (zg.div v1 (Ez h0))).mono (by decide)
 ·exact(b2.sub (zg.div v2 (Ez h0))).mono (by decide)
 ·exact Pm hf hg a1 b1 a2 b2 h0
theorem Vq (f g:FrP) (i:Nat):anc f g i=f.st∨anc f g i=g.st:=by
 unfold anc loS hiS
 split<;>split<;>simp
theorem cr1 {f g:FrP} (h0:f.velA (hiS f g)≠g.velA (hiS f g)):f.vel≠g.vel∧F8 f g 1=(Ck f g+(f.vel*f.st-g.vel*g.st))/(f.vel-g.vel):=by
 have hhi:f.st≤hiS f g∧g.st≤hiS f g:=by
  unfold hiS
  by_cases c:g.st<f.st
  ·rw[if_pos c];exact⟨by grind,by grind⟩
  ·rw[if_neg c];exact⟨by grind,by grind⟩
 have va:f.velA (hiS f g)=f.vel:=by unfold FrP.velA;rw[if_neg (by have:=hhi.1;grind)]
 have vb:g.velA (hiS f g)=g.vel:=by unfold FrP.velA;rw[if_neg (by have:=hhi.2;grind)]
 have pa:f.at (hiS f g)=(f.pos:Rat)+f.vel*(hiS f g-f.st):=by
  unfold FrP.at
  split
  ·have:hiS f g=f.st:=by have:=hhi.1;grind
   rw[this];grind
  ·rfl
 have pb:g.at (hiS f g)=(g.pos:Rat)+g.vel*(hiS f g-g.st):=by
  unfold FrP.at
  split
  ·have:hiS f g=g.st:=by have:=hhi.2;grind
   rw[this];grind
  ·rfl
 rw[va,vb] at h0
 refine⟨h0, ?_⟩
 have hd:f.vel-g.vel≠0:=by grind
 show Ji f g (hiS f g)=_
 unfold Ji Ck
 rw[va,vb,pa,pb]
 grind
theorem Sn {f g:FrP} (hf:f.OK) (hg:g.OK) (a1:szQ f.sp 30) (b1:szQ f.st 30) (a2:szQ g.sp 30) (b2:szQ g.st 30):Sz f g 127:=by
 have v1:=hf.v31 a1
 have v2:=hg.v31 a2
 have za: ∀i,szQ (anc f g i) 30:=fun i=>by rcases Vq f g i with e|e<;>rw[e]<;>assumption
 have at1: ∀i,szQ (f.at (anc f g i)) 98:=fun i=>by
  unfold FrP.at
  split
  ·exact hf.posz.mono (by decide)
  ·exact(hf.posz.add (v1.mul ((za i).sub b1))).mono (by decide)
 have at2: ∀i,szQ (g.at (anc f g i)) 98:=fun i=>by
  unfold FrP.at
  split
  ·exact hg.posz.mono (by decide)
  ·exact(hg.posz.add (v2.mul ((za i).sub b2))).mono (by decide)
 have va1: ∀i,szQ (f.velA (anc f g i)) 31:=fun i=>by
  unfold FrP.velA
  split
  ·exact⟨by decide,by decide⟩
  ·exact v1
 have va2: ∀i,szQ (g.velA (anc f g i)) 31:=fun i=>by
  unfold FrP.velA
  split
  ·exact⟨by decide,by decide⟩
  ·exact v2
 have zg: ∀i,szQ (f.at (anc f g i)-g.at (anc f g i)) 197:=fun i=>(at1 i).sub (at2 i)
 have zv: ∀i,szQ (f.velA (anc f g i)-g.velA (anc f g i)) 63:=fun i=>(va1 i).sub (va2 i)
 have zq: ∀i,f.velA (anc f g i)≠g.velA (anc f g i)→szQ ((f.at (anc f g i)-g.at (anc f g i))/(f.velA (anc f g i)-g.velA (anc f g i))) 260:=fun i h=>(zg i).div (zv i) (Ez (by grind))
 have zc: ∀i,i<2→f.velA (anc f g i)≠g.velA (anc f g i)→szQ (F8 f g i) 127:=fun i hi h=>by
  rcases(show i=0∨i=1 by omega) with e|e
  ·subst e
   have hlo:loS f g≤f.st∧loS f g≤g.st:=by
    unfold loS
    by_cases c:g.st<f.st
    ·rw[if_pos c];exact⟨by grind,by grind⟩
    ·rw[if_neg c];exact⟨by grind,by grind⟩
   have pa:f.at (anc f g 0)=(f.pos:Rat):=by show f.at (loS f g)=_;unfold FrP.at;rw[if_pos hlo.1]
   have pb:g.at (anc f g 0)=(g.pos:Rat):=by show g.at (loS f g)=_;unfold FrP.at;rw[if_pos hlo.2]
   have zd:szQ (f.at (anc f g 0)-g.at (anc f g 0)) 11:=by rw[pa,pb];exact hf.posz.sub hg.posz
   exact((za 0).sub (zd.div (zv 0) (Ez (by grind)))).mono (by decide)
  ·subst e
   obtain⟨h1,h2⟩:=cr1 (f:=f) (g:=g) h
   rw[h2]
   exact Pm hf hg a1 b1 a2 b2 h1
 have zm: ∀z∈Bi f g 2,szQ z 127:=fun z hz=>by
  have key: ∀i,crB f g i=true→f.velA (anc f g i)≠g.velA (anc f g i):=fun i h=>by
   unfold crB at h
   rw[Bool.and_eq_true,decide_eq_true_eq] at h
   exact h.1
  rcases Rp.1 hz with h|h|⟨h1,h⟩|⟨h1,h⟩<;>rw[h]
  ·exact b1.mono (by decide)
  ·exact b2.mono (by decide)
  ·exact zc 0 (by decide) (key 0 h1)
  ·exact zc 1 (by decide) (key 1 h1)
 exact⟨fun i _=>(za i).mono (by decide),fun i _=>sz2 (at1 i) (at2 i) (by decide),fun i _=>sz2 (va1 i) (va2 i) (by decide),fun i _=>sz2 (zg i) (zv i) (by decide),
  fun i _ h=>sz2 (za i) (zq i h) (by decide),fun i hi h=>sz2 (zc i hi h) (za i) (by decide),fun h=>sz2 (zc 0 (by decide) h) (za 1) (by decide),zm,
  List.Pairwise.imp_of_mem (fun hp hq _=>sz2 (zm _ hp) (zm _ hq) (by decide)) (List.pairwise_iff_getElem.2 fun _ _ _ _ _=>trivial:(Bi f g 2).Pairwise fun _ _=>True)⟩
end
section
open Go Go.RowKit Go.Am Go.Lib
set_option maxRecDepth 10000
-- BOXES 4
-- CODE2
theorem Ou {a:List UInt8} (h:(rdR a).2=0) (he:HY a≠0):Eb a=true∧HY a=4:=by
 have e:HY a=if Eb a=true then 4 else 0:=by unfold HY;rw[if_neg (fun h2=>h2 h)]
 rw[e] at he⊢
 by_cases hL:Eb a=true
 ·exact⟨hL,if_pos hL⟩
 ·rw[if_neg hL] at he;exact absurd rfl he
theorem M3 {a:List UInt8} (h:(rdR a).2=0) (he:HY a=0):Eb a=false:=by
 have e:HY a=if Eb a=true then 4 else 0:=by unfold HY;rw[if_neg (fun h2=>h2 h)]
 rw[e] at he
 by_cases hL:Eb a=true
 ·rw[if_pos hL] at he;exact absurd he (by decide)
 ·simpa using hL
theorem SS {f:FrW} (hb:Dd f=false) (r1:(rdR f.sp).2=0) (r2:(rdR f.st).2=0):fcE f=if (Eb f.sp||Eb f.st)=true then 4 else if hasPrefix f.sp [45]=true then 2 else 0:=by
 unfold fcE
 rw[hb,if_neg (by decide),if_neg (fun h=>h r1),if_neg (fun h=>h r2)]
theorem HA (f:FrW) (l1:f.sp.length≤4000000000) (l2:f.st.length≤4000000000) (W:World) (hv:B9 W) (ht:AH W):
  Ae Tryz.prog 38 #[fwV f] W (fun _:Unit=> .int .i64 (fcE f)) (fun _=>True) (fun _=>[]):=by
 refine Ab (args:=[fwV f]) Tryz.func38 I I I ?_
 refine zA (zB ?_)
 (refine Ay rfl rfl rfl rfl ?_;intro)
 refine wP I (Aa ?_)
 rename_i b1
 refine As (An (An ?_))
 refine Av (X:=Unit) (fun _=>[(1,Ao b1),(26, .bool (Dd f))]) (fun _=>[fwX b1 f]) (fun _=>True) ?_ ?_
 ·refine zB (wP I (wB 0 I I I (wP I ?_)))
  by_cases c1:f.pos<0
  ·have e:Dd f=true:=by unfold Dd;rw[dT c1];rfl
   rw[e]
   refine wU 11 true I (dT c1) (wP I ?_)
   iterate 3 refine Ad I I ?_
   refine wP I (wP I ?_)
   iterate 8 refine Ad I I ?_
   exact wP I (Aa (Ag () O ⟨I,I,O⟩ [] I))
  refine wU 11 false I (dF c1) (wP I (wP I (wB 0 I I I (wP I ?_))))
  by_cases c2:f.pos>65536
  ·have e:Dd f=true:=by unfold Dd;rw[dT c2,Bool.or_true];rfl
   rw[e]
   refine wU 15 true I (dT c2) (wP I (wP I ?_))
   iterate 8 refine Ad I I ?_
   exact wP I (Aa (Ag () O ⟨I,I,O⟩ [] I))
  have e:Dd f=(decide (f.hd≠1)&&decide (f.hd≠ -1)):=by unfold Dd;rw[dF c1,dF c2];rfl
  rw[e]
  refine wU 15 false I (dF c2) (wP I (wP I (wP I (wB 0 I I I (wP I ?_)))))
  by_cases c3:f.hd=1
  ·rw[dF (fun h=>h c3),Bool.false_and]
   refine wU 20 false I (by rw[c3];rfl) (wP I ?_)
   iterate 3 refine Ad I I ?_
   exact wP I (wP I (Aa (Ag () O ⟨I,I,O⟩ [] I)))
  ·rw[dT c3,Bool.true_and]
   exact wU 20 true I (bne_iff_ne.2 c3) (wP I (wP I (wB 0 I I I (wP I (wU 24 (decide (f.hd≠ -1)) I (by by_cases e:f.hd= -1<;>simp[e]) (wP I (wP I (Aa (Ag () O ⟨I,I,O⟩ [] I)))))))))
 intro _ _
 refine Af I (fun hb=> ?_) (fun hb=> ?_)
 ·exact zA (zB (wP I (Aa (zE (zO (zP (wR1 I I (by unfold fcE;rw[if_pos hb]))))))))
 have hb:Dd f=false:=hb
 refine zI (zE (zA (zA (zB (wP I (wB 0 I I I (wP I (wB 0 I I I ?_))))))))
 refine A3 Tryz.hZ tH I I I I I I I I I I I fun bS=> ?_
 refine wP I (wP I (Aa (zE (zH ?_))))
 refine Ar (X:=Nat) (fun i=>[(1,Ao b1),(31, .slice (some ⟨bS,0,none⟩) 2 2),(32, .int .i64 2),(33, .int .i64 (i:Nat))]) (fun _=>[fwX b1 f,⟨bS,25,[str f.sp,str f.st],true,none⟩]) (fun i=>i≤2∧(0<i→(rdR f.sp).2=0)∧(1<i→(rdR f.st).2=0)) (fun i=>2-i) 0 ⟨by decide,fun h=>absurd h (by decide),fun h=>absurd h (by decide)⟩ ⟨I,I,I,I,O⟩ [] I ?_
 rintro i ⟨hi,h1,h2⟩
 have hi:i=0∨i=1∨i=2:=by have:i≤2:=hi;omega
 rcases hi with rfl|rfl|rfl
 ·refine zA (zB (wP I (Aa (zE (zA (zR I (zI (zE (zA (zH (zA (zB ?_))))))))))))
  refine wJ ?_
  refine wB 1 I I I (wP I (Aa (zE (zA (zB (wP I (wC I I (fun W1 hp=>CK f.sp l1 W1 (hv.hp hp) (ht.hp hp)) (wP I (Aa (zE (zA (zB (wP I (wP I ?_))))))))))))))
  by_cases he:(rdR f.sp).2=0
  rotate_left
  ·refine wU 40 true I (bne_iff_ne.2 he) (Aa (zE (zR I (zA (zB (wP I (wP I (Aa (zE (zO (zQ (zP (zP ?_)))))))))))))
   exact zQ (zP (wR1 I I (by unfold fcE;rw[hb,if_neg (by decide),if_pos he])))
  exact wU 40 false I (bne_eq_false_iff_eq.2 he) (Aa (zE (zS I (zI (zN (zE (zB (wP I (wP I (Aa (Ak 1 ⟨by decide,fun _=>he,fun h=>absurd h (by decide)⟩ (by decide) ⟨I,I,I,I,O⟩ [] I)))))))))))
 ·refine zA (zB (wP I (Aa (zE (zA (zR I (zI (zE (zA (zH (zA (zB ?_))))))))))))
  refine wJ ?_
  refine wB 1 I I I (wP I (Aa (zE (zA (zB (wP I (wC I I (fun W1 hp=>CK f.st l2 W1 (hv.hp hp) (ht.hp hp)) (wP I (Aa (zE (zA (zB (wP I (wP I ?_))))))))))))))
  by_cases he:(rdR f.st).2=0
  rotate_left
  ·refine wU 40 true I (bne_iff_ne.2 he) (Aa (zE (zR I (zA (zB (wP I (wP I (Aa (zE (zO (zQ (zP (zP ?_)))))))))))))
   exact zQ (zP (wR1 I I (by unfold fcE;rw[hb,if_neg (by decide),if_neg (fun h=>h (h1 (by decide))),if_pos he])))
  exact wU 40 false I (bne_eq_false_iff_eq.2 he) (Aa (zE (zS I (zI (zN (zE (zB (wP I (wP I (Aa (Ak 2 ⟨by decide,fun _=>h1 (by decide),fun _=>he⟩ (by decide) ⟨I,I,I,I,O⟩ [] I)))))))))))
 have r1:(rdR f.sp).2=0:=h1 (by decide)
 have r2:(rdR f.st).2=0:=h2 (by decide)
 have hfc:=SS hb r1 r2
 refine zA (zB (wP I (Aa (zE (zA (zS I (zJ (zK (zK (zL (zE (zA (zA ?_)))))))))))))
 refine zB (wP I (wB 0 I I I (wP I (wB 0 I I I ?_))))
 refine A3 Tryz.hZ tH I I I I I I I I I I I fun bT=> ?_
 refine wP I (wP I (Aa (zE (zH ?_))))
 refine Ar (X:=Nat) (fun i=>[(1,Ao b1),(47, .slice (some ⟨bT,0,none⟩) 2 2),(48, .int .i64 2),(49, .int .i64 (i:Nat))]) (fun _=>[fwX b1 f,⟨bS,25,[str f.sp,str f.st],true,none⟩,⟨bT,25,[str f.sp,str f.st],true,none⟩]) (fun i=>i≤2∧(0<i→HY f.sp=0)∧(1<i→HY f.st=0)) (fun i=>2-i) 0 ⟨by decide,fun h=>absurd h (by decide),fun h=>absurd h (by decide)⟩ ⟨I,I,I,I,O⟩ [] I ?_
 rintro i ⟨hi,h1,h2⟩
 have hi:i=0∨i=1∨i=2:=by have:i≤2:=hi;omega
 rcases hi with rfl|rfl|rfl
 ·refine zA (zB (wP I (Aa (zE (zA (zR I (zI (zE (zA (zH (zA (zB ?_))))))))))))
  refine wJ ?_
  refine wB 2 I I I (wP I (Aa (zE (zA (zB (wP I (wC I I (fun W1 hp=>GF f.sp l1 W1 (hv.hp hp) (ht.hp hp)) (wP I (Aa (zE (zA (zB (wP I (wP I ?_))))))))))))))
  by_cases he:HY f.sp=0
  rotate_left
  ·have e4:=Ou r1 he
   refine wU 56 true I (bne_iff_ne.2 he) (Aa (zE (zR I (zA (zB (wP I (wP I (Aa (zE (zO (zQ (zP (zP ?_)))))))))))))
   exact zQ (zP (wR1 I I (by rw[hfc,e4.1,e4.2];rfl)))
  exact wU 56 false I (bne_eq_false_iff_eq.2 he) (Aa (zE (zS I (zI (zN (zE (zB (wP I (wP I (Aa (Ak 1 ⟨by decide,fun _=>he,fun h=>absurd h (by decide)⟩ (by decide) ⟨I,I,I,I,O⟩ [] I)))))))))))
 ·refine zA (zB (wP I (Aa (zE (zA (zR I (zI (zE (zA (zH (zA (zB ?_))))))))))))
  refine wJ ?_
  refine wB 2 I I I (wP I (Aa (zE (zA (zB (wP I (wC I I (fun W1 hp=>GF f.st l2 W1 (hv.hp hp) (ht.hp hp)) (wP I (Aa (zE (zA (zB (wP I (wP I ?_))))))))))))))
  by_cases he:HY f.st=0
  rotate_left
  ·have e4:=Ou r2 he
   refine wU 56 true I (bne_iff_ne.2 he) (Aa (zE (zR I (zA (zB (wP I (wP I (Aa (zE (zO (zQ (zP (zP ?_)))))))))))))
   exact zQ (zP (wR1 I I (by rw[hfc,e4.1,e4.2,Bool.or_true];rfl)))
  exact wU 56 false I (bne_eq_false_iff_eq.2 he) (Aa (zE (zS I (zI (zN (zE (zB (wP I (wP I (Aa (Ak 2 ⟨by decide,fun _=>h1 (by decide),fun _=>he⟩ (by decide) ⟨I,I,I,I,O⟩ [] I)))))))))))
 have hfc:fcE f=if hasPrefix f.sp [45]=true then 2 else 0:=by
  rw[hfc,M3 r1 (h1 (by decide)),M3 r2 (h2 (by decide))]
  rfl
 refine zA (zB (wP I (Aa (zE (zA (zS I (zJ (zK (zK (zL (zE (zA (zA ?_)))))))))))))
 refine zB (wP I (wB 0 I I I (wC I I (fun W1 _=>Gk f.sp [45] W1) (Aa (zE ?_)))))
 refine Af I (fun hx=> ?_) (fun hx=> ?_)
 ·exact zA (zB (wP I (Aa (zE (zO (zP (wR1 I I (by rw[hfc,if_pos hx]))))))))
 ·have hx:hasPrefix f.sp [45]=false:=hx
  exact zI (zE (zA (zB (wP I (Aa (zE (zO (wR1 I I (by rw[hfc,hx,if_neg (by decide)])))))))))
theorem GV (f:FrW) (l1:f.sp.length≤4000000000) (l2:f.st.length≤4000000000) (W:World) (ht:AH W):
  Ae Tryz.prog 39 #[fwV f] W (fun _:Unit=> .int .i64 (fcE f)) (fun _=>True) (fun _=>[]):=by
 refine Ab (args:=[fwV f]) Tryz.func39 I I I ?_
 refine zA (zB ?_)
 (refine Ay rfl rfl rfl rfl ?_;intro)
 refine wP I (Aa ?_)
 rename_i b1
 refine As (An (An ?_))
 refine Av (X:=Unit) (fun _=>[(1,Ao b1),(22, .bool (Dd f))]) (fun _=>[fwX b1 f]) (fun _=>True) ?_ ?_
 ·refine zB (wP I (wB 0 I I I (wP I ?_)))
  by_cases c1:f.pos<0
  ·have e:Dd f=true:=by unfold Dd;rw[dT c1];rfl
   rw[e]
   refine wU 7 true I (dT c1) (wP I ?_)
   iterate 3 refine Ad I I ?_
   refine wP I (wP I ?_)
   iterate 8 refine Ad I I ?_
   exact wP I (Aa (Ag () O ⟨I,I,O⟩ [] I))
  refine wU 7 false I (dF c1) (wP I (wP I (wB 0 I I I (wP I ?_))))
  by_cases c2:f.pos>65536
  ·have e:Dd f=true:=by unfold Dd;rw[dT c2,Bool.or_true];rfl
   rw[e]
   refine wU 11 true I (dT c2) (wP I (wP I ?_))
   iterate 8 refine Ad I I ?_
   exact wP I (Aa (Ag () O ⟨I,I,O⟩ [] I))
  have e:Dd f=(decide (f.hd≠1)&&decide (f.hd≠ -1)):=by unfold Dd;rw[dF c1,dF c2];rfl
  rw[e]
  refine wU 11 false I (dF c2) (wP I (wP I (wP I (wB 0 I I I (wP I ?_)))))
  by_cases c3:f.hd=1
  ·rw[dF (fun h=>h c3),Bool.false_and]
   refine wU 16 false I (by rw[c3];rfl) (wP I ?_)
   iterate 3 refine Ad I I ?_
   exact wP I (wP I (Aa (Ag () O ⟨I,I,O⟩ [] I)))
  ·rw[dT c3,Bool.true_and]
   exact wU 16 true I (bne_iff_ne.2 c3) (wP I (wP I (wB 0 I I I (wP I (wU 20 (decide (f.hd≠ -1)) I (by by_cases e:f.hd= -1<;>simp[e]) (wP I (wP I (Aa (Ag () O ⟨I,I,O⟩ [] I)))))))))
 intro _ _
 refine Af I (fun hb=> ?_) (fun hb=> ?_)
 ·exact zA (zB (wP I (Aa (zE (zO (zP (wR1 I I (by unfold fcE;rw[if_pos hb]))))))))
 have hb:Dd f=false:=hb
 refine zI (zE (zA (zA (zB (wP I (wB 0 I I I (wC I I (fun W1 hp=>Gw f.sp (by omega) W1 (ht.hp hp)) (wP I (Aa (zE (zA (zB (wP I (wP I ?_))))))))))))))
 by_cases r1:(rdR f.sp).2=0
 rotate_left
 ·exact wU 27 true I (bne_iff_ne.2 r1) (Aa (zE (zR I (zA (zB (wP I (wP I (Aa (zE (zO (zP (wR1 I I (by unfold fcE;rw[hb,if_neg (by decide),if_pos r1])))))))))))))
 refine wU 27 false I (bne_eq_false_iff_eq.2 r1) (Aa (zE (zS I (zI (zE (zA (zA (zB (wP I (wB 0 I I I (wC I I (fun W1 hp=>Gw f.st (by omega) W1 (ht.hp hp)) (wP I (Aa ?_)))))))))))))
 refine zE (zA (zB (wP I (wP I ?_))))
 by_cases r2:(rdR f.st).2=0
 rotate_left
 ·exact wU 33 true I (bne_iff_ne.2 r2) (Aa (zE (zR I (zA (zB (wP I (wP I (Aa (zE (zO (zP (wR1 I I (by unfold fcE;rw[hb,if_neg (by decide),if_neg (fun h=>h r1),if_pos r2])))))))))))))
 have hfc:=SS hb r1 r2
 obtain⟨u,hu,eu⟩:=Ir r1
 obtain⟨v,hv,ev⟩:=Ir r2
 refine wU 33 false I (bne_eq_false_iff_eq.2 r2) (Aa (zE (zS I (zI (zE (An (An ?_)))))))
 refine Av (X:=Unit) (fun _=>[(1,Ao b1),(42, .bool (Eb f.sp||Eb f.st))]) (fun _=>[fwX b1 f]) (fun _=>True) ?_ ?_
 ·refine zB (wP I (wB 0 I I I (wC I I (fun W1 hp=>(by rw[eu];exact Fq u hu W1 (ht.hp hp):Ae Tryz.prog 91 #[str f.sp] W1 (fun _:Unit=> .bool (Eb f.sp)) (fun _=>True) (fun _=>[]))) ?_)))
  cases hL:Eb f.sp with
  |true=>
   refine wP I ?_
   iterate 3 refine Ad I I ?_
   exact wP I (Aa (Ag () O ⟨I,I,O⟩ [] I))
  |false=>
   exact wP I (wP I (wB 0 I I I (wC I I (fun W1 hp=>(by rw[ev];exact Fq v hv W1 (ht.hp hp):Ae Tryz.prog 91 #[str f.st] W1 (fun _:Unit=> .bool (Eb f.st)) (fun _=>True) (fun _=>[]))) (wP I (Aa (Ag () O ⟨I,I,O⟩ [] I))))))
 intro _ _
 refine Af I (fun hL=> ?_) (fun hL=> ?_)
 ·exact zA (zB (wP I (Aa (zE (zO (zP (wR1 I I (by rw[hfc,if_pos hL]))))))))
 have hL:(Eb f.sp||Eb f.st)=false:=hL
 rw[hL,if_neg (by decide)] at hfc
 have zu:szQ u 36:=KO.1 (by rw[←eu];exact(Bool.or_eq_false_iff.1 hL).1)
 have z0:szQ (0:Rat) 1:=⟨by decide,by decide⟩
 have e0:Ac (0:Rat)=[48]:=DJ.2 rfl
 have hpx:hasPrefix f.sp [45]=decide (u<0):=by
  rw[eu,Fe]
  exact decide_eq_decide.2 ⟨fun h=>Rat.not_le.1 fun h2=>absurd (Rat.num_nonneg.2 h2) (by omega),fun h=>Int.not_le.1 fun h2=>Rat.not_le.2 h (Rat.num_nonneg.1 h2)⟩
 refine zI (zE (zA (zA (zB (wP I (wB 0 I I I ?_))))))
 refine wC I I (fun W1 hp=>(by
  have h1:=CC u 0 (sz2 zu z0 (by decide)) W1 (ht.hp hp)
  rw[e0, ←eu] at h1
  exact h1)) ?_
 refine wP I (wU 46 (hasPrefix f.sp [45]) I (by rw[hpx];exact Gb u 0) (Aa (zE ?_)))
 refine Af I (fun hx=> ?_) (fun hx=> ?_)
 ·exact zA (zB (wP I (Aa (zE (zO (zP (wR1 I I (by rw[hfc,if_pos hx]))))))))
 ·have hx:hasPrefix f.sp [45]=false:=hx
  exact zI (zE (zA (zB (wP I (Aa (zE (zO (wR1 I I (by rw[hfc,hx,if_neg (by decide)])))))))))
-- BOXES 4
-- CODE2
def Pf (f:FrW):Bool:=decide (30<f.sp.length)||decide (30<f.st.length)
theorem Ik (f:FrW) (W:World):Ae Tryz.prog 26 #[fwV f] W (fun _:Unit=> .bool (Pf f)) (fun _=>True) (fun _=>[]):=by
 refine Ab (args:=[fwV f]) Tryz.func26 I I I ?_
 refine zA (zB ?_)
 (refine Ay rfl rfl rfl rfl ?_;intro)
 refine wP I (Aa (zE (zA (zB (wP I (wB 0 I I I (wP I ?_)))))))
 refine Aj 5 (.int .i64 (f.sp.length:Nat)) I (congrArg (fun n:Nat=>Value.int .i64 (n:Int)) (Aw _)) ?_
 refine wP I ?_
 by_cases h1:30<f.sp.length
 ·refine wU 6 true I (dT (by omega)) (wP I ?_)
  iterate 4 refine Ad I I ?_
  exact wP I (wP I (Aa (zE (zO (wR1 I I (by unfold Pf;rw[dT h1];rfl))))))
 ·refine wU 6 false I (dF (by omega)) (wP I (wP I (wB 0 I I I (wP I ?_))))
  refine Aj 10 (.int .i64 (f.st.length:Nat)) I (congrArg (fun n:Nat=>Value.int .i64 (n:Int)) (Aw _)) ?_
  exact wP I (wU 11 (decide (30<f.st.length)) I (decide_eq_decide.2 (by omega)) (wP I (wP I (Aa (zE (zO (wR1 I I (by unfold Pf;rw[dF h1];rfl))))))))
-- BOXES 5
-- CODE2
theorem QB (W:World) (p:Option Addr) (cap:Nat) (rs:List (List Sd)) (h:Wf W p rs):
  Ae Tryz.prog 42 #[D8 p rs.length cap] W (fun V:Vec=> .tuple #[V.val (KI rs).length, .int .i64 0]) (fun V=>V.OK 5 (KI rs).length (frC (KI rs))) (fun V=>[V.bx 48 (frC (KI rs))]):=by
 obtain⟨hne,h24,h0⟩:=PU h.c
 obtain⟨hrg,_⟩:=Jp h.c
 have hR:=h.R
 refine Ab (args:=[D8 p rs.length cap]) Tryz.func42 I I I ?_
 refine zA (zB ?_)
 (refine Ay rfl rfl rfl rfl ?_;intro)
 refine wP I (wP I (Aa ?_))
 rename_i b1
 refine zE (zA (zA (zB (wB 0 I I I (wC I I (fun W1 hp=>(II W1 p cap rs (by have:=h.n;omega) (by omega) (hR.hp hp)).cast (v':= .int .i64 0) (by rw[h.c])) (wP I (Aa (zE (zS I (zI (zE (zA (zB ?_)))))))))))))
 refine Cz tH I I I I I ?_
 intro gE
 refine wP I (Aa (zE (zA (zA (zB (wP I (Aa (zE (zH ?_)))))))))
 refine Ar (X:=Nat×Vec) (fun s=>[(1,Ao b1),(4,s.2.val (AW rs s.1).length),(5, .int .i64 (s.1:Nat))]) (fun s=>[bxE b1 24 (slv p rs.length cap),s.2.bx 48 (frC (AW rs s.1))])
  (fun s=>s.1≤rs.length∧s.2.OK 5 (AW rs s.1).length (frC (AW rs s.1))) (fun s=>rs.length-s.1) (0,⟨some gE,0,[]⟩) ⟨Nat.zero_le _,⟨rfl,(fun h=>by cases h),fun _=>⟨Nat.le_refl _,Nat.zero_le _,rfl⟩⟩⟩ ⟨rfl,rfl,rfl,trivial⟩ [] rfl ?_
 rintro⟨k,V⟩ ⟨hk,hV⟩
 have hk:k≤rs.length:=hk
 have hV:V.OK 5 (AW rs k).length (frC (AW rs k)):=hV
 have hl:=Ih k hk
 have hn:=h.n
 refine zA (zA (zB (wP I (wP I (wB 0 I I I (wP I (wP I ?_)))))))
 by_cases hlt:k<rs.length
 ·refine wU 19 true I (dT (by omega)) (Aa (zE (zR I (zI (zE (zA (zH (zA (zB ?_)))))))))
  obtain⟨l,hle⟩: ∃l,l=rg rs k:=⟨_,rfl⟩
  have hs:=Bg hlt
  have hs1:=Ci rs (k+1)
  obtain⟨gR,oR,hpe,hrows⟩:=hR.row hlt
  obtain⟨q,c,hrow,hring⟩:=hrows k hlt
  rw[←hle] at hrow hring hs
  have hrl: ∀s∈l,rgd s=true:=fun s hs=>hrg l (by rw[hle];exact List.mem_of_getElem? (Bf hlt)) s hs
  have hln:l.length≤24:=by omega
  subst hpe
  refine wP I (wB 0 I I I (wP I ?_))
  refine wJ ?_
  refine wL 0 I I (fun W1 hp=>hrow.hp hp) I (wP I (Aa (zE (zA (zB (wP I (Aa (zE (zH ?_)))))))))
  refine Ar (X:=Nat×Vec) (fun s=>[(1,Ao b1),(4,s.2.val ((AW rs k).length+s.1)),(5, .int .i64 (k:Nat)),(6,slv q l.length c),(7, .int .i64 (s.1:Nat))]) (fun s=>[bxE b1 24 (slv (some ⟨gR,oR,none⟩) rs.length cap),s.2.bx 48 (frC (AW rs k++Dh l s.1))])
   (fun s=>s.1≤l.length∧s.2.OK 5 ((AW rs k).length+s.1) (frC (AW rs k++Dh l s.1))) (fun s=>l.length-s.1) (0,V) ⟨Nat.zero_le _,by show V.OK 5 _ (frC (AW rs k++[]));rw[List.append_nil];exact hV⟩ ⟨rfl,rfl,rfl,rfl,rfl,trivial⟩ [] (congrArg (fun x=>[bxE b1 24 (slv (some ⟨gR,oR,none⟩) rs.length cap),V.bx 48 (frC x)]) (List.append_nil (AW rs k)).symm) ?_
  rintro⟨i,U⟩ ⟨hi,hU⟩
  have hi:i≤l.length:=hi
  have hU:U.OK 5 ((AW rs k).length+i) (frC (AW rs k++Dh l i)):=hU
  refine zA (zA (zB (wP I (wP I (wP I (wP I ?_))))))
  by_cases hil:i<l.length
  ·refine wU 30 true I (dT (by omega)) (Aa ?_)
   obtain⟨gS,oS,hqe,hsd⟩:=hring.row hil
   have hs0:=hsd i hil
   have hs1:=hsd (nxt l.length i) (Dq hil)
   have hnl:=Dq hil
   have hsuc:=MF l i
   subst hqe
   refine zE (zR I (zI (zE (An (BQ (An ?_))))))
   refine Cb (X:=Nat×Nat) [true,true,true,true,true,true,true,true,true,true,true,true,false,false,false,false] (fun x=>[(1,Ao b1),(4,U.val ((AW rs k).length+i)),(5, .int .i64 (k:Nat)),(6,slv (some ⟨gS,oS,none⟩) l.length c),(7, .int .i64 (i:Nat)),(8,Ao x.1),(9,Ao x.2)])
    (fun x=>[bxE b1 24 (slv (some ⟨gR,oR,none⟩) rs.length cap),U.bx 48 (frC (AW rs k++Dh l i)),⟨x.1,80,(sd l i).cells,true,none⟩,⟨x.2,80,(sd l (nxt l.length i)).cells,true,none⟩])
    4 [bxE b1 24 (slv (some ⟨gR,oR,none⟩) rs.length cap),U.bx 48 (frC (AW rs k++Dh l i))] Tryz.mixed (by kernel_rfl) ?_ ?_
   ·refine qP I (qP I ?_)
    refine qJ ?_
    refine qL 0 I I (fun W1 hp=>hs0.hp hp) I (qP I (qP I (qP I (qV 39 ((i+1:Nat):Int) I (A4 (by omega)) (qP I (qP I ?_))))))
    refine DU I I I I I (by omega) ?_
    refine qV 42 (nxt l.length i:Nat) I (by rw[Int.tmod_eq_emod_of_nonneg (by omega)];exact(Int.natCast_emod _ _).symm) ?_
    refine qJ ?_
    refine qL 0 I I (fun W1 hp=>hs1.hp hp) I (DL (wX ?_))
    refine RS.cons ?_ (RS.cons ?_ (RS.nil))
    ·refine Ah Tryz.hZ rfl rfl rfl rfl ?_;intro b8
     refine Aa (Al (wX (wZ ?_)))
     refine Ah Tryz.hZ rfl rfl rfl rfl ?_;intro b9
     refine Aa (Al (wX (wZ (wS 2 I I I (Aa (Al (wX (wZ (wS 3 I I I (Aa (Al ?_)))))))))))
     refine Bo I (by((repeat (first|refine Bk.same ?_|refine Bk.off I ?_));exact O)) ?_
     exact AE (b8,b9) ⟨I,I,I,I,I,I,I,O⟩ [0,1,2,3] (by decide) I
    ·refine Ah Tryz.hZ rfl rfl rfl rfl ?_;intro b9
     refine Aa (Al (wX (wZ ?_)))
     refine Ah Tryz.hZ rfl rfl rfl rfl ?_;intro b8
     refine Aa (Al (wX (wZ (wS 3 I I I (Aa (Al (wX (wZ (wS 2 I I I (Aa (Al ?_)))))))))))
     refine Bo I (by((repeat (first|refine Bk.same ?_|refine Bk.off I ?_));exact O)) ?_
     exact AE (b8,b9) ⟨I,I,I,I,I,I,I,O⟩ [0,1,3,2] (by decide) I
   rintro⟨b8,b9⟩
   have hsm:=hrl _ (List.mem_of_getElem? (Lr hil))
   obtain⟨hx,hy,hpl,hgb⟩:=M4 hsm
   refine zE (zA (zB (wP I (wB 2 I I I (wC I I (fun W1 hp=>DX (sd l i).plate (by omega) W1 (h.t.hp hp)) ?_)))))
   refine Au Tryz.hZ tH I I I I I I I I ?_
   refine Ah Tryz.hZ I I I I ?_
   intro b10
   refine wS 4 I I I (Aa ?_)
   obtain⟨sp,hsp⟩: ∃q:Rat,q=if (sd l i).gable=true then 0 else nrm (sd l i).run (sd l i).rise:=⟨_,rfl⟩
   refine zE (zA (zA (zB (wP I (wB 2 I I I (wP I (Aa (As ?_))))))))
   try refine An ?_
   refine Av (X:=Unit) (fun _=>[(1,Ao b1),(4,U.val ((AW rs k).length+i)),(5, .int .i64 (k:Nat)),(6,slv (some ⟨gS,oS,none⟩) l.length c),(7, .int .i64 (i:Nat)),(8,Ao b8),(9,Ao b9),(10,Ao b10)]) (fun _=>[bxE b1 24 (slv (some ⟨gR,oR,none⟩) rs.length cap),U.bx 48 (frC (AW rs k++Dh l i)),⟨b8,80,(sd l i).cells,true,none⟩,⟨b9,80,(sd l (nxt l.length i)).cells,true,none⟩,⟨b10,48,[.bool false, .int .i64 0, .int .i64 0,str (Ac sp),str (Ac ((sd l i).plate:Rat))],true,none⟩]) (fun _=>True) ?_ ?_
   ·refine Af I (fun hg=> ?_) (fun hg=> ?_)
    ·have hg:(sd l i).gable=false:=by simpa using hg
     obtain⟨hrun,hrise⟩:=hgb hg
     rw[hg,if_neg (by decide)] at hsp
     have hq:((sd l i).run:Rat)/((sd l i).rise:Rat)=sp:=by rw[hsp,H4 _ (by omega)];exact(Rat.divInt_eq_div ..).symm
     have zr:szQ ((sd l i).run:Rat) 5:=Km (k:=5) (by show _<100000;omega) (by decide)
     have zs:szQ ((sd l i).rise:Rat) 5:=Km (k:=5) (by show _<100000;omega) (by decide)
     refine Cb (X:=Unit) [true,true,true,true,true,true,true,true,false] (fun _=>[(1,Ao b1),(4,U.val ((AW rs k).length+i)),(5, .int .i64 (k:Nat)),(6,slv (some ⟨gS,oS,none⟩) l.length c),(7, .int .i64 (i:Nat)),(8,Ao b8),(9,Ao b9),(10,Ao b10)]) (fun _=>[bxE b1 24 (slv (some ⟨gR,oR,none⟩) rs.length cap),U.bx 48 (frC (AW rs k++Dh l i)),⟨b8,80,(sd l i).cells,true,none⟩,⟨b9,80,(sd l (nxt l.length i)).cells,true,none⟩,⟨b10,48,[.bool false, .int .i64 0, .int .i64 0,str (Ac sp),str (Ac ((sd l i).plate:Rat))],true,none⟩])
      1 [bxE b1 24 (slv (some ⟨gR,oR,none⟩) rs.length cap),U.bx 48 (frC (AW rs k++Dh l i)),⟨b8,80,(sd l i).cells,true,none⟩,⟨b9,80,(sd l (nxt l.length i)).cells,true,none⟩,⟨b10,48,[.bool false, .int .i64 0, .int .i64 0,str [48],str (Ac ((sd l i).plate:Rat))],true,none⟩] Tryz.mixed (by kernel_rfl) ?_ ?_
     ·refine qP I (qB 2 I I I (qC I I (fun W1 hp=>DX (sd l i).run (by omega) W1 (h.t.hp hp)) (qP I (qB 2 I I I (qC I I (fun W1 hp=>DX (sd l i).rise (by omega) W1 (h.t.hp hp)) (qC I I (fun W1 hp=>(Lq ((sd l i).run:Rat) ((sd l i).rise:Rat) (sz2 zr zs (by decide)) (by rw[Rat.num_intCast];omega) W1 (h.t.hp hp)).cast (v':=str (Ac sp)) (by rw[hq])) (qP I (DL (wX (wZ (wS 4 I I I (Aa (Al ?_)))))))))))))
      refine AR I (by kernel_rfl) ?_
      exact AE () ⟨I,I,I,I,I,I,I,I,O⟩ [0,1,2,3,4] (by decide) I
     intro _
     exact Ag () O ⟨I,I,I,I,I,I,I,I,O⟩ [] I
    ·have hg:(sd l i).gable=true:=by simpa using hg
     rw[hg,if_pos rfl] at hsp
     exact zI (Ag () O ⟨I,I,I,I,I,I,I,I,O⟩ [] (by rw[hsp,DJ.2 (show(0:Rat).num=0 from I)];rfl))
   intro _ _
   have hlm:l∈rs:=by rw[hle];exact List.mem_of_getElem? (Bf hlt)
   obtain⟨_,hsh,_⟩:=Jp h.c
   have hax:=(Ew (fun s hs=>Rs (hrl s hs)) (hsh _ hlm) hil).1
   obtain⟨f,hf⟩: ∃f,f=SZ l i:=⟨_,rfl⟩
   have fsp:f.sp=sp:=by rw[hf,hsp];rfl
   have fst:f.st=((sd l i).plate:Rat):=by rw[hf];rfl
   have fax:f.ax=MU (hdg (sd l i) (sd l (nxt l.length i))):=by rw[hf];rfl
   have fpos:f.pos=if MU (hdg (sd l i) (sd l (nxt l.length i))) then(sd l i).x else(sd l i).y:=by rw[hf];rfl
   have fhd:f.hd=Rb (hdg (sd l i) (sd l (nxt l.length i))):=by rw[hf];rfl
   refine zA (zA (zB (wP I (wB 2 I I I (wP I (wB 3 I I I (wP I (wU 64 (decide ((sd l i).y=(sd l (nxt l.length i)).y)) I (by rw[Bool.eq_iff_iff,beq_iff_eq,decide_eq_true_eq]) (Aa (As ?_))))))))))
   try refine An ?_
   refine Av (X:=Unit) (fun _=>[(1,Ao b1),(4,U.val ((AW rs k).length+i)),(5, .int .i64 (k:Nat)),(6,slv (some ⟨gS,oS,none⟩) l.length c),(7, .int .i64 (i:Nat)),(10,Ao b10)]) (fun _=>[bxE b1 24 (slv (some ⟨gR,oR,none⟩) rs.length cap),U.bx 48 (frC (AW rs k++Dh l i)),⟨b8,80,(sd l i).cells,true,none⟩,⟨b9,80,(sd l (nxt l.length i)).cells,true,none⟩,⟨b10,48,[.bool f.ax, .int .i64 f.pos, .int .i64 f.hd,str (Ac sp),str (Ac ((sd l i).plate:Rat))],true,none⟩]) (fun _=>True) ?_ ?_
   ·refine Af I (fun hyy=> ?_) (fun hyy=> ?_)
    ·have hyy:(sd l i).y=(sd l (nxt l.length i)).y:=of_decide_eq_true hyy
     refine zA (zB (wP I (wB 2 I I I (wP I (wS 4 I I I (wP I (wS 4 I I I (Aa (zE (zA (zB (wP I (wB 3 I I I ?_)))))))))))))
     refine wP I (wB 2 I I I (wP I ?_))
     by_cases hxx:(sd l (nxt l.length i)).x<(sd l i).x
     ·have hk:hdg (sd l i) (sd l (nxt l.length i))=2:=by unfold hdg;rw[if_neg (by omega),if_neg (by omega),if_pos hxx]
      exact wU 73 true I (dT hxx) (Aa (zE (zR I (zB (wP I (wS 4 I I I (Aa (Ag () O ⟨I,I,I,I,I,I,O⟩ [] (by rw[fax,fpos,fhd,hk];rfl)))))))))
     ·have hk:hdg (sd l i) (sd l (nxt l.length i))=0:=by unfold hdg;rw[if_pos (by omega)]
      exact wU 73 false I (dF hxx) (Aa (zE (zS I (zI (Ag () O ⟨I,I,I,I,I,I,O⟩ [] (by rw[fax,fpos,fhd,hk];rfl))))))
    ·have hyy: ¬(sd l i).y=(sd l (nxt l.length i)).y:=of_decide_eq_false hyy
     refine An ?_
     refine Cb (X:=Unit) [true,true,true,false,false,false,false,false] (fun _=>[(1,Ao b1),(4,U.val ((AW rs k).length+i)),(5, .int .i64 (k:Nat)),(6,slv (some ⟨gS,oS,none⟩) l.length c),(7, .int .i64 (i:Nat)),(8,Ao b8),(9,Ao b9),(10,Ao b10)]) (fun _=>[bxE b1 24 (slv (some ⟨gR,oR,none⟩) rs.length cap),U.bx 48 (frC (AW rs k++Dh l i)),⟨b8,80,(sd l i).cells,true,none⟩,⟨b9,80,(sd l (nxt l.length i)).cells,true,none⟩,⟨b10,48,[.bool true, .int .i64 (sd l i).x, .int .i64 (-1),str (Ac sp),str (Ac ((sd l i).plate:Rat))],true,none⟩])
      5 [bxE b1 24 (slv (some ⟨gR,oR,none⟩) rs.length cap),U.bx 48 (frC (AW rs k++Dh l i)),⟨b8,80,(sd l i).cells,true,none⟩,⟨b9,80,(sd l (nxt l.length i)).cells,true,none⟩,⟨b10,48,[.bool false, .int .i64 0, .int .i64 0,str (Ac sp),str (Ac ((sd l i).plate:Rat))],false,none⟩] Tryz.mixed (by kernel_rfl) ?_ ?_
     ·refine qP I (qB 2 I I I (qP I (DL (wX (wZ (wS 4 I I I (Aa (Al (wX (wZ (wP I (Aa (Al ?_)))))))))))))
      refine wX (wZ (wS 4 I I I (Aa (Al (wX (wZ (wP I (Aa (Al (wX (wZ (wS 4 I I I (Aa ?_)))))))))))))
      refine Al ?_
      refine Bo I (by((repeat (first|refine Bk.same ?_|refine Bk.off I ?_));exact O)) ?_
      exact AE () ⟨I,I,I,I,I,I,I,I,O⟩ [0,1,2,3,4] (by decide) I
     intro _
     refine zE (zA (zB (wP I (wB 3 I I I (wP I (wB 2 I I I (wP I ?_)))))))
     by_cases hyl:(sd l (nxt l.length i)).y<(sd l i).y
     ·have hk:hdg (sd l i) (sd l (nxt l.length i))=3:=by unfold hdg;rw[if_neg (by omega),if_neg (by omega),if_neg (by omega)]
      exact wU 84 true I (dT hyl) (Aa (zE (zR I (zB (wP I (wS 4 I I I (Aa (Ag () O ⟨I,I,I,I,I,I,O⟩ [] (by rw[fax,fpos,fhd,hk];rfl)))))))))
     ·have hk:hdg (sd l i) (sd l (nxt l.length i))=1:=by unfold hdg;rw[if_neg (by omega),if_pos (by omega)]
      exact wU 84 false I (dF hyl) (Aa (zE (zS I (zI (Ag () O ⟨I,I,I,I,I,I,O⟩ [] (by rw[fax,fpos,fhd,hk];rfl))))))
   intro _ _
   refine zB (wP I (wB 4 I I I ?_))
   refine A3 Tryz.hZ tH I I I I I I I I I I I fun bN=> ?_
   refine AK (V:=U) (len:=(AW rs k).length+i) (xs:=frC (AW rs k++Dh l i)) 1 5 Tryz.vec63 ((AW rs k).length+(i+1)) (frC (AW rs k++Dh l (i+1))) I I I I I I I I I I I hU I I I (by rw[hsuc, ←List.append_assoc,NP (AW rs k++Dh l i), ←hf, ←fsp, ←fst];rfl) (by simp only[maxLen];omega) (by omega) I ?_
   intro gV cV jV hV1
   exact wP I (Aa (zN (zE (zB (wP I (wP I (wV 32 ((i+1:Nat):Int) I (A4 (by omega)) (wP I (Aa (Ak (i+1,⟨some gV,cV,jV⟩) ⟨hil,hV1⟩ (by show l.length-(i+1)<l.length-i;omega) ⟨I,I,I,I,I,O⟩ _ I))))))))))
  ·have e:i=l.length:=by omega
   subst e
   refine wU 30 false I (dF (by omega)) (Aa (zE (zS I (zJ (zK (zK (zL (zN (zE (zB ?_))))))))))
   have hall:AW rs (k+1)=AW rs k++Dh l l.length:=by rw[hle];rfl
   have hall2:(AW rs (k+1)).length=(AW rs k).length+l.length:=by rw[hall,List.length_append,Mb]
   exact wP I (wP I (wV 21 ((k+1:Nat):Int) I (A4 (by omega)) (wP I (Aa (Ak (k+1,U) ⟨hlt,by show U.OK 5 (AW rs (k+1)).length (frC (AW rs (k+1)));rw[hall2,hall];exact hU⟩ (by show rs.length-(k+1)<rs.length-k;omega) ⟨I,(by show some (U.val _)=some (U.val (AW rs (k+1)).length);rw[hall2]),I,O⟩ _ (by show _=[_,U.bx _ (frC (AW rs (k+1)))]++_;rw[hall];rfl))))))
 ·have e:k=rs.length:=by omega
  subst e
  refine wU 19 false I (dF (by omega)) (Aa (zE (zS I (zJ (zK (zK (zL (zE (zA (zB (wP I (wP I (wP I ?_)))))))))))))
  exact Aa (zE (zO (AJ tH I (.tmp I) (.tmp I) V I hV fun W1 hp=>At.of_hp (hp.pick (l:=[V.bx 48 (frC (AW rs rs.length))]) [1] (by decide) I))))
-- BOXES 4
-- CODE2
theorem EC {P:Program} {f:Nat} {args:Array Value} {W:World} {v:Value} (h:Ae P f args W (fun _:Unit=>v) (fun _=>True) (fun _=>[])) {X:Type} {val:X→Value} {Φ:X→Prop} {nb:X→List Bx} (x:X) (hv:v=val x) (hx:Φ x) (hnb: ∀W',At W W' (nb x)):Ae P f args W val Φ nb:=by
 refine⟨h.out.mono fun e W' h1=> ?_⟩
 obtain⟨_,he,_,hb,_⟩:=h1
 exact⟨x,by rw[he,hv],hx,hb,hnb W'⟩
theorem FF (W W':World):At W W' [Hl]:=Own.one (fun p hp=>by cases hp) List.nodup_nil
theorem Qm (f g:FrW) (l1:f.sp.length≤4000000000) (l2:f.st.length≤4000000000) (l3:g.sp.length≤4000000000) (l4:g.st.length≤4000000000) (he: ¬(fcE f=0∧fcE g=0)) (W:World) (hv:B9 W) (ht:AH W):
  Ae Tryz.prog 43 #[fwV f,fwV g] W (fun _:Unit=> .tuple #[.slice none 0 0, .int .i64 1]) (fun _=>True) (fun _=>[]):=by
 refine Ab (args:=[fwV f,fwV g]) Tryz.func43 I I I ?_
 refine zA (zB ?_)
 (refine Ay rfl rfl rfl rfl ?_;intro)
 (refine Ay rfl rfl rfl rfl ?_;intro)
 refine wP I (wP I (Aa (zE (zA (zA (zB (wB 0 I I I (wC I I (fun W1 hp=>HA f l1 l2 W1 (hv.hp hp) (ht.hp hp)) (wP I ?_)))))))))
 by_cases hf:fcE f=0
 ·refine wU 14 false I (bne_eq_false_iff_eq.2 hf) (wP I (wB 1 I I I (wC I I (fun W1 hp=>HA g l3 l4 W1 (hv.hp hp) (ht.hp hp)) (wP I (wU 18 true I (bne_iff_ne.2 fun e=>he ⟨hf,e⟩) (wP I (Aa (zE (zR I (zA (zB (wP I (wP I ?_)))))))))))))
  exact Aa (zE (zO (zP (wR2 I I I))))
 ·refine wU 14 true I (bne_iff_ne.2 hf) (wP I ?_)
  iterate 3 refine Ad I I ?_
  exact wP I (Aa (zE (zR I (zA (zB (wP I (wP I (Aa (zE (zO (zP (wR2 I I I))))))))))))
theorem Qo (f g:FrW) (l1:f.sp.length≤4000000000) (l2:f.st.length≤4000000000) (l3:g.sp.length≤4000000000) (l4:g.st.length≤4000000000) (he: ¬(fcE f=0∧fcE g=0)) (W:World) (ht:AH W):
  Ae Tryz.prog 44 #[fwV f,fwV g] W (fun _:Unit=> .tuple #[.slice none 0 0, .int .i64 1]) (fun _=>True) (fun _=>[]):=by
 refine Ab (args:=[fwV f,fwV g]) Tryz.func44 I I I ?_
 refine zA (zB ?_)
 (refine Ay rfl rfl rfl rfl ?_;intro)
 (refine Ay rfl rfl rfl rfl ?_;intro)
 refine wP I (wP I (Aa (zE (zA (zA (zB (wB 0 I I I (wC I I (fun W1 hp=>GV f l1 l2 W1 (ht.hp hp)) (wP I ?_)))))))))
 by_cases hf:fcE f=0
 ·refine wU 21 false I (bne_eq_false_iff_eq.2 hf) (wP I (wB 1 I I I (wC I I (fun W1 hp=>GV g l3 l4 W1 (ht.hp hp)) (wP I (wU 25 true I (bne_iff_ne.2 fun e=>he ⟨hf,e⟩) (wP I (Aa (zE (zR I (zA (zB (wP I (wP I ?_)))))))))))))
  exact Aa (zE (zO (zP (wR2 I I I))))
 ·refine wU 21 true I (bne_iff_ne.2 hf) (wP I ?_)
  iterate 3 refine Ad I I ?_
  exact wP I (Aa (zE (zR I (zA (zB (wP I (wP I (Aa (zE (zO (zP (wR2 I I I))))))))))))
theorem M1 (f g:FrP) (hf:f.OK) (hg:g.OK) (hax:f.ax≠g.ax) (W:World) (ht:AH W):
  Ae Tryz.prog 44 #[frV f,frV g] W (fun _:Unit=> .tuple #[.slice none 0 0, .int .i64 9]) (fun _=>True) (fun _=>[]):=by
 refine Ab (args:=[frV f,frV g]) Tryz.func44 I I I ?_
 refine zA (zB ?_)
 (refine Ay rfl rfl rfl rfl ?_;intro)
 (refine Ay rfl rfl rfl rfl ?_;intro)
 refine wP I (wP I (Aa (zE (zA (zA (zB (wB 0 I I I (wC I I (fun W1 hp=>Ec f hf W1 (ht.hp hp)) (wP I (wP I (wB 1 I I I (wC I I (fun W1 hp=>Ec g hg W1 (ht.hp hp)) (wP I (wP I ?_))))))))))))))
 refine Aa (zE (zS I (zI (zE (zA (zA (zB (wP I (wB 0 I I I (wP I (wB 1 I I I ?_)))))))))))
 refine CG Tryz.underlying4 I I I I I I ?_
 exact wU 31 true rfl (by cases h1:f.ax<;>cases h2:g.ax<;>simp_all) (Aa (zE (zR rfl (zA (zB (wP rfl (wP rfl (Aa (zE (zO (zP (wR2 rfl rfl rfl))))))))))))
theorem V9 (f g:FrW) (l1:f.sp.length≤30) (l2:f.st.length≤30) (l3:g.sp.length≤30) (l4:g.st.length≤30): ∃(L:List Rat) (e:Int),L.length≤5∧ ∀W,B9 W→AH W→
  Ae Tryz.prog 43 #[fwV f,fwV g] W (fun V:Vec=> .tuple #[V.val L.length, .int .i64 e]) (fun V=>V.OK 1 L.length (nS L)) (fun V=>[V.bx 25 (nS L)])∧
  Ae Tryz.prog 44 #[fwV f,fwV g] W (fun V:Vec=> .tuple #[V.val L.length, .int .i64 e]) (fun V=>V.OK 1 L.length (nS L)) (fun V=>[V.bx 25 (nS L)]):=by
 by_cases he:fcE f=0∧fcE g=0
 ·obtain⟨f,hf,rfl⟩:=Pe he.1
  obtain⟨g,hg,rfl⟩:=Pe he.2
  have a1:szQ f.sp 30:=IY l1 (by decide)
  have b1:szQ f.st 30:=IY l2 (by decide)
  have a2:szQ g.sp 30:=IY l3 (by decide)
  have b2:szQ g.st 30:=IY l4 (by decide)
  by_cases hax:f.ax=g.ax
  ·obtain⟨hz,hm⟩:=Tc hf hg a1 b1 a2 b2
   refine⟨eqL f g,0,(by have:=Uz f g;omega),fun W hv ht=>⟨?_, ?_⟩⟩
   ·exact Ip f g hf hg hax hz (fun p hp q hq=>sz2 (hm p hp) (hm q hq) (by decide)) 30 30 127 a1 b1 a2 b2 hm (by decide) (by decide) W hv ht
   ·exact NG f g hf hg hax 30 127 a1 b1 a2 b2 (Sn hf hg a1 b1 a2 b2) (by decide) (by decide) W ht
  ·exact⟨[],9,by decide,fun W hv ht=>⟨EC (Mn f g hf hg hax W hv ht) Vec.empty I (Vec.OK.empty 1) fun W'=>FF _ _,EC (M1 f g hf hg hax W ht) Vec.empty I (Vec.OK.empty 1) fun W'=>FF _ _⟩⟩
 ·exact⟨[],1,by decide,fun W hv ht=>⟨EC (Qm f g (by omega) (by omega) (by omega) (by omega) he W hv ht) Vec.empty I (Vec.OK.empty 1) fun W'=>FF _ _,EC (Qo f g (by omega) (by omega) (by omega) (by omega) he W ht) Vec.empty I (Vec.OK.empty 1) fun W'=>FF _ _⟩⟩
def Vp (rs:List (List Sd)):Prop:=rs.length<1099511627776∧tot rs<1099511627776
theorem Ua (W:World) (p:Option Addr) (cap:Nat) (rs:List (List Sd)) (hn:Vp rs) (hR:Bv W p rs) (hc:chk rs≠0):
  Ae Tryz.prog 41 #[D8 p rs.length cap] W (fun _:Unit=> .tuple #[.slice none 0 0, .int .i64 1]) (fun _=>True) (fun _=>[]):=by
 have h1:=hn.1
 have h2:=hn.2
 refine Ab (args:=[D8 p rs.length cap]) Tryz.func41 I I I ?_
 refine zA (zB ?_)
 (refine Ay rfl rfl rfl rfl ?_;intro)
 refine wP I (wP I (Aa (zE (zA (zA (zB (wB 0 I I I (wC I I (fun W1 hp=>JH W1 p cap rs (by omega) (by omega) (hR.hp hp)) (wP I (wU 11 true I (bne_iff_ne.2 hc) (Aa (zE (zR I ?_)))))))))))))
 exact zA (zB (wP I (wP I (Aa (zE (zO (zP (wR2 I I I))))))))
theorem Te (W:World) (p:Option Addr) (cap:Nat) (rs:List (List Sd)) (hn:Vp rs) (hR:Bv W p rs) (hc:chk rs≠0):
  Ae Tryz.prog 42 #[D8 p rs.length cap] W (fun _:Unit=> .tuple #[.slice none 0 0, .int .i64 1]) (fun _=>True) (fun _=>[]):=by
 have h1:=hn.1
 have h2:=hn.2
 refine Ab (args:=[D8 p rs.length cap]) Tryz.func42 I I I ?_
 refine zA (zB ?_)
 (refine Ay rfl rfl rfl rfl ?_;intro)
 refine wP I (wP I (Aa (zE (zA (zA (zB (wB 0 I I I (wC I I (fun W1 hp=>II W1 p cap rs (by omega) (by omega) (hR.hp hp)) (wP I (wU 13 true I (bne_iff_ne.2 hc) (Aa (zE (zR I ?_)))))))))))))
 exact zA (zB (wP I (wP I (Aa (zE (zO (zP (wR2 I I I))))))))
theorem Qz {rs:List (List Sd)} (hn:Vp rs): ∃(L:List FrP) (e:Int),L.length≤24∧ ∀(W:World) (p:Option Addr) (cap:Nat),Bv W p rs→LQ W→B9 W→AH W→
  Ae Tryz.prog 41 #[D8 p rs.length cap] W (fun V:Vec=> .tuple #[V.val L.length, .int .i64 e]) (fun V=>V.OK 5 L.length (frC L)) (fun V=>[V.bx 48 (frC L)])∧
  Ae Tryz.prog 42 #[D8 p rs.length cap] W (fun V:Vec=> .tuple #[V.val L.length, .int .i64 e]) (fun V=>V.OK 5 L.length (frC L)) (fun V=>[V.bx 48 (frC L)]):=by
 by_cases hc:chk rs=0
 ·exact⟨KI rs,0,by rw[Td];exact(PU hc).2.1,fun W p cap hR hd hv ht=>⟨Q3 W p cap rs (by have:=hn.1;omega) hR hc hd ht,QB W p cap rs ⟨hn.1,hR,hc,hd,hv,ht⟩⟩⟩
 ·exact⟨[],1,by decide,fun W p cap hR hd hv ht=>⟨EC (Ua W p cap rs hn hR hc) Vec.empty I (Vec.OK.empty 5) fun W'=>FF _ _,EC (Te W p cap rs hn hR hc) Vec.empty I (Vec.OK.empty 5) fun W'=>FF _ _⟩⟩
theorem VA (f:FrP) (W:World):(binOp .neq 48 (frV f) (frV f)).run Tryz.prog W= .ok (.bool false) W:=by
 rw[run_neq_struct]
 have hp:Tryz.prog.stoodInHeld 48=false:=by kernel_rfl
 rw[show(10000:Nat)=9999+1 from rfl,run_equalIn_agg W 9999 48 _ _ (by kernel_rfl) hp]
 have hf : ∃ f1 f2 f3 f4 f5 : Field, (Tryz.prog.fieldsOf 48).toList = [f1, f2, f3, f4, f5] ∧ (f1.name ≠ "_" ∧ f1.type = 4 ∧ f1.offset = 0) ∧ (f2.name ≠ "_" ∧ f2.type = 3 ∧ f2.offset = 1) ∧ (f3.name ≠ "_" ∧ f3.type = 3 ∧ f3.offset = 2) ∧ (f4.name ≠ "_" ∧ f4.type = 25 ∧ f4.offset = 3) ∧ (f5.name ≠ "_" ∧ f5.type = 25 ∧ f5.offset = 4) := by
  unfold Program.fieldsOf;rw[Tryz.underlying48]
  exact⟨_,_,_,_,_,I,⟨by decide,I,I⟩,⟨by decide,I,I⟩,⟨by decide,I,I⟩,⟨by decide,I,I⟩,⟨by decide,I,I⟩⟩
 obtain⟨f1,f2,f3,f4,f5,hf,⟨n1,t1,o1⟩,⟨n2,t2,o2⟩,⟨n3,t3,o3⟩,⟨n4,t4,o4⟩,⟨n5,t5,o5⟩⟩:=hf
 rw[hf]
 have e: ∀(x:List UInt8) W,(Op.equalIn 9999 25 (str x) (str x)).run Tryz.prog W= .ok true W:=fun x W=>by
  rw[run_equalIn_string W 9998 25 _ _ Tryz.underlying25,AD,dT rfl]
 have e3: ∀(z:Int) W,(Op.equalIn 9999 3 (.int .i64 z) (.int .i64 z)).run Tryz.prog W= .ok true W:=fun z W=>by
  have u3:=Tryz.underlying3
  go_simp
 have e4: ∀(b:Bool) W,(Op.equalIn 9999 4 (.bool b) (.bool b)).run Tryz.prog W= .ok true W:=fun b W=>by
  have u4:=Tryz.underlying4
  go_simp
 simp[Op.eqFields,part,Tryz.isAgg25,Tryz.isAgg3,Tryz.isAgg4,e,e3,e4,n1,n2,n3,n4,n5,t1,t2,t3,t4,t5,o1,o2,o3,o4,o5]
section
variable {N:Nat} {D:List Deferred} {ops:List Oper} {o:Oper} {rest:List Oper} {env:Env} {A A2:World→Prop} {R:Act→World→Prop}
theorem SU (f:FrP) {d:Nat} {u:TypeId} {x y:Operand} (hg:Ax ops N env o=some true) (hd:o.dst=some d) (ho:o.op= .binOp .neq 48 x y u) (hx:evO N env x=some (frV f)) (hy:evO N env y=some (frV f))
  (h:WQ Tryz.prog N D ops A2 R rest ((d, .bool false)::env) A):WQ Tryz.prog N D ops A2 R (o::rest) env A:=
 EH hg hd (fun c e=>by rw[ho] at e;cases e) (fun _ W hρ _=>by
  have hm:Tryz.prog.eqGuardType Tryz.prog.depth 48=false:=by kernel_rfl
  simp[execOp,ho,hρ _ _ hx,hρ _ _ hy,run_eqGuard_agg W .neq 48 x y _ _ hm,VA]) h
end
def VJ (W:World) (p:Option Addr) (L:List FrP):Prop:=0<L.length→ ∃g,p=some ⟨g,0,none⟩∧ ∀m f,L[m]? =some f→Az W g (0+m*5) (frV f).cells.toList
theorem Ry {V:Vec} {L:List FrP} (hV:V.OK 5 L.length (frC L)): ∃p cap,V.val L.length= .slice p L.length cap∧ ∀ {W0 W:World} {bxs:List Bx},Hp W0 bxs W→ ∀k,nth bxs k=some (V.bx 48 (frC L))→VJ W p L:=by
 rcases Nat.eq_zero_or_pos L.length with h0|h0
 ·obtain⟨p,cap,junk⟩:=V
  cases p with
  |none=>exact⟨none,0,by rw[h0];rfl,fun _ _ _ h=>absurd h (by omega)⟩
  |some g=>exact⟨some ⟨g,0,none⟩,cap,rfl,fun _ _ _ h=>absurd h (by omega)⟩
 ·obtain⟨g,cap,e,h⟩:=Vec.frs hV h0
  exact⟨some ⟨g,0,none⟩,cap,e,fun hp k hk _=>⟨g,I,h hp k hk⟩⟩
theorem Mz (W:World) (p q:Option Addr) (cp cq:Nat) (L:List FrP) (hn:L.length≤1000) (hP:VJ W p L) (hQ:VJ W q L):
  Ae Tryz.prog 45 #[.slice p L.length cp, .slice q L.length cq] W (fun _:Unit=> .bool true) (fun _=>True) (fun _=>[]):=by
 refine Ab (args:=[.slice p L.length cp, .slice q L.length cq]) Tryz.func45 I I I ?_
 refine zA (zB (wP I (Aa (zE (zA (zA (zB ?_)))))))
 iterate 5 refine wP I ?_
 refine wU 10 false I (bne_self_eq_false ((L.length:Nat):Int)) (Aa (zE (zS I (zI (zE (zA (zA (zB (wP I (wP I (wP I (Aa (zE ?_)))))))))))))
 refine zH ?_
 refine Ar (X:=Nat) (fun i=>[(0, .slice p L.length cp),(1, .slice q L.length cq),(12, .int .i64 (L.length:Nat)),(13, .int .i64 (i:Nat))]) (fun _=>[]) (fun i=>i≤L.length) (fun i=>L.length-i) 0 (Nat.zero_le _) ⟨I,I,I,I,O⟩ [] I ?_
 intro i hi
 have hi:i≤L.length:=hi
 refine zA (zB (wP I ?_))
 by_cases hlt:i<L.length
 ·refine wU 14 true I (dT (by omega)) (Aa (zE (zA (zR I (zI (zE (zA (zH (zA (zB ?_))))))))))
  obtain⟨gp,rfl,hp1⟩:=hP (by omega)
  obtain⟨gq,rfl,hq1⟩:=hQ (by omega)
  obtain⟨f,hf⟩: ∃f,L[i]? =some f:=⟨_,List.getElem?_eq_getElem hlt⟩
  refine wP I (wP I (Aa (zE (zA (zU (qP I (qP I ?_)))))))
  refine qJ ?_
  refine qL 0 I I (fun W1 hp=>(hp1 i f hf).hp hp) I (qP I (qP I ?_))
  refine qJ ?_
  refine qL 0 I I (fun W1 hp=>(hq1 i f hf).hp hp) I ?_
  refine SU f I I I I I ?_
  exact A0 (Aa (zE (zS I (zI (zN (zE (zB (wP I (wV 25 ((i+1:Nat):Int) I (A4 (by omega)) (wP I (Aa (Ak (i+1) hlt (by show L.length-(i+1)<L.length-i;omega) ⟨I,I,I,I,O⟩ [] I))))))))))))
 ·refine wU 14 false I (dF (by omega)) (Aa (zE (zA (zS I (zJ (zK (zK (zL (zE (zA (zB (wP I (Aa ?_)))))))))))))
  exact zE (zO (wR1 I I (I)))
-- BOXES 14
-- CODE2
theorem Pn {V:Vec} {l:List Rat} (hV:V.OK 1 l.length (nS l)): ∃p cap,V.val l.length=slv p (l.map Ac).length cap∧
  ∀ {W0 W:World} {bxs:List Bx},Hp W0 bxs W→ ∀k,nth bxs k=some (V.bx 25 (nS l))→Pt W p (l.map Ac):=by
 have e:(l.map Ac).map str=nS l:=by simp[nS]
 obtain⟨p,cap,junk⟩:=V
 cases p with
 |none=>
  have hl:=List.length_eq_zero_iff.1 (hV.nil rfl)
  subst hl
  exact⟨none,0,I,fun _ _ _=> .inl I⟩
 |some g=>
  refine⟨some ⟨g,0,none⟩,cap,by rw[List.length_map];rfl,fun {W0 W bxs} hp k hk=> .inr ⟨g,0,I, ?_⟩⟩
  rw[e]
  exact F2 hp k (A:=[]) (C:=junk) hk I I
-- BOXES 8
-- CODE2
theorem N4 (W:World) (p:Option Addr) (cap:Nat) (rs:List (List Sd)) (f g:FrW) (hn:rs.length<1099511627776) (hT:tot rs<1099511627776) (hR:Bv W p rs) (hd:LQ W) (hv:B9 W) (ht:AH W):
  Ae Tryz.prog 6 #[D8 p rs.length cap,fwV f,fwV g] W (fun _:Unit=> .bool true) (fun _=>True) (fun _=>[]):=by
 obtain⟨LF,eF,nF,hF⟩:=Qz (rs:=rs) ⟨hn,hT⟩
 refine Ab (args:=[D8 p rs.length cap,fwV f,fwV g]) Tryz.func6 I I I ?_
 refine zA (zB ?_)
 (refine Ay rfl rfl rfl rfl ?_;intro)
 (refine Ay rfl rfl rfl rfl ?_;intro)
 (refine Ay rfl rfl rfl rfl ?_;intro)
 refine wP I (Aa ?_)
 rename_i b3 b4 b5
 refine As (An (An ?_))
 refine Av (X:=Bool) (fun b=>[(3,Ao b3),(4,Ao b4),(5,Ao b5),(24, .bool b)]) (fun _=>[bxE b3 24 (slv p rs.length cap),fwX b4 f,fwX b5 g]) (fun b=>b=false→Pf f=false∧Pf g=false) ?_ ?_
 ·refine zB (wB 0 I I I (wC I I (fun W1 hp=>OC W1 p cap rs 12 (by omega) (by omega) (hR.hp hp)) ?_))
  cases hG:grt rs 12 with
  |true=>
   refine wP I ?_
   iterate 2 refine Ad I I ?_
   refine wP I (wP I ?_)
   iterate 2 refine Ad I I ?_
   exact wP rfl (Aa (Ag true (fun h=>by cases h) ⟨rfl,rfl,rfl,rfl,trivial⟩ [] rfl))
  |false=>
   refine wP I (wB 1 I I I (wC I I (fun W1 _=>Ik f W1) ?_))
   cases h1:Pf f with
   |true=>
    refine wP I (wP I ?_)
    iterate 2 refine Ad I I ?_
    exact wP rfl (Aa (Ag true (fun h=>by cases h) ⟨rfl,rfl,rfl,rfl,trivial⟩ [] rfl))
   |false=>
    exact wP I (wP I (wB 2 I I I (wC I I (fun W1 _=>Ik g W1) (wP I (Aa (Ag (Pf g) (fun h=>⟨I,h⟩) ⟨I,I,I,I,O⟩ [] I))))))
 intro bg hbg
 cases bg with
 |true=>
  exact zR I (zA (zB (wC I I (fun W1 hp=>I0 W1 (hv.hp hp) (ht.hp hp)) (wP I (Aa (zE (zO (zP (wR1 I I (I))))))))))
 |false=>
  obtain⟨g1,g2⟩:=hbg rfl
  unfold Pf at g1 g2
  rw[Bool.or_eq_false_iff,decide_eq_false_iff_not,decide_eq_false_iff_not] at g1 g2
  obtain⟨LE,eE,nE,hE⟩:=V9 f g (by omega) (by omega) (by omega) (by omega)
  refine zS I (zI (zE (zA (zB (wB 0 I I I ?_)))))
  refine wD (X:=Vec) I I (fun W1 hp=>(hF W1 p cap (hR.hp hp) (hd.hp hp) (hv.hp hp) (ht.hp hp)).1) ?_
  intro A1 hA1
  obtain⟨p1,c1,e1,hr1⟩:=Ry hA1
  rw[e1]
  iterate 5 refine wP I ?_
  refine Aa (zE (zA (zB (wB 0 I I I ?_))))
  refine wD (X:=Vec) I I (fun W1 hp=>(hF W1 p cap (hR.hp hp) (hd.hp hp) (hv.hp hp) (ht.hp hp)).2) ?_
  intro A2 hA2
  obtain⟨p2,c2,e2,hr2⟩:=Ry hA2
  rw[e2]
  iterate 5 refine wP I ?_
  refine Aa (zE (zA (zB (wB 1 I I I (wB 2 I I I ?_)))))
  refine wD (X:=Vec) I I (fun W1 hp=>(hE W1 (hv.hp hp) (ht.hp hp)).1) ?_
  intro E1 hE1
  obtain⟨p3,c3,e3,hr3⟩:=Pn hE1
  rw[e3]
  iterate 5 refine wP I ?_
  refine Aa (zE (zA (zB (wB 1 I I I (wB 2 I I I ?_)))))
  refine wD (X:=Vec) I I (fun W1 hp=>(hE W1 (hv.hp hp) (ht.hp hp)).2) ?_
  intro E2 hE2
  obtain⟨p4,c4,e4,hr4⟩:=Pn hE2
  rw[e4]
  iterate 5 refine wP I ?_
  refine Aa (zE (zA (zB (wP I (wP I (wC I I (fun W1 hp=>Mz W1 p1 p2 c1 c2 LF (by omega) (hr1 hp 3 I) (hr2 hp 4 I)) (wP I (wP I (wP I (wP I (wU 54 true I (beq_self_eq_true eF) (wP I (wP I (wP I (wP I ?_)))))))))))))))
  refine wC I I (fun W1 hp=>(Jc W1 p3 p4 c3 c4 (LE.map Ac) (LE.map Ac) (hr3 hp 5 I) (hr4 hp 6 I) (by rw[List.length_map];omega) (by rw[List.length_map];omega)).cast (v':= .bool true) (by rw[dT I])) ?_
  iterate 5 refine wP I ?_
  exact wU 64 true I (beq_self_eq_true eE) (wP I (wP I (wC I I (fun W1 hp=>I0 W1 (hv.hp hp) (ht.hp hp)) (wP I (wP I (Aa (zE (zO (wR1 I I (I))))))))))
end
section
open Go Go.RowKit Go.Am Go.ChangeShapes Go.WideShapes Go.Deep
set_option maxRecDepth 10000
theorem c42:Tryz.prog.cellsOf 80=7:=by kernel_rfl
theorem c27:Tryz.prog.cellsOf 76=1:=by kernel_rfl
theorem c24:Tryz.prog.cellsOf 24=1:=by kernel_rfl
theorem c22:Tryz.prog.cellsOf 22=1:=by kernel_rfl
theorem c3:Tryz.prog.cellsOf 3=1:=by kernel_rfl
theorem c4:Tryz.prog.cellsOf 4=1:=by kernel_rfl
theorem Li {H:Type} (d:DataW H):1≤Rows.uptoBulk d:=by
 cases d with
 |lit l=>cases l<;>simp[Rows.uptoBulk]
 |nil=>simp[Rows.uptoBulk]
 |ptr d=>simp[Rows.uptoBulk]
 |slice elems spare=>simp[Rows.uptoBulk]
 |agg parts=>simp[Rows.uptoBulk]
 |iface t d=>simp[Rows.uptoBulk]
 |map entries=>simp[Rows.uptoBulk]
 |held h=>simp[Rows.uptoBulk]
theorem Tk {H:Type} (l:List (DataW H)):l.length≤Rows.uptoBulkAll l:=by
 induction l with
 |nil=>simp[Rows.uptoBulkAll]
 |cons x r ih=>have:=Li x;simp only[Rows.uptoBulkAll,List.length_cons];omega
theorem T7 {H:Type} {A:Type} (L:A→Nat) (D:A→DataW H) (is:List A) (h: ∀i,i∈is→L i+1≤Rows.uptoBulk (D i)):
  (is.map L).sum+is.length≤Rows.uptoBulkAll (is.map D):=by
 induction is with
 |nil=>simp[Rows.uptoBulkAll]
 |cons x r ih=>
  have h1:=h x (.head _)
  have h2:=ih fun i hi=>h i (.tail _ hi)
  simp only[List.map_cons,List.sum_cons,List.length_cons,Rows.uptoBulkAll]
  omega
theorem LJ {H:Type} (e s:List (DataW H)):Rows.uptoBulkAll e+1≤Rows.uptoBulk (.slice e s):=by
 simp only[Rows.uptoBulk];omega
theorem QA {w:World} {a:Addr} {v:Value} (h:w.cell? a=some v):a.spot=none∧a.block<w.heap.size:=by
 unfold World.cell? at h
 split at h
 ·rename_i hb
  refine⟨?_, ?_⟩
  ·cases hs:a.spot with
   |none=>rfl
   |some k=>simp[hs] at h
  ·exact(Array.getElem?_eq_some_iff.1 hb).1
 ·cases h
theorem IN {w:World} {base n:Nat} {a:Addr} {cs:List Value} (h:w.cells? base a n=some cs) (hn:0<n):a.spot=none∧Az w a.block a.off cs:=by
 obtain⟨_,hl,hg⟩:=World.cells?_some h
 have h0:=hg 0 hn
 have hv:cs[0]? =some cs[0]:=List.getElem?_eq_getElem (by omega)
 rw[hv] at h0
 have hp:=QA h0
 have hs:a.spot=none:=by simpa[Addr.add] using hp.1
 refine⟨hs,⟨by simpa[Addr.add] using hp.2,fun j x hx=> ?_⟩⟩
 have hj:j<n:=by rw[←hl];exact(List.getElem?_eq_some_iff.1 hx).1
 rw[←hx, ←hg j hj]
 congr 1
 unfold Addr.add
 split
 ·subst_vars;cases a;simp_all
 ·rfl
theorem Rf {a:Addr} (hs:a.spot=none) (n:Nat):a.add n=⟨a.block,a.off+n,none⟩:=by
 unfold Addr.add
 split
 ·subst_vars;cases a;simp_all
 ·rfl
def Sd.in64 (s:Sd):Prop:= ∀z∈[s.x,s.y,s.rise,s.run,s.plate,s.over], -9223372036854775808≤z∧z≤9223372036854775807
section
variable {H:Type} {enc:TypeId×Value→H} {w:World} {base:Nat} {spare:Nat→Bool} {held:Bool} {fuel:Nat} {cs:List Value} {x:DataW H×List MemPlace}
theorem Uv (h:DataW.trod enc Tryz.prog w base spare held fuel 80 cs=some x): ∃s:Sd,cs=s.cells∧s.in64:=by
 obtain⟨xs,m,rfl,rfl,hl,hx,hf⟩:=DataW.trod_struct Tryz.underlying80 h
 rw[c42] at hl
 have g: ∀(i:Nat) (o t:Nat) (f:Field),(match Tryz.prog.underlying 80 with|some (.struct fs)=>fs[i]? |_=>none)=some f→f.offset=o→f.type=t→
   ∃y,DataW.trod enc Tryz.prog w base spare held m t ((cs.drop o).take (Tryz.prog.cellsOf t))=some y:=by
  intro i o t f hi ho ht
  rw[Tryz.underlying80] at hi
  subst ho;subst ht
  have h1:=hf i f hi
  have h2:i<xs.length:=by rw[hx];exact(Array.getElem?_eq_some_iff.1 hi).1
  rw[List.getElem?_eq_getElem h2] at h1
  exact⟨_,h1⟩
 match cs,hl with
 |[v0,v1,v2,v3,v4,v5,v6],_=>
  have gi: ∀(i o:Nat) (f:Field) (v:Value),(match Tryz.prog.underlying 80 with|some (.struct fs)=>fs[i]? |_=>none)=some f→f.offset=o→f.type=3→([v0,v1,v2,v3,v4,v5,v6].drop o).take 1=[v]→
    ∃z,v= .int .i64 z∧ -9223372036854775808≤z∧z≤9223372036854775807:=by
   intro i o f v h1 h2 h3 h4
   obtain⟨y,hy⟩:=g i o 3 f h1 h2 h3
   rw[c3,h4] at hy
   obtain⟨z,e1,_,hw⟩:=DataW.trod_int Tryz.underlying3 hy
   refine⟨z,by simpa using e1, ?_⟩
   simpa[Lit.wf,IntKind.min,IntKind.max,IntKind.signed,IntKind.bits] using hw
  obtain⟨z0,rfl,b0⟩:=gi 0 0 _ v0 (by rw[Tryz.underlying80];rfl) rfl rfl rfl
  obtain⟨z1,rfl,b1⟩:=gi 1 1 _ v1 (by rw[Tryz.underlying80];rfl) rfl rfl rfl
  obtain⟨z2,rfl,b2⟩:=gi 2 2 _ v2 (by rw[Tryz.underlying80];rfl) rfl rfl rfl
  obtain⟨z3,rfl,b3⟩:=gi 3 3 _ v3 (by rw[Tryz.underlying80];rfl) rfl rfl rfl
  obtain⟨z5,rfl,b5⟩:=gi 5 5 _ v5 (by rw[Tryz.underlying80];rfl) rfl rfl rfl
  obtain⟨z6,rfl,b6⟩:=gi 6 6 _ v6 (by rw[Tryz.underlying80];rfl) rfl rfl rfl
  obtain⟨y4,hy4⟩:=g 4 4 4 _ (by rw[Tryz.underlying80];rfl) rfl rfl
  rw[c4] at hy4
  obtain⟨z4,e4,_⟩:=DataW.trod_bool Tryz.underlying4 hy4
  obtain rfl:v4= .bool z4:=by simpa using e4
  refine⟨⟨z0,z1,z2,z3,z4,z5,z6⟩,I, ?_⟩
  intro z hz
  simp only[List.mem_cons,List.not_mem_nil,or_false] at hz
  rcases hz with rfl|rfl|rfl|rfl|rfl|rfl<;>assumption
theorem Sj (h:DataW.trod enc Tryz.prog w base spare held fuel 76 cs=some x):
  ∃(p:Option Addr) (cap:Nat) (l:List Sd),cs=[slv p l.length cap]∧BI w p l∧(∀s∈l,s.in64)∧l.length+1≤Rows.uptoBulk x.1:=by
 rcases open_slice Tryz.underlying76 h with⟨rfl,rfl⟩|⟨a,len,cap,m,n,D,Pl,rfl,_,hl,_,hm,rfl,hx⟩
 ·exact⟨none,0,[],rfl, .inl rfl,(fun _ hs=>by cases hs),Li _⟩
 have hlm:len≤m:=by rw[hm];split<;>omega
 obtain⟨S,hS⟩:=choose_lt (α:=Sd) (n:=len) (p:=fun i s=>w.cells? base (a.add (i*7)) 7=some s.cells∧s.in64) fun i hi=>by
  obtain⟨cs',h1,h2⟩:=hx i (by omega)
  rw[c42] at h1
  obtain⟨s,rfl,h3⟩:=Uv h2
  exact⟨s,h1,h3⟩
 refine⟨some a,cap,(List.range len).map S,by simp, ?_, ?_, ?_⟩
 ·by_cases h0:len=0
  ·subst h0;exact .inl rfl
  ·have hs:a.spot=none:=by simpa[Addr.add] using(IN (hS 0 (by omega)).1 (by decide)).1
   refine .inr ⟨a.block,a.off,by cases a;simp_all,⟨fun i s hi=> ?_⟩⟩
   simp only[List.getElem?_map,Option.map_eq_some_iff] at hi
   obtain⟨k,hk,rfl⟩:=hi
   have hk':i<len∧k=i:=by
    have:=List.getElem?_eq_some_iff.1 hk
    obtain⟨h1,h2⟩:=this
    simp at h1 h2
    exact⟨h1,h2.symm⟩
   obtain⟨h1,rfl⟩:=hk'
   have:=(IN (hS k h1).1 (by decide)).2
   rwa [Rf hs] at this
 ·intro s hs
  simp only[List.mem_map,List.mem_range] at hs
  obtain⟨i,hi,rfl⟩:=hs
  exact(hS i hi).2
 ·have h1:=Tk ((List.range len).map D)
  have h2:=LJ ((List.range len).map D) ((List.range (m-len)).map fun j=>D (len+j))
  simp only[List.length_map,List.length_range] at h1⊢
  omega
theorem QI (h:DataW.trod enc Tryz.prog w base spare held fuel 22 cs=some x):
  ∃(p:Option Addr) (cap:Nat) (rs:List (List Sd)),cs=[slv p rs.length cap]∧Bv w p rs∧(∀l∈rs, ∀s∈l,s.in64)∧tot rs+rs.length+1≤Rows.uptoBulk x.1:=by
 rcases open_slice Tryz.underlying22 h with⟨rfl,rfl⟩|⟨a,len,cap,m,n,D,Pl,rfl,_,hl,_,hm,rfl,hx⟩
 ·exact⟨none,0,[],rfl, .inl rfl,(fun _ hs=>by cases hs),Li _⟩
 have hlm:len≤m:=by rw[hm];split<;>omega
 obtain⟨L,hL⟩:=choose_lt (α:=List Sd) (n:=len) (p:=fun i l=> ∃q c,w.cells? base (a.add (i*1)) 1=some [slv q l.length c]∧BI w q l∧(∀s∈l,s.in64)∧l.length+1≤Rows.uptoBulk (D i)) fun i hi=>by
  obtain⟨cs',h1,h2⟩:=hx i (by omega)
  rw[c27] at h1
  obtain⟨q,c,l,rfl,h3,h4,h5⟩:=Sj h2
  exact⟨l,q,c,h1,h3,h4,h5⟩
 refine⟨some a,cap,(List.range len).map L,by simp, ?_, ?_, ?_⟩
 ·by_cases h0:len=0
  ·subst h0;exact .inl rfl
  ·obtain⟨q0,c0,h00,_⟩:=hL 0 (by omega)
   have hs:a.spot=none:=by simpa[Addr.add] using(IN h00 (by decide)).1
   refine .inr ⟨a.block,a.off,by cases a;simp_all,⟨fun i l hi=> ?_⟩⟩
   simp only[List.getElem?_map,Option.map_eq_some_iff] at hi
   obtain⟨k,hk,rfl⟩:=hi
   have hk':i<len∧k=i:=by
    obtain⟨h1,h2⟩:=List.getElem?_eq_some_iff.1 hk
    simp at h1 h2
    exact⟨h1,h2.symm⟩
   obtain⟨h1,rfl⟩:=hk'
   obtain⟨q,c,h2,h3,_⟩:=hL k h1
   have:=(IN h2 (by decide)).2
   rw[Rf hs] at this
   exact⟨q,c,this,h3⟩
 ·intro l hl'
  simp only[List.mem_map,List.mem_range] at hl'
  obtain⟨i,hi,rfl⟩:=hl'
  obtain⟨_,_,_,_,h3,_⟩:=hL i hi
  exact h3
 ·have h1:=T7 (fun i=>(L i).length) D (List.range len) fun i hi=>by
   obtain⟨_,_,_,_,_,h3⟩:=hL i (by simpa using hi)
   exact h3
  have h2:=LJ ((List.range len).map D) ((List.range (m-len)).map fun j=>D (len+j))
  simp only[tot,List.map_map,List.length_map,List.length_range] at h1⊢
  have h3:(List.range len).map (List.length∘L)=(List.range len).map fun i=>(L i).length:=rfl
  rw[h3]
  show _≤Rows.uptoBulk (DataW.slice _ _)
  omega
end
section
variable {H:Type} {enc:TypeId×Value→H} {w:World} {base:Nat} {spare:Nat→Bool} {held:Bool} {v:Value} {d:DataW H} {ps:List MemPlace}
theorem R9 {r:Reach} {b0:Nat} (hv:Value.okWide Tryz.prog w r b0 24 v) (h:DataW.Trod enc Tryz.prog w base spare held 24 v d ps):
  ∃(p:Option Addr) (cap:Nat) (rs:List (List Sd)),v=D8 p rs.length cap∧Bv w p rs∧(∀l∈rs, ∀s∈l,s.in64)∧tot rs+rs.length+2≤Rows.uptoBulk d:=by
 obtain⟨cs,rfl,hc⟩:=okWide_struct Tryz.underlying24 hv
 obtain⟨fuel,hf⟩:=h
 obtain⟨xs,m,rfl,hx,hl,hn,hg⟩:=DataW.trod_struct Tryz.underlying24 hf
 rw[c24] at hc
 obtain⟨y0,rfl⟩: ∃y,xs=[y]:=by
  match xs,hn with
  |[y],_=>exact⟨y,rfl⟩
 have h0:DataW.trod enc Tryz.prog w base spare held m 22 (List.take (Tryz.prog.cellsOf 22) (List.drop 0 cs.toList))=some y0:=hg 0 _ rfl
 rw[c22] at h0
 obtain⟨c0,rfl⟩: ∃c,cs= #[c]:=by
  obtain⟨l⟩:=cs
  match l,hc with
  |[c],_=>exact⟨c,rfl⟩
 obtain⟨p,cap,rs,e1,e2,e3,e4⟩:=QI h0
 simp only[Prod.mk.injEq] at hx
 obtain⟨rfl,_⟩:=hx
 refine⟨p,cap,rs, ?_,e2,e3, ?_⟩
 ·have:c0=slv p rs.length cap:=by simpa[Value.cells] using e1
  rw[this]
 ·simp only[List.map_cons,List.map_nil,Rows.uptoBulk,Rows.uptoBulkAll]
  have:y0.1=(y0:DataW H×List MemPlace).1:=rfl
  omega
end
end
section
open Go
noncomputable abbrev laidL:List (String×DataW Unit):=Rows.levelListsRow.laid
end
section
open Go Go.RowKit Go.Am Go.ChangeShapes Go.WideShapes Go.Deep Go.ChangeAt
set_option maxRecDepth 100000
section
variable {H:Type} {enc:TypeId×Value→H} {w:World} {base:Nat} {spare:Nat→Bool} {held:Bool} {v:Value} {d:DataW H} {ps:List MemPlace}
end
theorem own:ownKnob Tryz.prog.godebug=none:=by kernel_rfl
theorem Ky:laidOutB Tryz.prog=true:=by kernel_rfl
theorem HV:(laidL.all fun x=>x.2.handleName?.isNone)=true:=by kernel_rfl
theorem ON {W:World} (h:laidMetH Tryz.prog laidL W):AH W:=by
 rw[MakeChecks.laidMetH_plain _ _ _ HV] at h
 exact Lib.tabIs_of_head (g:=3) (t:=322) (e:=194) (n:=20) (by kernel_rfl) (by kernel_rfl) (by kernel_rfl) (by kernel_rfl) (by kernel_rfl) (by kernel_rfl) h.tail.tail
theorem Vm {W:World} (hS:W.ShapedOpen Tryz.prog):B9 W:=
 cell_of_shapedOpen_int (g:=4) (t:=3) (zero:= #[.int .i64 0]) hS (of_decide_eq_true (by kernel_rfl)) (by kernel_rfl) rfl (by kernel_rfl) (by kernel_rfl) Tryz.underlying3
noncomputable def witW (os:Os):World:=World.laidAll Tryz.prog os laidL
theorem T0 (os:Os) (args:Array Value):laidMetH Tryz.prog laidL ((witW os).forCall (fun _ _=>0) ⟨#[],args,[]⟩).memory:=by
 rw[MakeChecks.laidMetH_plain _ _ _ HV]
 exact laidMet_laidAll _ (by kernel_rfl) (by kernel_rfl)
theorem PT (os:Os) (args:Array Value):((witW os).forCall (fun _ _=>0) ⟨#[],args,[]⟩).Shaped Tryz.prog:=
 World.shaped_of_ZipB (by kernel_rfl) (by kernel_rfl)
theorem US {H:Type} {enc:TypeId×Value→H} (os:Os) {f:FuncId} {fn:Func} {s:OpenSpec} {conds:List PathCond} (args:Array Value)
  (hok:Input.okWideB Tryz.prog ((witW os).forCall (fun _ _=>0) ⟨#[],args,[]⟩) f ⟨#[],args,[]⟩=true)
  (hrow:s.preRow enc Tryz.prog fn conds false laidL ((witW os).forCall (fun _ _=>0) ⟨#[],args,[]⟩).memory args):
  ∃(w:World) (tape:Tape) (i:Input),w.os=os∧(w.forCall tape i).Shaped Tryz.prog∧i.vars=[]∧Input.okWide Tryz.prog (w.forCall tape i) .any w.heap.size f i∧
   s.preRow enc Tryz.prog fn conds false laidL (w.forCall tape i).memory i.args∧({}:Assume).holds Tryz.prog (lone (Frame.enter Tryz.prog f i.args .normal) [] (w.forCall tape i)):=
 ⟨witW os,fun _ _=>0,⟨#[],args,[]⟩,World.laidAll_os _ _ _,PT os args,(Input.okWide_of_okWideB (base:=0) hok).1,(Input.okWide_of_okWideB hok).2,hrow,by
  simp only[Assume.holds]
  exact⟨by simp,by simp,by simp,by simp,by simp,by simp⟩⟩
theorem Wa:Tryz.prog.cellsOf 149=2:=by kernel_rfl
theorem Wc:Tryz.prog.cellsOf 150=8:=by kernel_rfl
theorem Wt:Tryz.prog.cellsOf 4=1:=by kernel_rfl
theorem W6:Tryz.prog.cellsOf 3=1:=by kernel_rfl
section
variable {H:Type} {enc:TypeId×Value→H} {w:World} {base:Nat} {spare:Nat→Bool} {held:Bool} {fuel:Nat} {cs:List Value} {x:DataW H×List MemPlace}
theorem IH (h:DataW.trod enc Tryz.prog w base spare held fuel 149 cs=some x): ∃(b:Bool) (z:Int),cs=[.bool b, .int .i64 z]∧x.1= .agg [.lit (.bool b), .lit (.int .i64 z)]:=by
 obtain⟨xs,m,rfl,rfl,hl,hn,hg⟩:=DataW.trod_struct Tryz.underlying149 h
 rw[Wa] at hl
 match cs,hl with
 |[u,v],_=>
  match xs,hn with
  |[y0,y1],_=>
   have h0:DataW.trod enc Tryz.prog w base spare held m 4 (([u,v].drop 0).take (Tryz.prog.cellsOf 4))=some y0:=hg 0 _ rfl
   have h1:DataW.trod enc Tryz.prog w base spare held m 3 (([u,v].drop 1).take (Tryz.prog.cellsOf 3))=some y1:=hg 1 _ rfl
   rw[Wt] at h0
   rw[W6] at h1
   obtain⟨b,e0,f0⟩:=DataW.trod_bool Tryz.underlying4 h0
   obtain⟨z,e1,f1,_⟩:=DataW.trod_int Tryz.underlying3 h1
   refine⟨b,z, ?_, ?_⟩
   ·have a0:u= .bool b:=by simpa using e0
    have a1:v= .int .i64 z:=by simpa using e1
    rw[a0,a1]
   ·simp[f0,f1]
theorem RK (h:DataW.trod enc Tryz.prog w base spare held fuel 150 cs=some x) (hx:x.1= .agg [.agg [.lit (.bool false), .lit (.int .i64 1)], .agg [.lit (.bool true), .lit (.int .i64 (-1))], .agg [.lit (.bool false), .lit (.int .i64 (-1))], .agg [.lit (.bool true), .lit (.int .i64 1)]]):cs=VH:=by
 obtain⟨xs,m,rfl,rfl,hl,hn,hg⟩:=DataW.trod_array Tryz.underlying150 h
 rw[Wc] at hl
 match cs,hl with
 |[a0,a1,a2,a3,a4,a5,a6,a7],_=>
  match xs,hn with
  |[y0,y1,y2,y3],_=>
   have h0:=hg 0 (by decide)
   have h1:=hg 1 (by decide)
   have h2:=hg 2 (by decide)
   have h3:=hg 3 (by decide)
   rw[Wa] at h0 h1 h2 h3
   obtain⟨b0,z0,e0,f0⟩:=IH (x:=y0) h0
   obtain⟨b1,z1,e1,f1⟩:=IH (x:=y1) h1
   obtain⟨b2,z2,e2,f2⟩:=IH (x:=y2) h2
   obtain⟨b3,z3,e3,f3⟩:=IH (x:=y3) h3
   simp only[List.map_cons,List.map_nil,f0,f1,f2,f3,DataW.agg.injEq,List.cons.injEq,DataW.lit.injEq,Lit.bool.injEq,Lit.int.injEq,true_and,and_true] at hx
   obtain⟨⟨rfl,rfl⟩,⟨rfl,rfl⟩,⟨rfl,rfl⟩,⟨rfl,rfl⟩⟩:=hx
   simp at e0 e1 e2 e3
   obtain⟨rfl,rfl⟩:=e0
   obtain⟨rfl,rfl⟩:=e1
   obtain⟨rfl,rfl⟩:=e2
   obtain⟨rfl,rfl⟩:=e3
   rfl
end
theorem OE {W:World} (h:laidMetH Tryz.prog laidL W):LQ W:=by
 rw[MakeChecks.laidMetH_plain _ _ _ HV] at h
 obtain⟨ps,⟨g',t',cs,fuel,p,q,hg',ht',hvar,hd,_,_⟩,_⟩:=h.tail.tail.tail.tail.tail.tail
 obtain rfl := Option.some.inj ((show Tryz.prog.globalNamed "kingpost/front.directions" = some 0 by kernel_rfl).symm.trans hg')
 obtain rfl:=Option.some.inj ((show(Tryz.prog.globals[0]?).map (·.type)=some 150 by kernel_rfl).symm.trans ht')
 have e:=RK hd rfl
 have hc: ∀i u,VH[i]? =some u→W.cell? ⟨0,i,none⟩=some u:=fun i u hu=>by
  rw[World.var?_cell hg' hvar i]
  rw[←e] at hu
  simpa using hu
 refine⟨?_,fun m u hu=> ?_⟩
 ·obtain⟨c,ty,fr,h1,_⟩:=Sort.cells_of_cell? (hc 0 _ rfl)
  exact(Array.getElem?_eq_some_iff.1 h1).1
 ·rw[Nat.zero_add]
  exact hc m u hu
end
section
open Go Go.RowKit Go.Am Go.ChangeShapes Go.WideShapes Go.Deep
set_option maxRecDepth 10000
theorem W7:Tryz.prog.cellsOf 48=5:=by kernel_rfl
theorem Wv:Tryz.prog.cellsOf 4=1:=by kernel_rfl
theorem VN:Tryz.prog.cellsOf 3=1:=by kernel_rfl
theorem VV:Tryz.prog.cellsOf 25=1:=by kernel_rfl
section
variable {H:Type} {enc:TypeId×Value→H} {w:World} {base:Nat} {spare:Nat→Bool} {held:Bool} {v:Value} {d:DataW H} {ps:List MemPlace}
theorem QU {fuel:Nat} {u:Value} {x:DataW H×List MemPlace} (h:DataW.trod enc Tryz.prog w base spare held fuel 25 [u]=some x): ∃b:List UInt8,u=str b∧Rows.uptoBulk x.1=b.length+1:=by
 obtain⟨s,e,hx,_⟩:=DataW.trod_string Tryz.underlying25 h
 refine⟨s.data.toList, ?_, ?_⟩
 ·have:u= .string s:=by simpa using e
  rw[this]
 ·rw[hx];simp[Rows.uptoBulk]
theorem KS {r:Reach} {b0:Nat} (hv:Value.okWide Tryz.prog w r b0 48 v) (h:DataW.Trod enc Tryz.prog w base spare held 48 v d ps):
  ∃f:FrW,v=fwV f∧f.sp.length+f.st.length≤Rows.uptoBulk d:=by
 obtain⟨cs,rfl,hc⟩:=okWide_struct Tryz.underlying48 hv
 obtain⟨fuel,hf⟩:=h
 obtain⟨xs,m,rfl,hx,hl,hn,hg⟩:=DataW.trod_struct Tryz.underlying48 hf
 rw[W7] at hc
 obtain⟨x0,x1,x2,x3,x4,rfl⟩: ∃x0 x1 x2 x3 x4,xs=[x0,x1,x2,x3,x4]:=by
  match xs,hn with
  |[a,b,c,d,e],_=>exact⟨a,b,c,d,e,rfl⟩
 obtain⟨l⟩:=cs
 match l,hc with
 |[v0,v1,v2,v3,v4],_=>
  have h0:DataW.trod enc Tryz.prog w base spare held m 4 (List.take (Tryz.prog.cellsOf 4) [v0,v1,v2,v3,v4])=some x0:=hg 0 _ rfl
  have h1:DataW.trod enc Tryz.prog w base spare held m 3 (List.take (Tryz.prog.cellsOf 3) [v1,v2,v3,v4])=some x1:=hg 1 _ rfl
  have h2:DataW.trod enc Tryz.prog w base spare held m 3 (List.take (Tryz.prog.cellsOf 3) [v2,v3,v4])=some x2:=hg 2 _ rfl
  have h3:DataW.trod enc Tryz.prog w base spare held m 25 (List.take (Tryz.prog.cellsOf 25) [v3,v4])=some x3:=hg 3 _ rfl
  have h4:DataW.trod enc Tryz.prog w base spare held m 25 (List.take (Tryz.prog.cellsOf 25) [v4])=some x4:=hg 4 _ rfl
  rw[Wv] at h0
  rw[VN] at h1 h2
  rw[VV] at h3 h4
  obtain⟨a,e0,_⟩:=DataW.trod_bool Tryz.underlying4 h0
  obtain⟨b,e1,_⟩:=DataW.trod_int Tryz.underlying3 h1
  obtain⟨c,e2,_⟩:=DataW.trod_int Tryz.underlying3 h2
  obtain⟨s,rfl,k3⟩:=QU h3
  obtain⟨t,rfl,k4⟩:=QU h4
  have e0:v0= .bool a:=by simpa using e0
  have e1:v1= .int .i64 b:=by simpa using e1
  have e2:v2= .int .i64 c:=by simpa using e2
  subst e0 e1 e2
  refine⟨⟨a,b,c,s,t⟩,I, ?_⟩
  have hd:d= .agg [x0.1,x1.1,x2.1,x3.1,x4.1]:=(congrArg (·.1) hx)
  rw[hd]
  simp only[Rows.uptoBulk,Rows.uptoBulkAll,k3,k4]
  omega
end
end
end Go.Proofs.YtmblgcglonikiaaGreatDoor
