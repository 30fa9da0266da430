/-
  Lemmas that the theorem openingDisjoint_upto_card needs (part 6 of 8).
-/
import Derived.Test.YtndkgionklmdfaaGreatDoorOje
set_option maxHeartbeats 64000000
namespace Go.Proofs.YtndkgionklmdfaaGreatDoor
section
open Go Go.RowKit Go.Am Go.Lib
set_option maxRecDepth 10000
-- BOXES 4
-- CODE2
theorem Oa (r:Nat):lv br [r]=r:=by show r+br*0=r;rw[Nat.mul_zero,Nat.add_zero]
theorem OG (W:World) (p:Option Addr) (cap a dv:Nat) (hA:A4 W p (lbs br a)) (hna:(lbs br a).length≤1000000) (hd0:0<dv) (hd1:dv<br):
  Ad Tryz.prog 291 #[slv p (lbs br a).length cap, .int .i64 (dv:Nat)] W (fun x:NV×NV=> .tuple #[B2 x.1 (lbs br (a/dv)).length,B2 x.2 (lbs br (a%dv)).length]) (fun x=>BW x.1 (lbs br (a/dv))∧BW x.2 (lbs br (a%dv))) (fun x=>[B3 x.1 (lbs br (a/dv)),B3 x.2 (lbs br (a%dv))]):=by
 obtain⟨K,hK⟩: ∃K,(lbs br a).length=K:=⟨_,rfl⟩
 have hd1':dv<1000000:=hd1
 have hal:=AF br2 a
 rw[hK] at hna hal
 refine Ab (args:=[slv p (lbs br a).length cap, .int .i64 (dv:Nat)]) Tryz.func291 I I I ?_
 rw[hK]
 refine zA (zB (wP I (wP I (Aa (zE (zA (zB (wP I (wP I ?_)))))))))
 refine Cg Tryz.vec162 K I I I I I I I (by simp only[maxLen];omega) (by omega) ?_
 intro g
 have ez:BA (Value.cells (.int .i64 0)).toList K=nI (List.replicate K 0)++[]:=by rw[List.append_nil];exact Fh K
 rw[ez]
 refine wP I (Aa (zE (zA (zB (wP I (Aa (zE (zA (zA (zB (wP I (wP I (wP I ?_)))))))))))))
 refine wV 14 ((K:Int)-1) I (Ap (by omega) (by omega)) (wP I (Aa (zE (zH ?_))))
 refine Aw (X:=Nat×List Nat×Nat×Nat) (fun x=>[(0,slv p K cap),(1, .int .i64 (dv:Nat)),(6,slv (some ⟨g,0,none⟩) K K),(7, .int .i64 (x.2.2.2:Nat)),(8, .int .i64 ((x.1:Nat)-1:Int))]) (fun x=>[⟨g,3,nI x.2.1++[],true,none⟩])
  (fun x=>x.1≤K∧x.2.1.length=K∧(∀y∈x.2.1,y<br)∧lv br x.2.1=br^x.1*x.2.2.1∧a/br^x.1=x.2.2.1*dv+x.2.2.2∧x.2.2.2<dv) (fun x=>x.1) (K,List.replicate K 0,0,0) ⟨Nat.le_refl _,List.length_replicate,GW (by decide) K,by rw[Ez];show 0=br^K*0;rw[Nat.mul_zero],by show a/br^K=0*dv+0;rw[Nat.div_eq_of_lt hal];omega,hd0⟩ ⟨rfl,rfl,rfl,rfl,rfl,trivial⟩ [] rfl ?_
 rintro⟨k,l,qh,rs⟩ ⟨hk,hl,hlb,hlv,hq,hr⟩
 have hk:k≤K:=hk
 have hl:l.length=K:=hl
 have hlv:lv br l=br^k*qh:=hlv
 have hq:a/br^k=qh*dv+rs:=hq
 have hr:rs<dv:=hr
 refine zA (zA (zB (wP I (wP I ?_))))
 cases k with
 |zero=>
  have hq:a=qh*dv+rs:=by simpa using hq
  have hlv:lv br l=qh:=by rw[hlv];simp
  have eq1:a/dv=qh:=by rw[hq,Nat.mul_comm,Nat.mul_add_div hd0,Nat.div_eq_of_lt hr,Nat.add_zero]
  have eq2:a%dv=rs:=by rw[hq,Nat.mul_comm,Nat.mul_add_mod,Nat.mod_eq_of_lt hr]
  refine wU 16 false I (dF (by show¬(((0:Nat):Int)-1≥0);omega)) (Aa (zE (zS I (zJ (zK (zK (zL (zE (zA (zB ?_))))))))))
  have hV0:(⟨some g,K,[]⟩:Vec).OK 1 l.length (nI l):=⟨En _,(fun h=>by cases h),fun _=>⟨by show _≤K;omega,by show K≤maxLen;simp only[maxLen];omega,by show(nI l).length+0=K*1;rw[Bv];omega⟩⟩
  obtain⟨j1,hV1,he1⟩:=DD hV0 hlb
  have hrb: ∀x∈[rs],x<br:=fun x hx=>by obtain rfl:=List.mem_singleton.1 hx;show x<1000000;omega
  refine wP I ?_
  refine Ao 35 (slv (some ⟨g,0,none⟩) l.length K) I (by rw[hl]) ?_
  refine wC I I (fun W hp=>Cz W _ K _ (A4.of_bx hp 0 I) hlb (by omega) (by omega)) (wP I ?_)
  refine At Tryz.hZ tH I I I I I I I I I I I fun bN=> ?_
  have hV2:(⟨some bN,1,[]⟩:Vec).OK 1 [rs].length (nI [rs]):=⟨rfl,(fun h=>by cases h),fun _=>⟨Nat.le_refl _,(by show 1≤maxLen;decide),rfl⟩⟩
  obtain⟨j2,hV3,he2⟩:=DD hV2 hrb
  refine wC I I (fun W hp=>Cz W (some ⟨bN,0,none⟩) 1 [rs] (A4.of_bx (junk:=[]) hp 1 I) hrb (by show 1≤1;omega) (by show 1<_;decide)) (wP I (wP I (Aa (zE (zO ?_)))))
  rw[hlv, ←eq1] at hV1 he1
  rw[Oa, ←eq2] at hV3 he2
  exact A9 tH I (.tmp I) (.tmp I) (((g,K,j1):NV),((bN,1,j2):NV)) (by rw[hlv, ←eq1,Oa, ←eq2]) ⟨hV1,hV3⟩ fun W hp=>As.of_hp (hp.pick (l:=[B3 (g,K,j1) (lbs br (a/dv)),B3 (bN,1,j2) (lbs br (a%dv))]) [0,1] (by decide) (by
   show some [(⟨g,3,nI l++[],true,none⟩:Bx),⟨bN,3,nI [rs]++[],true,none⟩]=some [⟨g,3,nI (lbs br (a/dv))++j1,true,none⟩,⟨bN,3,nI (lbs br (a%dv))++j2,true,none⟩]
   rw[he1, ←eq2,he2]))
 |succ k=>
  have hq:a/br^(k+1)=qh*dv+rs:=hq
  have hi:k<l.length:=by rw[hl];omega
  obtain⟨b1,o1,rfl,r1⟩:=hA.row (show k<(lbs br a).length by omega)
  have r1:=r1 k (by omega)
  obtain⟨v,hv⟩: ∃v,lim (lbs br a) k=v:=⟨_,rfl⟩
  rw[hv] at r1
  have hvb:v<br:=by rw[←hv];exact AW br2 (Bf br2 a) _
  have hvb':v<1000000:=hvb
  have hve:v=a/br^k%br:=by rw[←hv];exact AZ br2 a _
  obtain⟨n,hn⟩: ∃n,n=v+rs*br:=⟨_,rfl⟩
  have hn':n=v+rs*1000000:=hn
  have hn63:n<1000000000000:=by omega
  have hnq:=Pu (B:=br) (d:=dv) hvb hr hn
  have hnq':n/dv<1000000:=hnq
  have hs:=Ix (B:=br) (d:=dv) (q:=qh) (r:=rs) (i:=k) hq (n:=n) (by rw[hn,hve])
  have hzero:l[k]? =some 0:=by
   rw[Df hi,Ch br2 _ hlb,hlv,Nat.pow_succ,Nat.mul_assoc,Nat.mul_div_cancel_left _ (Nat.pow_pos (by decide)),Nat.mul_mod_right]
  have hset:=Hd (B:=br) (n/dv) hzero
  rw[Nat.mul_zero,Nat.add_zero,hlv,Nat.pow_succ,Nat.mul_assoc, ←Nat.mul_add] at hset
  have hrm:n%dv<dv:=Nat.mod_lt _ hd0
  refine wU 16 true I (dT (by show(((k+1:Nat):Int)-1≥0);omega)) (Aa (zE (zR I (zI (zE (zA (zH (zA (zB (wP I (wP I (wP I (wP I ?_)))))))))))))
  refine wV 22 (k:Nat) I (by show((k+1:Nat):Int)-1=_;omega) ?_
  refine wJ ?_
  refine wL 0 I I (fun W hp=>r1.hp hp) I (wP I (wV 25 (n:Nat) I (by show w64 (w64 ((rs:Int)*((1000000:Nat):Int))+v)=_;rw[BV (by omega),AO (by omega),hn',Nat.add_comm]) (wP I (Aa (zE (zA (zB (wP I (wP I (wV 27 (k:Nat) I (by show((k+1:Nat):Int)-1=_;omega) (wP I (wP I ?_))))))))))))
  refine EV I I I I I (by omega) ?_
  refine wV 30 ((n/dv:Nat):Int) I (BB (by omega)) ?_
  refine wJ ?_
  refine AE 0 (nI (l.set k (n/dv))++[]) tH I I I I I I I I I I (by show 0+k*1+1≤(nI l++[]).length;rw[List.append_nil,Bv];omega) (Cb hi (n/dv)) ?_
  refine Aa (zE (zB (wP I (wP I ?_))))
  refine Gq I I I I I (by omega) ?_
  refine Ao 34 (.int .i64 ((n%dv:Nat):Int)) I I ?_
  exact wP I (Aa (zN (zE (zB (wP I (wV 17 (k:Nat) I (by show((k+1:Nat):Int)-1=_;omega) (wP I (wV 18 ((k:Nat)-1:Int) I (Ap (by omega) (by omega)) (wP I (Aa (Al (k,l.set k (n/dv),qh*br+n/dv,n%dv) ⟨by show k≤K;omega,by rw[List.length_set];exact hl,C5 hlb hnq,by show lv br (l.set k (n/dv))=br^k*(qh*br+n/dv);rw[hset,Nat.mul_comm qh],by show a/br^k=_;exact hs,hrm⟩ (by show k<k+1;omega) ⟨I,I,I,I,I,tO⟩ [] I)))))))))))
-- BOXES 4
-- CODE2
theorem Yy {W m:Nat} (h:W<br^(m+3)):((W/br^(m+2)%br)*br+W/br^(m+1)%br)*br+W/br^m%br=W/br^m:=by
 have h1:W/br^(m+1)=W/br^m/br:=by rw[Nat.pow_succ,Nat.div_div_eq_div_mul]
 have h2:W/br^(m+2)=W/br^m/br/br:=by rw[Nat.pow_succ, ←Nat.div_div_eq_div_mul,h1]
 have h3:W/br^m<br*br*br:=by
  apply Nat.div_lt_of_lt_mul
  have:br^(m+3)=br^m*(br*br*br):=by rw[Nat.pow_succ,Nat.pow_succ,Nat.pow_succ];simp[Nat.mul_assoc]
  rw[←this];exact h
 rw[h2,h1]
 generalize W/br^m=x at h3⊢
 have h3:x<1000000*1000000*1000000:=h3
 show((x/1000000/1000000%1000000)*1000000+x/1000000%1000000)*1000000+x%1000000=x
 omega
theorem Yt {b m:Nat} (h:b<br^(m+2)):(b/br^(m+1)%br)*br+b/br^m%br=b/br^m:=by
 have h1:b/br^(m+1)=b/br^m/br:=by rw[Nat.pow_succ,Nat.div_div_eq_div_mul]
 have h3:b/br^m<br*br:=by
  apply Nat.div_lt_of_lt_mul
  have:br^(m+2)=br^m*(br*br):=by rw[Nat.pow_succ,Nat.pow_succ];simp[Nat.mul_assoc]
  rw[←this];exact h
 rw[h1]
 generalize b/br^m=x at h3⊢
 have h3:x<1000000*1000000:=h3
 show(x/1000000%1000000)*1000000+x%1000000=x
 omega
theorem XC {W b m g:Nat} (hg:g=W/m/(b/m+1)) (hm:0<m):g*b≤W:=by
 have h1:b<(b/m+1)*m:=Nat.lt_mul_of_div_lt (Nat.lt_succ_self _) hm
 have h2:g*(b/m+1)≤W/m:=by rw[hg];exact Nat.div_mul_le_self ..
 have h3:g*(b/m+1)*m≤W/m*m:=Nat.mul_le_mul_right _ h2
 have h4:W/m*m≤W:=Nat.div_mul_le_self ..
 have h5:g*b≤g*((b/m+1)*m):=Nat.mul_le_mul_left _ (by omega)
 rw[←Nat.mul_assoc] at h5
 omega
theorem Vw {x r:Nat} (_hx:x<br):lv br (x::lbs br r)=r*br+x:=by
 show x+br*lv br (lbs br r)=_
 rw[JL br2,Nat.mul_comm,Nat.add_comm]
theorem No {w b g r:Nat} (h:w=g*b+r) (hr:r<b):w/b=g∧w%b=r:=by
 have hb:0<b:=by omega
 subst h
 rw[Nat.mul_comm]
 exact⟨by rw[Nat.mul_add_div hb,Nat.div_eq_of_lt hr,Nat.add_zero],by rw[Nat.mul_add_mod,Nat.mod_eq_of_lt hr]⟩
theorem M1 (W:World) (p q:Option Addr) (cap cap2:Nat) (a b:Nat) (hb0:0<b) (hA:A4 W p (lbs br a)) (hB:A4 W q (lbs br b)) (hna:(lbs br a).length≤1000) (hnb:(lbs br b).length≤1000):
  Ad Tryz.prog 239 #[slv p (lbs br a).length cap,slv q (lbs br b).length cap2] W (fun x:NV×NV=> .tuple #[B2 x.1 (lbs br (a/b)).length,B2 x.2 (lbs br (a%b)).length]) (fun x=>BW x.1 (lbs br (a/b))∧BW x.2 (lbs br (a%b))) (fun x=>[B3 x.1 (lbs br (a/b)),B3 x.2 (lbs br (a%b))]):=by
 have hla:=Bf br2 a
 have hlb:=Bf br2 b
 have hal:=AF br2 a
 have hbl:=AF br2 b
 obtain⟨K,hK⟩: ∃n,(lbs br a).length=n:=⟨_,rfl⟩
 obtain⟨n,hn⟩: ∃n,(lbs br b).length=n:=⟨_,rfl⟩
 have hn0:n≠0:=fun e=>by
  have:=(Dp br2).1 (List.length_eq_zero_iff.1 (hn.trans e));omega
 rw[hK] at hna hal
 rw[hn] at hnb hbl
 refine Ab (args:=[slv p (lbs br a).length cap,slv q (lbs br b).length cap2]) Tryz.func239 I I I ?_
 rw[hK,hn]
 refine zA (zB (wP I (wP I (Aa (zE (zA (zA (zB (wP I (wP I (wP I ?_)))))))))))
 by_cases hn1:n=1
 ·subst hn1
  obtain⟨b1,o1,rfl,r1⟩:=hB.row (show 0<(lbs br b).length by omega)
  have r1:=r1 0 (by omega)
  obtain⟨v,hv⟩: ∃v,lim (lbs br b) 0=v:=⟨_,rfl⟩
  rw[hv] at r1
  have hvb:v<br:=by rw[←hv];exact AW br2 hlb _
  rw[AZ br2,Nat.pow_zero,Nat.div_one,Nat.mod_eq_of_lt (by rw[Nat.pow_one] at hbl;exact hbl)] at hv
  subst hv
  refine wU 14 true I (by simp) (Aa (zE (zR I (zA (zB (wP I (wP I ?_)))))))
  refine wJ ?_
  refine wL 0 I I (fun W hp=>r1.hp hp) I ?_
  refine wD (X:=NV×NV) I I (fun W' hp=>by have h:=OG W' p cap a b (hA.hp hp) (by omega) hb0 hvb;rw[hK] at h;exact h) ?_
  rintro⟨x,y⟩ ⟨h1,h2⟩
  exact wP I (wP I (wP I (wP I (Aa (zE (zO (zP (A9 tH I (.tmp I) (.tmp I) (x,y) I ⟨h1,h2⟩ fun W hp=>As.of_hp hp))))))))
 obtain⟨m,rfl⟩: ∃m,n=m+2:=⟨n-2,by omega⟩
 refine wU 14 false I (by rw[beq_eq_false_iff_ne];omega) (Aa ?_)
 obtain⟨bq,oq,rfl,rq⟩:=hB.row (show 0<(lbs br b).length by omega)
 obtain⟨u1,hu1⟩: ∃v,lim (lbs br b) (m+1)=v:=⟨_,rfl⟩
 obtain⟨u0,hu0⟩: ∃v,lim (lbs br b) m=v:=⟨_,rfl⟩
 have rq1:=rq (m+1) (by omega)
 have rq0:=rq m (by omega)
 rw[hu1] at rq1
 rw[hu0] at rq0
 have hu1b:u1<1000000:=by rw[←hu1];exact AW br2 hlb _
 have hu0b:u0<1000000:=by rw[←hu0];exact AW br2 hlb _
 rw[AZ br2] at hu1 hu0
 have ht2:=Yt hbl
 rw[hu1,hu0] at ht2
 have ht2:u1*1000000+u0=b/br^m:=ht2
 obtain⟨tp,htp⟩: ∃tp,tp=b/br^m:=⟨_,rfl⟩
 have hpm:0<br^m:=Nat.pow_pos (by decide)
 refine zE (zS I (zI (zE (zA (zB (wP I (wP I (wP I (Aa (zE (zA (zU (qP I (qP I (qP I ?_)))))))))))))))
 refine qV 26 ((m+1:Nat):Int) I (by show w64 (((m+2:Nat):Int)-1)=_;rw[Ap (by omega) (by omega)];omega) ?_
 refine qJ ?_
 refine qL 0 I I (fun W hp=>rq1.hp hp) I (qP I (qP I (qP I (qP I (qV 32 (m:Nat) I (by show w64 (((m+2:Nat):Int)-2)=_;rw[Ap (by omega) (by omega)];omega) ?_)))))
 refine qJ ?_
 refine qL 0 I I (fun W hp=>rq0.hp hp) I (qP I (qV 35 (tp:Nat) I (by show w64 (w64 ((u1:Int)*((1000000:Nat):Int))+u0)=_;rw[BV (by omega),AO (by omega),htp,ht2]) (qP I (AB (Aa (zE (zA (zB (wP I (wP I ?_))))))))))
 refine Cg Tryz.vec162 K I I I I I I I (by simp only[maxLen];omega) (by omega) ?_
 intro g
 have ez:BA (Value.cells (.int .i64 0)).toList K=nI (List.replicate K 0)++[]:=by rw[List.append_nil];exact Fh K
 rw[ez]
 refine wP I (Aa (zE (zA (zB ?_))))
 refine Em tH I I I I I ?_
 intro gr
 refine wP I (Aa (zE (zA (zA (zB (wP I (wP I (wP I (wV 42 ((K:Int)-1) I (Ap (by omega) (by omega)) (wP I (Aa (zE (zH ?_)))))))))))))
 have e0:lbs br 0=[]:=AX
 refine Aw (X:=Nat×List Nat×Nat×Nat×NV) (fun x=>[(0,slv p K cap),(1,slv (some ⟨bq,oq,none⟩) (m+2) cap2),(6, .int .i64 ((m+2:Nat):Int)),(7, .int .i64 (tp:Nat)),(8,slv (some ⟨g,0,none⟩) K K),(9,B2 x.2.2.2.2 (lbs br x.2.2.2.1).length),(10, .int .i64 ((x.1:Nat)-1:Int))]) (fun x=>[⟨g,3,nI x.2.1++[],true,none⟩,B3 x.2.2.2.2 (lbs br x.2.2.2.1)])
  (fun x=>(x.1≤K∧x.2.1.length=K∧(∀y∈x.2.1,y<br)∧lv br x.2.1=br^x.1*x.2.2.1∧a/br^x.1=x.2.2.1*b+x.2.2.2.1∧x.2.2.2.1<b)∧BW x.2.2.2.2 (lbs br x.2.2.2.1)) (fun x=>x.1) (K,List.replicate K 0,0,0,(gr,0,[])) ⟨⟨Nat.le_refl _,List.length_replicate,GW (by decide) K,by rw[Ez];show 0=br^K*0;rw[Nat.mul_zero],by show a/br^K=0*b+0;rw[Nat.div_eq_of_lt hal];omega,hb0⟩,by show BW _ (lbs br 0);rw[e0];exact⟨rfl,(fun h=>by cases h),fun _=>⟨Nat.le_refl _,Nat.zero_le _,rfl⟩⟩⟩ ⟨rfl,rfl,rfl,rfl,rfl,by show _=some (slv _ (lbs br 0).length 0);rw[e0];rfl,rfl,trivial⟩ [] (by show _=[_,B3 _ (lbs br 0)]++[];rw[e0];rfl) ?_
 rintro⟨k,l,qh,rs,x⟩ ⟨⟨hk,hl,hllt,hlv,hq,hr⟩,hx⟩
 have hk:k≤K:=hk
 have hl:l.length=K:=hl
 have hlv:lv br l=br^k*qh:=hlv
 have hq:a/br^k=qh*b+rs:=hq
 have hr:rs<b:=hr
 have hx:BW x (lbs br rs):=hx
 refine zA (zA (zB (wP I (wP I ?_))))
 cases k with
 |zero=>
  have hq:a=qh*b+rs:=by simpa using hq
  have hlv:lv br l=qh:=by rw[hlv];simp
  obtain⟨eq1,eq2⟩:=No hq hr
  refine wU 44 false I (dF (by show¬(((0:Nat):Int)-1≥0);omega)) (Aa (zE (zS I (zJ (zK (zK (zL (zE (zA (zB ?_))))))))))
  have hV0:(⟨some g,K,[]⟩:Vec).OK 1 l.length (nI l):=⟨En _,(fun h=>by cases h),fun _=>⟨by show _≤K;omega,by show K≤maxLen;simp only[maxLen];omega,by show(nI l).length+0=K*1;rw[Bv];omega⟩⟩
  obtain⟨j1,hV1,he1⟩:=DD hV0 hllt
  refine wP I ?_
  refine Ao 92 (slv (some ⟨g,0,none⟩) l.length K) I (by rw[hl]) ?_
  refine wC I I (fun W hp=>Cz W _ K _ (A4.of_bx hp 0 I) hllt (by omega) (by omega)) (wP I (wP I (wP I (Aa (zE (zO ?_))))))
  rw[hlv, ←eq1] at hV1 he1
  rw[←eq2] at hx
  exact A9 tH I (.tmp I) (.tmp I) (((g,K,j1):NV),x) (by rw[hlv, ←eq1, ←eq2]) ⟨hV1,hx⟩ fun W hp=>As.of_hp (hp.pick (l:=[B3 (g,K,j1) (lbs br (a/b)),B3 x (lbs br (a%b))]) [0,1] (by decide) (by
   show some [(⟨g,3,nI l++[],true,none⟩:Bx),B3 x (lbs br rs)]=some [⟨g,3,nI (lbs br (a/b))++j1,true,none⟩,B3 x (lbs br (a%b))]
   rw[he1,eq2]))
 |succ k=>
  have hq:a/br^(k+1)=qh*b+rs:=hq
  have hi:k<l.length:=by rw[hl];omega
  obtain⟨b1,o1,rfl,r1⟩:=hA.row (show k<(lbs br a).length by omega)
  have r1:=r1 k (by omega)
  obtain⟨v,hv⟩: ∃v,lim (lbs br a) k=v:=⟨_,rfl⟩
  rw[hv] at r1
  have hvb:v<br:=by rw[←hv];exact AW br2 hla _
  have hvb':v<1000000:=hvb
  have hve:v=a/br^k%br:=by rw[←hv];exact AZ br2 a _
  obtain⟨w,hw⟩: ∃w,w=v+rs*br:=⟨_,rfl⟩
  have hlw:lv br (v::lbs br rs)=w:=by rw[Vw hvb,hw,Nat.add_comm]
  have hrsb:=hr
  have hwlt:w<br*b:=by
   have:(rs+1)*br≤b*br:=Nat.mul_le_mul_right _ hr
   rw[Nat.add_mul,Nat.one_mul] at this
   rw[hw,Nat.mul_comm br b];omega
  have hwlt3:w<br^(m+3):=by
   have h1:br*b<br*br^(m+2):=Nat.mul_lt_mul_of_pos_left hbl (by decide)
   rw[show br^(m+3)=br*br^(m+2) by rw[Nat.pow_succ,Nat.mul_comm]];omega
  have hwb:w/b<br:=Nat.div_lt_of_lt_mul (by rw[Nat.mul_comm];exact hwlt)
  have hs:=Ix (B:=br) (d:=b) (q:=qh) (r:=rs) (i:=k) hq (n:=w) (by rw[hw,hve])
  have hzero:l[k]? =some 0:=by
   rw[Df hi,Ch br2 _ hllt,hlv,Nat.pow_succ,Nat.mul_assoc,Nat.mul_div_cancel_left _ (Nat.pow_pos (by decide)),Nat.mul_mod_right]
  have hset:=Hd (B:=br) (w/b) hzero
  rw[Nat.mul_zero,Nat.add_zero,hlv,Nat.pow_succ,Nat.mul_assoc, ←Nat.mul_add] at hset
  have hrl:(lbs br rs).length≤m+2:=(B9 br2).2 (by omega)
  have hwl:(lbs br w).length≤m+3:=(B9 br2).2 hwlt3
  refine wU 44 true I (dT (by show(((k+1:Nat):Int)-1≥0);omega)) (Aa (zE (zR I (zI (zE (zA (zH (zA (zB (wP I (wP I (wV 48 (k:Nat) I (by show((k+1:Nat):Int)-1=_;omega) ?_))))))))))))
  refine wJ ?_
  refine wL 0 I I (fun W hp=>r1.hp hp) I ?_
  refine At Tryz.hZ tH I I I I I I I I I I I fun bN=> ?_
  refine wP I ?_
  refine ER (len:=1) (V:=⟨some bN,1,[]⟩) (xs:=nI [v]) (news:=nI (lbs br rs)) 2 Tryz.vec162 rfl rfl rfl rfl rfl rfl rfl rfl rfl ⟨rfl,(fun h=>by cases h),fun _=>⟨Nat.le_refl _,(by show 1≤maxLen;decide),rfl⟩⟩ (En _) (fun W' hp j u hj=> ?_) (fun u hu=> ?_) (by dsimp only;simp only[maxLen];omega) (by dsimp only;omega) ?_
  ·have hrow:=Ai.of_bx hp 1 rfl rfl
   have:=hrow.get j u (by show(nI (lbs br rs)++x.2.2)[j]? =_;rw[List.getElem?_append_left (List.getElem?_eq_some_iff.1 hj).1];exact hj)
   rw[Addr.add_none]
   exact this
  ·obtain⟨z,_,rfl⟩:=List.mem_map.1 hu;rfl
  intro V' hV' hV0
  obtain⟨pv,cv,jv⟩:=V'
  cases pv with
  |none=>have:=hV'.nil rfl;omega
  |some gv=>
  have ecat:nI [v]++nI (lbs br rs)=nI (v::lbs br rs):=rfl
  rw[ecat] at hV'⊢
  have hV':(⟨some gv,cv,jv⟩:Vec).OK 1 (v::lbs br rs).length (nI (v::lbs br rs)):=by rw[List.length_cons,Nat.add_comm];exact hV'
  have hclt: ∀y∈v::lbs br rs,y<br:=fun y hy=>by
   rcases List.mem_cons.1 hy with rfl|hy
   ·exact hvb
   ·exact Bf br2 rs y hy
  obtain⟨jw,hVw,hew⟩:=DD hV' hclt
  rw[hlw] at hVw hew
  refine Ao 53 (slv (some ⟨gv,0,none⟩) (v::lbs br rs).length cv) I (by show slv _ (1+_) _=_;rw[List.length_cons,Nat.add_comm]) ?_
  refine wC I I (fun W hp=>(Cz W (some ⟨gv,0,none⟩) cv _ (A4.of_bx hp 2 I) hclt (by have:=(hV'.cap (by simp)).1;exact this) (by rw[List.length_cons];omega)).cast (v':=slv (some ⟨gv,0,none⟩) (lbs br w).length cv) (by rw[hlw])) (wP I (Aa ?_))
  obtain⟨l2,hl2⟩: ∃v,lim (lbs br w) (m+2)=v:=⟨_,rfl⟩
  obtain⟨l1,hl1⟩: ∃v,lim (lbs br w) (m+1)=v:=⟨_,rfl⟩
  obtain⟨l0,hl0⟩: ∃v,lim (lbs br w) m=v:=⟨_,rfl⟩
  have hl2b:l2<1000000:=by rw[←hl2];exact AW br2 (Bf br2 w) _
  have hl1b:l1<1000000:=by rw[←hl1];exact AW br2 (Bf br2 w) _
  have hl0b:l0<1000000:=by rw[←hl0];exact AW br2 (Bf br2 w) _
  have ht3:=Yy hwlt3
  rw[←AZ br2, ←AZ br2, ←AZ br2,hl2,hl1,hl0] at ht3
  have ht3:(l2*1000000+l1)*1000000+l0=w/br^m:=ht3
  obtain⟨e,he⟩: ∃e,e=w/br^m/(b/br^m+1):=⟨_,rfl⟩
  have hest:=XC he hpm
  have heb:e≤w/b:=(Nat.le_div_iff_mul_le hb0).2 hest
  have hebr:e<1000000:=Nat.lt_of_le_of_lt heb hwb
  have htpb:tp<1000000000000:=by rw[htp, ←ht2];omega
  have hlW: ∀ {W1:World} {bxs:List Bx},Hp W bxs W1→nth bxs 2=some (⟨gv,3,nI (v::lbs br rs)++jv,true,none⟩:Bx)→A4 W1 (some ⟨gv,0,none⟩) (lbs br w):=fun hp h2=>by rw[hew] at h2;exact A4.of_bx hp 2 h2
  refine zE (zA (zB (wP I (wP I (wC I I (fun W' hp=>CP W' (some ⟨gv,0,none⟩) cv _ (lbs br w) (m+2) l2 (hlW hp I) I (by omega) hl2) (wP I (wP I (wP I (wP I (wV 61 ((m+1:Nat):Int) I (by show w64 (((m+2:Nat):Int)-1)=_;rw[Ap (by omega) (by omega)];omega) (wC I I (fun W' hp=>CP W' (some ⟨gv,0,none⟩) cv _ (lbs br w) (m+1) l1 (hlW hp I) I (by omega) hl1) ?_)))))))))))
  iterate 5 refine wP I ?_
  refine wV 67 (m:Nat) I (by show w64 (((m+2:Nat):Int)-2)=_;rw[Ap (by omega) (by omega)];omega) (wC I I (fun W' hp=>CP W' (some ⟨gv,0,none⟩) cv _ (lbs br w) m l0 (hlW hp I) I (by omega) hl0) (wP I (wV 69 ((w/br^m:Nat):Int) I (by show w64 (w64 (w64 (w64 ((l2:Int)*((1000000:Nat):Int))+l1)*((1000000:Nat):Int))+l0)=_;rw[BV (by omega),AO (by omega),BV (by omega),AO (by omega),ht3]) (wP I (wP I (wV 71 ((tp+1:Nat):Int) I (Ax (by omega)) ?_))))))
  refine EV I I I I I (by omega) ?_
  refine wV 72 (e:Nat) I (by rw[he, ←htp];exact BB (by rw[←htp] at he;rw[←he];omega)) (wP I (Aa (zE (zA (zB (wP I (wP I (wP I ?_))))))))
  refine At Tryz.hZ tH I I I I I I I I I I I fun bE=> ?_
  refine wD (X:=NV) I I (fun W' hp=>by
   have h:=HU W' (some ⟨bq,oq,none⟩) (some ⟨bE,0,none⟩) cap2 1 b [e] (fun y hy=>by obtain rfl:=List.mem_singleton.1 hy;exact hebr) (hB.hp hp) (A4.of_bx (junk:=[]) hp 3 rfl) (by omega) (by show 1≤1000000;decide)
   rw[hn,Oa] at h
   exact h) ?_
  intro xt hxt
  refine wD (X:=NV) I I (fun W' hp=>EI W' (some ⟨gv,0,none⟩) (some ⟨xt.1,0,none⟩) cv xt.2.1 w (b*e) (by rw[Nat.mul_comm];exact hest) (hlW hp I) (A4.of_bx hp 4 I) (by omega)) ?_
  intro x1 hx1
  refine wP I (Aa (A8 ?_))
  try refine Az ?_
  refine AC (X:=NV) (fun x2=>[(0,slv (some ⟨b1,o1,none⟩) K cap),(1,slv (some ⟨bq,oq,none⟩) (m+2) cap2),(6, .int .i64 ((m+2:Nat):Int)),(7, .int .i64 (tp:Nat)),(8,slv (some ⟨g,0,none⟩) K K),(9,B2 x2 (lbs br (w%b)).length),(10, .int .i64 (k:Nat)),(11, .int .i64 ((w/b:Nat):Int))]) (fun x2=>[⟨g,3,nI l++[],true,none⟩,B3 x2 (lbs br (w%b))]) (fun x2=>BW x2 (lbs br (w%b))) ?_ ?_
  ·refine zH ?_
   refine C7 (X:=Nat×Nat×NV) (fun y=>[(0,slv (some ⟨b1,o1,none⟩) K cap),(1,slv (some ⟨bq,oq,none⟩) (m+2) cap2),(6, .int .i64 ((m+2:Nat):Int)),(7, .int .i64 (tp:Nat)),(8,slv (some ⟨g,0,none⟩) K K),(9,B2 y.2.2 (lbs br y.2.1).length),(10, .int .i64 (k:Nat)),(11, .int .i64 (y.1:Nat))]) (fun y=>Hp W [⟨g,3,nI l++[],true,none⟩,B3 y.2.2 (lbs br y.2.1)]) (fun y=>w=y.1*b+y.2.1∧BW y.2.2 (lbs br y.2.1)) (fun y=>y.2.1) (e,w-b*e,x1) ⟨by show w=e*b+(w-b*e);rw[Nat.mul_comm b e];omega,hx1⟩ ⟨I,I,I,I,I,I,congrArg (fun z=>some (Value.int .i64 z)) (by show((k+1:Nat):Int)-1=(k:Nat);omega),I,tO⟩ (fun W hp=>hp.pick [0,5] (by decide) I) ?_
   rintro⟨e1,w1,x2⟩ ⟨hw1,hx2⟩
   have hw1:w=e1*b+w1:=hw1
   have hx2:BW x2 (lbs br w1):=hx2
   have hw1l:(lbs br w1).length≤m+3:=(B9 br2).2 (by omega)
   refine zA (zA (zB (wP I (wP I ?_))))
   refine wC I I (fun W' hp=>by
    have h:=Kn W' (some ⟨x2.1,0,none⟩) (some ⟨bq,oq,none⟩) x2.2.1 cap2 w1 b (A4.of_bx hp 1 rfl) (hB.hp hp) (by omega) (by omega)
    rw[hn] at h
    exact h) ?_
   refine wP I ?_
   by_cases hge:b≤w1
   ·have hc:0≤Lu w1 b:=by unfold Lu;rw[if_neg (by omega)];split<;>decide
    have he1:e1<w/b:=by
     have h1:(e1+1)*b≤w:=by rw[Nat.add_mul,Nat.one_mul];omega
     have:=(Nat.le_div_iff_mul_le hb0).2 h1
     omega
    have he1b:e1<1000000:=Nat.lt_trans he1 hwb
    refine wU 82 true I (dT hc) (Aa (zE (zR I (zI (zE (zH (zA (zB (wP I (wP I ?_))))))))))
    refine wD (X:=NV) I I (fun W' hp=>by
     have h:=EI W' (some ⟨x2.1,0,none⟩) (some ⟨bq,oq,none⟩) x2.2.1 cap2 w1 b hge (A4.of_bx hp 1 rfl) (hB.hp hp) (by omega)
     rw[hn] at h
     exact h) ?_
    intro x3 hx3
    exact wP I (Aa (zE (zB (wP I (wP I (wV 87 ((e1+1:Nat):Int) I (Ax (by omega)) (wP I (Aa (zN (CA (e1+1,w1-b,x3) ⟨by show w=(e1+1)*b+(w1-b);rw[Nat.add_mul,Nat.one_mul];omega,hx3⟩ (by show w1-b<w1;omega) ⟨I,I,I,I,I,I,I,I,tO⟩ (fun W hp=>hp.pick [0,2] (by decide) I)))))))))))
   ·have hc: ¬(0:Int)≤Lu w1 b:=by unfold Lu;rw[if_pos (by omega)];decide
    obtain⟨d1,d2⟩:=No hw1 (show w1<b by omega)
    exact wU 82 false I (dF hc) (Aa (zE (zS I (zJ (zK (zK (zL (An x2 (by show BW x2 (lbs br (w%b));rw[d2];exact hx2) ⟨I,I,I,I,I,by rw[d2];rfl,I,by rw[d1];rfl,tO⟩ [] (by rw[d2];rfl)))))))))
  intro x2 hx2
  have hx2:BW x2 (lbs br (w%b)):=hx2
  refine zB (wP I (wP I (wP I ?_)))
  refine wJ ?_
  refine AE 0 (nI (l.set k (w/b))++[]) tH I I I I I I I I I I (by show 0+k*1+1≤(nI l++[]).length;rw[List.append_nil,Bv];omega) (Cb hi (w/b)) ?_
  exact Aa (zN (zE (zB (wP I (wP I (wV 46 ((k:Nat)-1:Int) I (Ap (by omega) (by omega)) (wP I (Aa (Al (k,l.set k (w/b),qh*br+w/b,w%b,x2) ⟨⟨by show k≤K;omega,by rw[List.length_set];exact hl,C5 hllt hwb,by show lv br (l.set k (w/b))=br^k*(qh*br+w/b);rw[hset,Nat.mul_comm qh],by show a/br^k=_;exact hs,Nat.mod_lt _ hb0⟩,hx2⟩ (by show k<k+1;omega) ⟨I,I,I,I,I,I,I,tO⟩ [] I)))))))))
-- BOXES 6
-- CODE2
theorem Ta (x y:Int):Nat.gcd y.natAbs (x.tmod y).natAbs=Nat.gcd x.natAbs y.natAbs:=by
 rw[Int.natAbs_tmod,Nat.gcd_comm, ←Nat.gcd_rec,Nat.gcd_comm]
theorem Ry (a b:Int) (ha:(decDigits a.natAbs).length≤300) (hb:(decDigits b.natAbs).length≤300) (W:World) (ht:AA W):
  Ad Tryz.prog 177 #[str (itoa a),str (itoa b)] W (fun _:Unit=> .tuple #[str (itoa ((Nat.gcd a.natAbs b.natAbs:Nat):Int)), .int .i64 0]) (fun _=>True) (fun _=>[]):=by
 have la:=Fc (m:=a.natAbs) (by omega)
 have lb:=Fc (m:=b.natAbs) (by omega)
 refine Ab (args:=[str (itoa a),str (itoa b)]) Tryz.func177 I I I ?_
 refine zA (zB (wP I (wP I (Aa (zE (zA (zA (zB (wP I (wP I (wC I I (fun W _=>GU a b ha hb W) (wP I (Aa ?_)))))))))))))
 refine zE (zA (zB (wP I (wP I (Aa (zE (zS I (zI (zE (zA (zA (zB ?_))))))))))))
 cases hs:smI a&&smI b with
 |true=>
  obtain⟨h1,h2⟩:=Bool.and_eq_true_iff.1 hs
  have b1:=Vn h1
  have b2:=Vn h2
  refine wP I (wP I (wC I I (fun W _=>OA hs W) ?_))
  iterate 7 refine wP I ?_
  refine Aa (zE (zA (zB (wP I (Aa (zE (zR I (zA (zH ?_)))))))))
  refine Aw (X:=Int×Int) (fun x=>[(7, .int .i64 x.1),(8, .int .i64 x.2)]) (fun _=>[]) (fun x=>x.1.natAbs<100000000000000000∧x.2.natAbs<100000000000000000∧Nat.gcd x.1.natAbs x.2.natAbs=Nat.gcd a.natAbs b.natAbs) (fun x=>x.2.natAbs) (a,b) ⟨b1,b2,I⟩ ⟨I,I,tO⟩ [] I ?_
  rintro⟨x,y⟩ ⟨hx,hy,hg⟩
  have hx:x.natAbs<100000000000000000:=hx
  have hy:y.natAbs<100000000000000000:=hy
  have hg:Nat.gcd x.natAbs y.natAbs=Nat.gcd a.natAbs b.natAbs:=hg
  refine zA (zA (zB (wP I (wP I ?_))))
  by_cases h0:y=0
  ·refine wU 29 false I (by rw[bne_eq_false_iff_eq];exact h0) (Aa (zE (zS I (zJ (zK (zK (zL (zE (zA (zB (wP I (wP I (wP I ?_)))))))))))))
   refine wV 36 (-x) I (show w64 (0-x)=_ by rw[Ap (by omega) (by omega)];omega) (wP I ?_)
   refine Ao 37 (.int .i64 ((Nat.gcd a.natAbs b.natAbs:Nat):Int)) I (congrArg (Value.int .i64) (by
    rw[←hg,h0,Int.natAbs_zero,Nat.gcd_zero_right]
    show(if -x>x then -x else x)=_;split<;>omega)) ?_
   have hgl:Nat.gcd a.natAbs b.natAbs<100000000000000000:=by rw[←hg,h0,Int.natAbs_zero,Nat.gcd_zero_right];exact hx
   exact wC I I (fun W hp=>Bs ((Nat.gcd a.natAbs b.natAbs:Nat):Int) (by omega) (by omega) W (ht.hp hp)) (wP I (wP I (Aa (zE (zO (zP (wR2 I I I)))))))
  ·refine wU 29 true I (by rw[bne_iff_ne];exact h0) (Aa (zE (zR I (zI (zE (zH (zU (qP I (qP I (qP I ?_))))))))))
   refine Ed I I I I I h0 ?_
   refine qP I (qP I (AB (Aa (zN ?_))))
   have hr:(x.tmod y).natAbs<y.natAbs:=by rw[Int.natAbs_tmod];exact Nat.mod_lt _ (by omega)
   exact Al (y,x.tmod y) ⟨hy,Nat.lt_trans hr hy,by show Nat.gcd y.natAbs (x.tmod y).natAbs=_;rw[Ta];exact hg⟩ hr ⟨I,I,tO⟩ [] I
 |false=>
  obtain⟨x0,y0,h2⟩:=NT hs ha hb
  refine wP I (wP I (wC I I (fun W _=>h2 W) ?_))
  iterate 7 refine wP I ?_
  refine Aa (zE (zA (zB (wP I (Aa (zE (zS I (zI (zE (zA (zB (wP I ?_))))))))))))
  refine wD (X:=NV) I I (fun W' _=>Cy a (by omega) W') ?_
  intro x hx
  refine wP I (wP I ?_)
  refine wD (X:=NV) I I (fun W' _=>Cy b (by omega) W') ?_
  intro y hy
  refine wP I (wP I (wP I (Aa (zE (zA (zH ?_))))))
  refine C7 (X:=(Nat×NV)×(Nat×NV)) (fun s=>[(10,B2 s.1.2 (lbs br s.1.1).length),(11,B2 s.2.2 (lbs br s.2.1).length)]) (fun s=>Hp W [B3 s.1.2 (lbs br s.1.1),B3 s.2.2 (lbs br s.2.1)]) (fun s=>Nat.gcd s.1.1 s.2.1=Nat.gcd a.natAbs b.natAbs∧(lbs br s.1.1).length≤101∧(lbs br s.2.1).length≤101) (fun s=>s.2.1) ((a.natAbs,x),(b.natAbs,y)) ⟨I,la,lb⟩ ⟨I,I,tO⟩ (fun W hp=>hp) ?_
  rintro⟨⟨u,x⟩,⟨v,y⟩⟩ ⟨hg,hu,hv⟩
  have hg:Nat.gcd u v=Nat.gcd a.natAbs b.natAbs:=hg
  have hu:(lbs br u).length≤101:=hu
  have hv:(lbs br v).length≤101:=hv
  refine zA (zA (zB (wP I (wP I (wP I ?_)))))
  by_cases h0:v=0
  ·have e1:Nat.gcd a.natAbs b.natAbs=u:=by rw[←hg,h0,Nat.gcd_zero_right]
   have key: ∀e k,e=6*k→0<e→(lbs br u).length≤k→(decDigits u).length≤e:=fun e k he h0e hk=>by
    refine CM e u (by omega) ?_
    have:=AF br2 u
    refine Nat.lt_of_lt_of_le this ?_
    rw[JH];exact Nat.pow_le_pow_right (by decide) (by omega)
   have hul:=key 606 101 rfl (by decide) hu
   refine wU 47 false I (dF (by rw[h0,AX];decide)) (Aa (zE (zS I (zJ (zK (zK (zL (zE (zA (zB (wP I ?_)))))))))))
   refine Au Tryz.hZ tH I I I I I I I I ?_
   refine Ao 57 (IZ ((u:Nat):Int) (some ⟨x.1,0,none⟩) x.2.1) I (by unfold IZ;rw[dF (show¬((u:Nat):Int)<0 by omega),Int.natAbs_natCast];rfl) ?_
   exact wC I I (fun W' hp=>IM ((u:Nat):Int) (by rw[Int.natAbs_natCast];exact hul) W' (some ⟨x.1,0,none⟩) x.2.1 (by rw[Int.natAbs_natCast];exact A4.of_bx hp 0 I)) (wP I (wP I (Aa (zE (zO (wR2 I I (by rw[e1])))))))
  ·have hL:(lbs br v).length≠0:=fun e=>h0 ((Dp br2).1 (List.length_eq_zero_iff.1 e))
   have hr:u%v<v:=Nat.mod_lt _ (by omega)
   refine wU 47 true I (dT (by show(((lbs br v).length:Nat):Int)>0;omega)) (Aa (zE (zR I (zI (zE (zH (zA (zB (wP I (wP I ?_))))))))))
   refine wD (X:=NV×NV) I I (fun W' hp=>M1 W' (some ⟨x.1,0,none⟩) (some ⟨y.1,0,none⟩) x.2.1 y.2.1 u v (by omega) (A4.of_bx hp 0 I) (A4.of_bx hp 1 I) (by omega) (by omega)) ?_
   rintro⟨q,w⟩ ⟨hq,hw⟩
   iterate 5 refine wP I ?_
   exact Aa (zE (zB (wP I (wP I (wP I (wP I (Aa (zN (CA ((v,y),(u%v,w)) ⟨by show Nat.gcd v (u%v)=_;rw[Nat.gcd_comm, ←Nat.gcd_rec,Nat.gcd_comm];exact hg,hv,by show(lbs br (u%v)).length≤101;exact Nat.le_trans ((B9 br2).2 (Nat.lt_trans hr (AF br2 v))) hv⟩ hr ⟨I,I,tO⟩ (fun W hp=>hp.pick [1,3] (by decide) I))))))))))
-- BOXES 2
-- CODE2
theorem UR (a:List UInt8):cut a [47]=(if hasPrefix a [45]=true then 45::(cut (trimPrefix a [45]) [47]).1 else(cut (trimPrefix a [45]) [47]).1,(cut (trimPrefix a [45]) [47]).2):=by
 rw[Bj,AR]
 by_cases h:a[0]? =some 45
 ·rw[if_pos h,if_pos (dT h)]
  obtain⟨t,rfl⟩: ∃t,a=45::t:=by
   cases a with
   |nil=>cases h
   |cons b t=>
    have e:b=45:=by simpa using h
    exact⟨t,by rw[e]⟩
  show cut (45::t) [47]=(45::(cut t [47]).1,(cut t [47]).2)
  rcases Gk 47 t with h1|⟨x,y,rfl,h1⟩
  ·rw[Et h1,Et (show(47:UInt8)∉45::t from fun h=>by
    rcases List.mem_cons.1 h with h|h
    ·cases h
    ·exact h1 h)]
  ·rw[FB y h1,show 45::(x++47::y)=(45::x)++47::y from rfl,FB y (show(47:UInt8)∉45::x from fun h=>by
    rcases List.mem_cons.1 h with h|h
    ·cases h
    ·exact h1 h)]
 ·rw[if_neg h,if_neg (by rw[dF h];decide)]
theorem VT {a:List UInt8} {c:UInt8} (h:(cut a [47]).1[0]? =some c):a[0]? =some c:=by
 rcases Gk 47 a with h1|⟨x,y,rfl,h1⟩
 ·rwa [Et h1] at h
 ·rw[FB y h1] at h
  cases x with
  |nil=>cases h
  |cons b t=>exact h
theorem UP {m:Bool} {n:List UInt8} (h:m=false→n[0]? ≠some 45):Ge (if m=true then 45::n else n)=if dgB n=true∧ ¬(m=true∧n=[48]) then some (if m=true then -(AJ n:Int) else AJ n) else none:=by
 have hd:dgB n=true↔(ldn n=n.length∧n≠[]∧(1<n.length→n[0]? ≠some 48)):=by
  rw[Gp];exact⟨KF,IX⟩
 have key: ∀(x:List UInt8),hasPrefix x [45]=m→trimPrefix x [45]=n→Ge x=if dgB n=true∧ ¬(m=true∧n=[48]) then some (if m=true then -(AJ n:Int) else AJ n) else none:=fun x h1 h2=>by
  unfold Ge
  rw[h1,h2]
  by_cases hc:dgB n=true∧ ¬(m=true∧n=[48])
  ·rw[if_pos hc]
   obtain⟨c1,c2,c3⟩:=hd.1 hc.1
   rw[if_pos ⟨c1,c2,c3,hc.2⟩]
  ·rw[if_neg hc,if_neg fun h4=>hc ⟨hd.2 ⟨h4.1,h4.2.1,h4.2.2.1⟩,h4.2.2.2⟩]
 cases m with
 |true=>
  refine key _ ?_ ?_
  ·rw[if_pos rfl,Bj];rfl
  ·rw[if_pos rfl,AR];rfl
 |false=>
  have h0:=h rfl
  refine key _ ?_ ?_
  ·rw[if_neg (by decide),Bj,dF h0]
  ·rw[if_neg (by decide),AR,if_neg h0]
def MP (m:Bool) (n d:List UInt8) (sl:Bool):Bool:= !dgB n||(sl&&(!dgB d||decide (d=[48])||decide (d=[49])))||(m&&decide (n=[48]))
theorem VZ (a:List UInt8):frm a=if MP (hasPrefix a [45]) (cut (trimPrefix a [45]) [47]).1 (cut (trimPrefix a [45]) [47]).2.1 (cut (trimPrefix a [45]) [47]).2.2=true then none
  else some (if hasPrefix a [45]=true then -(AJ (cut (trimPrefix a [45]) [47]).1:Int) else AJ (cut (trimPrefix a [45]) [47]).1,if (cut (trimPrefix a [45]) [47]).2.2=true then AJ (cut (trimPrefix a [45]) [47]).2.1 else 1):=by
 have h1:=UR a
 have h2:hasPrefix a [45]=false→(cut (trimPrefix a [45]) [47]).1[0]? ≠some 45:=fun hm hc=>by
  have h3:=VT hc
  rw[Bj] at hm
  have hm:=of_decide_eq_false hm
  rw[AR,if_neg hm] at h3
  exact hm h3
 have h3:=UP h2
 unfold frm
 generalize hasPrefix a [45]=m at*
 generalize cut (trimPrefix a [45]) [47]=c at*
 obtain⟨n,d,sl⟩:=c
 rw[h1]
 simp only at h3⊢
 rw[h3]
 have hd:dgB d=true↔(ldn d=d.length∧d≠[]∧(1<d.length→d[0]? ≠some 48)):=by
  rw[Gp];exact⟨KF,IX⟩
 by_cases hc:dgB n=true∧ ¬(m=true∧n=[48])
 ·rw[if_pos hc]
  have e1:MP m n d sl=(sl&&(!dgB d||decide (d=[48])||decide (d=[49]))):=by
   unfold MP
   rw[hc.1]
   have:(m&&decide (n=[48]))=false:=by
    by_cases hm:m=true
    ·rw[hm,dF fun h=>hc.2 ⟨hm,h⟩];rfl
    ·rw[show m=false by simpa using hm];rfl
   rw[this,Bool.or_false];rfl
  rw[e1]
  simp only
  cases sl with
  |false=>rfl
  |true=>
   simp only[Bool.true_eq_false,if_false,Bool.true_and,if_true]
   by_cases hk:dgB d=true∧d≠[48]∧d≠[49]
   ·obtain⟨k1,k2,k3⟩:=hd.1 hk.1
    have e0:(!dgB d||decide (d=[48])||decide (d=[49]))=false:=by rw[hk.1,dF hk.2.1,dF hk.2.2];rfl
    rw[if_pos ⟨k1,k2,k3,hk.2⟩,e0,if_neg (show¬(false=true) by decide)]
   ·rw[if_neg fun h4=>hk ⟨hd.2 ⟨h4.1,h4.2.1,h4.2.2.1⟩,h4.2.2.2⟩,if_pos]
    by_cases k1:dgB d=true
    ·by_cases k2:d=[48]
     ·rw[dT k2];simp
     ·by_cases k3:d=[49]
      ·rw[dT k3];simp
      ·exact absurd ⟨k1,k2,k3⟩ hk
    ·rw[show dgB d=false by simpa using k1];rfl
 ·rw[if_neg hc,if_pos]
  unfold MP
  by_cases k1:dgB n=true
  ·by_cases k2:m=true
   ·by_cases k3:n=[48]
    ·rw[k2,dT k3];simp
    ·exact absurd ⟨k1,fun h=>k3 h.2⟩ hc
   ·exact absurd ⟨k1,fun h=>k2 h.1⟩ hc
  ·rw[show dgB n=false by simpa using k1];rfl
theorem KH {n:List UInt8} (h:dgB n=true):n=decDigits (AJ n):=Qv.1 (Gp.1 h)
theorem PS {n:List UInt8} (h:dgB n=true) (hl:n.length≤9):AJ n<1000000000:=by
 have e:=KH h
 rw[e] at hl
 exact Mm hl
theorem Gx (a:List UInt8) (ha:a.length<4611686018427387904) (W:World) (ht:AA W):
  Ad Tryz.prog 105 #[str a] W (fun _:Unit=> .int .i64 (rdR a).2) (fun _=>True) (fun _=>[]):=by
 have hfr:=VZ a
 have hsv:Ph a=Ph a:=rfl
 have hcl:=SA (trimPrefix a [45])
 have htl:(trimPrefix a [45]).length≤a.length:=by rw[AR];split<;>simp
 have hmiss:(cut (trimPrefix a [45]) [47]).2.2=false→(cut (trimPrefix a [45]) [47]).2.1=[]:=fun h=>by
  rcases Gk 47 (trimPrefix a [45]) with h1|⟨x,y,e,h1⟩
  ·rw[Et h1]
  ·rw[e,FB y h1] at h;cases h
 conv at hsv=>rhs;unfold Ph
 generalize hasPrefix a [45]=m at*
 generalize cut (trimPrefix a [45]) [47]=c at*
 obtain⟨n,d,sl⟩:=c
 simp only at hfr hsv hcl hmiss
 refine Ab (args:=[str a]) Tryz.func105 I I I ?_
 refine zA (zB (wP I (Aa (zE (zA (zB (wP I (wC I I (fun W _=>(Ft a ha W).cast hsv) ?_))))))))
 iterate 9 refine wP I ?_
 refine Aa ?_
 obtain⟨P1,e1⟩: ∃b,dgB n=b:=⟨_,rfl⟩
 obtain⟨P2,e2⟩: ∃b,dgB d=b:=⟨_,rfl⟩
 obtain⟨P3,e3⟩: ∃b,decide (d=[48])=b:=⟨_,rfl⟩
 obtain⟨P4,e4⟩: ∃b,decide (d=[49])=b:=⟨_,rfl⟩
 obtain⟨P5,e5⟩: ∃b,decide (n=[48])=b:=⟨_,rfl⟩
 have hB:MP m n d sl=(!P1||(sl&&(!P2||P3||P4))||(m&&P5)):=by unfold MP;rw[e1,e2,e3,e4,e5]
 refine A8 (Az (Az ?_))
 refine AC (X:=Unit) (fun _=>[(4,str n),(5,str d),(6, .bool sl),(41, .bool (MP m n d sl))]) (fun _=>[]) (fun _=>True) ?_ ?_
 ·refine zB (wP I (wC I I (fun W _=>(GS n (by omega) W).cast (v':= .bool P1) (by rw[e1])) (wP I (wP I ?_))))
  refine Bu 19 I (fun h19=> ?_) (fun h19=> ?_)
  ·refine Ah I I ?_
   iterate 13 refine Ah I I ?_
   refine wP I (wP I ?_)
   iterate 5 refine Ah I I ?_
   exact wP I (Aa (An () tO ⟨I,I,I,congrArg (fun b=>some (Value.bool b)) (by rw[hB];simp_all),tO⟩ [] I))
  ·refine wP I (wP I ?_)
   refine Bu 21 I (fun h21=> ?_) (fun h21=> ?_)
   ·refine wP I (wC I I (fun W _=>(GS d (by omega) W).cast (v':= .bool P2) (by rw[e2])) (wP I (wP I ?_)))
    refine Bu 25 I (fun h25=> ?_) (fun h25=> ?_)
    ·refine Ah I I ?_
     refine Ah I I ?_
     refine wP I (wP I ?_)
     iterate 2 refine Ah I I ?_
     refine wP I (wP I (wP I (wP I ?_)))
     iterate 5 refine Ah I I ?_
     exact wP I (Aa (An () tO ⟨I,I,I,congrArg (fun b=>some (Value.bool b)) (by rw[hB];simp_all),tO⟩ [] I))
    ·refine wP I (wP I (wU 27 P3 I ((Bd _ _).trans e3) (wP I (wP I ?_))))
     refine Bu 29 I (fun h29=> ?_) (fun h29=> ?_)
     ·refine Ah I I ?_
      refine Ah I I ?_
      refine wP I (wP I (wP I (wP I ?_)))
      iterate 5 refine Ah I I ?_
      exact wP I (Aa (An () tO ⟨I,I,I,congrArg (fun b=>some (Value.bool b)) (by rw[hB];simp_all),tO⟩ [] I))
     ·refine wP I (wP I (wU 31 P4 I ((Bd _ _).trans e4) (wP I (wP I (wP I (wP I ?_))))))
      refine Bu 35 I (fun h35=> ?_) (fun h35=> ?_)
      ·refine Ah I I ?_
       iterate 4 refine Ah I I ?_
       exact wP I (Aa (An () tO ⟨I,I,I,congrArg (fun b=>some (Value.bool b)) (by rw[hB];simp_all),tO⟩ [] I))
      ·refine wP I (wP I ?_)
       refine Bu 37 I (fun h37=> ?_) (fun h37=> ?_)
       ·exact wP I (wP I (wU 39 P5 I ((Bd _ _).trans e5) (wP I (wP I (Aa (An () tO ⟨I,I,I,congrArg (fun b=>some (Value.bool b)) (by rw[hB];simp_all),tO⟩ [] I))))))
       ·refine Ah I I ?_
        refine Ah I I ?_
        exact wP I (wP I (Aa (An () tO ⟨I,I,I,congrArg (fun b=>some (Value.bool b)) (by rw[hB];simp_all),tO⟩ [] I)))
   ·refine Ah I I ?_
    iterate 10 refine Ah I I ?_
    iterate 5 refine wP I ?_
    refine Bu 37 I (fun h37=> ?_) (fun h37=> ?_)
    ·exact wP I (wP I (wU 39 P5 I ((Bd _ _).trans e5) (wP I (wP I (Aa (An () tO ⟨I,I,I,congrArg (fun b=>some (Value.bool b)) (by rw[hB];simp_all),tO⟩ [] I))))))
    ·refine Ah I I ?_
     refine Ah I I ?_
     exact wP I (wP I (Aa (An () tO ⟨I,I,I,congrArg (fun b=>some (Value.bool b)) (by rw[hB];simp_all),tO⟩ [] I)))
 intro _ _
 refine Aj I (fun hbad=> ?_) (fun hbad=> ?_)
 ·rw[if_pos hbad] at hfr
  exact zA (zB (wP I (Aa (zE (zO (zP (wR1 I I (by unfold rdR;rw[hfr]))))))))
 have hbad:MP m n d sl=false:=hbad
 rw[if_neg (by rw[hbad];decide)] at hfr
 have hn:dgB n=true:=by
  cases h:dgB n with
  |true=>rfl
  |false=>unfold MP at hbad;rw[h] at hbad;cases hbad
 have hdl:sl=true→dgB d=true:=fun hs=>by
  cases h:dgB d with
  |true=>rfl
  |false=>unfold MP at hbad;rw[h,hs,hn] at hbad;cases hbad
 have hna:(if m=true then -(AJ n:Int) else AJ n).natAbs=AJ n:=by split<;>omega
 have hne:=KH hn
 have hlen1:n.length≤300↔AJ n<Bc:=by
  conv=>lhs;rw[hne]
  exact GF
 have hlen2:d.length≤300↔(if sl=true then AJ d else 1)<Bc:=by
  cases hs:sl with
  |true=>
   rw[if_pos rfl]
   conv=>lhs;rw[KH (hdl hs)]
   exact GF
  |false=>
   rw[hmiss hs,if_neg (by decide)]
   exact⟨fun _=>GF.1 (by rw[FF];decide),fun _=>by decide⟩
 have hcode:(rdR a).2=if AJ n<Bc∧(if sl=true then AJ d else 1)<Bc then(if Nat.gcd (AJ n) (if sl=true then AJ d else 1)=1 then 0 else 11) else 4:=by
  unfold rdR
  rw[hfr]
  simp only[hna]
  generalize (if sl=true then AJ d else 1)=k
  by_cases c1:AJ n<Bc∧k<Bc
  ·rw[if_pos c1,if_pos c1]
   by_cases c2:Nat.gcd (AJ n) k=1
   ·rw[if_pos c2,if_pos c2]
   ·rw[if_neg c2,if_neg c2]
  ·rw[if_neg c1,if_neg c1]
 refine zI (zE (Az (Az ?_)))
 refine AC (X:=Unit) (fun _=>[(4,str n),(5,str d),(6, .bool sl),(49, .bool (decide (¬(n.length≤300∧d.length≤300))))]) (fun _=>[]) (fun _=>True) ?_ ?_
 ·refine zB (wP I (wP I ?_))
  refine Ao 43 (.int .i64 (n.length:Nat)) I (congrArg (fun n:Nat=>Value.int .i64 (n:Int)) (A5 n)) ?_
  refine wP I ?_
  by_cases h1:n.length≤300
  ·refine wU 44 false I (dF (by omega)) (wP I (wP I (wP I ?_)))
   refine Ao 47 (.int .i64 (d.length:Nat)) I (congrArg (fun n:Nat=>Value.int .i64 (n:Int)) (A5 d)) ?_
   exact wP I (wU 48 (decide (¬(n.length≤300∧d.length≤300))) I (decide_eq_decide.2 (by show((d.length:Nat):Int)>300↔_;omega)) (wP I (Aa (An () tO ⟨I,I,I,I,tO⟩ [] I))))
  ·refine wU 44 true I (dT (by show((n.length:Nat):Int)>300;omega)) (wP I ?_)
   iterate 3 refine Ah I I ?_
   exact wP I (Aa (An () tO ⟨I,I,I,by rw[dT (show¬(n.length≤300∧d.length≤300) by omega)];rfl,tO⟩ [] I))
 intro _ _
 refine Aj I (fun hlong=> ?_) (fun hlong=> ?_)
 ·have hlong:=of_decide_eq_true hlong
  exact zA (zB (wP I (Aa (zE (zO (zP (wR1 I I (by rw[hcode,if_neg fun h=>hlong ⟨hlen1.2 h.1,hlen2.2 h.2⟩]))))))))
 have hlong:n.length≤300∧d.length≤300:=Decidable.byContradiction fun h=>of_decide_eq_false hlong h
 rw[if_pos ⟨hlen1.1 hlong.1,hlen2.1 hlong.2⟩] at hcode
 refine zI (zE (zA (zA (zB (wP I (wP I (Aa ?_)))))))
 cases hs:sl with
 |false=>
  have hcode:(rdR a).2=0:=by rw[hcode,hs];exact if_pos (show Nat.gcd (AJ n) 1=1 from Nat.gcd_one_right _)
  exact zE (zR I (zA (zB (wP I (Aa (zE (zO (zP (wR1 I I (by rw[hcode]))))))))))
 |true=>
  have hd:=hdl hs
  have hde:=KH hd
  rw[hs,if_pos rfl] at hcode
  refine zE (zS I (zI (zE (Az (Az ?_)))))
  refine AC (X:=Unit) (fun _=>[(4,str n),(5,str d),(59, .bool (decide (n.length≤9∧d.length≤9)))]) (fun _=>[]) (fun _=>True) ?_ ?_
  ·refine zB (wP I (wP I ?_))
   refine Ao 53 (.int .i64 (n.length:Nat)) I (congrArg (fun n:Nat=>Value.int .i64 (n:Int)) (A5 n)) ?_
   refine wP I ?_
   by_cases h1:n.length≤9
   ·refine wU 54 true I (dT (by omega)) (wP I (wP I (wP I ?_)))
    refine Ao 57 (.int .i64 (d.length:Nat)) I (congrArg (fun n:Nat=>Value.int .i64 (n:Int)) (A5 d)) ?_
    exact wP I (wU 58 (decide (n.length≤9∧d.length≤9)) I (decide_eq_decide.2 (by omega)) (wP I (Aa (An () tO ⟨I,I,I,tO⟩ [] I))))
   ·refine wU 54 false I (dF (by omega)) (wP I ?_)
    iterate 3 refine Ah I I ?_
    exact wP I (Aa (An () tO ⟨I,I,by rw[dF (fun h:n.length≤9∧d.length≤9=>h1 h.1)];rfl,tO⟩ [] I))
  intro _ _
  refine Aj I (fun h9=> ?_) (fun h9=> ?_)
  ·obtain⟨h9,h9'⟩:=of_decide_eq_true h9
   have l1:AJ n<1000000000:=PS hn h9
   have l2:AJ d<1000000000:=PS hd h9'
   refine zA (zA (zB (wP I (wC I I (fun W _=>El n (by omega) (Gp.1 hn).all W) (wP I (wC I I (fun W _=>El d (by omega) (Gp.1 hd).all W) (wC I I (fun W _=>Pk (AJ n) (AJ d) (by omega) (by omega) W) (wP I ?_))))))))
   by_cases hg:Nat.gcd (AJ n) (AJ d)=1
   ·exact wU 65 false I (by rw[bne_eq_false_iff_eq];omega) (Aa (zE (zS I (zI (zE (zA (zB (wP I (Aa (zE (zO (zP (wR1 I I (by rw[hcode,if_pos hg]))))))))))))))
   ·exact wU 65 true I (by rw[bne_iff_ne];omega) (Aa (zE (zR I (zA (zB (wP I (Aa (zE (zO (zP (zP (wR1 I I (by rw[hcode,if_neg hg])))))))))))))
  ·have e1:n=itoa ((AJ n:Nat):Int):=by rw[GZ];exact hne
   have e2:d=itoa ((AJ d:Nat):Int):=by rw[GZ];exact hde
   refine zI (zE (zA (zA (zB (wP I (wP I ?_))))))
   refine wC I I (fun W1 hp=>by
    have h:=Ry ((AJ n:Nat):Int) ((AJ d:Nat):Int) (by rw[Int.natAbs_natCast, ←hne];exact hlong.1) (by rw[Int.natAbs_natCast, ←hde];exact hlong.2) W1 (ht.hp hp)
    rw[←e1, ←e2,Int.natAbs_natCast,Int.natAbs_natCast,GZ] at h
    exact h) ?_
   iterate 5 refine wP I ?_
   refine Aa (zE (zA (zB (wP I (wP I ?_)))))
   by_cases hg:Nat.gcd (AJ n) (AJ d)=1
   ·exact wU 73 false I (by show(!_)=false;rw[Bd,hg,FF];rfl) (Aa (zE (zS I (zI (zE (zA (zB (wP I (Aa (zE (zO (wR1 I I (by rw[hcode,if_pos hg])))))))))))))
   ·refine Ao 73 (.bool true) I (congrArg Value.bool (by
     show(!_)=true
     rw[Bd,dF fun h=>hg (by have:=congrArg AJ h;rw[Cq] at this;exact this)];rfl)) ?_
    exact Aa (zE (zR I (zA (zB (wP I (Aa (zE (zO (zP (wR1 I I (by rw[hcode,if_neg hg])))))))))))
-- BOXES 1
-- CODE2
theorem NY (a b c d:Int) (ha:okN a) (hb:okN b) (hc:okN c) (hd:okN d) (hab:okN (a*b)) (hcd:okN (c*d)) (W:World) (ht:AA W):
  Ad Tryz.prog 42 #[str (itoa a),str (itoa b),str (itoa c),str (itoa d)] W (fun _:Unit=> .tuple #[str (itoa (a*b)),str (itoa (c*d)), .int .i64 0]) (fun _=>True) (fun _=>[]):=by
 refine Ab (args:=[str (itoa a),str (itoa b),str (itoa c),str (itoa d)]) Tryz.func42 I I I ?_
 refine zA (zB (wP I (wP I (wP I (Aa (zE (zA (zB (wP I (wP I (wC I I (fun W1 hp=>LX a b ha.dd hb.dd hab.dd W1 (ht.hp hp)) ?_)))))))))))
 iterate 5 refine wP I ?_
 refine Aa (zE (zA (zA (zB (wP I (wP I (Aa (zE (zS I (zI (zE (zA (zB ?_)))))))))))))
 refine wP I (wP I (wC I I (fun W1 hp=>LX c d hc.dd hd.dd hcd.dd W1 (ht.hp hp)) ?_))
 iterate 5 refine wP I ?_
 refine Aa (zE (zA (zB ?_)))
 iterate 6 refine wP I ?_
 exact Aa (zE (zO (wR3 I I I)))
-- BOXES 1
-- CODE2
theorem JV {q:Rat} (h:okQ q):(Ac q).length≤1000:=by
 have:=AQ h
 omega
theorem Nc {q:Rat} (h:okQ q) (W:World) (ht:AA W):Ad Tryz.prog 105 #[str (Ac q)] W (fun _:Unit=> .int .i64 0) (fun _=>True) (fun _=>[]):=
 (Gx (Ac q) (by have:=JV h;omega) W ht).cast (by rw[C3 h])
theorem ML {p q:Rat} (hp':okQ p) (hq:okQ q) (W:World) (ht:AA W):Ad Tryz.prog 39 #[str (Ac p),str (Ac q)] W (fun _:Unit=> .int .i64 0) (fun _=>True) (fun _=>[]):=by
 refine Ab (args:=[str (Ac p),str (Ac q)]) Tryz.func39 I I I ?_
 refine zA (zB (wP I (Aa (zE (zA (zA (zB (wP I (wC I I (fun W1 hp=>Nc hp' W1 (ht.hp hp)) (wP I (Aa (zE (zA ?_)))))))))))))
 refine zB (wP I (wP I (Aa (zE (zS I (zI (zE (zA (zB (wP I (wC I I (fun W1 hp=>Nc hq W1 (ht.hp hp)) (wP I (Aa ?_)))))))))))))
 exact zE (zO (wR1 I I I))
def iN (q:Rat):Int:=if E5 q=true then q.num else 0
def iD (q:Rat):Int:=if E5 q=true then((q.den:Nat):Int) else 0
theorem JY {q:Rat} (h:okQ q):AY Tryz.prog 40 [str (Ac q)] (.tuple #[.int .i64 (iN q), .int .i64 (iD q), .bool (E5 q)]):=fun W=>
 (Ri q (by have:=JV h;omega) W).cast (by
  unfold iN iD
  cases E5 q<;>rfl)
theorem Yx {x y:Int} (hx:x.natAbs<1000000000) (hy:y.natAbs<1000000000):(x*y).natAbs<1000000000000000000:=by
 rw[Int.natAbs_mul]
 have:=Nat.mul_lt_mul'' hx hy
 omega
theorem Po {x y:Int} (hx:x.natAbs<1000000000) (hy:y.natAbs<1000000000):w64 (x*y)=x*y:=by
 have:=Yx hx hy
 exact Ap (by omega) (by omega)
theorem XX {n:Nat} (h:n<1000000000):((n:Nat):Int).natAbs<1000000000:=by rw[Int.natAbs_natCast];exact h
def sh2 (p q:Rat):Bool:=E5 p&&E5 q
theorem Tb {p q:Rat} (h:sh2 p q=true):iN p=p.num∧iD p=(p.den:Nat)∧iN q=q.num∧iD q=(q.den:Nat)∧p.num.natAbs<1000000000∧p.den<1000000000∧q.num.natAbs<1000000000∧q.den<1000000000:=by
 obtain⟨h1,h2⟩:=Bool.and_eq_true_iff.1 h
 obtain⟨a1,a2⟩:=Ju h1
 obtain⟨b1,b2⟩:=Ju h2
 exact⟨if_pos h1,if_pos h1,if_pos h2,if_pos h2,a1,a2,b1,b2⟩
theorem I4 {q:Rat} (h:okQ q):AY Tryz.prog 41 [str (Ac q)] (.tuple #[str (itoa q.num),str (itoa ((q.den:Nat):Int))]):=fun W=>
 (QW q (JV h) W).cast (by rw[GZ])
theorem Fj (p q:Rat) (h:Sz2 p q) (W:World) (ht:AA W):
  Ad Tryz.prog 9 #[str (Ac p),str (Ac q)] W (fun _:Unit=> .tuple #[.int .i64 (Cw p q), .int .i64 0]) (fun _=>True) (fun _=>[]):=by
 have hpn:=p.den_pos
 have hqn:=q.den_pos
 rw[←JP]
 obtain⟨x,hx⟩: ∃x,p.num*((q.den:Nat):Int)=x:=⟨_,rfl⟩
 obtain⟨y,hy⟩: ∃y,q.num*((p.den:Nat):Int)=y:=⟨_,rfl⟩
 rw[hx,hy]
 refine Ab (args:=[str (Ac p),str (Ac q)]) Tryz.func9 I I I ?_
 refine zA (zB (wP I (wP I (Aa (zE (zA (zA (zB (wP I (wP I (wC I I (fun W1 hp=>ML h.okp h.okq W1 (ht.hp hp)) (wP I (Aa ?_)))))))))))))
 refine zE (zA (zB (wP I (wP I (Aa (zE (zS I (zI (zE (zA (zB (wP I (wC I I (fun W _=>JY h.okp W) ?_)))))))))))))
 iterate 7 refine wP I ?_
 refine Aa (zE (zA (zB (wP I (wC I I (fun W _=>JY h.okq W) ?_)))))
 iterate 7 refine wP I ?_
 refine Aa (A8 (Az (Az ?_)))
 refine AC (X:=Unit) (fun _=>[(0,str (Ac p)),(1,str (Ac q)),(7, .int .i64 (iN p)),(8, .int .i64 (iD p)),(10, .int .i64 (iN q)),(11, .int .i64 (iD q)),(41, .bool (sh2 p q))]) (fun _=>[]) (fun _=>True) ?_ ?_
 ·refine zB (wP I (wP I ?_))
  refine Bu 39 I (fun h39=> ?_) (fun h39=> ?_)
  ·exact wP I (wP I (Aa (An () tO ⟨I,I,I,I,I,I,congrArg (fun b=>some (Value.bool b)) (by unfold sh2;simp_all),tO⟩ [] I)))
  ·refine Ah I I ?_
   exact wP I (Aa (An () tO ⟨I,I,I,I,I,I,congrArg (fun b=>some (Value.bool b)) (by unfold sh2;simp_all),tO⟩ [] I))
 intro _ _
 refine Aj I (fun hs=> ?_) (fun hs=> ?_)
 ·obtain⟨e1,e2,e3,e4,l1,l2,l3,l4⟩:=Tb hs
  have w1:w64 (iN p*iD q)=x:=by rw[e1,e4, ←hx];exact Po l1 (XX l4)
  have w2:w64 (iN q*iD p)=y:=by rw[e3,e2, ←hy];exact Po l3 (XX l2)
  refine zA (zH (zA (zB (wP I (wP I (wP I (wV 45 x I w1 (wP I (wP I (wP I (wV 48 y I w2 (wP I ?_))))))))))))
  by_cases h1:x<y
  ·exact wU 49 true I (dT h1) (wP I (Aa (zE (zR I (zA (zB (wP I (wP I (Aa (zE (zO (zQ (zP (zP (wR2 I I (by rw[FN,if_pos h1]))))))))))))))))
  refine wU 49 false I (dF h1) (wP I (Aa (zE (zS I (zA (zB (wP I (wP I (wP I (wV 53 x I w1 (wP I (wP I (wP I ?_)))))))))))))
  refine wV 56 y I w2 (wP I ?_)
  by_cases h2:y<x
  ·exact wU 57 true I (dT h2) (wP I (Aa (zE (zR I (zA (zB (wP I (wP I (Aa (zE (zO (zQ (zP (zP (wR2 I I (by rw[FN,if_neg h1,if_neg (by omega)]))))))))))))))))
  refine wU 57 false I (dF h2) (wP I (Aa (zE (zS I (zI (zN (zE (zA (zB (wP I (wP I (Aa (zE ?_)))))))))))))
  exact zO (zP (wR2 I I (by rw[FN,if_neg h1,if_pos (by omega)])))
 ·refine zI (zE (zA (zB (wP I (wC I I (fun W _=>I4 h.okp W) ?_)))))
  iterate 5 refine wP I ?_
  refine Aa (zE (zA (zB (wP I (wC I I (fun W _=>I4 h.okq W) ?_)))))
  iterate 5 refine wP I ?_
  refine Aa (zE (zA (zB (wP I (wP I (wP I (wP I (wC I I (fun W1 hp=>(NY p.num (q.den:Nat) q.num (p.den:Nat) h.okp.1 h.okq.2 h.okq.1 h.okp.2 h.c1 h.c2 W1 (ht.hp hp)).cast (v':= .tuple #[str (itoa x),str (itoa y), .int .i64 0]) (by rw[hx,hy])) ?_))))))))
  iterate 7 refine wP I ?_
  refine Aa (zE (zA (zA (zB (wP I (wP I (Aa (zE (zS I (zI (zE (zA (zB ?_)))))))))))))
  exact wP I (wP I (wC I I (fun W1 hp=>RE x y (by rw[←hx];exact h.c1.dd) (by rw[←hy];exact h.c2.dd) W1) (wP I (wP I (wP I (wP I (Aa (zE (zO (wR2 I I I))))))))))
-- BOXES 1
-- CODE2
def opV (ok:Prop) [Decidable ok] (r:Rat):Value:=if ok then .tuple #[str (Ac r), .int .i64 0] else .tuple #[str [], .int .i64 4]
theorem LU {ok:Prop} [Decidable ok] {r:Rat} (h:ok):opV ok r= .tuple #[str (Ac r), .int .i64 0]:=if_pos h
theorem Rm {ok:Prop} [Decidable ok] {r:Rat} (h: ¬ok):opV ok r= .tuple #[str [], .int .i64 4]:=if_neg h
instance (z:Int):Decidable (okN z):=inferInstanceAs (Decidable (z.natAbs<Bc))
def HL (p q:Rat):Prop:=okN (p.num*(q.den:Nat))∧okN (q.num*(p.den:Nat))∧okN ((p.den:Nat)*(q.den:Nat))∧okN (p.num*(q.den:Nat)+q.num*(p.den:Nat))
instance (p q:Rat):Decidable (HL p q):=inferInstanceAs (Decidable (_∧_∧_∧_))
-- BOXES 1
-- CODE2
def GG (p q:Rat):Prop:=okN (p.num*q.num)∧okN ((p.den:Nat)*(q.den:Nat))
def BC (p q:Rat):Prop:=okN (p.num*(q.den:Nat))∧okN (q.num*(p.den:Nat))
instance (p q:Rat):Decidable (GG p q):=inferInstanceAs (Decidable (_∧_))
instance (p q:Rat):Decidable (BC p q):=inferInstanceAs (Decidable (_∧_))
def cmV (p q:Rat):Value:=if BC p q then .tuple #[.int .i64 (Cw p q), .int .i64 0] else .tuple #[.int .i64 0, .int .i64 4]
-- BOXES 5
theorem K1 (p q:Rat) (hp:okQ p) (hq:okQ q) (h1: ¬okN (p.num*(q.den:Nat))) (W:World) (ht:AA W):
  Ad Tryz.prog 85 #[Cn p,Cn q] W (fun _:Unit=> .tuple #[str [],str [], .int .i64 4]) (fun _=>True) (fun _=>[]):=by
 refine Ab (args:=[Cn p,Cn q]) Tryz.func85 I I I ?_
 refine zA (zB ?_)
 (refine Ak rfl rfl rfl rfl ?_;intro)
 (refine Ak rfl rfl rfl rfl ?_;intro)
 refine wP I (wP I (wP I (Aa (zE (zA (zB (wP I (wB 0 I I I (wP I (wB 1 I I I (wC I I (fun W h=>(BF p.num (q.den:Nat) hp.1 hq.2 W (ht.hp h)).cast (H7 h1)) ?_)))))))))))
 iterate 5 refine wP I ?_
 refine Aa (zE (zA (zA (zB (wP I (wP I (Aa (zE (zR I (zA (zB (wP I (wP I (wP I (wP I ?_)))))))))))))))
 exact Aa (zE (zO (zP (wR3 I I I))))
theorem K9 (p q:Rat) (hp:okQ p) (hq:okQ q) (h1:okN (p.num*(q.den:Nat))) (h2: ¬okN (q.num*(p.den:Nat))) (W:World) (ht:AA W):
  Ad Tryz.prog 85 #[Cn p,Cn q] W (fun _:Unit=> .tuple #[str (itoa (p.num*(q.den:Nat))),str [], .int .i64 4]) (fun _=>True) (fun _=>[]):=by
 refine Ab (args:=[Cn p,Cn q]) Tryz.func85 I I I ?_
 refine zA (zB ?_)
 (refine Ak rfl rfl rfl rfl ?_;intro)
 (refine Ak rfl rfl rfl rfl ?_;intro)
 refine wP I (wP I (wP I (Aa (zE (zA (zB (wP I (wB 0 I I I (wP I (wB 1 I I I (wC I I (fun W h=>(BF p.num (q.den:Nat) hp.1 hq.2 W (ht.hp h)).cast (Fi h1)) ?_)))))))))))
 iterate 5 refine wP I ?_
 refine Aa (zE (zA (zA (zB (wP I (wP I (Aa (zE (zS I (zI (zE (zA (zB ?_)))))))))))))
 refine wP I (wB 1 I I I (wP I (wB 0 I I I (wC I I (fun W h=>(BF q.num (p.den:Nat) hq.1 hp.2 W (ht.hp h)).cast (H7 h2)) ?_))))
 iterate 5 refine wP I ?_
 refine Aa (zE (zA (zB ?_)))
 iterate 6 refine wP I ?_
 exact Aa (zE (zO (wR3 I I I)))
theorem H2 (p q:Rat) (hp:okQ p) (hq:okQ q) (h: ¬BC p q): ∃s, ∀(W:World) (_:AA W),
  Ad Tryz.prog 85 #[Cn p,Cn q] W (fun _:Unit=> .tuple #[str s,str [], .int .i64 4]) (fun _=>True) (fun _=>[]):=by
 by_cases h1:okN (p.num*(q.den:Nat))
 ·exact⟨_,fun W ht=>K9 p q hp hq h1 (fun h2=>h ⟨h1,h2⟩) W ht⟩
 ·exact⟨_,fun W ht=>K1 p q hp hq h1 W ht⟩
theorem ND (p q r:Rat) (b h:Nat) (z:Int) (hp:okQ p) (hq:okQ q) (hr:nrm z ((p.den:Nat)*(q.den:Nat))=r) (hE:AN Tryz.prog h=true)
  (hop:BC p q→ ∀W,AA W→Ad Tryz.prog h #[str (itoa (p.num*(q.den:Nat))),str (itoa (q.num*(p.den:Nat)))] W (fun _:Unit=>JN z) (fun _=>True) (fun _=>[])) (W:World) (ht:AA W) (hrow:Ai W b 0 [.func (.func h) #[] #[]]):
  Ad Tryz.prog 150 #[Cn p,Cn q,Af b] W (fun _:Unit=>if BC p q∧okN z∧okN ((p.den:Nat)*(q.den:Nat)) then .tuple #[str (Ac r), .int .i64 0] else .tuple #[str [], .int .i64 4]) (fun _=>True) (fun _=>[]):=by
 by_cases hx:BC p q
 ·by_cases hz:okN z
  ·by_cases hd:okN ((p.den:Nat)*(q.den:Nat))
   ·rw[if_pos ⟨hx,hz,hd⟩]
    exact(Hq p q b h z hp hq hx.1 hx.2 hz hd hE (fun W2 h2=>(hop hx W2 h2).cast (Fi hz)) W ht hrow).cast (by rw[hr])
   ·rw[if_neg fun e=>hd e.2.2]
    refine Ab (args:=[Cn p,Cn q,Af b]) Tryz.func150 I I I ?_
    refine zA (zB ?_)
    (refine Ak rfl rfl rfl rfl ?_;intro)
    (refine Ak rfl rfl rfl rfl ?_;intro)
    refine wP I (wP I (Aa (zE (zA (zB (wB 0 I I I (wB 1 I I I (wC I I (fun W h=>CD p q hp hq hx.1 hx.2 W (ht.hp h)) ?_))))))))
    iterate 7 refine wP I ?_
    refine Aa (zE (zA (zA (zB (wP I (wP I (Aa (zE (zS I (zI (zE (zA (zB ?_)))))))))))))
    refine wL 0 I I (fun W h=>hrow.hp h) I (wP I (wP I ?_))
    refine Bh (capt:=[]) I I I I I I hE (fun W h=>(hop hx W (ht.hp h)).cast (Fi hz)) ?_
    iterate 5 refine wP I ?_
    refine Aa (zE (zA (zA (zB (wP I (wP I (Aa (zE (zS I (zI (zE (zA (zB ?_)))))))))))))
    refine wP I (wB 0 I I I (wP I (wB 1 I I I (wC I I (fun W h=>(BF (p.den:Nat) (q.den:Nat) hp.2 hq.2 W (ht.hp h)).cast (H7 hd)) ?_))))
    iterate 5 refine wP I ?_
    refine Aa (zE (zA (zA (zB (wP I (wP I (Aa (zE (zR I (zA (zB (wP I (wP I (wP I ?_))))))))))))))
    exact Aa (zE (zO (zP (wR2 I I I))))
  ·rw[if_neg fun e=>hz e.2.1]
   refine Ab (args:=[Cn p,Cn q,Af b]) Tryz.func150 I I I ?_
   refine zA (zB ?_)
   (refine Ak rfl rfl rfl rfl ?_;intro)
   (refine Ak rfl rfl rfl rfl ?_;intro)
   refine wP I (wP I (Aa (zE (zA (zB (wB 0 I I I (wB 1 I I I (wC I I (fun W h=>CD p q hp hq hx.1 hx.2 W (ht.hp h)) ?_))))))))
   iterate 7 refine wP I ?_
   refine Aa (zE (zA (zA (zB (wP I (wP I (Aa (zE (zS I (zI (zE (zA (zB ?_)))))))))))))
   refine wL 0 I I (fun W h=>hrow.hp h) I (wP I (wP I ?_))
   refine Bh (capt:=[]) I I I I I I hE (fun W h=>(hop hx W (ht.hp h)).cast (H7 hz)) ?_
   iterate 5 refine wP I ?_
   refine Aa (zE (zA (zA (zB (wP I (wP I (Aa (zE (zR I (zA (zB (wP I (wP I (wP I ?_))))))))))))))
   exact Aa (zE (zO (zP (wR2 I I I))))
 ·rw[if_neg fun e=>hx e.1]
  obtain⟨s,hs⟩:=H2 p q hp hq hx
  refine Ab (args:=[Cn p,Cn q,Af b]) Tryz.func150 I I I ?_
  refine zA (zB ?_)
  (refine Ak rfl rfl rfl rfl ?_;intro)
  (refine Ak rfl rfl rfl rfl ?_;intro)
  refine wP I (wP I (Aa (zE (zA (zB (wB 0 I I I (wB 1 I I I (wC I I (fun W h=>hs W (ht.hp h)) ?_))))))))
  iterate 7 refine wP I ?_
  refine Aa (zE (zA (zA (zB (wP I (wP I (Aa (zE (zR I (zA (zB (wP I (wP I (wP I ?_))))))))))))))
  exact Aa (zE (zO (zP (wR2 I I I))))
theorem Tg {p q:Rat}:HL p q↔BC p q∧okN (p.num*(q.den:Nat)+q.num*(p.den:Nat))∧okN ((p.den:Nat)*(q.den:Nat)):=⟨fun h=>⟨⟨h.1,h.2.1⟩,h.2.2.2,h.2.2.1⟩,fun h=>⟨h.1.1,h.1.2,h.2.2,h.2.1⟩⟩
theorem Ee {p q:Rat}:HL p (-q)↔BC p q∧okN (p.num*(q.den:Nat)-q.num*(p.den:Nat))∧okN ((p.den:Nat)*(q.den:Nat)):=by
 have e:(-q).num= -q.num:=rfl
 have d:(-q).den=q.den:=rfl
 unfold HL BC okN
 rw[e,d,Int.neg_mul,Int.natAbs_neg, ←Int.sub_eq_add_neg]
 exact⟨fun h=>⟨⟨h.1,h.2.1⟩,h.2.2.2,h.2.2.1⟩,fun h=>⟨h.1.1,h.1.2,h.2.2,h.2.1⟩⟩
theorem VJ {a ok:Prop} [Decidable a] [Decidable ok] (h:ok↔a) (r:Rat):(if a then Value.tuple #[str (Ac r), .int .i64 0] else .tuple #[str [], .int .i64 4])=opV ok r:=by
 by_cases c:a
 ·rw[if_pos c,LU (h.2 c)]
 ·rw[if_neg c,Rm fun e=>c (h.1 e)]
theorem S5 (ok:Prop) [Decidable ok] (r:Rat): ∃s e,opV ok r= .tuple #[str s, .int .i64 e]:=by unfold opV;split<;>exact⟨_,_,rfl⟩
theorem Rk {p q:Rat} (hs:smQ p∧smQ q):HL p q∧HL p (-q)∧GG p q∧BC p q:=by
 have m1:=CG hs.1.1 (CB q hs.2)
 have m2:=CG hs.2.1 (CB p hs.1)
 have m3:=CG (CB p hs.1) (CB q hs.2)
 have m4:=CG hs.1.1 hs.2.1
 have k: ∀z:Int,z.natAbs<10^18→okN z:=fun z h=>Mt (Nat.lt_trans h (by decide))
 have d1:BC p q:=⟨k _ (by omega),k _ (by omega)⟩
 exact⟨Tg.2 ⟨d1,k _ (by omega),k _ (by omega)⟩,Ee.2 ⟨d1,k _ (by omega),k _ (by omega)⟩,⟨k _ (by omega),k _ (by omega)⟩,d1⟩
theorem Q2 (p q:Rat) (hkp:okQ p) (hkq:okQ q) (W0:World) (hv:AL W0) (ht:AA W0):
  Ad Tryz.prog 21 #[str (Ac p),str (Ac q)] W0 (fun _:Unit=>opV (HL p (-q)) (p-q)) (fun _=>True) (fun _=>[]):=by
 obtain⟨rs,re,hr⟩:=S5 (HL p (-q)) (p-q)
 have hlp:=AQ hkp
 have hlq:=AQ hkq
 refine Ab (args:=[str (Ac p),str (Ac q)]) Tryz.func21 I I I ?_
 refine zA (zB (wP I (wP I (Aa (zE (zA (zA (zB (wP I (wP I ?_))))))))))
 have hquick: ∀W,AA W→Ad Tryz.prog 64 #[str (Ac p),str (Ac q), .func (.func 76) #[] #[]] W (fun _:Unit=>if smQ p∧smQ q then .tuple #[str (Ac (p-q)), .bool true] else .tuple #[str [], .bool false]) (fun _=>True) (fun _=>[]):=
  fun W ht=>D3 p q (p-q) (p.num*(q.den:Nat)-q.num*(p.den:Nat)) ((p.den:Nat)*(q.den:Nat)) _ (by kernel_rfl) (by omega) (by omega) (fun hp hq=>by
   have m1:=CG hp.1 (CB q hq)
   have m2:=CG hq.1 (CB p hp)
   have m3:=CG (CB p hp) (CB q hq)
   exact⟨My _ _ _ _ hp.1 (CB p hp) hq.1 (CB q hq),Dt,by omega,by omega,H8 p q⟩) W ht
 by_cases hs:smQ p∧smQ q
 ·refine wC I I (fun W h=>(hquick W (ht.hp h)).cast (if_pos hs)) ?_
  iterate 5 refine wP I ?_
  refine Aa (zE (zA (zB (wP I (Aa (zE (zR I (zA (zB (wP I (wP I (wP I (Aa ?_)))))))))))))
  exact zE (zO (zP (A9 tH I (.tmp I) (.tmp I) () (LU (Rk hs).2.1).symm tO fun W _=>As.nil _ _)))
 ·refine wC I I (fun W h=>(hquick W (ht.hp h)).cast (if_neg hs)) ?_
  iterate 5 refine wP I ?_
  refine Aa (zE (zA (zB (wP I (Aa (zE (zS I (zI (zE (zA (zB (wP I (wP I ?_)))))))))))))
  refine wD (X:=Nat) I I (fun W _=>Fe 77 W) ?_
  intro b18 _
  exact wC I I (fun W hp=>DC p q rs re 150 [Af b18] hkp hkq W (hv.hp hp) (ht.hp hp) (by kernel_rfl) (fun W' hb=>(ND p q (p-q) b18 77 (p.num*(q.den:Nat)-q.num*(p.den:Nat)) hkp hkq (H8 p q) (by kernel_rfl) (fun hx W2 ht2=>Ld _ _ hx.1 hx.2 W2 ht2) W' ((ht.hp hp).below hb) ((Ai.of_bx hp 0 I I).below (Nat.le_refl _) hb)).cast ((VJ Ee _).trans hr))) (wP I (wP I (wP I (wP I (Aa (zE (zO (wR2 I I hr.symm))))))))
theorem Q6 (p q:Rat) (hp:okQ p) (hq:okQ q) (hno: ¬GG p q) (W:World) (ht:AA W):
  Ad Tryz.prog 67 #[Cn p,Cn q] W (fun _:Unit=> .tuple #[str [], .int .i64 4]) (fun _=>True) (fun _=>[]):=by
 refine Ab (args:=[Cn p,Cn q]) Tryz.func67 I I I ?_
 refine zA (zB ?_)
 (refine Ak rfl rfl rfl rfl ?_;intro)
 (refine Ak rfl rfl rfl rfl ?_;intro)
 refine wP I (wP I (Aa (zE (zA (zB (wP I (wB 0 I I I (wP I (wB 1 I I I ?_)))))))))
 by_cases hz:okN (p.num*q.num)
 ·refine wC I I (fun W h=>(BF p.num q.num hp.1 hq.1 W (ht.hp h)).cast (Fi hz)) ?_
  iterate 5 refine wP I ?_
  refine Aa (zE (zA (zA (zB (wP I (wP I (Aa (zE (zS I (zI (zE (zA (zB ?_)))))))))))))
  refine wP I (wB 0 I I I (wP I (wB 1 I I I (wC I I (fun W h=>(BF (p.den:Nat) (q.den:Nat) hp.2 hq.2 W (ht.hp h)).cast (H7 fun hd=>hno ⟨hz,hd⟩)) ?_))))
  iterate 5 refine wP I ?_
  refine Aa (zE (zA (zA (zB (wP I (wP I (Aa (zE (zR I (zA (zB (wP I (wP I (wP I ?_))))))))))))))
  exact Aa (zE (zO (zP (wR2 I I I))))
 ·refine wC I I (fun W h=>(BF p.num q.num hp.1 hq.1 W (ht.hp h)).cast (H7 hz)) ?_
  iterate 5 refine wP I ?_
  refine Aa (zE (zA (zA (zB (wP I (wP I (Aa (zE (zR I (zA (zB (wP I (wP I (wP I ?_))))))))))))))
  exact Aa (zE (zO (zP (wR2 I I I))))
theorem Qx (p q:Rat) (hp:okQ p) (hq:okQ q) (W:World) (ht:AA W):
  Ad Tryz.prog 67 #[Cn p,Cn q] W (fun _:Unit=>opV (GG p q) (p*q)) (fun _=>True) (fun _=>[]):=by
 by_cases h:GG p q
 ·exact(LI p q hp hq h.1 h.2 W ht).cast (LU h).symm
 ·exact(Q6 p q hp hq h W ht).cast (Rm h).symm
theorem Qa (p q:Rat) (hkp:okQ p) (hkq:okQ q) (W0:World) (hv:AL W0) (ht:AA W0):
  Ad Tryz.prog 18 #[str (Ac p),str (Ac q)] W0 (fun _:Unit=>opV (GG p q) (p*q)) (fun _=>True) (fun _=>[]):=by
 obtain⟨rs,re,hr⟩:=S5 (GG p q) (p*q)
 have hlp:=AQ hkp
 have hlq:=AQ hkq
 refine Ab (args:=[str (Ac p),str (Ac q)]) Tryz.func18 I I I ?_
 refine zA (zB (wP I (wP I (Aa (zE (zA (zA (zB (wP I (wP I ?_))))))))))
 have hquick: ∀W,AA W→Ad Tryz.prog 64 #[str (Ac p),str (Ac q), .func (.func 65) #[] #[]] W (fun _:Unit=>if smQ p∧smQ q then .tuple #[str (Ac (p*q)), .bool true] else .tuple #[str [], .bool false]) (fun _=>True) (fun _=>[]):=
  fun W ht=>D3 p q (p*q) (p.num*q.num) ((p.den:Nat)*(q.den:Nat)) _ (by kernel_rfl) (by omega) (by omega) (fun hp hq=>by
   have m1:=CG hp.1 hq.1
   have m3:=CG (CB p hp) (CB q hq)
   exact⟨Mu _ _ _ _ hp.1 (CB p hp) hq.1 (CB q hq),Dt,by omega,by omega,IJ p q⟩) W ht
 by_cases hs:smQ p∧smQ q
 ·refine wC I I (fun W h=>(hquick W (ht.hp h)).cast (if_pos hs)) ?_
  iterate 5 refine wP I ?_
  refine Aa (zE (zA (zB (wP I (Aa (zE (zR I (zA (zB (wP I (wP I (wP I (Aa ?_)))))))))))))
  exact zE (zO (zP (A9 tH I (.tmp I) (.tmp I) () (LU (Rk hs).2.2.1).symm tO fun W _=>As.nil _ _)))
 ·refine wC I I (fun W h=>(hquick W (ht.hp h)).cast (if_neg hs)) ?_
  iterate 5 refine wP I ?_
  refine Aa (zE (zA (zB (wP I (Aa (zE (zS I (zI (zE (zA (zB (wP I (wP I ?_)))))))))))))
  exact wC I I (fun W hp=>DC p q rs re 67 [] hkp hkq W (hv.hp hp) (ht.hp hp) (by kernel_rfl) (fun W' hb=>(Qx p q hkp hkq W' ((ht.hp hp).below hb)).cast hr)) (wP I (wP I (wP I (wP I (Aa (zE (zO (wR2 I I hr.symm))))))))
-- BOXES 5
-- CODE2
def Ks (p q:Rat):Prop:=HL p (-q)
instance (p q:Rat):Decidable (Ks p q):=inferInstanceAs (Decidable (HL p (-q)))
-- BOXES 5
-- CODE2
theorem RX {z d:Int} (hd:d≠0) (hz:okN z) (hk:okN d):okQ (nrm z d):=(G4 (k:=mxd) z hd hz hk).ok (by decide)
theorem SY {p q:Rat} (h:Ks p q):okQ (p-q):=by
 rw[←H8]
 have h':=Ee.1 h
 exact RX Dt h'.2.1 h'.2.2
theorem TL {p q:Rat} (h:GG p q):okQ (p*q):=by
 rw[←IJ]
 exact RX Dt h.1 h.2
def okP (p:Ar):Prop:=okQ p.1∧okQ p.2
-- BOXES 5
-- CODE2
abbrev PtS:=List UInt8×List UInt8
def QS (W:World) (p:Option Addr) (l:List PtS):Prop:=l=[]∨ ∃b off,p=some ⟨b,off,none⟩∧ ∀i (hi:i<l.length),Ai W b (off+i*2) [str l[i].1,str l[i].2]
theorem QS.hp {W0 W:World} {bxs:List Bx} {p:Option Addr} {l:List PtS} (h:QS W0 p l) (hp:Hp W0 bxs W):QS W p l:=by
 rcases h with h|⟨b,off,e,h⟩
 ·exact Or.inl h
 ·exact Or.inr ⟨b,off,e,fun i hi=>(h i hi).hp hp⟩
-- BOXES 5
-- CODE2
def M4:List PtS→Int
 |[]=>0
 |x::l=>if (rdR x.1).2≠0 then(rdR x.1).2 else if (rdR x.2).2≠0 then(rdR x.2).2 else M4 l
theorem Tf {l:List PtS} {i:Nat} (h:i<l.length):M4 (l.drop i)=if (rdR l[i].1).2≠0 then(rdR l[i].1).2 else if (rdR l[i].2).2≠0 then(rdR l[i].2).2 else M4 (l.drop (i+1)):=by
 rw[List.drop_eq_getElem_cons h]
 rfl
-- BOXES 4
-- CODE2
section
variable {P:Program} {N:Nat} {D:List Deferred} {ops:List Oper} {o:Oper} {rest:List Oper} {env:Env} {A A2:World→Prop} {R:Act→World→Prop}
theorem T9 (k:Nat) {d:Nat} {t e:TypeId} {m:Nat} {parts:Array (Nat×Operand)} {vs:List (Nat×Value)} (z:Value) {c:List Value} (ht:P.underlying t=some (.array m e)) (hz: ∀W,(zeroValue t).run P W= .ok z W) (hs: ∀W,(Go.sizeOf e).run P W= .ok k W)
  (hg:A0 ops N env o=some true) (hd:o.dst=some d) (ho:o.op= .build t parts) (hp:Dr (evO N env) parts.toList=some vs) (hc:Fz (Ir k) z.cells.toList vs=some c)
  (h:WQ P N D ops A2 R rest ((d, .agg c.toArray)::env) A):WQ P N D ops A2 R (o::rest) env A:=
 Dx hg hd (fun c e=>by rw[ho] at e;cases e) (fun ρ W hρ _=>by
  have hparts:(parts.map fun(i,x)=>(i,ρ x)).toList=vs:=by rw[←D6 hρ hp];simp
  have hfill:=I8 hc
  simp only[Array.toArray_toList] at hfill
  have hfill':Instr.fill (fun i=>some (i*k,k)) z.cells (parts.map fun(i,x)=>(i,ρ x)).toList=some c.toArray:=by rw[hparts];exact hfill
  simp only[execOp,ho,Instr.build,Sem.run_bind,hz,Result.andThen_ok,run_underlying ht,hs,Sem.run_pure]
  rw[hfill']
  simp) h
end
section
variable {r:Option Nat} {n:Nat} {P:Program} {N:Nat} {D:List Deferred} {ops:List Oper} {Q:Exit→Act→World→Prop} {o:Oper} {rest:List Oper} {env:Env} {A A2:World→Prop} {R:Act→World→Prop}
theorem HS {ρ:Operand→Value} {t e:TypeId} {m c:Nat} {x y:Operand} {k:IntKind} {b off:Nat} {z:Int} (ht:P.underlying t=some (.array m e)) (hs: ∀W,(Go.sizeOf e).run P W= .ok c W) (ho:o.op= .indexAddr t x y)
  (hx:ρ x= .pointer (some ⟨b,off,none⟩)) (hy:ρ y= .int k z) (h0:0≤z∧z<m) (W:World):(execOp ρ o).run P W= .ok (.value (.pointer (some ⟨b,off+z.toNat*c,none⟩))) W:=by
 simp[execOp,ho,hx,hy,Instr.indexAt,Instr.sureAddr,asIntOf,run_underlying ht,hs,h0.1,h0.2,Addr.add_none]
theorem DU {d:Nat} {t e:TypeId} {m c:Nat} {x y:Operand} {k:IntKind} {b off:Nat} {z:Int} (ht:P.underlying t=some (.array m e)) (hs: ∀W,(Go.sizeOf e).run P W= .ok c W) (hg:A0 ops N env o=some true) (hd:o.dst=some d) (ho:o.op= .indexAddr t x y)
  (hx:evO N env x=some (.pointer (some ⟨b,off,none⟩))) (hy:evO N env y=some (.int k z)) (h0:0≤z∧z<m)
  (h:WL r n P N D ops Q rest ((d, .pointer (some ⟨b,off+z.toNat*c,none⟩))::env) A):WL r n P N D ops Q (o::rest) env A:=
 Cu hg hd (fun c e=>by rw[ho] at e;cases e) (fun _ W hρ _=>HS ht hs ho (hρ _ _ hx) (hρ _ _ hy) h0 W) h
theorem Bq {d:Nat} {t e:TypeId} {m c:Nat} {x y:Operand} {k:IntKind} {b off:Nat} {z:Int} (ht:P.underlying t=some (.array m e)) (hs: ∀W,(Go.sizeOf e).run P W= .ok c W) (hg:A0 ops N env o=some true) (hd:o.dst=some d) (ho:o.op= .indexAddr t x y)
  (hx:evO N env x=some (.pointer (some ⟨b,off,none⟩))) (hy:evO N env y=some (.int k z)) (h0:0≤z∧z<m)
  (h:WQ P N D ops A2 R rest ((d, .pointer (some ⟨b,off+z.toNat*c,none⟩))::env) A):WQ P N D ops A2 R (o::rest) env A:=
 Dx hg hd (fun c e=>by rw[ho] at e;cases e) (fun _ W hρ _=>HS ht hs ho (hρ _ _ hx) (hρ _ _ hy) h0 W) h
end
def BG (W:World) (p:Option Addr) (l:List Ar):Prop:=l=[]∨ ∃b off,p=some ⟨b,off,none⟩∧ ∀i (hi:i<l.length),Ai W b (off+i*2) [str (Ac l[i].1),str (Ac l[i].2)]
theorem BG.below {W W':World} {p:Option Addr} {l:List Ar} {n:Nat} (h:BG W p l) (hn:W.heap.size≤n) (hb:Below n W W'):BG W' p l:=by
 rcases h with h|⟨b,off,h1,h2⟩
 ·exact .inl h
 ·exact .inr ⟨b,off,h1,fun i hi=>(h2 i hi).below hn hb⟩
theorem BG.hp {W0 W:World} {bxs:List Bx} {p:Option Addr} {l:List Ar} (h:BG W0 p l) (hp:Hp W0 bxs W):BG W p l:=h.below (Nat.le_refl _) hp.below
theorem BG.at_ {W:World} {p:Option Addr} {l:List Ar} (h:BG W p l) {i:Nat} (hi:i<l.length): ∃g off,p=some ⟨g,off,none⟩∧ ∀k (hk:k<l.length),Ai W g (off+k*2) [str (Ac l[k].1),str (Ac l[k].2)]:=by
 rcases h with h|⟨g,off,e,h⟩
 ·rw[h] at hi;exact absurd hi (Nat.not_lt_zero _)
 ·exact⟨g,off,e,h⟩
abbrev ptS (q:Ar):PtS:=(Ac q.1,Ac q.2)
structure TM (b:Nat) (p:Option Addr) (cap:Nat) (l:List Ar) (W:World):Prop where
 var:Ai W b 0 [slv p l.length cap]
 pts:BG W p l
abbrev sdV (p q:Ar):Value:= .agg #[str (Ac p.1),str (Ac p.2),str (Ac q.1),str (Ac q.2)]
abbrev Xu (l:List Ar) (k:Nat):List Value:=[.int .i64 (k:Nat),sdV (Av l k) (Av l (k+1))]
theorem EF (p:Option Addr) (n cap:Nat) (W:World):Ad Tryz.prog 282 #[slv p n cap] W (fun b:Nat=> .func (.func 328) #[] #[Af b]) (fun _=>True) (fun b=>[⟨b,210,[slv p n cap],true,none⟩]):=by
 refine Ab (args:=[slv p n cap]) Tryz.func282 I I I ?_
 refine zA (zB ?_)
 (refine Ak rfl rfl rfl rfl ?_;intro)
 refine wP I (Aa ?_)
 rename_i b
 exact zE (zA (zB (wP I (wP I (Aa (zE (zO (Ay tH I (.tmp I) b I tO fun W1 hp=>As.of_hp hp))))))))
abbrev MG (b:Nat) (q:Ar):List (Nat×Obj):=[(b, .cells (cvV q).cells 62 (0,0))]
theorem Fx (l:List Ar) (b1:Nat) (p:Option Addr) (cap:Nat) (hn:l.length<1099511627776):N1 Tryz.prog 328 [Af b1] l.length (Xu l) (fun _=>TM b1 p cap l):=by
 refine⟨fun y J Jx hN hB hA hU hY W hJ=> ?_⟩
 have hdr: ∀k L W,J k L W→J k L { W with drawn:=W.drawn+1 }:=fun k L W h=>hB k L W _ h ⟨rfl,rfl,rfl,Nat.le_refl _,fun _ _=>rfl⟩
 have hp0:=(hN _ _ W hJ).1.pts
 refine C0 (args:=[.func (.yield y) #[] #[],Af b1]) (J0:=J 0 []) (Jm:=fun W=> ∃L,J l.length L W) Tryz.func328 I I I hJ ?_
 refine zA (zB (wL 0 I I (fun W hp=>(hN _ _ W hp).1.var) I (wP I (wP I (Aa (zE (zH ?_)))))))
 refine C7 (X:=Nat×List (Nat×Obj)) (fun s=>[(0, .func (.yield y) #[] #[]),(1,Af b1),(5,slv p l.length cap),(6, .int .i64 (l.length:Nat)),(7, .int .i64 (s.1:Nat))]) (fun s W=>J s.1 s.2 W)
  (fun s=>s.1≤l.length) (fun s=>l.length-s.1) (0,[]) (Nat.zero_le _) ⟨rfl,rfl,rfl,rfl,rfl,trivial⟩ (fun W hp=>hp) ?_
 rintro⟨i,L⟩ hi
 have hi:i≤l.length:=hi
 refine zA (zB (wP I ?_))
 by_cases hlt:i<l.length
 rotate_left
 ·refine wU 8 false I (dF (by omega)) (Aa (zE (zA (zS I (zJ (zK (zK (zL ?_))))))))
  exact EA I fun W hp=>⟨L,by
   have e:i=l.length:=by omega
   have hp:J i L W:=hp
   rw[e] at hp
   exact hp⟩
 refine wU 8 true I (dT (by omega)) (Aa (zE (zA (zR I (zI (zE (zA (zH (zA (zB ?_))))))))))
 have hn0:0<l.length:=by omega
 have l2:(i+1)%l.length<l.length:=Nat.mod_lt _ hn0
 obtain⟨g,off,hpe,hrow⟩: ∃g off,p=some ⟨g,off,none⟩∧ ∀W k L,J k L W→ ∀j,j<l.length→Ai W g (off+j*2) [str (Ac (Av l j).1),str (Ac (Av l j).2)]:=by
  obtain⟨g,off,e,_⟩:=hp0.at_ hlt
  refine⟨g,off,e,fun W1 k L1 h1 j hj=> ?_⟩
  obtain⟨g',off',e',h2⟩:=(hN _ _ W1 h1).1.pts.at_ hj
  rw[e] at e'
  cases e'
  rw[CT hj]
  exact h2 j hj
 subst hpe
 have hz:(l.length:Int)≠0:=by omega
 have e2:(w64 ((i:Int)+1)).tmod (l.length:Int)=(((i+1)%l.length:Nat):Int):=by
  rw[Ap (x:=(i:Int)+1) (by omega) (by omega)]
  rfl
 refine wP I ?_
 refine wJ ?_
 refine wL 0 I I (fun W hp=>hrow W _ _ hp i hlt) I ?_
 refine JK (fun b W=>J i [(b, .cells (Value.agg #[str [],str []]).cells 62 (0,0))] W) I I I (Tryz.hZ.get I) (fun W W' b hp hb hl ho=>hA _ _ W W' b _ hp hb hl ho) fun b=> ?_
 refine wP I ?_
 refine JE (cs:=[str [],str []]) (ty:=62) (fun W=>J i (MG b (Av l i)) W) tH I I I I I I (fun W hp=>(hN _ _ W hp).2 (b,_) (List.mem_cons_self ..)) I I I (fun W W' hp hu=>hU _ _ _ _ W W' hp hu) ?_
 refine Aa (zE (Az ?_))
 refine Oh 12 (hdr _ _) Tryz.mixed (by kernel_rfl) I ?_
 refine qP I (qP I (qL 0 I I (fun W hp=>show Ai W b 0 (cvV (Av l i)).cells.toList from Ai.of_block ((hN _ _ W hp).2 (b,_) (List.mem_cons_self ..))) I (qL 0 I I (fun W hp=>(hN _ _ W hp).1.var) I (qP I (qP I (qL 0 I I (fun W hp=>(hN _ _ W hp).1.var) I (qP I ?_)))))))
 refine Ed I I I I I hz ?_
 refine qV 20 (((i+1)%l.length:Nat):Int) I e2 ?_
 refine qJ ?_
 refine qL 0 I I (fun W hp=>hrow W _ _ hp ((i+1)%l.length) l2) I ?_
 refine T9 2 (.agg #[str [],str [],str [],str []]) Tryz.underlying321 (fun W=>by kernel_rfl) Tryz.sizeOf62 I I I I I ?_
 refine AB ?_
 have hYk: ∀W,J i (MG b (Av l i)) W→YieldAt (Fw none) 0 Tryz.prog y (Xu l i).toArray W fun e W'=>(e= .returned (.bool true)∧J (i+1) (MG b (Av l i)) W')∨(e= .returned (.bool false)∧Jx W'):=fun W h=>hY _ _ W hlt h
 unfold Xu at hYk
 rw[←J7 l (i+1)] at hYk
 refine DK (A1:=fun W=>J (i+1) (MG b (Av l i)) W) (A2:=Jx) I I I I I I hYk ?_ ?_
 rotate_left
 ·exact wP I (Aa (zE (zR I (zO (zQ (zP (zP (zQ (BI I (fun W h=>h))))))))))
 exact wP I (Aa (zE (zS I (zI (zN (zE (zB (wP I (wV 26 ((i+1:Nat):Int) I (Ax (by omega)) (wP I (Aa (CA (i+1,MG b (Av l i)) hlt (by show l.length-(i+1)<l.length-i;omega) ⟨I,I,I,I,I,tO⟩ (fun W hp=>hp)))))))))))))
theorem Mh (W:World) (p:Option Addr) (cap:Nat) (l:List PtS) (hA:QS W p l) (hn:l.length<4611686018427387904) (hs: ∀x∈l,x.1.length≤4000000000∧x.2.length≤4000000000) (hv:AL W) (ht:AA W):
  Ad Tryz.prog 318 #[slv p l.length cap] W (fun _:Unit=> .int .i64 (M4 l)) (fun _=>True) (fun _=>[]):=by
 refine Ab (args:=[slv p l.length cap]) Tryz.func318 I I I ?_
 refine zA (zB (wP I (Aa (zE (zA (zA (zB (wP I (wP I (wP I (Aa (zE (zH ?_)))))))))))))
 refine Aw (X:=Nat) (fun i=>[(2, .int .i64 0),(8,slv p l.length cap),(9, .int .i64 (l.length:Nat)),(10, .int .i64 (i:Nat))]) (fun _=>[]) (fun i=>i≤l.length∧M4 l=M4 (l.drop i)) (fun i=>l.length-i) 0 ⟨Nat.zero_le _,I⟩ ⟨I,I,I,I,tO⟩ [] I ?_
 rintro i ⟨hi,he⟩
 have hi:i≤l.length:=hi
 have he:M4 l=M4 (l.drop i):=he
 refine zA (zB (wP I ?_))
 by_cases hlt:i<l.length
 rotate_left
 ·refine wU 11 false I (dF (by omega)) (Aa (zE (zA (zS I (zJ (zK (zK (zL (zE (zA (zB (wP I (Aa ?_)))))))))))))
  exact zE (zO (wR1 I I (by rw[he,List.drop_of_length_le (by omega)];rfl)))
 refine wU 11 true I (dT (by omega)) (Aa (zE (zA (zR I (zI (zE (zA (zH (zA (zB ?_))))))))))
 obtain⟨b,off,rfl,hrow⟩: ∃b off,p=some ⟨b,off,none⟩∧ ∀i (hi:i<l.length),Ai W b (off+i*2) [str l[i].1,str l[i].2]:=by
  rcases hA with h|h
  ·rw[h] at hlt;exact absurd hlt (by simp)
  ·exact h
 have hr:=hrow i hlt
 have hz:=hs l[i] (List.getElem_mem _)
 rw[Tf hlt] at he
 obtain⟨⟨x,y⟩,hx⟩: ∃x,x=l[i]:=⟨_,rfl⟩
 rw[←hx] at hr hz he
 simp only at hr hz he
 refine wJ ?_
 refine wL 0 I I (fun W1 hp=>hr.hp hp) I ?_
 (refine Ae Tryz.hZ rfl rfl rfl rfl ?_;intro)
 refine wS 0 I I I (Aa (zE (zA (zB (wP I (wB 0 I I I (wP I (wB 0 I I I ?_))))))))
 refine At Tryz.hZ tH I I I I I I I I I I I fun bS=> ?_
 refine wP I (wP I (Aa ?_))
 rename_i b4
 refine zE (zH ?_)
 refine Aw (X:=Nat) (fun k=>[(2, .int .i64 0),(8,slv (some ⟨b,off,none⟩) l.length cap),(9, .int .i64 (l.length:Nat)),(10, .int .i64 (i:Nat)),(18,slv (some ⟨bS,0,none⟩) 2 2),(19, .int .i64 2),(20, .int .i64 (k:Nat))]) (fun _=>[⟨b4,62,[str x,str y],true,none⟩,⟨bS,25,[str x,str y],true,none⟩]) (fun k=>k=0∨k=1∧(rdR x).2=0∨k=2∧(rdR x).2=0∧(rdR y).2=0) (fun k=>2-k) 0 (Or.inl I) ⟨I,I,I,I,I,I,I,tO⟩ [] I ?_
 rintro k (rfl|⟨rfl,h1⟩|⟨rfl,h1,h2⟩)
 ·refine zA (zB (wP I (Aa (zE (zA (zR I (zI (zE (zA (zH (zA (zB (wI I I (by decide) (by decide) ?_)))))))))))))
  refine wB 1 I I I (wP I (Aa (zE (zA (zB (wP I (wC I I (fun W1 hp=>B0 x hz.1 W1 (hv.hp hp) (ht.hp hp)) (wP I (Aa (zE (zA (zB (wP I (wP I ?_))))))))))))))
  by_cases h1:(rdR x).2=0
  rotate_left
  ·refine wU 27 true I (bne_iff_ne.2 h1) (Aa (zE (zR I (zA (zB (wP I (wP I (Aa (zE (zO (zQ (zP (zP ?_)))))))))))))
   refine zQ (zQ (zP (zP (zQ (zP ?_)))))
   rw[if_pos h1] at he
   exact wR1 I I (by rw[he])
  exact wU 27 false I (bne_eq_false_iff_eq.2 h1) (Aa (zE (zS I (zI (zN (zE (zB (wP I (wP I (Aa (Al 1 (Or.inr (Or.inl ⟨I,h1⟩)) (by decide) ⟨I,I,I,I,I,I,I,tO⟩ [] I)))))))))))
 ·rw[if_neg (fun h=>h h1)] at he
  refine zA (zB (wP I (Aa (zE (zA (zR I (zI (zE (zA (zH (zA (zB (wI I I (by decide) (by decide) ?_)))))))))))))
  refine wB 1 I I I (wP I (Aa (zE (zA (zB (wP I (wC I I (fun W1 hp=>B0 y hz.2 W1 (hv.hp hp) (ht.hp hp)) (wP I (Aa (zE (zA (zB (wP I (wP I ?_))))))))))))))
  by_cases h2:(rdR y).2=0
  rotate_left
  ·refine wU 27 true I (bne_iff_ne.2 h2) (Aa (zE (zR I (zA (zB (wP I (wP I (Aa (zE (zO (zQ (zP (zP ?_)))))))))))))
   refine zQ (zQ (zP (zP (zQ (zP ?_)))))
   rw[if_pos h2] at he
   exact wR1 I I (by rw[he])
  exact wU 27 false I (bne_eq_false_iff_eq.2 h2) (Aa (zE (zS I (zI (zN (zE (zB (wP I (wP I (Aa (Al 2 (Or.inr (Or.inr ⟨I,h1,h2⟩)) (by decide) ⟨I,I,I,I,I,I,I,tO⟩ [] I)))))))))))
 ·rw[if_neg (fun h=>h h1),if_neg (fun h=>h h2)] at he
  refine zA (zB (wP I (Aa (zE (zA (zS I (zJ (zK (zK (zL (zN (zE (zB ?_)))))))))))))
  exact wP I (wV 30 ((i+1:Nat):Int) I (Ax (by omega)) (wP I (Aa (Al (i+1) ⟨hlt,he⟩ (by show l.length-(i+1)<l.length-i;omega) ⟨I,I,I,I,tO⟩ [_,_] I))))
-- BOXES 12
-- CODE2
def I9 (k:Nat) (l:List Ar):Prop:= ∀p∈l,szQ p.1 k∧szQ p.2 k
theorem I9.at_ {k:Nat} {l:List Ar} (h:I9 k l) (h0:0<l.length) (i:Nat):szQ (Av l i).1 k∧szQ (Av l i).2 k:=h _ (H6 h0 i)
theorem Sw {p q r:Ar} {k:Nat} (hp:szQ p.1 k∧szQ p.2 k) (hq:szQ q.1 k∧szQ q.2 k) (hr:szQ r.1 k∧szQ r.2 k) (hk:k≤36):Xn p q r:=by
 have a:=hq.1.sub hp.1
 have b:=hr.2.sub hp.2
 have c:=hq.2.sub hp.2
 have d:=hr.1.sub hp.1
 exact⟨sz2 hq.1 hp.1 (by omega),sz2 hr.2 hp.2 (by omega),sz2 hq.2 hp.2 (by omega),sz2 hr.1 hp.1 (by omega),sz2 a b (by omega),sz2 c d (by omega),sz2 (a.mul b) (c.mul d) (by omega)⟩
theorem Xq {x y:Rat} (h:y<x):Cw x y=1:=by
 have h1:=LQ x y
 rw[dT h] at h1
 have h2:=of_decide_eq_true h1
 rcases Gr x y with e|e|e<;>omega
theorem V4 {p q r:Ar} (h:0<Ew p q r):Rr p q r=1:=Xq (by unfold Ew at h;grind)
theorem Um {l:List Ar} (h:HH l) {k i:Nat} (hk:k<l.length) (hi:i<l.length) (h1:i≠k) (h2:i≠(k+1)%l.length):Rr (Av l k) (Av l (k+1)) (Av l i)=1:=by
 refine V4 (ET.sideS h hk hi h1 ?_ ?_)
 ·intro e
  rw[e,Nat.mod_eq_of_lt (by omega)] at h2
  exact h2 I
 ·rintro⟨e,e2⟩
  rw[e,e2,Nat.mod_self] at h2
  exact h2 I
theorem Ek {W0 W:World} {bxs:List Bx} (hp:Hp W0 bxs W) (k:Nat) {c:Nat} (h:bxs[k]? =some ⟨c,317,[.int .i64 0],true,none⟩):Dc W c:=
 (hp.own.cell k _ h (c,_) (List.mem_cons_self ..)).1
theorem BG.b {W:World} {p:Option Addr} {l:List Ar} (h:BG W p l):QS W p (l.map ptS):=by
 rcases h with e|⟨g,off,e,hr⟩
 ·exact .inl (by rw[e];rfl)
 ·refine .inr ⟨g,off,e,fun i hi=> ?_⟩
  rw[List.getElem_map]
  exact hr i (by rw[List.length_map] at hi;exact hi)
theorem Si: ∀ {l:List Ar},(∀p∈l,okQ p.1∧okQ p.2)→M4 (l.map ptS)=0
 |[],_=>rfl
 |p::l,h=>by
  obtain⟨h1,h2⟩:=h p (List.mem_cons_self ..)
  show(if (rdR (Ac p.1)).2≠0 then _ else if (rdR (Ac p.2)).2≠0 then _ else M4 (l.map ptS))=0
  rw[C3 h1,C3 h2,if_neg (fun h=>h rfl),if_neg (fun h=>h rfl)]
  exact Si fun q hq=>h q (List.mem_cons_of_mem _ hq)
theorem GD (W:World) (p:Option Addr) (cap:Nat) (l:List Ar) (hA:BG W p l) (hn:l.length≤100000) (hk: ∀p∈l,okQ p.1∧okQ p.2) (hv:AL W) (ht:AA W):
  Ad Tryz.prog 318 #[slv p l.length cap] W (fun _:Unit=> .int .i64 0) (fun _=>True) (fun _=>[]):=by
 have h:=Mh W p cap (l.map ptS) hA.b (by rw[List.length_map];omega) (fun x hx=>by
  obtain⟨q,hq,rfl⟩:=List.mem_map.1 hx
  have h1:=AQ (hk q hq).1
  have h2:=AQ (hk q hq).2
  show(Ac q.1).length≤_∧(Ac q.2).length≤_
  omega) hv ht
 rwa [Si hk,List.length_map] at h
theorem OP (l:List Ar) (hP:HH l) (h3:3≤l.length) (hn:l.length≤4096) (hs:I9 36 l) (p:Option Addr) (cap:Nat) (W:World) (hA:BG W p l) (hv:AL W) (ht:AA W):
  Ad Tryz.prog 281 #[slv p l.length cap] W (fun _:Unit=> .int .i64 0) (fun _=>True) (fun _=>[]):=by
 have hn0:0<l.length:=by omega
 have hz:(l.length:Int)≠0:=by omega
 refine Ab (args:=[slv p l.length cap]) Tryz.func281 I I I ?_
 refine zA (zB ?_)
 (refine Ak rfl rfl rfl rfl ?_;intro)
 (refine Ae Tryz.hZ rfl rfl rfl rfl ?_;intro)
 refine Aa ?_
 rename_i b1 b2
 refine zE (zA (zH (zA (zB (wB 0 I I I (wP I (wP I (wU 13 false I (dF (by omega)) (wP I (Aa (zE (zS I (zA ?_)))))))))))))
 refine zB (wB 0 I I I (wP I (wP I (wU 17 false I (dF (by omega)) (wP I (Aa (zE (zS I (zI (zN (zE (zA (zA ?_)))))))))))))
 refine zB (wB 0 I I I (wC I I (fun W1 hp=>GD W1 p cap l (hA.hp hp) (by omega) (fun q hq=>⟨(hs q hq).1.ok (by decide),(hs q hq).2.ok (by decide)⟩) (hv.hp hp) (ht.hp hp)) (wP I (Aa (zE (zA (zB (wP I (wP I (Aa (zE (zS I (zI ?_)))))))))))))
 refine zE (zA (zB ?_))
 refine Au Tryz.hZ tH I I I I I I I I ?_
 (refine Ak rfl rfl rfl rfl ?_;intro)
 (refine Ae Tryz.hZ rfl rfl rfl rfl ?_;intro)
 (refine Ae Tryz.hZ rfl rfl rfl rfl ?_;intro)
 refine wS 3 I I I (wS 4 I I I (Aa ?_))
 rename_i bC b4 b5
 refine zE (zA (zA (zB (wB 0 I I I ?_))))
 refine wD (X:=Nat) I I (fun W1 _=>EF p l.length cap W1) ?_
 intro bp _
 refine Aa (zE (zH ?_))
 refine Eh (X:=Unit) (fun _=>[⟨b1,210,[slv p l.length cap],true,none⟩,⟨b2,28,[.int .i64 0],true,none⟩,⟨bC,317,[.int .i64 0],true,none⟩,⟨b4,315,[Af bC],true,none⟩,⟨b5,4,[.bool false],true,none⟩,⟨bp,210,[slv p l.length cap],true,none⟩])
  (fun _ _=>True) (fun _ _=>False) () rfl (by kernel_rfl) (Fx l bp p cap (by omega)) (fun _=>rfl)
  trivial [] rfl (fun k x W1 _ hp=>⟨Ai.of_bx hp 5 rfl rfl,hA.hp hp⟩) ?_ ?_ (fun _ _ _ _ _ h=>h.elim)
 ·rintro k ⟨⟩ d l' rec L hk _ hrec
  have hk:k<l.length:=hk
  refine zA (zB (wP I (Aa (zE (zB ?_)))))
  (refine Ae Tryz.hZ rfl rfl rfl rfl ?_;intro)
  refine wS 9 I I I (Aa ?_)
  rename_i b7
  refine B4 8 hrec I ?_
  refine B6 (zA (zB (wB 1 I I I (wP I (wP I (Aa (zE (zH ?_))))))))
  refine Aw (X:=Nat) (fun i=>[(1,Af b1),(2,Af b2),(4,Af b4),(5,Af b5),(6, .int .i64 (k:Nat)),(7,Af b7),(29,slv p l.length cap),(30, .int .i64 (l.length:Nat)),(31, .int .i64 (i:Nat))])
   (fun _=>[AS L,⟨b1,210,[slv p l.length cap],true,none⟩,⟨b2,28,[.int .i64 0],true,none⟩,⟨bC,317,[.int .i64 0],true,none⟩,⟨b4,315,[Af bC],true,none⟩,⟨b5,4,[.bool false],true,none⟩,⟨bp,210,[slv p l.length cap],true,none⟩,Bz d,Bb l' rec .busy none,⟨b7,321,(sdV (Av l k) (Av l (k+1))).cells.toList,true,none⟩])
   (fun i=>i≤l.length) (fun i=>l.length-i) 0 (Nat.zero_le _) ⟨rfl,rfl,rfl,rfl,rfl,rfl,rfl,rfl,rfl,trivial⟩ [] rfl ?_
  intro i hi
  have hi:i≤l.length:=hi
  refine zA (zB (wP I ?_))
  by_cases hlt:i<l.length
  rotate_left
  ·exact wU 32 false I (dF (by omega)) (Aa (zE (zA (zS I (zJ (zK (zK (zL (zN (Bg 8 () hrec I tO [_] I))))))))))
  refine wU 32 true I (dT (by omega)) (Aa (zE (zA (zR I (zI (zE (zA (zH (zA (zB ?_))))))))))
  obtain⟨g,off,hpe,hrow⟩:=hA.at_ hlt
  have hrow:=hrow i hlt
  rw[←CT hlt] at hrow
  subst hpe
  refine wP I ?_
  refine wJ ?_
  refine wL 0 I I (fun W1 hp=>hrow.hp hp) I ?_
  (refine Ae Tryz.hZ rfl rfl rfl rfl ?_;intro)
  refine wP I (wS 10 I I I (Aa ?_))
  rename_i b9
  refine zE (zA (zA (zB (wP I (wP I (wP I ?_))))))
  by_cases h1:i=k
  ·refine wU 38 false I (bne_eq_false_iff_eq.2 (by omega)) (wP I ?_)
   iterate 7 refine Ah I I ?_
   refine wP I (wP I ?_)
   iterate 8 refine Ah I I ?_
   refine wP I (Aa (zE (zS I (zI (zE (zA (zB (wB 4 I I I ?_))))))))
   refine AK I I I I ?_
   exact wP I (wB 3 I I I (wP I (Aa (zE (zS I (zI (zN (zE (zB (wP I (wV 67 ((i+1:Nat):Int) I (Ax (by omega)) (wP I (Aa (Al (i+1) hlt (by show l.length-(i+1)<l.length-i;omega) ⟨I,I,I,I,I,I,I,I,I,tO⟩ [_] I))))))))))))))
  refine wU 38 true I (bne_iff_ne.2 (by omega)) (wP I (wP I (wP I (wP I (wV 42 ((k+1:Nat):Int) I (Ax (by omega)) (wB 1 I I I (wP I ?_)))))))
  refine Gq I I I I I hz ?_
  refine wV 45 (((k+1)%l.length:Nat):Int) I I (wP I ?_)
  by_cases h2:i=(k+1)%l.length
  ·refine wU 46 false I (bne_eq_false_iff_eq.2 (by omega)) (wP I (wP I ?_))
   iterate 8 refine Ah I I ?_
   refine wP I (Aa (zE (zS I (zI (zE (zA (zB (wB 4 I I I ?_))))))))
   refine AK I I I I ?_
   exact wP I (wB 3 I I I (wP I (Aa (zE (zS I (zI (zN (zE (zB (wP I (wV 67 ((i+1:Nat):Int) I (Ax (by omega)) (wP I (Aa (Al (i+1) hlt (by show l.length-(i+1)<l.length-i;omega) ⟨I,I,I,I,I,I,I,I,I,tO⟩ [_] I))))))))))))))
  refine wU 46 true I (bne_iff_ne.2 (by omega)) (wP I (wP I (wB 4 I I I ?_)))
  refine DU Tryz.underlying321 Tryz.sizeOf62 I I I I I ⟨by decide,by decide⟩ ?_
  refine wB 9 I I I ?_
  refine DU Tryz.underlying321 Tryz.sizeOf62 I I I I I ⟨by decide,by decide⟩ ?_
  refine wB 9 I I I (wB 10 I I I (wC I I (fun W1 hp=>(QV bC (Av l k) (Av l (k+1)) (Av l i) (Sw (hs.at_ hn0 _) (hs.at_ hn0 _) (hs.at_ hn0 _) (by decide)) W1 (Ek hp 3 I) (hv.hp hp) (ht.hp hp)).cast (v':= .int .i64 1) (by rw[Um hP hk hlt h1 h2])) (wP I (wP I (Aa (zE (zS I (zI (zE (zA (zB (wB 4 I I I ?_))))))))))))
  refine AK I I I I ?_
  exact wP I (wB 3 I I I (wP I (Aa (zE (zS I (zI (zN (zE (zB (wP I (wV 67 ((i+1:Nat):Int) I (Ax (by omega)) (wP I (Aa (Al (i+1) hlt (by show l.length-(i+1)<l.length-i;omega) ⟨I,I,I,I,I,I,I,I,I,tO⟩ [_] I))))))))))))))
 ·rintro⟨⟩ d l' rec _
  refine zN (zE (zA (zA (zB (wB 4 I I I (Aa (zE (zS I (zI (zE (zA (zB (wS 1 I I I ?_)))))))))))))
  refine Aa (zE (zO ?_))
  refine BK 6 I ?_
  exact Ay tH I (.cell 1 I I I I I) () I tO fun W _=>As.nil _ _
-- BOXES 6
-- CODE2
structure LN (W:World) (p:Option Addr) (l:List Ar):Prop where
 poly:HH l
 n3:3≤l.length
 n:l.length≤4096
 sz:I9 36 l
 m:BG W p l
 v:AL W
 t:AA W
theorem LN.hp {W0 W:World} {bxs:List Bx} {p:Option Addr} {l:List Ar} (h:LN W0 p l) (hp:Hp W0 bxs W):LN W p l:=⟨h.poly,h.n3,h.n,h.sz,h.m.hp hp,h.v.hp hp,h.t.hp hp⟩
theorem LN.chk {W:World} {p:Option Addr} {l:List Ar} (h:LN W p l) (cap:Nat):Ad Tryz.prog 281 #[slv p l.length cap] W (fun _:Unit=> .int .i64 0) (fun _=>True) (fun _=>[]):=
 OP l h.poly h.n3 h.n h.sz p cap W h.m h.v h.t
theorem MR (l:List Ar) (p:Option Addr) (cap:Nat) (W:World) (h:LN W p l):
  Ad Tryz.prog 287 #[slv p l.length cap, .slice none 0 0] W (fun _:Unit=> .int .i64 0) (fun _=>True) (fun _=>[]):=by
 refine Ab (args:=[slv p l.length cap, .slice none 0 0]) Tryz.func287 I I I ?_
 refine zA (zB (wP I (Aa (zE (zA (zA (zB (wP I (wC I I (fun W1 hp=>(h.hp hp).chk cap) (wP I (Aa (zE (zS I ?_)))))))))))))
 refine zI (zE (zA (zA (zB (wP I (wP I (wP I (Aa (zE (zH ?_))))))))))
 refine Aw (X:=Unit) (fun _=>[(1, .slice none 0 0),(4, .int .i64 0),(12, .int .i64 0),(13, .int .i64 0)]) (fun _=>[]) (fun _=>True) (fun _=>0) () tO ⟨I,I,I,I,tO⟩ [] I ?_
 intro _ _
 refine zA (zB (wP I (Aa (zE (zA (zS I (zJ (zK (zK (zL (zE (zA (zA ?_)))))))))))))
 refine zB (wP I (wP I (wP I (wP I ?_))))
 iterate 4 refine Ah I I ?_
 refine wP I (wP I ?_)
 iterate 4 refine Ah I I ?_
 exact wP I (Aa (zE (zS I (zI (zE (zA (zB (wP I (Aa (zE (zO (wR1 I I I))))))))))))
structure Ye (f:DY) (q:Ar):Prop where
 m1:Sz2 f.a q.1
 m2:Sz2 f.b q.2
 s:Sz2 (f.a*q.1) (f.b*q.2)
 d:Sz2 (f.a*q.1+f.b*q.2) f.c
structure MT (b4 b5 b6 b7 c:Nat) (f:DY) (W:World):Prop where
 r4:Ai W b4 0 [Af c]
 r5:Ai W b5 0 [str (Ac f.a)]
 r6:Ai W b6 0 [str (Ac f.b)]
 r7:Ai W b7 0 [str (Ac f.c)]
 k:Dc W c
 v:AL W
 t:AA W
theorem Dc.below {W W':World} {c n:Nat} (h:Dc W c) (hn:W.heap.size≤n) (hb:Below n W W'):Dc W' c:=
 (hb.block c (Nat.lt_of_lt_of_le (Array.getElem?_eq_some_iff.1 h).1 hn)).trans h
theorem MT.below {b4 b5 b6 b7 c:Nat} {f:DY} {W W':World} (h:MT b4 b5 b6 b7 c f W) (hb:Below W.heap.size W W'):MT b4 b5 b6 b7 c f W':=
 ⟨h.r4.below (Nat.le_refl _) hb,h.r5.below (Nat.le_refl _) hb,h.r6.below (Nat.le_refl _) hb,h.r7.below (Nat.le_refl _) hb,h.k.below (Nat.le_refl _) hb,h.v.below hb,h.t.below hb⟩
theorem MT.hp {b4 b5 b6 b7 c:Nat} {f:DY} {W0 W:World} {bxs:List Bx} (h:MT b4 b5 b6 b7 c f W0) (hp:Hp W0 bxs W):MT b4 b5 b6 b7 c f W:=h.below hp.below
theorem Jl (c:Nat) (f:DY) (W:World):Ad Tryz.prog 331 #[Af c,str (Ac f.a),str (Ac f.b),str (Ac f.c)] W
  (fun x:Nat×Nat×Nat×Nat=> .func (.func 361) #[] #[Af x.1,Af x.2.1,Af x.2.2.1,Af x.2.2.2]) (fun _=>True)
  (fun x=>[⟨x.1,315,[Af c],true,none⟩,⟨x.2.1,25,[str (Ac f.a)],true,none⟩,⟨x.2.2.1,25,[str (Ac f.b)],true,none⟩,⟨x.2.2.2,25,[str (Ac f.c)],true,none⟩]):=by
 refine Ab (args:=[Af c,str (Ac f.a),str (Ac f.b),str (Ac f.c)]) Tryz.func331 I I I ?_
 refine zA (zB ?_)
 (refine Ak rfl rfl rfl rfl ?_;intro)
 (refine Ak rfl rfl rfl rfl ?_;intro)
 (refine Ak rfl rfl rfl rfl ?_;intro)
 (refine Ak rfl rfl rfl rfl ?_;intro)
 refine wP I (Aa ?_)
 rename_i b4 b5 b6 b7
 exact zE (zA (zB (wP I (wP I (Aa (zE (zO (Ay tH I (.tmp I) (b4,b5,b6,b7) I tO fun W1 hp=>As.of_hp hp))))))))
theorem F6 (b4 b5 b6 b7 c:Nat) (f:DY) (q:Ar) (hz:Ye f q) (W:World) (hL:MT b4 b5 b6 b7 c f W):
  Ad Tryz.prog 361 #[cvV q,Af b4,Af b5,Af b6,Af b7] W (fun _:Unit=>str (Ac (f.at q))) (fun _=>True) (fun _=>[]):=by
 refine Ab (args:=[cvV q,Af b4,Af b5,Af b6,Af b7]) Tryz.func361 I I I ?_
 refine zA (zB ?_)
 (refine Ak rfl rfl rfl rfl ?_;intro)
 refine wP I (Aa (zE (zA (zU (qL 0 I I (fun W1 hp=>(hL.hp hp).r4) I (qL 0 I I (fun W1 hp=>(hL.hp hp).r5) I (qP I (qB 0 I I I (qC I I (fun W1 hp=>Cm c f.a q.1 hz.m1 W1 (hL.hp hp).k (hL.hp hp).v (hL.hp hp).t) (qL 0 I I (fun W1 hp=>(hL.hp hp).r4) I (qL 0 I I (fun W1 hp=>(hL.hp hp).r6) I (qP I (qB 0 I I I ?_)))))))))))))
 refine qC I I (fun W1 hp=>Cm c f.b q.2 hz.m2 W1 (hL.hp hp).k (hL.hp hp).v (hL.hp hp).t) (qP I (qP I (AB (Aa (zE (zA (zU (qL 0 I I (fun W1 hp=>(hL.hp hp).r4) I (qL 0 I I (fun W1 hp=>(hL.hp hp).r4) I (qP I (qP I (qC I I (fun W1 hp=>EU c (f.a*q.1) (f.b*q.2) hz.s W1 (hL.hp hp).k (hL.hp hp).v (hL.hp hp).t) (qL 0 I I (fun W1 hp=>(hL.hp hp).r7) I ?_)))))))))))))
 exact qC I I (fun W1 hp=>BR c (f.a*q.1+f.b*q.2) f.c hz.d W1 (hL.hp hp).k (hL.hp hp).v (hL.hp hp).t) (qP I (AB (Aa (zE (zO (wR1 I I I))))))
abbrev vsC (l:List Rat):List Value:=l.map fun q=>str (Ac q)
theorem W5 (a b:List Rat):vsC (a++b)=vsC a++vsC b:=List.map_append
theorem FM (l:List Ar) (F:Ar→Rat) (g:Nat) (capt:List Value) (hE:AN Tryz.prog g=true) (hn:l.length≤4096) (p:Option Addr) (cap:Nat) (W:World) (hA:BG W p l)
  (hg: ∀q∈l, ∀W1,Below W.heap.size W W1→Ad Tryz.prog g ([cvV q]++capt).toArray W1 (fun _:Unit=>str (Ac (F q))) (fun _=>True) (fun _=>[])):
  Ad Tryz.prog 330 #[slv p l.length cap, .func (.func g) #[] capt.toArray] W (fun V:Vec=>V.val l.length) (fun V=>V.OK 1 l.length (vsC (l.map F))) (fun V=>[V.bx 25 (vsC (l.map F))]):=by
 refine Ab (args:=[slv p l.length cap, .func (.func g) #[] capt.toArray]) Tryz.func330 I I I ?_
 refine zA (zB (wP I (Aa (zE (zA (zB (wP I (Aa (zE (zA (zA (zB (wP I (wP I (wP I ?_)))))))))))))))
 refine Aa (zE (zH ?_))
 refine Cp ?_
 refine Aw (X:=Nat×Vec) (fun s=>[(1, .func (.func g) #[] capt.toArray),(5,s.2.val s.1),(8,slv p l.length cap),(9, .int .i64 (l.length:Nat)),(10, .int .i64 (s.1:Nat))])
  (fun s=>[s.2.bx 25 (vsC ((l.take s.1).map F))]) (fun s=>s.1≤l.length∧s.2.OK 1 s.1 (vsC ((l.take s.1).map F))) (fun s=>l.length-s.1) (0,Vec.empty) ⟨Nat.zero_le _,Vec.OK.empty 1⟩ ⟨rfl,rfl,rfl,rfl,rfl,trivial⟩ [] rfl ?_
 rintro⟨i,V⟩ ⟨hi,hV⟩
 have hi:i≤l.length:=hi
 have hV:V.OK 1 i (vsC ((l.take i).map F)):=hV
 refine zA (zB (wP I ?_))
 by_cases hlt:i<l.length
 ·refine wU 11 true I (dT (by omega)) (Aa (zE (zA (zR I (zI (zE (zA (zH (zA (zB ?_))))))))))
  obtain⟨gp,off,hpe,hrow⟩:=hA.at_ hlt
  have hrow:=hrow i hlt
  have hq:=hg l[i] (List.getElem_mem hlt)
  have hsu:(l.take (i+1)).map F=(l.take i).map F++[F l[i]]:=by
   rw[List.take_add_one,List.getElem?_eq_getElem hlt,List.map_append];rfl
  obtain⟨q,hqe⟩: ∃q,q=l[i]:=⟨_,rfl⟩
  rw[←hqe] at hrow hq hsu
  subst hpe
  refine wJ ?_
  refine wL 0 I I (fun W1 hp=>hrow.hp hp) I ?_
  (refine Ae Tryz.hZ rfl rfl rfl rfl ?_;intro)
  refine wS 1 I I I (Aa (zE (zB (wP I (wP I (wB 1 I I I ?_))))))
  refine Bh (capt:=capt) I I I I I I hE (fun W1 hp=>hq W1 hp.below) ?_
  refine At Tryz.hZ tH I I I I I I I I I I I fun bS=> ?_
  refine AH (V:=V) (len:=i) (xs:=vsC ((l.take i).map F)) 0 2 Tryz.vec63 (i+1) (vsC ((l.take (i+1)).map F)) I I I I I I I I I I I hV I I I (by rw[hsu,W5];rfl) (by simp only[maxLen];omega) (by omega) I ?_
  intro gV cV jV hV1
  exact wP I (Aa (zN (zE (zB (wP I (wV 20 ((i+1:Nat):Int) I (Ax (by omega)) (wP I (Aa (Al (i+1,⟨some gV,cV,jV⟩) ⟨hlt,hV1⟩ (by show l.length-(i+1)<l.length-i;omega) ⟨I,I,I,I,I,tO⟩ _ I)))))))))
 have e:i=l.length:=by omega
 subst e
 have et:l.take l.length=l:=List.take_of_length_le (Nat.le_refl _)
 rw[et] at hV
 refine wU 11 false I (dF (by omega)) (Aa (zE (zA (zS I (zJ (zK (zK (zL (zE (zA (zB (wP I (wP I ?_)))))))))))))
 refine Aa (zE (zO ?_))
 exact Ay tH I (.tmp I) V I hV fun W1 hp=>by
  have hp:Hp W [V.bx 25 (vsC ((l.take l.length).map F))] W1:=hp
  rw[et] at hp
  exact As.of_hp hp
section
variable {r:Option Nat} {n:Nat} {P:Program} {N:Nat} {D:List Deferred} {ops:List Oper} {Q:Exit→Act→World→Prop} {o:Oper} {rest:List Oper} {env:Env} {A:World→Prop}
theorem Mr {W:World} {t ty e:TypeId} {size bytes:Nat} {z:Value} (hty:VecTy P t e size bytes z) {b:Option Addr} {k c c':Nat} (hk:k≤c):
  (Builtin.append_ #[t,t] ty #[.slice b k c, .slice none 0 c']).run P W= .ok (.slice b k c) W:=by
 obtain⟨i,hi,hz,hsz,hby⟩:=hty.hi
 have hs:(Go.sizeOf e).run P W= .ok i.size W:=by simp[sizeOf,typeInfo,hi]
 cases b<;>simp[Builtin.append_,run_underlying hty.ht,hs,hk,Builtin.lenOf,Builtin.firstCells,storeCells]
theorem Jf {d:Nat} {t e:TypeId} {size bytes:Nat} {z:Value} (hty:VecTy P t e size bytes z) {c:Call} {s x:Operand} {b:Option Addr} {k cp cp':Nat}
  (hg:A0 ops N env o=some true) (hd:o.dst=some d) (ho:o.op= .call c) (hc:c.callee= .builtin .append) (ha:c.args= #[s,x]) (hat:c.argTypes= #[t,t])
  (hs:evO N env s=some (.slice b k cp)) (hx:evO N env x=some (.slice none 0 cp')) (hk:k≤cp)
  (h:WL r n P N D ops Q rest ((d, .slice b k cp)::env) A):WL r n P N D ops Q (o::rest) env A:= .mk fun act W h2 h3 hp=>by
 refine By hg h2 (fun c e=>by rw[ho] at e;cases e) ?_
 have hr:=Mr (P:=P) (W:=W) (ty:=o.type) hty (b:=b) (c':=cp') hk
 have e1:c.args.map (ov env act).eval= #[.slice b k cp, .slice none 0 cp']:=by rw[ha];simp[A7 h2 _ _ hs,A7 h2 _ _ hx]
 have:(execOp (ov env act).eval o).run P W= .ok (.value (.slice b k cp)) W:=by
  simp only[execOp,ho,resolve,hc,invoke,builtin,e1,hat,Sem.run_bind,Sem.run_pure,Result.andThen_ok,hr]
 rw[this]
 simp only[Oper.uponIn,hd]
 exact h.out act W h2 h3 hp
end
def X3 (V:Vec):Option Addr:=V.p.map fun g=>⟨g,0,none⟩
def VX (V:Vec):Nat:=match V.p with
 |none=>0
 |some _=>V.cap
theorem KI {V:Vec} {size n:Nat} {xs:List Value} (h:V.OK size n xs):V.val n= .slice (X3 V) n (VX V):=by
 obtain⟨p,cap,junk⟩:=V
 cases p with
 |none=>rw[h.nil rfl];rfl
 |some g=>rfl
theorem Uz {V:Vec} {size n:Nat} {xs:List Value} (h:V.OK size n xs):n≤VX V:=by
 obtain⟨p,cap,junk⟩:=V
 cases p with
 |none=>rw[h.nil rfl];exact Nat.le_refl _
 |some g=>exact(h.cap (by simp)).1
def LB (W:World) (p:Option Addr) (cs:List Value):Prop:=cs=[]∨ ∃b off,p=some ⟨b,off,none⟩∧Ai W b off cs
theorem LB.none {W:World} {l:List Value} (h:LB W none l):l=[]:=by
 rcases h with h|⟨b,off,e,_⟩
 ·exact h
 ·cases e
-- BOXES 3
def T2p (n0 n1:Nat):Nat→Nat
 |0=>0
 |1=>n0
 |_=>n0+n1
def C2p (c0 c1:List Value):Nat→List Value
 |0=>[]
 |1=>c0
 |_=>c0++c1
theorem O8 (W:World) (m:Nat) (hm:m≤1000000):Ad Tryz.prog 317 #[.slice none 0 0, .int .i64 (m:Nat)] W (fun V:Vec=>V.val 0) (fun V=>V.OK 2 0 []∧(0<m→V.p≠none)) (fun V=>[V.bx 62 []]):=by
 refine Ab (args:=[.slice none 0 0, .int .i64 (m:Nat)]) Tryz.func317 I I I ?_
 refine zA (zB (wP I (Aa (zE (zA (zA (zB (wP I (wP I (Aa (zE (zS I (zI ?_)))))))))))))
 refine zE (zA (zA (zB ?_)))
 iterate 8 refine wP I ?_
 refine Aa (zE (zA (zB (wP I (wP I (Aa (zE ?_)))))))
 have e14:w64 ((m:Int)-w64 (0-0))=m:=by
  have:w64 (0-0)=0:=rfl
  rw[this];exact(Ap (by omega) (by omega)).trans (by omega)
 refine AT 16 _ I (show Value.bool (decide (w64 ((m:Int)-w64 (0-0))>0))= .bool (decide (0<m)) by rw[e14];congr 1;simp) ?_
 refine Aj I (fun h=> ?_) (fun h=> ?_)
 ·have h:0<m:=by simpa using h
  refine zB (wP I (wP I (wP I ?_)))
  refine Bm 0 tH I I I I I I I I (Nat.le_refl _) ?_
  refine wP I ?_
  refine He Tryz.vec210 (ku:= .i64) (by kernel_rfl) m I I I I I I I I e14 h (by simp only[maxLen];omega) (by omega) ?_
  intro V hV hp hj
  refine wP I (wP I ?_)
  obtain⟨p,cap,junk⟩:=V
  cases p with
  |none=>exact absurd rfl hp
  |some g=>
  refine Bm (a:=some ⟨g,0,none⟩) (len:=m) (cap:=cap) 0 tH I I I I I I I I (Nat.zero_le _) ?_
  refine wP I (Aa (zE (zA (zB (wP I (wP I (Aa (zE (zO ?_)))))))))
  obtain⟨h1,h2,h3⟩:=hV.cap (by simp)
  refine Ay tH rfl (.tmp rfl) (⟨some g,cap,BA [.string ⟨#[]⟩, .string ⟨#[]⟩] m++junk⟩:Vec) rfl ⟨⟨rfl,(fun h=>by cases h),fun _=>⟨Nat.zero_le _,h2, ?_⟩⟩,fun _=>by simp⟩ fun W hp=>As.of_hp1 hp 0 rfl
  show 0+(BA _ m++junk).length=cap*2
  rw[List.length_append,Nat.zero_add]
  exact h3
 ·have h:m=0:=by simp at h;omega
  subst h
  exact zI (zE (zA (zB (wP rfl (wP rfl (Aa (zE (zO (Ay tH rfl (.tmp rfl) Vec.empty rfl ⟨Vec.OK.empty 2,fun h=>absurd h (Nat.lt_irrefl _)⟩ fun W hp=>Own.one (fun p hp=>by cases hp) List.nodup_nil)))))))))
theorem CI (W:World) (b cap:Nat) (p0 p1:Option Addr) (n0 n1 k0 k1:Nat) (c0 c1:List Value) (hrow:Ai W b 0 [.slice p0 n0 k0, .slice p1 n1 k1]) (h0:LB W p0 c0) (h1:LB W p1 c1) (l0:c0.length=n0*2) (l1:c1.length=n1*2)
  (o0: ∀u∈c0,u.oneCell'=true) (o1: ∀u∈c1,u.oneCell'=true) (b0:n0≤100000) (b1:n1≤100000):
  Ad Tryz.prog 278 #[.slice (some ⟨b,0,none⟩) 2 cap] W (fun V:Vec=>V.val (n0+n1)) (fun V=>V.OK 2 (n0+n1) (c0++c1)) (fun V=>[V.bx 62 (c0++c1)]):=by
 refine Ab (args:=[.slice (some ⟨b,0,none⟩) 2 cap]) Tryz.func278 I I I ?_
 refine zA (zB (wP I (Aa (zE (zA (zB (wP I (Aa (zE (zA (zA (zB (wP I (wP I (wP I ?_)))))))))))))))
 refine Aa (zE (zH ?_))
 refine Aw (X:=Nat) (fun k=>[(0, .slice (some ⟨b,0,none⟩) 2 cap),(3, .int .i64 (T2p n0 n1 k:Nat)),(9, .slice (some ⟨b,0,none⟩) 2 cap),(10, .int .i64 2),(11, .int .i64 (k:Nat))]) (fun _=>[])
  (fun k=>k≤2) (fun k=>2-k) 0 (Nat.zero_le _) ⟨rfl,rfl,rfl,rfl,rfl,trivial⟩ [] rfl ?_
 intro i hi
 have hi:i=0∨i=1∨i=2:=by have:i≤2:=hi;omega
 rcases hi with rfl|rfl|rfl
 ·refine zA (zB (wP I (Aa (zE (zA (zR I (zI (zE (zA (zH (zA (zB ?_))))))))))))
  refine wJ ?_
  refine wL 0 I I (fun W hp=>hrow.hp hp) I (wP I (Aa (zE (zA (zB (wP I (wP I (wP I (wP I (wV 18 (T2p n0 n1 1:Nat) I (show w64 ((T2p n0 n1 0:Nat)+(n0:Nat))=(T2p n0 n1 1:Nat) by have hT0:T2p n0 n1 0=0:=I;have hT1:T2p n0 n1 1=n0:=I;rw[Ap (by omega) (by omega)];omega) (wP I (Aa (zE ?_)))))))))))))
  exact zA (zB (wP I (wP I (Aa (zE (zS I (zI (zN (zE (zB (wP I (wP I (Aa (Al 1 (by decide) (by decide) ⟨I,I,I,I,I,tO⟩ [] I))))))))))))))
 ·refine zA (zB (wP I (Aa (zE (zA (zR I (zI (zE (zA (zH (zA (zB ?_))))))))))))
  refine wJ ?_
  refine wL 1 I I (fun W hp=>hrow.hp hp) I (wP I (Aa (zE (zA (zB (wP I (wP I (wP I (wP I (wV 18 (T2p n0 n1 2:Nat) I (show w64 ((T2p n0 n1 1:Nat)+(n1:Nat))=(T2p n0 n1 2:Nat) by have hT0:T2p n0 n1 1=n0:=I;have hT1:T2p n0 n1 2=n0+n1:=I;rw[Ap (by omega) (by omega)];omega) (wP I (Aa (zE ?_)))))))))))))
  exact zA (zB (wP I (wP I (Aa (zE (zS I (zI (zN (zE (zB (wP I (wP I (Aa (Al 2 (by decide) (by decide) ⟨I,I,I,I,I,tO⟩ [] I))))))))))))))
 refine zA (zB (wP I (Aa (zE (zA (zS I (zJ (zK (zK (zL (zE (zA (zB ?_)))))))))))))
 refine wP I ?_
 refine wD (X:=Vec) I I (fun W _=>O8 W (n0+n1) (by omega)) ?_
 rintro V0 ⟨hV0,hV0p⟩
 refine wP I (Aa (zE (zA (zA (zB (wP I (wP I (wP I (Aa (zE (zH ?_)))))))))))
 refine Aw (X:=Nat×Vec) (fun x=>[(6,x.2.val (T2p n0 n1 x.1)),(25, .slice (some ⟨b,0,none⟩) 2 cap),(26, .int .i64 2),(27, .int .i64 (x.1:Nat))]) (fun x=>[x.2.bx 62 (C2p c0 c1 x.1)])
  (fun x=>x.1≤2∧x.2.OK 2 (T2p n0 n1 x.1) (C2p c0 c1 x.1)) (fun x=>2-x.1) (0,V0) ⟨Nat.zero_le _,hV0⟩ ⟨rfl,rfl,rfl,rfl,trivial⟩ [] rfl ?_
 rintro⟨i,V⟩ ⟨hi,hV⟩
 have hi:i=0∨i=1∨i=2:=by have:i≤2:=hi;omega
 rcases hi with rfl|rfl|rfl
 ·have hV:V.OK 2 (T2p n0 n1 0) (C2p c0 c1 0):=hV
  have hT0:T2p n0 n1 0=0:=rfl
  have hT1:T2p n0 n1 1=n0:=rfl
  refine zA (zB (wP I (Aa (zE (zA (zR I (zI (zE (zA (zH (zA (zB ?_))))))))))))
  refine wJ ?_
  refine wL 0 I I (fun W hp=>hrow.hp hp) I (wP I (Aa (zE (zB (wP I (wP I ?_))))))
  cases p0 with
  |none=>
   have hc:=h0.none
   have hn0:n0=0:=by rw[hc,List.length_nil] at l0;omega
   refine Ao 31 (.slice (X3 V) (T2p n0 n1 0) (VX V)) I (KI hV) ?_
   refine Ao 32 (.slice none 0 k0) I (by rw[hn0]) ?_
   refine Jf Tryz.vec210 I I I I I I I I (Uz hV) ?_
   refine Ao 33 (V.val (T2p n0 n1 0)) I (KI hV).symm ?_
   have eT:T2p n0 n1 0=T2p n0 n1 1:=by omega
   have eC:C2p c0 c1 0=C2p c0 c1 1:=by show[]=c0;rw[hc]
   rw[eT,eC] at hV
   rw[eT,eC]
   exact wP I (Aa (zN (zE (zB (wP I (wP I (Aa (Al (1,V) ⟨by show 1≤2;decide,hV⟩ (by show 2-1<2-0;decide) ⟨I,I,I,I,tO⟩ [] I))))))))
  |some a=>
   refine ER (len:=T2p n0 n1 0) (V:=V) 0 Tryz.vec210 I I I I I I I I I hV l0 (fun W hp j u hj=> ?_) o0 (by simp only[maxLen];omega) (by omega) ?_
   ·obtain⟨ab,ao,asp⟩:=a
    rcases h0 with h|⟨b',off',e,h⟩
    ·rw[h] at hj;simp at hj
    ·cases e
     rw[Addr.add_none]
     exact(h.hp hp).get j u hj
   intro V' hV' _
   have eT:T2p n0 n1 0+n0=T2p n0 n1 1:=by omega
   have eC:C2p c0 c1 0++c0=C2p c0 c1 1:=rfl
   rw[eT,eC] at hV'
   rw[eT,eC]
   exact wP I (Aa (zN (zE (zB (wP I (wP I (Aa (Al (1,V') ⟨by show 1≤2;decide,hV'⟩ (by show 2-1<2-0;decide) ⟨I,I,I,I,tO⟩ [] I))))))))
 ·have hV:V.OK 2 (T2p n0 n1 1) (C2p c0 c1 1):=hV
  have hT0:T2p n0 n1 1=n0:=rfl
  have hT1:T2p n0 n1 2=n0+n1:=rfl
  refine zA (zB (wP I (Aa (zE (zA (zR I (zI (zE (zA (zH (zA (zB ?_))))))))))))
  refine wJ ?_
  refine wL 1 I I (fun W hp=>hrow.hp hp) I (wP I (Aa (zE (zB (wP I (wP I ?_))))))
  cases p1 with
  |none=>
   have hc:=h1.none
   have hn0:n1=0:=by rw[hc,List.length_nil] at l1;omega
   refine Ao 31 (.slice (X3 V) (T2p n0 n1 1) (VX V)) I (KI hV) ?_
   refine Ao 32 (.slice none 0 k1) I (by rw[hn0]) ?_
   refine Jf Tryz.vec210 I I I I I I I I (Uz hV) ?_
   refine Ao 33 (V.val (T2p n0 n1 1)) I (KI hV).symm ?_
   have eT:T2p n0 n1 1=T2p n0 n1 2:=by omega
   have eC:C2p c0 c1 1=C2p c0 c1 2:=by show c0=c0++c1;rw[hc];simp
   rw[eT,eC] at hV
   rw[eT,eC]
   exact wP I (Aa (zN (zE (zB (wP I (wP I (Aa (Al (2,V) ⟨by show 2≤2;decide,hV⟩ (by show 2-2<2-1;decide) ⟨I,I,I,I,tO⟩ [] I))))))))
  |some a=>
   refine ER (len:=T2p n0 n1 1) (V:=V) 0 Tryz.vec210 I I I I I I I I I hV l1 (fun W hp j u hj=> ?_) o1 (by simp only[maxLen];omega) (by omega) ?_
   ·obtain⟨ab,ao,asp⟩:=a
    rcases h1 with h|⟨b',off',e,h⟩
    ·rw[h] at hj;simp at hj
    ·cases e
     rw[Addr.add_none]
     exact(h.hp hp).get j u hj
   intro V' hV' _
   have eT:T2p n0 n1 1+n1=T2p n0 n1 2:=by omega
   have eC:C2p c0 c1 1++c1=C2p c0 c1 2:=rfl
   rw[eT,eC] at hV'
   rw[eT,eC]
   exact wP I (Aa (zN (zE (zB (wP I (wP I (Aa (Al (2,V') ⟨by show 2≤2;decide,hV'⟩ (by show 2-2<2-1;decide) ⟨I,I,I,I,tO⟩ [] I))))))))
 refine zA (zB (wP I (Aa (zE (zA (zS I (zJ (zK (zK (zL (zE (zA (zB ?_)))))))))))))
 exact wP I (wP I (Aa (zE (zO (Ay tH I (.tmp I) V I hV fun W hp=>As.of_hp1 hp 0 I)))))
-- BOXES 6
-- CODE2
structure Yc (p q:Ar) (u v:Rat):Prop where
 s:Sz2 u v
 d:Sz2 u (u-v)
 nz:(u-v).num≠0
 x1:Sz2 q.1 p.1
 x2:Sz2 (u/(u-v)) (q.1-p.1)
 x3:Sz2 p.1 (u/(u-v)*(q.1-p.1))
 y1:Sz2 q.2 p.2
 y2:Sz2 (u/(u-v)) (q.2-p.2)
 y3:Sz2 p.2 (u/(u-v)*(q.2-p.2))
theorem RB (c:Nat) (p q:Ar) (u v:Rat) (hz:Yc p q u v) (W:World) (hc:Dc W c) (hv:AL W) (ht:AA W):
  Ad Tryz.prog 333 #[Af c,cvV p,cvV q,str (Ac u),str (Ac v)] W (fun _:Unit=>cvV (Re (u/(u-v)) p q)) (fun _=>True) (fun _=>[]):=by
 refine Ab (args:=[Af c,cvV p,cvV q,str (Ac u),str (Ac v)]) Tryz.func333 I I I ?_
 refine zA (zB ?_)
 (refine Ak rfl rfl rfl rfl ?_;intro)
 (refine Ak rfl rfl rfl rfl ?_;intro)
 (refine Ae Tryz.hZ rfl rfl rfl rfl ?_;intro)
 refine Aa (zE (zA (zB ?_)))
 iterate 5 refine wP I ?_
 refine wC I I (fun W hp=>BR c u v hz.s W (hc.hp hp) (hv.hp hp) (ht.hp hp)) (wC I I (fun W hp=>LK c u (u-v) hz.d hz.nz W (hc.hp hp) (hv.hp hp) (ht.hp hp)) (wP I (Aa (zE (zA (zU (qP I (qP I (qB 0 I I I (qP I (qP I (qP I (qP I ?_)))))))))))))
 refine qB 1 I I I (qP I (qB 0 I I I (qC I I (fun W hp=>BR c q.1 p.1 hz.x1 W (hc.hp hp) (hv.hp hp) (ht.hp hp)) (qC I I (fun W hp=>Cm c (u/(u-v)) (q.1-p.1) hz.x2 W (hc.hp hp) (hv.hp hp) (ht.hp hp)) (qC I I (fun W hp=>EU c p.1 (u/(u-v)*(q.1-p.1)) hz.x3 W (hc.hp hp) (hv.hp hp) (ht.hp hp)) (qP I (AB (Aa (zE (zA (zU (qP I (qP I ?_)))))))))))))
 refine qB 0 I I I (qP I (qP I (qP I (qP I (qB 1 I I I (qP I (qB 0 I I I (qC I I (fun W hp=>BR c q.2 p.2 hz.y1 W (hc.hp hp) (hv.hp hp) (ht.hp hp)) (qC I I (fun W hp=>Cm c (u/(u-v)) (q.2-p.2) hz.y2 W (hc.hp hp) (hv.hp hp) (ht.hp hp)) (qC I I (fun W hp=>EU c p.2 (u/(u-v)*(q.2-p.2)) hz.y3 W (hc.hp hp) (hv.hp hp) (ht.hp hp)) (qP I (AB (Aa ?_)))))))))))))
 refine zE (zA (zB (wP I (wP I ?_))))
 refine Au Tryz.hZ tH I I I I I I I I ?_
 exact wS 2 I I I (Aa (zE (zO (Ay tH I (.cell 2 I I I I I) () I tO fun W _=>As.nil _ _))))
theorem NG (q:Rat):decide (FX q<0)=decide (q<0):=by
 refine decide_eq_decide.2 ?_
 have h:q.num<0↔q<0:=by rw[←Rat.not_le, ←Rat.num_nonneg];omega
 rw[←h]
 unfold FX
 split
 ·omega
 ·split<;>omega
theorem NS (q:Rat) (W:World):Ad Tryz.prog 334 #[str (Ac q)] W (fun _:Unit=> .bool (decide (q<0))) (fun _=>True) (fun _=>[]):=by
 refine Ab (args:=[str (Ac q)]) Tryz.func334 I I I ?_
 refine zA (zB (wP I (Aa (zE (zA (zB (wP I (wC I I (fun W hp=>Hg q W) (wP I (wU 5 (decide (q<0)) I (NG q) (wP I (Aa (zE ?_)))))))))))))
 exact zO (wR1 I I I)
theorem N5 {α:Type} {p:α→Bool} {l:List α} {i:Nat} (hi:i<l.length):(l.drop i).any p=(p l[i]||(l.drop (i+1)).any p):=by
 rw[List.drop_eq_getElem_cons hi,List.any_cons]
theorem MI (g:Nat) (hE:AN Tryz.prog g=true) (F:Rat→Bool) (hg: ∀q W,Ad Tryz.prog g #[str (Ac q)] W (fun _:Unit=> .bool (F q)) (fun _=>True) (fun _=>[])) (l:List Rat) (hn:l.length≤100000) (p:Option Addr) (cap:Nat) (W:World) (hS:E8 W p (l.map Ac)):
  Ad Tryz.prog 222 #[slv p l.length cap, .func (.func g) #[] #[]] W (fun z:Int=> .int .i64 z) (fun z=>0≤z↔l.any F=true) (fun _=>[]):=by
 refine Ab (args:=[slv p l.length cap, .func (.func g) #[] #[]]) Tryz.func222 I I I ?_
 refine zA (zB (wP I (Aa (zE (zA (zA (zB (wP I (wP I (wP I (Aa (zE (zH ?_)))))))))))))
 refine Aw (X:=Nat) (fun i=>[(0,slv p l.length cap),(1, .func (.func g) #[] #[]),(6,slv p l.length cap),(7, .int .i64 (l.length:Nat)),(8, .int .i64 (i:Nat))]) (fun _=>[]) (fun i=>i≤l.length∧l.any F=(l.drop i).any F) (fun i=>l.length-i) 0 ⟨Nat.zero_le _,by rw[List.drop_zero]⟩ ⟨I,I,I,I,I,tO⟩ [] I ?_
 intro i hi
 obtain⟨hi,hA⟩:i≤l.length∧l.any F=(l.drop i).any F:=hi
 refine zA (zB (wP I ?_))
 by_cases hlt:i<l.length
 rotate_left
 ·refine wU 9 false I (dF (by omega)) (Aa (zE (zA (zS I (zJ (zK (zK (zL (zE (zA (zB (wP I (Aa ?_)))))))))))))
  refine zE (zO ?_)
  rw[List.drop_of_length_le (by omega)] at hA
  exact Ay tH I (.tmp I) (-1:Int) I (by rw[hA];exact⟨fun h=>absurd h (by decide),fun h=>absurd (show false=true from h) (by decide)⟩) fun W _=>As.nil _ _
 refine wU 9 true I (dT (by omega)) (Aa (zE (zA (zR I (zI (zE (zA (zH (zA (zB ?_))))))))))
 obtain⟨b,off,rfl,hrow⟩:=hS.row (i:=i) (by rw[List.length_map];exact hlt)
 have hr:=hrow i (by rw[List.length_map];exact hlt)
 rw[List.getElem_map] at hr
 rw[N5 hlt] at hA
 obtain⟨q,hq⟩: ∃q,q=l[i]:=⟨_,rfl⟩
 rw[←hq] at hr hA
 refine wP I (wP I (Aa (zE (zA (zB (wP I (wP I (wP I ?_))))))))
 refine wJ ?_
 refine wL 0 I I (fun W1 hp=>hr.hp hp) I ?_
 refine Bh (capt:=[]) I I I I I I hE (fun W1 _=>hg q W1) ?_
 refine Aa (zE ?_)
 refine Aj I (fun hc=> ?_) (fun hc=> ?_)
 ·have hc:F q=true:=hc
  exact zA (zB (wP I (wP I (Aa (zE (zO (zQ (zP (zP (zQ (zP (Ay tH I (.tmp I) ((i:Nat):Int) I ⟨fun _=>by rw[hA,hc];rfl,fun _=>by omega⟩ fun W _=>As.nil _ _))))))))))))
 ·have hc:F q=false:=hc
  rw[hc,Bool.false_or] at hA
  exact zI (zN (zE (zB (wP I (wV 18 ((i+1:Nat):Int) I (Ax (by omega)) (wP I (Aa (Al (i+1) ⟨hlt,hA⟩ (by show l.length-(i+1)<l.length-i;omega) ⟨I,I,I,I,I,tO⟩ [] I))))))))
theorem JJ (g:Nat) (hE:AN Tryz.prog g=true) (F:Rat→Bool) (hg: ∀q W,Ad Tryz.prog g #[str (Ac q)] W (fun _:Unit=> .bool (F q)) (fun _=>True) (fun _=>[])) (l:List Rat) (hn:l.length≤100000) (p:Option Addr) (cap:Nat) (W:World) (hS:E8 W p (l.map Ac)):
  Ad Tryz.prog 153 #[slv p l.length cap, .func (.func g) #[] #[]] W (fun _:Unit=> .bool (l.any F)) (fun _=>True) (fun _=>[]):=by
 refine Ab (args:=[slv p l.length cap, .func (.func g) #[] #[]]) Tryz.func153 I I I ?_
 refine zA (zB (wP I (Aa (zE (zA (zB (wP I (wP I ?_))))))))
 refine wD (X:=Int) I I (fun W1 hp=>MI g hE F hg l hn p cap W1 (hS.hp hp)) ?_
 intro z hz
 have hz:0≤z↔l.any F=true:=hz
 refine wP I ?_
 refine Ao 8 (.bool (l.any F)) I (congrArg Value.bool (by
  cases h:l.any F with
  |true=>exact dT (hz.2 h)
  |false=>exact dF fun h2=>by rw[hz.1 h2] at h;cases h)) ?_
 exact wP I (Aa (zE (zO (wR1 I I I))))
theorem S1 (p q:Rat):(p<q∧Cw p q= -1)∨(p=q∧Cw p q=0)∨(q<p∧Cw p q=1):=by
 have h1:=BQ p q
 have h2:=LQ p q
 rcases Gr p q with e|e|e<;>rw[e] at h1 h2⊢
 ·exact .inl ⟨of_decide_eq_true h1.symm,I⟩
 ·refine .inr (.inl ⟨?_,I⟩)
  have a:=of_decide_eq_false h1.symm
  have b:=of_decide_eq_false h2.symm
  exact Rat.le_antisymm (Rat.not_lt.1 b) (Rat.not_lt.1 a)
 ·exact .inr (.inr ⟨of_decide_eq_true h2.symm,I⟩)
theorem Se (p q:Ar):decide (Jv p q<0)=E6 p q:=by
 unfold Jv E6
 have h1:=S1 p.1 q.1
 have h2:=S1 p.2 q.2
 rcases h1 with⟨a,e⟩|⟨a,e⟩|⟨a,e⟩
 ·rw[e,if_neg (by decide),dT a];rfl
 ·rw[e,if_pos rfl,BQ,dF (show¬p.1<q.1 by grind),dT a,Bool.false_or,Bool.true_and]
 ·rw[e,if_neg (by decide),dF (show¬p.1<q.1 by grind),dF (show¬p.1=q.1 by grind)];rfl
abbrev ptC (l:List Ar):List Value:=l.flatMap fun q=>[str (Ac q.1),str (Ac q.2)]
theorem C1 (a b:List Ar):ptC (a++b)=ptC a++ptC b:=List.flatMap_append
theorem B1 (l:List Ar):(ptC l).length=l.length*2:=by
 induction l with
 |nil=>rfl
 |cons p l ih=>show(ptC l).length+1+1=(l.length+1)*2;rw[ih];omega
theorem ED (l:List Ar): ∀u∈ptC l,u.oneCell'=true:=fun u hu=>by
 obtain⟨q,_,h⟩:=List.mem_flatMap.1 hu
 rcases List.mem_cons.1 h with rfl|h
 ·rfl
 ·obtain rfl:=List.mem_singleton.1 h;rfl
theorem C8 {W:World} {g off:Nat} {a b:List Value} (h:Ai W g off (a++b)):Ai W g off a:=⟨h.lt,fun k u hu=>h.get k u (by rw[List.getElem?_append_left (List.getElem?_eq_some_iff.1 hu).1];exact hu)⟩
theorem H9 {W:World} {g off:Nat} {a b:List Value} (h:Ai W g off (a++b)):Ai W g (off+a.length) b:=⟨h.lt,fun k u hu=>by
 have:=h.get (a.length+k) u (by rw[List.getElem?_append_right (by omega),Nat.add_sub_cancel_left];exact hu)
 rwa [←Nat.add_assoc] at this⟩
theorem UN {l:List Ar} {i:Nat} (hi:i<l.length):ptC l=ptC (l.take i)++([str (Ac l[i].1),str (Ac l[i].2)]++ptC (l.drop (i+1))):=by
 conv=>lhs;rw[←List.take_append_drop i l,List.drop_eq_getElem_cons hi,C1]
 rfl
theorem BG.of_row {W:World} {g off:Nat} {l:List Ar} {junk:List Value} (h:Ai W g off (ptC l++junk)):BG W (some ⟨g,off,none⟩) l:= .inr ⟨g,off,rfl,fun i hi=>by
 have h1:=C8 h
 rw[UN hi] at h1
 have h2:=C8 (H9 h1)
 rwa [B1,List.length_take,Nat.min_eq_left (Nat.le_of_lt hi)] at h2⟩
theorem OO (c:Nat) (l:List Ar) (k:Nat) (hk:k≤149) (hs:I9 k l) (h0:0<l.length) (hn:l.length≤100000) (g cap:Nat) (hcap:l.length≤cap) (W:World) (hrow:Ai W g 0 (ptC l)) (hc:Dc W c) (hv:AL W) (ht:AA W):
  Ad Tryz.prog 335 #[Af c,slv (some ⟨g,0,none⟩) l.length cap] W (fun V:Vec=>V.val l.length) (fun V=>V.OK 2 l.length (ptC (CU l))) (fun V=>[V.bx 62 (ptC (CU l))]):=by
 have hrow':Ai W g 0 (ptC l++[]):=by rw[List.append_nil];exact hrow
 have hA:=BG.of_row hrow'
 have hr: ∀i,i<l.length→Ai W g (0+i*2) [str (Ac (Av l i).1),str (Ac (Av l i).2)]:=fun i hi=>by
  obtain⟨g',off',e,h⟩:=hA.at_ hi
  cases e
  rw[CT hi]
  exact h i hi
 have hlst: ∀i,i≤l.length→Cj l i<l.length:=fun i hi=>by
  rcases(Km l i).1 with e|e<;>omega
 refine Ab (args:=[Af c,slv (some ⟨g,0,none⟩) l.length cap]) Tryz.func335 I I I ?_
 refine zA (zB (wP I (Aa (zE (zA (zB (wP I (Aa (zE (zA (zA (zB (wP I ?_)))))))))))))
 refine Aa (zE (zH ?_))
 have e1:Cj l 1=0:=by show(if E6 (Av l 0) (Av l 0)=true then 0 else 0)=0;split<;>rfl
 refine Aw (X:=Nat) (fun i=>[(0,Af c),(1,slv (some ⟨g,0,none⟩) l.length cap),(5, .int .i64 (Cj l i:Nat)),(6, .int .i64 (i:Nat))]) (fun _=>[]) (fun i=>1≤i∧i≤l.length) (fun i=>l.length-i) 1 ⟨Nat.le_refl _,h0⟩ ⟨I,I,congrArg (fun n:Nat=>some (Value.int .i64 (n:Int))) e1.symm,I,tO⟩ [] I ?_
 intro i hi
 obtain⟨hi1,hi⟩:1≤i∧i≤l.length:=hi
 have hls:=hlst i hi
 refine zA (zA (zB (wP I (wP I (wP I (wP I ?_))))))
 by_cases hlt:i<l.length
 ·refine wU 10 true I (dT (by omega)) (Aa (zE (zR I (zI (zE (zA (zH (zA (zU ?_)))))))))
  have hsu:Cj l (i+1)=if E6 (Av l i) (Av l (Cj l i))=true then i else Cj l i:=rfl
  have zi:=hs.at_ h0 i
  have zj:=hs.at_ h0 (Cj l i)
  refine qP I (qP I (qP I ?_))
  refine qJ ?_
  refine qL 0 I I (fun W1 hp=>(hr i hlt).hp hp) I (qP I (qP I ?_))
  refine qJ ?_
  refine qL 0 I I (fun W1 hp=>(hr (Cj l i) hls).hp hp) I (qC I I (fun W1 hp=>Qf c (Av l i) (Av l (Cj l i)) (sz2 zi.1 zj.1 (by omega)) (sz2 zi.2 zj.2 (by omega)) W1 (hc.hp hp) (hv.hp hp) (ht.hp hp)) (qP I (qU 23 (E6 (Av l i) (Av l (Cj l i))) I (Se _ _) (AB (Aa (zE ?_))))))
  refine Aj I (fun hc2=> ?_) (fun hc2=> ?_)
  ·have hc2:E6 (Av l i) (Av l (Cj l i))=true:=hc2
   rw[if_pos hc2] at hsu
   exact zB (wP I (wP I (Aa (zN (zE (zB (wP I (wP I (wV 12 ((i+1:Nat):Int) I (Ax (by omega)) (wP I (Aa (Al (i+1) ⟨by omega,hlt⟩ (by show l.length-(i+1)<l.length-i;omega) ⟨I,I,congrArg (fun n:Nat=>some (Value.int .i64 (n:Int))) hsu.symm,I,tO⟩ [] I))))))))))))
  ·have hc2:E6 (Av l i) (Av l (Cj l i))=false:=hc2
   rw[hc2,if_neg (by decide)] at hsu
   exact zI (zN (zE (zB (wP I (wP I (wV 12 ((i+1:Nat):Int) I (Ax (by omega)) (wP I (Aa (Al (i+1) ⟨by omega,hlt⟩ (by show l.length-(i+1)<l.length-i;omega) ⟨I,I,congrArg (fun n:Nat=>some (Value.int .i64 (n:Int))) hsu.symm,I,tO⟩ [] I)))))))))
 have e:i=l.length:=by omega
 subst e
 obtain⟨m,hm⟩: ∃m,m=Cj l l.length:=⟨_,rfl⟩
 rw[←hm] at hls
 rw[←hm]
 have hB:CU l=l.drop m++l.take m:=by rw[hm];rfl
 have hBC:ptC (CU l)=ptC (l.drop m)++ptC (l.take m):=by rw[hB,C1]
 have hl1:(l.drop m).length=l.length-m:=List.length_drop
 have hl2:(l.take m).length=m:=by rw[List.length_take];omega
 have hsplit:ptC l=ptC (l.take m)++ptC (l.drop m):=by rw[←C1,List.take_append_drop]
 have ra:Ai W g 0 (ptC (l.take m)):=by rw[hsplit] at hrow;exact C8 hrow
 have rb:Ai W g (m*2) (ptC (l.drop m)):=by
  rw[hsplit] at hrow
  have:=H9 hrow
  rwa [B1,hl2,Nat.zero_add] at this
 refine wU 10 false I (dF (by omega)) (Aa (zE (zS I (zJ (zK (zK (zL (zE (Az ?_)))))))))
 refine AV (X:= { V:Vec//V.OK 2 l.length (ptC (CU l)) }) [true,true,false,true,true,false,false,false,false] (fun V=>[(4,V.1.val l.length)]) (fun V=>[V.1.bx 62 (ptC (CU l))])
  5 [] Tryz.mixed (by kernel_rfl) ?_ ?_
 ·refine qP I (qP I (qP I (qP I (BU (wX ?_)))))
  refine RS.cons ?_ (RS.cons ?_ (RS.nil))
  ·refine Dw m tH I I I I I I I I (by omega) (by omega) ?_;refine Ao 27 (.slice (some ⟨g,m*2,none⟩) (l.length-m) (cap-m)) I (by rw[if_neg (by omega),Nat.zero_add]) ?_
   refine Aa (Ag (wX (wZ ?_)))
   refine Bm m tH I I I I I I I I (by omega) ?_
   refine Aa (Ag (wX (wZ ?_)))
   refine At Tryz.hZ tH I I I I I I I I I I I fun bL1=> ?_
   refine Aa (Ag (wX (wZ ?_)))
   refine wD (X:=Vec) rfl rfl (fun W1 hp=>CI W1 bL1 2 (some ⟨g,m*2,none⟩) (some ⟨g,0,none⟩) (l.length-m) m (cap-m) cap (ptC (l.drop m)) (ptC (l.take m)) (Ai.of_bx hp 0 rfl rfl) (.inr ⟨g,m*2,rfl,rb.hp hp⟩) (.inr ⟨g,0,rfl,ra.hp hp⟩) (by rw[B1,hl1]) (by rw[B1,hl2]) (ED _) (ED _) (by omega) (by omega)) ?_;intro V1 hV1;refine Ao 32 (V1.val l.length) rfl (by rw[show l.length-m+m=l.length by omega]) ?_
   refine Aa (Ag (wX (wZ (wP I (Aa (Ag ?_))))))
   rw[show l.length-m+m=l.length by omega, ←hBC] at hV1;rw[←hBC];first|refine AG rfl (by((repeat (first|refine AI.same ?_|refine AI.off rfl ?_));exact trivial)) ?_|refine AP rfl (by kernel_rfl) ?_
   exact A6 ⟨V1,hV1⟩ ⟨I,tO⟩ [1] (by decide) I
  ·refine Bm m tH I I I I I I I I (by omega) ?_
   refine Aa (Ag (wX (wZ ?_)))
   refine Dw m tH I I I I I I I I (by omega) (by omega) ?_;refine Ao 27 (.slice (some ⟨g,m*2,none⟩) (l.length-m) (cap-m)) I (by rw[if_neg (by omega),Nat.zero_add]) ?_
   refine Aa (Ag (wX (wZ ?_)))
   refine At Tryz.hZ tH I I I I I I I I I I I fun bL1=> ?_
   refine Aa (Ag (wX (wZ ?_)))
   refine wD (X:=Vec) rfl rfl (fun W1 hp=>CI W1 bL1 2 (some ⟨g,m*2,none⟩) (some ⟨g,0,none⟩) (l.length-m) m (cap-m) cap (ptC (l.drop m)) (ptC (l.take m)) (Ai.of_bx hp 0 rfl rfl) (.inr ⟨g,m*2,rfl,rb.hp hp⟩) (.inr ⟨g,0,rfl,ra.hp hp⟩) (by rw[B1,hl1]) (by rw[B1,hl2]) (ED _) (ED _) (by omega) (by omega)) ?_;intro V1 hV1;refine Ao 32 (V1.val l.length) rfl (by rw[show l.length-m+m=l.length by omega]) ?_
   refine Aa (Ag (wX (wZ (wP I (Aa (Ag ?_))))))
   rw[show l.length-m+m=l.length by omega, ←hBC] at hV1;rw[←hBC];first|refine AG rfl (by((repeat (first|refine AI.same ?_|refine AI.off rfl ?_));exact trivial)) ?_|refine AP rfl (by kernel_rfl) ?_
   exact A6 ⟨V1,hV1⟩ ⟨I,tO⟩ [1] (by decide) I
 rintro⟨V,hV⟩
 exact zE (zO (Ay tH I (.tmp I) V I hV fun W1 hp=>As.of_hp hp))
-- BOXES 12
-- CODE2
theorem On (q:Rat):decide (FX q≤0)=decide (q≤0):=by
 refine decide_eq_decide.2 ?_
 have h:0<q.num↔0<q:=by
  have h1:0≤q.num↔0≤q:=Rat.num_nonneg
  have h2:q.num=0↔q=0:=Rat.num_eq_zero
  constructor
  ·intro h
   exact Rat.lt_of_le_of_ne (h1.1 (by omega)) (fun e=>by rw[←e] at h;exact absurd h (by decide))
  ·intro h
   have a:=h1.2 (Rat.le_of_lt h)
   have b:q.num≠0:=fun e=>by rw[h2.1 e] at h;exact Rat.lt_irrefl h
   omega
 rw[←Rat.not_lt, ←h]
 unfold FX
 split
 ·omega
 ·split<;>omega
theorem IQ (q:Rat):FX q= -1∨FX q=0∨FX q=1:=by
 unfold FX
 split
 ·exact .inr (.inl I)
 ·split
  ·exact .inl I
  ·exact .inr (.inr I)
theorem V9 (u v:Rat):decide (w64 (FX u*FX v)<0)=decide (u*v<0):=by
 have hu:=NG u
 have hu2:=On u
 have hv:=NG v
 have hv2:=On v
 rw[decide_eq_decide] at hu hu2 hv hv2
 rw[decide_eq_decide,MW]
 have hw:w64 (FX u*FX v)=FX u*FX v:=by
  rcases IQ u with a|a|a<;>rcases IQ v with b|b|b<;>rw[a,b]<;>rfl
 rw[hw]
 rw[show 0<v↔ ¬v≤0 from Rat.not_le.symm,show 0<u↔ ¬u≤0 from Rat.not_le.symm, ←hu, ←hu2, ←hv, ←hv2]
 rcases IQ u with a|a|a<;>rcases IQ v with b|b|b<;>rw[a,b]<;>decide
theorem WP {W0 W:World} {bxs:List Bx} (hp:Hp W0 bxs W) (k:Nat) {g:Nat} {l:List Rat} {junk:List Value} {i:Nat} (hk:nth bxs k=some ⟨g,25,vsC l++junk,true,none⟩) (hi:i<l.length):Ai W g (0+i*1) [str (Ac l[i])]:=by
 have h:=C8 (Ai.of_bx hp k hk rfl)
 refine⟨h.lt,fun m u hu=> ?_⟩
 cases m with
 |zero=>
  obtain rfl:str (Ac l[i])=u:=by simpa using hu
  have:=h.get i (str (Ac l[i])) (by rw[List.getElem?_map,List.getElem?_eq_getElem hi];rfl)
  rw[Nat.zero_add,Nat.mul_one,Nat.add_zero]
  rwa [Nat.zero_add] at this
 |succ m=>simp at hu
structure ClZ (f:DY) (l:List Ar):Prop where
 v: ∀q∈l,Ye f q
 c: ∀i,i<l.length→f.at (Av l i)*f.at (Av l (i+1))<0→Yc (Av l i) (Av l (i+1)) (f.at (Av l i)) (f.at (Av l (i+1)))
 o:I9 149 (Ce f l)
def Es (f:DY) (l:List Ar) (k:Nat):List Ar:=(Do (Av l) k f).map (Tm (Av l))
def FY (f:DY) (l:List Ar) (k:Nat):List Ar:=Es f l k++(if f.at (Av l k)≤0 then[Av l k] else[])
theorem N9 (f:DY) (l:List Ar) (k:Nat):Es f l (k+1)=FY f l k++(if f.at (Av l k)*f.at (Av l (k+1))<0 then[Re (f.at (Av l k)/(f.at (Av l k)-f.at (Av l (k+1)))) (Av l k) (Av l (k+1))] else[]):=by
 unfold Es FY
 rw[NP,NF,List.append_assoc]
 rfl
theorem Hl (f:DY) (l:List Ar): ∀k,(Es f l k).length≤2*k
 |0=>Nat.le_refl _
 |k+1=>by
  have ih:=Hl f l k
  rw[N9]
  unfold FY
  rw[List.length_append,List.length_append]
  have a:(if f.at (Av l k)≤0 then[Av l k] else[]).length≤1:=by split<;>simp
  have b:(if f.at (Av l k)*f.at (Av l (k+1))<0 then[Re (f.at (Av l k)/(f.at (Av l k)-f.at (Av l (k+1)))) (Av l k) (Av l (k+1))] else[]).length≤1:=by split<;>simp
  omega
theorem U0 (f:DY) (l:List Ar) (k:Nat):(FY f l k).length≤2*k+1:=by
 unfold FY
 have:=Hl f l k
 rw[List.length_append]
 have a:(if f.at (Av l k)≤0 then[Av l k] else[]).length≤1:=by split<;>simp
 omega
theorem Wr (f:DY) (l:List Ar):(l.map f.at).any (fun q=>decide (q<0))=JU f l:=by
 unfold JU
 rw[List.any_map];rfl
abbrev ckB (b c:Nat):Bx:=⟨b,315,[Af c],true,none⟩
abbrev lsB (b:Nat) (v:Value):Bx:=⟨b,210,[v],true,none⟩
abbrev nmB (b:Nat) (v:Value):Bx:=⟨b,63,[v],true,none⟩
theorem QN (c:Nat) (f:DY) (l:List Ar) (hz:ClZ f l) (hP:HH l) (h3:3≤l.length) (hn:l.length≤4096) (p:Option Addr) (cap:Nat) (W:World) (hA:BG W p l) (hc:Dc W c) (hv:AL W) (ht:AA W):
  Ad Tryz.prog 284 #[Af c,slv p l.length cap,str (Ac f.a),str (Ac f.b),str (Ac f.c)] W (fun V:Vec=>V.val (F9 f l).length) (fun V=>V.OK 2 (F9 f l).length (ptC (F9 f l))) (fun V=>[V.bx 62 (ptC (F9 f l))]):=by
 have hn0:0<l.length:=by omega
 have hzz:(l.length:Int)≠0:=by omega
 have hvl:(l.map f.at).length=l.length:=List.length_map _
 refine Ab (args:=[Af c,slv p l.length cap,str (Ac f.a),str (Ac f.b),str (Ac f.c)]) Tryz.func284 I I I ?_
 refine zA (zB ?_)
 (refine Ak rfl rfl rfl rfl ?_;intro)
 (refine Ak rfl rfl rfl rfl ?_;intro)
 refine wP I (Aa ?_)
 rename_i b5 b6
 refine zE (Az ?_)
 refine AV (X:= { s:Nat×Vec//s.2.OK 1 l.length (vsC (l.map f.at)) }) [true,true,true,true,true,false,false,false,false] (fun s=>[(5,Af b5),(6,Af b6),(11,Af s.1.1)]) (fun s=>[ckB b5 c,lsB b6 (slv p l.length cap),nmB s.1.1 (s.1.2.val l.length),s.1.2.bx 25 (vsC (l.map f.at))])
  4 [ckB b5 c,lsB b6 (slv p l.length cap)] Tryz.mixed (by kernel_rfl) ?_ ?_
 ·refine qB 1 I I I (qB 0 I I I (qP I (qP I (qP I (BU (wX ?_))))))
  refine RS.cons ?_ (RS.cons ?_ (RS.nil))
  ·refine wD (X:=Nat×Nat×Nat×Nat) rfl rfl (fun W1 _=>Jl c f W1) ?_;rintro⟨v4,v5,v6,v7⟩ _
   refine Aa (Ag (wX ?_))
   refine RS.cons ?_ (RS.cons ?_ (RS.nil))
   ·refine wD (X:=Vec) rfl rfl (fun W1 hp=>FM l f.at 361 [Af v4,Af v5,Af v6,Af v7] (by kernel_rfl) hn p cap W1 (hA.hp hp) (fun q hq W2 hb=>F6 v4 v5 v6 v7 c f q (hz.v q hq) W2 (MT.below (by first|exact⟨Ai.of_bx hp 2 rfl rfl,Ai.of_bx hp 3 rfl rfl,Ai.of_bx hp 4 rfl rfl,Ai.of_bx hp 5 rfl rfl,hc.hp hp,hv.hp hp,ht.hp hp⟩|exact⟨Ai.of_bx hp 3 rfl rfl,Ai.of_bx hp 4 rfl rfl,Ai.of_bx hp 5 rfl rfl,Ai.of_bx hp 6 rfl rfl,hc.hp hp,hv.hp hp,ht.hp hp⟩) hb))) ?_;rintro⟨pV1,cV1,jV1⟩ hV1;obtain⟨gV1,rfl⟩: ∃g,pV1=some g:=Option.ne_none_iff_exists'.1 (fun e=>absurd (hV1.nil e) (by omega))
    refine Aa (Ag (wX (wZ ?_)))
    refine Ae Tryz.hZ rfl rfl rfl rfl ?_;intro b11
    refine Aa (Ag (wX (wZ (wS 7 I I I (Aa (Ag ?_))))))
    refine AG I (by((repeat (first|refine AI.same ?_|refine AI.off I ?_));exact tO)) ?_
    exact A6 (⟨(b11,⟨some gV1,cV1,jV1⟩),hV1⟩: { s:Nat×Vec//s.2.OK 1 l.length (vsC (l.map f.at)) }) ⟨I,I,I,tO⟩ [0,1,7,6] (by decide) I
   ·refine Ae Tryz.hZ rfl rfl rfl rfl ?_;intro b11
    refine Aa (Ag (wX (wZ ?_)))
    refine wD (X:=Vec) rfl rfl (fun W1 hp=>FM l f.at 361 [Af v4,Af v5,Af v6,Af v7] (by kernel_rfl) hn p cap W1 (hA.hp hp) (fun q hq W2 hb=>F6 v4 v5 v6 v7 c f q (hz.v q hq) W2 (MT.below (by first|exact⟨Ai.of_bx hp 2 rfl rfl,Ai.of_bx hp 3 rfl rfl,Ai.of_bx hp 4 rfl rfl,Ai.of_bx hp 5 rfl rfl,hc.hp hp,hv.hp hp,ht.hp hp⟩|exact⟨Ai.of_bx hp 3 rfl rfl,Ai.of_bx hp 4 rfl rfl,Ai.of_bx hp 5 rfl rfl,Ai.of_bx hp 6 rfl rfl,hc.hp hp,hv.hp hp,ht.hp hp⟩) hb))) ?_;rintro⟨pV1,cV1,jV1⟩ hV1;obtain⟨gV1,rfl⟩: ∃g,pV1=some g:=Option.ne_none_iff_exists'.1 (fun e=>absurd (hV1.nil e) (by omega))
    refine Aa (Ag (wX (wZ (wS 6 I I I (Aa (Ag ?_))))))
    refine AG I (by((repeat (first|refine AI.same ?_|refine AI.off I ?_));exact tO)) ?_
    exact A6 (⟨(b11,⟨some gV1,cV1,jV1⟩),hV1⟩: { s:Nat×Vec//s.2.OK 1 l.length (vsC (l.map f.at)) }) ⟨I,I,I,tO⟩ [0,1,6,7] (by decide) I
  ·refine Ae Tryz.hZ rfl rfl rfl rfl ?_;intro b11
   refine Aa (Ag (wX (wZ ?_)))
   refine wD (X:=Nat×Nat×Nat×Nat) rfl rfl (fun W1 _=>Jl c f W1) ?_;rintro⟨v4,v5,v6,v7⟩ _
   refine Aa (Ag (wX (wZ ?_)))
   refine wD (X:=Vec) rfl rfl (fun W1 hp=>FM l f.at 361 [Af v4,Af v5,Af v6,Af v7] (by kernel_rfl) hn p cap W1 (hA.hp hp) (fun q hq W2 hb=>F6 v4 v5 v6 v7 c f q (hz.v q hq) W2 (MT.below (by first|exact⟨Ai.of_bx hp 2 rfl rfl,Ai.of_bx hp 3 rfl rfl,Ai.of_bx hp 4 rfl rfl,Ai.of_bx hp 5 rfl rfl,hc.hp hp,hv.hp hp,ht.hp hp⟩|exact⟨Ai.of_bx hp 3 rfl rfl,Ai.of_bx hp 4 rfl rfl,Ai.of_bx hp 5 rfl rfl,Ai.of_bx hp 6 rfl rfl,hc.hp hp,hv.hp hp,ht.hp hp⟩) hb))) ?_;rintro⟨pV1,cV1,jV1⟩ hV1;obtain⟨gV1,rfl⟩: ∃g,pV1=some g:=Option.ne_none_iff_exists'.1 (fun e=>absurd (hV1.nil e) (by omega))
   refine Aa (Ag (wX (wZ (wS 2 I I I (Aa (Ag ?_))))))
   refine AG I (by((repeat (first|refine AI.same ?_|refine AI.off I ?_));exact tO)) ?_
   exact A6 (⟨(b11,⟨some gV1,cV1,jV1⟩),hV1⟩: { s:Nat×Vec//s.2.OK 1 l.length (vsC (l.map f.at)) }) ⟨I,I,I,tO⟩ [0,1,2,7] (by decide) I
 rintro⟨⟨b11,⟨pV,cV,jV⟩⟩,hV⟩
 obtain⟨gV,rfl⟩: ∃g,pV=some g:=by
  cases pV with
  |none=>have:=hV.nil rfl;omega
  |some g=>exact⟨g,rfl⟩
 have hcapV:=(hV.cap (by simp)).1
 refine zE (zA (zA (zB (wB 0 I I I ?_))))
 refine AK I I I I ?_
 refine wP I (wL 0 I I (fun W1 hp=>(hc.hp hp).row) I (wP I (Aa (zE (zS I (zI (zE (zA (zB ?_)))))))))
 (refine Ae Tryz.hZ rfl rfl rfl rfl ?_;intro)
 refine Aa ?_
 rename_i b12
 refine zE (zA (zA (zB (wB 1 I I I ?_))))
 refine wD (X:=Nat) I I (fun W1 _=>EF p l.length cap W1) ?_
 intro bp _
 refine Aa (zE (zH ?_))
 refine Cp ?_
 refine Eh (X:=Nat×Vec) (fun x=>[ckB b5 c,lsB b6 (slv p l.length cap),nmB b11 (.slice (some ⟨gV,0,none⟩) l.length cV),⟨gV,25,vsC (l.map f.at)++jV,true,none⟩,lsB b12 (x.2.val (Es f l x.1).length),lsB bp (slv p l.length cap),x.2.bx 62 (ptC (Es f l x.1))])
  (fun j x=>x.1=j∧x.2.OK 2 (Es f l x.1).length (ptC (Es f l x.1))) (fun _ _=>False) (0,Vec.empty) rfl (by kernel_rfl) (Fx l bp p cap (by omega)) (fun _=>rfl)
  ⟨rfl,Vec.OK.empty 2⟩ [] rfl (fun k x W1 _ hp=>⟨Ai.of_bx hp 5 rfl rfl,hA.hp hp⟩) ?_ ?_ (fun _ _ _ _ _ h=>h.elim)
 ·rintro k ⟨k',O⟩ d l' rec L hk ⟨e1,hO⟩ hrec
  obtain rfl:k'=k:=e1
  have hk:k'<l.length:=hk
  have hO:O.OK 2 (Es f l k').length (ptC (Es f l k')):=hO
  have hol:=Hl f l k'
  have hml:=U0 f l k'
  have hsl:=Hl f l (k'+1)
  have hk2:(k'+1)%l.length<l.length:=Nat.mod_lt _ hn0
  have ev: ∀i (hi:i<l.length),(l.map f.at)[i]'(by rw[hvl];exact hi)=f.at (Av l i):=fun i hi=>by rw[List.getElem_map,CT hi]
  have hr1: ∀ {W0 W1:World} {bxs:List Bx} (hp:Hp W0 bxs W1) (m:Nat) (hm:nth bxs m=some ⟨gV,25,vsC (l.map f.at)++jV,true,none⟩),Ai W1 gV (0+k'*1) [str (Ac (f.at (Av l k')))]:=fun hp m hm=>by
   have:=WP hp m hm (i:=k') (by rw[hvl];exact hk)
   rwa [ev k' hk] at this
  have hr2: ∀ {W0 W1:World} {bxs:List Bx} (hp:Hp W0 bxs W1) (m:Nat) (hm:nth bxs m=some ⟨gV,25,vsC (l.map f.at)++jV,true,none⟩),Ai W1 gV (0+((k'+1)%l.length)*1) [str (Ac (f.at (Av l (k'+1))))]:=fun hp m hm=>by
   have:=WP hp m hm (i:=(k'+1)%l.length) (by rw[hvl];exact hk2)
   rwa [ev _ hk2,J7] at this
  obtain⟨u,hu⟩: ∃u,u=f.at (Av l k'):=⟨_,rfl⟩
  obtain⟨v,hvv⟩: ∃v,v=f.at (Av l (k'+1)):=⟨_,rfl⟩
  have hsu:=N9 f l k'
  have hmu:FY f l k'=Es f l k'++(if u≤0 then[Av l k'] else[]):=by rw[hu];rfl
  have hcz:=hz.c k' hk
  rw[←hu, ←hvv] at hsu hcz
  rw[←hu] at hr1
  rw[←hvv] at hr2
  refine zA (zB (wP I (Aa (zE (zB ?_)))))
  (refine Ae Tryz.hZ rfl rfl rfl rfl ?_;intro)
  refine wS 10 I I I (Aa ?_)
  rename_i b14
  refine B4 9 hrec I ?_
  refine B6 (zA (zU (qB 3 I I I (qP I ?_))))
  refine qJ ?_
  refine qL 0 I I (fun W1 hp=>hr1 hp 4 I) I (qC I I (fun W1 _=>Hg u W1) (qB 3 I I I (qP I (qP I (qV 40 ((k'+1:Nat):Int) I (Ax (by omega)) (qB 2 I I I (qP I ?_)))))))
  refine Ed I I I I I hzz ?_
  refine Eg 43 (.int .i64 (((k'+1)%l.length:Nat):Int)) I I ?_
  refine qJ ?_
  refine qL 0 I I (fun W1 hp=>hr2 hp 4 I) I (qC I I (fun W1 _=>Hg v W1) (qP I (qP I (AB (Aa (zE (zA (zA (zB (wP I (wP I (wU 48 (decide (u≤0)) I (On u) (Aa ?_)))))))))))))
  refine A8 ?_
  refine AC (X:=Vec) (fun _=>[(5,Af b5),(6,Af b6),(11,Af b11),(12,Af b12),(13, .int .i64 (k':Nat)),(14,Af b14),(15, .int .i64 (FX u)),(16, .int .i64 (FX v))])
   (fun O=>[AS L,ckB b5 c,lsB b6 (slv p l.length cap),nmB b11 (.slice (some ⟨gV,0,none⟩) l.length cV),⟨gV,25,vsC (l.map f.at)++jV,true,none⟩,lsB b12 (O.val (FY f l k').length),lsB bp (slv p l.length cap),O.bx 62 (ptC (FY f l k')),Bz d,Bb l' rec .busy none,⟨b14,321,(sdV (Av l k') (Av l (k'+1))).cells.toList,true,none⟩])
   (fun O=>O.OK 2 (FY f l k').length (ptC (FY f l k'))) ?_ ?_
  ·refine Aj I (fun hc1=> ?_) (fun hc1=> ?_)
   ·rw[if_pos (of_decide_eq_true hc1)] at hmu
    have hlm:(Es f l k').length+1=(FY f l k').length:=by rw[hmu,List.length_append];rfl
    refine zB (wB 5 I I I ?_)
    refine DU Tryz.underlying321 Tryz.sizeOf62 I I I I I ⟨by decide,by decide⟩ ?_
    refine wB 10 I I I ?_
    refine At Tryz.hZ tH I I I I I I I I I I I fun bS=> ?_
    refine AH (V:=O) (len:=(Es f l k').length) (xs:=ptC (Es f l k')) 7 11 Tryz.vec210 (FY f l k').length (ptC (FY f l k')) I I I I I I I I I I I hO I I hlm (by rw[hmu,C1];rfl) (by simp only[maxLen];omega) (by omega) I ?_
    intro gO cO jO hO1
    exact wS 5 I I I (Aa (An ⟨some gO,cO,jO⟩ hO1 ⟨I,I,I,I,I,I,I,I,tO⟩ [_] I))
   ·rw[if_neg (of_decide_eq_false hc1),List.append_nil] at hmu
    exact zI (An O (by rw[hmu];exact hO) ⟨I,I,I,I,I,I,I,I,tO⟩ [] (by rw[hmu];rfl))
  intro O1 hO1
  have hO1:O1.OK 2 (FY f l k').length (ptC (FY f l k')):=hO1
  refine zA (zB (wP I (wP I (wP I (wP I (wU 57 (decide (u*v<0)) I (V9 u v) (Aa (zE ?_))))))))
  refine Aj I (fun hc2=> ?_) (fun hc2=> ?_)
  ·have hc2':u*v<0:=of_decide_eq_true hc2
   rw[if_pos hc2'] at hsu
   have hlm:(FY f l k').length+1=(Es f l (k'+1)).length:=by rw[hsu,List.length_append];rfl
   refine AV (X:= { O:Vec//O.OK 2 (Es f l (k'+1)).length (ptC (Es f l (k'+1))) }) [true,true,true,true,true,true,true,true,true,true,true,true,true,true,true,true,true,true,true,false,false,false] (fun _=>[(5,Af b5)])
    (fun O=>[AS L,ckB b5 c,lsB b6 (slv p l.length cap),nmB b11 (.slice (some ⟨gV,0,none⟩) l.length cV),⟨gV,25,vsC (l.map f.at)++jV,true,none⟩,lsB b12 (O.1.val (Es f l (k'+1)).length),lsB bp (slv p l.length cap),O.1.bx 62 (ptC (Es f l (k'+1))),Bz d,Bb l' rec .busy none])
    3 [AS L,ckB b5 c,lsB b6 (slv p l.length cap),nmB b11 (.slice (some ⟨gV,0,none⟩) l.length cV),⟨gV,25,vsC (l.map f.at)++jV,true,none⟩,lsB b12 (O1.val (FY f l k').length),lsB bp (slv p l.length cap),O1.bx 62 (ptC (FY f l k')),Bz d,Bb l' rec .busy none,⟨b14,321,(sdV (Av l k') (Av l (k'+1))).cells.toList,true,none⟩] Tryz.mixed (by kernel_rfl) ?_ ?_
   ·refine qB 5 I I I (qB 1 I I I ?_)
    refine Bq Tryz.underlying321 Tryz.sizeOf62 I I I I I ⟨by decide,by decide⟩ ?_
    refine qB 10 I I I ?_
    refine Bq Tryz.underlying321 Tryz.sizeOf62 I I I I I ⟨by decide,by decide⟩ ?_
    refine qB 10 I I I (qB 3 I I I (qP I ?_))
    refine qJ ?_
    refine qL 0 I I (fun W1 hp=>hr1 hp 4 I) I (qB 3 I I I (qP I (qP I (qV 70 ((k'+1:Nat):Int) I (Ax (by omega)) (qB 2 I I I (qP I ?_))))))
    refine Ed I I I I I hzz ?_
    refine Eg 73 (.int .i64 (((k'+1)%l.length:Nat):Int)) I I ?_
    refine qJ ?_
    refine qL 0 I I (fun W1 hp=>hr2 hp 4 I) I (qC I I (fun W1 hp=>RB c (Av l k') (Av l (k'+1)) u v (hcz hc2') W1 (hc.hp hp) (hv.hp hp) (ht.hp hp)) (BU (wX (wZ ?_))))
    refine At Tryz.hZ tH I I I I I I I I I I I fun bS=> ?_
    refine Aa (Ag (wX (wZ ?_)))
    refine AH (V:=O1) (len:=(FY f l k').length) (xs:=ptC (FY f l k')) 7 11 Tryz.vec210 (Es f l (k'+1)).length (ptC (Es f l (k'+1))) rfl rfl rfl rfl rfl rfl rfl rfl rfl rfl rfl hO1 rfl rfl hlm (by rw[hsu,C1];rfl) (by simp only[maxLen];omega) (by omega) rfl ?_;intro gO cO jO hO2
    refine Aa (Ag (wY (wZ (wS 5 I I I (Aa (Ag ?_))))))
    refine AP I (by kernel_rfl) ?_
    exact A6 (⟨⟨some gO,cO,jO⟩,hO2⟩: { O:Vec//O.OK 2 (Es f l (k'+1)).length (ptC (Es f l (k'+1))) }) ⟨I,tO⟩ [0,1,2,3,4,5,6,7,8,9] (by decide) I
   rintro⟨O2,hO2⟩
   exact zN (Bg 9 (k'+1,O2) hrec I ⟨I,hO2⟩ [] I)
  ·rw[if_neg (of_decide_eq_false hc2),List.append_nil] at hsu
   exact zI (zN (Bg 9 (k'+1,O1) hrec I ⟨I,by show O1.OK 2 (Es f l (k'+1)).length (ptC (Es f l (k'+1)));rw[hsu];exact hO1⟩ [_] (by rw[hsu];rfl)))
 ·rintro⟨k',O⟩ d l' rec ⟨e1,hO⟩
  obtain rfl:k'=l.length:=e1
  have hO:O.OK 2 (Ce f l).length (ptC (Ce f l)):=hO
  have hoe:Es f l l.length=Ce f l:=rfl
  have hol:=Hl f l l.length
  rw[hoe] at hol
  rw[hoe]
  refine zN (zE (zA (zA (zB (wB 0 I I I ?_)))))
  refine AK I I I I ?_
  refine wP I (wL 0 I I (fun W1 hp=>(hc.hp hp).row) I (wP I (wP I (wB 2 I I I ?_))))
  refine wC I I (fun W1 hp=>(by
   have h:=JJ 334 (by kernel_rfl) (fun q=>decide (q<0)) NS (l.map f.at) (by rw[hvl];omega) (some ⟨gV,0,none⟩) cV W1 (.inr ⟨gV,0,rfl,by
    have:=C8 (Ai.of_bx hp 3 rfl rfl:Ai W1 gV 0 (vsC (l.map f.at)++jV))
    rw[List.map_map];exact this⟩)
   rwa [hvl,Wr] at h)) ?_
  cases hneg:JU f l with
  |false=>
   refine wP I (wP I (Aa (zE (zR I (zA (zB (wP I (Aa (zE (zO (zP ?_)))))))))))
   refine BK 7 I ?_
   have e0:F9 f l=[]:=by unfold F9;rw[hneg];rfl
   exact Ay tH I (.tmp I) Vec.empty (by rw[e0];rfl) (by rw[e0];exact Vec.OK.empty 2) fun W1 hp=>by
    rw[e0]
    exact Own.one (fun p hp=>by cases hp) List.nodup_nil
  |true=>
   have e0:F9 f l=CU (Ce f l):=by unfold F9;rw[hneg];rfl
   have hlb:(CU (Ce f l)).length=(Ce f l).length:=Rq (T2 _)
   obtain⟨q,hq,hqn⟩:=Rz.1 hneg
   have hpos:0<(Ce f l).length:=by
    obtain⟨i,hi,e⟩:=EN hq
    have:=Wf hP hi (by rw[e];exact hqn)
    rw[PG]
    omega
   obtain⟨pO,cO,jO⟩:=O
   obtain⟨gO,rfl⟩: ∃g,pO=some g:=Option.ne_none_iff_exists'.1 (fun e=>absurd (hO.nil e) (by omega))
   have hcO:=(hO.cap (by simp)).1
   refine wP I (wP I (Aa (zE (zS I (zI (zE (zA (zB (wB 0 I I I (wB 4 I I I ?_))))))))))
   refine wD (X:=Vec) I I (fun W1 hp=>OO c (Ce f l) 149 (by decide) hz.o hpos (by omega) gO cO hcO W1 (C8 (Ai.of_bx hp 6 I I:Ai W1 gO 0 (ptC (Ce f l)++jO))) (hc.hp hp) (hv.hp hp) (ht.hp hp)) ?_
   intro V2 hV2
   have hV2:V2.OK 2 (Ce f l).length (ptC (CU (Ce f l))):=hV2
   refine wP I (Aa (zE (zO ?_)))
   refine BK 7 I ?_
   exact Ay tH I (.tmp I) V2 (by rw[e0,hlb]) (by rw[e0,hlb];exact hV2) fun W1 hp=>by
    rw[e0]
    exact As.of_hp (hp.pick (l:=[V2.bx 62 (ptC (CU (Ce f l)))]) [9] (by decide) I)
-- BOXES 12
-- CODE2
theorem N3 : ∃ f1 f2 : Field, (Tryz.prog.fieldsOf 62).toList = [f1, f2] ∧ (f1.name ≠ "_" ∧ f1.type = 25 ∧ f1.offset = 0) ∧ (f2.name ≠ "_" ∧ f2.type = 25 ∧ f2.offset = 1) := by
 unfold Program.fieldsOf;rw[Tryz.underlying62]
 exact⟨_,_,I,⟨by decide,I,I⟩,⟨by decide,I,I⟩⟩
theorem XR (W:World) (a b c d:List UInt8):(binOp .eql 62 (.agg #[str a,str b]) (.agg #[str c,str d])).run Tryz.prog W= .ok (.bool (decide (a=c∧b=d))) W:=by
 rw[run_eql_struct,run_equalIn_agg W 9999 62 _ _ (by kernel_rfl) (by kernel_rfl)]
 obtain⟨f1,f2,hf,⟨n1,t1,o1⟩,⟨n2,t2,o2⟩⟩:=N3
 rw[hf]
 have e: ∀(x y:List UInt8) W,(Op.equalIn 9999 25 (str x) (str y)).run Tryz.prog W= .ok (decide (x=y)) W:=fun x y W=>by
  rw[run_equalIn_string W 9998 25 _ _ Tryz.underlying25,Bd]
 by_cases h1:a=c<;>by_cases h2:b=d<;>simp[Op.eqFields,part,Tryz.isAgg25,e,h1,h2,n1,n2,t1,t2,o1,o2]
theorem Xf (W:World) (a b c d:List UInt8):(binOp .neq 62 (.agg #[str a,str b]) (.agg #[str c,str d])).run Tryz.prog W= .ok (.bool (!decide (a=c∧b=d))) W:=by
 rw[run_neq_struct,run_equalIn_agg W 9999 62 _ _ (by kernel_rfl) (by kernel_rfl)]
 obtain⟨f1,f2,hf,⟨n1,t1,o1⟩,⟨n2,t2,o2⟩⟩:=N3
 rw[hf]
 have e: ∀(x y:List UInt8) W,(Op.equalIn 9999 25 (str x) (str y)).run Tryz.prog W= .ok (decide (x=y)) W:=fun x y W=>by
  rw[run_equalIn_string W 9998 25 _ _ Tryz.underlying25,Bd]
 by_cases h1:a=c<;>by_cases h2:b=d<;>simp[Op.eqFields,part,Tryz.isAgg25,e,h1,h2,n1,n2,t1,t2,o1,o2]
section
variable {r:Option Nat} {n:Nat} {N:Nat} {D:List Deferred} {ops:List Oper} {Q:Exit→Act→World→Prop} {o:Oper} {rest:List Oper} {env:Env} {A A2:World→Prop} {R:Act→World→Prop}
theorem OU (a b c d:List UInt8) {t:Nat} {u:TypeId} {x y:Operand} (hg:A0 ops N env o=some true) (hd:o.dst=some t) (ho:o.op= .binOp .eql 62 x y u)
  (hx:evO N env x=some (.agg #[str a,str b])) (hy:evO N env y=some (.agg #[str c,str d]))
  (h:WQ Tryz.prog N D ops A2 R rest ((t, .bool (decide (a=c∧b=d)))::env) A):WQ Tryz.prog N D ops A2 R (o::rest) env A:=
 Dx hg hd (fun c e=>by rw[ho] at e;cases e) (fun _ W hρ _=>by
  have hm:Tryz.prog.eqGuardType Tryz.prog.depth 62=false:=by kernel_rfl
  simp[execOp,ho,hρ _ _ hx,hρ _ _ hy,run_eqGuard_agg W .eql 62 x y _ _ hm,XR]) h
theorem VO (a b c d:List UInt8) {t:Nat} {u:TypeId} {x y:Operand} (hg:A0 ops N env o=some true) (hd:o.dst=some t) (ho:o.op= .binOp .neq 62 x y u)
  (hx:evO N env x=some (.agg #[str a,str b])) (hy:evO N env y=some (.agg #[str c,str d]))
  (h:WQ Tryz.prog N D ops A2 R rest ((t, .bool (!decide (a=c∧b=d)))::env) A):WQ Tryz.prog N D ops A2 R (o::rest) env A:=
 Dx hg hd (fun c e=>by rw[ho] at e;cases e) (fun _ W hρ _=>by
  have hm:Tryz.prog.eqGuardType Tryz.prog.depth 62=false:=by kernel_rfl
  simp[execOp,ho,hρ _ _ hx,hρ _ _ hy,run_eqGuard_agg W .neq 62 x y _ _ hm,Xf]) h
end
-- BOXES 12
-- CODE2
theorem Un {N:Nat} {D:List Deferred} {Q:Exit→Act→World→Prop} {ex:Exit} {env:Env} {W0:World} {bxs bxs':List Bx} (e:bxs=bxs') (h:NE N D Q ex env (Hp W0 bxs')):NE N D Q ex env (Hp W0 bxs):=e▸h
theorem Wb:Ac 2=[50]:=(congrArg Ac (show(2:Rat)=q2 2 1 by decide+kernel)).trans ns2
structure XZ (p q:Ar):Prop where
 x:Sz2 p.1 q.2
 y:Sz2 q.1 p.2
 s:Sz2 (p.1*q.2) (q.1*p.2)
theorem PJ (c:Nat) (p q:Ar) (hz:XZ p q) (W:World) (hc:Dc W c) (hv:AL W) (ht:AA W):
  Ad Tryz.prog 288 #[Af c,sdV p q] W (fun _:Unit=>str (Ac (Tu p q))) (fun _=>True) (fun _=>[]):=by
 refine Ab (args:=[Af c,sdV p q]) Tryz.func288 I I I ?_
 refine zA (zB ?_)
 (refine Ak rfl rfl rfl rfl ?_;intro)
 refine wP I (Aa (zE (zA (zU (qP I ?_)))))
 refine Bq Tryz.underlying321 Tryz.sizeOf62 I I I I I ⟨by decide,by decide⟩ ?_
 refine qP I (qB 0 I I I ?_)
 refine Bq Tryz.underlying321 Tryz.sizeOf62 I I I I I ⟨by decide,by decide⟩ ?_
 refine qP I (qB 0 I I I (qC I I (fun W hp=>Cm c p.1 q.2 hz.x W (hc.hp hp) (hv.hp hp) (ht.hp hp)) (qP I ?_)))
 refine Bq Tryz.underlying321 Tryz.sizeOf62 I I I I I ⟨by decide,by decide⟩ ?_
 refine qP I (qB 0 I I I ?_)
 refine Bq Tryz.underlying321 Tryz.sizeOf62 I I I I I ⟨by decide,by decide⟩ ?_
 refine qP I (qB 0 I I I (qC I I (fun W hp=>Cm c q.1 p.2 hz.y W (hc.hp hp) (hv.hp hp) (ht.hp hp)) (qP I (qP I (AB (Aa (zE (zA (zB (wP I (wP I (wP I (wC I I (fun W hp=>BR c (p.1*q.2) (q.1*p.2) hz.s W (hc.hp hp) (hv.hp hp) (ht.hp hp)) ?_)))))))))))))
 exact wP I (Aa (zE (zO (wR1 I I I))))
def crK (l:List Ar) (k:Nat):Rat:=RF (fun i=>Tu (Av l i) (Av l (i+1))) k
theorem Uy (l:List Ar) (k:Nat):crK l (k+1)=crK l k+Tu (Av l k) (Av l (k+1)):=rfl
structure ArZ (l:List Ar):Prop where
 d: ∀i,i<l.length→XZ (Av l i) (Av l (i+1))
 s: ∀i,i<l.length→Sz2 (crK l i) (Tu (Av l i) (Av l (i+1)))
 h:Sz2 (O9 l) 2
abbrev caB (c:Nat):Bx:=⟨c,317,[.int .i64 0],true,none⟩
abbrev nuB (b:Nat) (q:Rat):Bx:=⟨b,25,[str (Ac q)],true,none⟩
theorem Px (l:List Ar) (hz:ArZ l) (p:Option Addr) (cap:Nat) (W:World) (h:LN W p l):
  Ad Tryz.prog 236 #[slv p l.length cap] W (fun _:Unit=> .tuple #[str (Ac (O9 l/2)), .int .i64 0]) (fun _=>True) (fun _=>[]):=by
 have hn:=h.n
 refine Ab (args:=[slv p l.length cap]) Tryz.func236 I I I ?_
 refine zA (zB (wP I (wP I (Aa (zE (zA (zA (zB (wP I (wC I I (fun W1 hp=>MR l p cap W1 (h.hp hp)) (wP I (Aa (zE ?_)))))))))))))
 refine zA (zB (wP I (wP I (Aa (zE (zS I (zI (zE (zA (zB ?_))))))))))
 refine Au Tryz.hZ tH I I I I I I I I ?_
 (refine Ak rfl rfl rfl rfl ?_;intro)
 (refine Ae Tryz.hZ rfl rfl rfl rfl ?_;intro)
 (refine Ae Tryz.hZ rfl rfl rfl rfl ?_;intro)
 refine wS 1 I I I (wS 2 I I I (Aa ?_))
 rename_i bC b5 b6
 refine Un (bxs':=[caB bC,ckB b5 bC,nuB b6 (crK l 0)]) (by show _=[caB bC,ckB b5 bC,nuB b6 0];rw[nuB,Cs];rfl) ?_
 refine zE (zA (zA (zB (wP I ?_))))
 refine wD (X:=Nat) I I (fun W1 _=>EF p l.length cap W1) ?_
 intro bp _
 refine Aa (zE (zH ?_))
 refine Eh (X:=Nat) (fun k=>[caB bC,ckB b5 bC,nuB b6 (crK l k),lsB bp (slv p l.length cap)])
  (fun j x=>x=j) (fun _ _=>False) 0 rfl (by kernel_rfl) (Fx l bp p cap (by omega)) (fun _=>rfl)
  rfl [] rfl (fun k x W1 _ hp=>⟨Ai.of_bx hp 3 rfl rfl,(h.hp hp).m⟩) ?_ ?_ (fun _ _ _ _ _ h=>h.elim)
 ·rintro k k' d l' rec L hk e1 hrec
  obtain rfl:k'=k:=e1
  have hk:k'<l.length:=hk
  have hsu:=Uy l k'
  refine zB ?_
  (refine Ae Tryz.hZ rfl rfl rfl rfl ?_;intro)
  refine wS 7 I I I (Aa ?_)
  rename_i b8
  refine B4 6 hrec I ?_
  refine B6 ?_
  refine AV (X:=Unit) [true,true,true,true,true,true,false] (fun _=>[(5,Af b5)]) (fun _=>[AS L,caB bC,ckB b5 bC,nuB b6 (crK l (k'+1)),lsB bp (slv p l.length cap),Bz d,Bb l' rec .busy none])
   1 [AS L,caB bC,ckB b5 bC,nuB b6 (crK l k'),lsB bp (slv p l.length cap),Bz d,Bb l' rec .busy none,⟨b8,321,(sdV (Av l k') (Av l (k'+1))).cells.toList,true,none⟩] Tryz.mixed (by kernel_rfl) ?_ ?_
  ·refine qB 2 I I I (qB 3 I I I (qB 2 I I I (qB 7 I I I (qC I I (fun W1 hp=>PJ bC (Av l k') (Av l (k'+1)) (hz.d k' hk) W1 (Ek hp 1 I) (h.hp hp).v (h.hp hp).t) (qC I I (fun W1 hp=>EU bC (crK l k') (Tu (Av l k') (Av l (k'+1))) (hz.s k' hk) W1 (Ek hp 1 I) (h.hp hp).v (h.hp hp).t) (BU ?_))))))
   rw[←hsu]
   refine wX (wZ (wS 3 I I I (Aa (Ag ?_))))
   refine AP I (by kernel_rfl) ?_
   exact A6 () ⟨I,tO⟩ [0,1,2,3,4,5,6] (by decide) I
  intro _
  exact zN (Bg 6 (k'+1) hrec I I [] I)
 ·rintro k' d l' rec e1
  obtain rfl:k'=l.length:=e1
  refine zN (zE (zA (zA (zB (wB 1 I I I (wB 2 I I I (wC I I (fun W1 hp=>(by have:=LK bC (O9 l) 2 hz.h (by decide) W1 (Ek hp 0 I) (h.hp hp).v (h.hp hp).t;rwa [Wb] at this)) (wP I (Aa (zE (zA (zB (wB 1 I I I ?_)))))))))))))
  refine AK I I I I ?_
  refine wP I (wB 0 I I I (wP I (Aa (zE (zR I (zA (zB (wP I (wP I (wP I (Aa (zE (zO ?_)))))))))))))
  refine zP ?_
  refine BK 4 I ?_
  exact wR2 I I I
-- BOXES 12
-- CODE2
abbrev ptB (b:Nat) (a c:List UInt8):Bx:=⟨b,62,[str a,str c],true,none⟩
-- BOXES 3
-- CODE2
section
variable {P:Program} {W0:World} {N:Nat} {D:List Deferred} {ops:List Oper} {o:Oper} {rest:List Oper} {env:Env} {bxs:List Bx} {A2:World→Prop} {R:Act→World→Prop}
theorem Nq {ρ:Operand→Value} {c:Call} {f:Operand} {g:Nat} {first vs:List Value} {W:World} (ho:o.op= .call c) (hc:c.callee= .value f) (hf:ρ f= .func (.func g) first.toArray #[]) (ha:c.args.map ρ=vs.toArray) (hE:AN P g=true):
  (execOp ρ o).run P W= .ok (.enter g (first++vs).toArray) W:=by
 simp only[execOp,ho,resolve,hc,hf,ha,Sem.run_bind,Deferred.ofValue,Sem.run_pure,Result.andThen_ok,invoke,Fu hE]
 simp
theorem U3 {c:Call} {f:Operand} {g d:Nat} {first vs:List Value} {v:Value}
  (hg:A0 ops N env o=some true) (hd:o.dst=some d) (ho:o.op= .call c) (hc:c.callee= .value f) (hf:evO N env f=some (.func (.func g) first.toArray #[])) (ha:BH (evO N env) c.args.toList=some vs) (hE:AN P g=true)
  (hC: ∀W,Hp W0 bxs W→Ad P g (first++vs).toArray W (fun _:Unit=>v) (fun _=>True) (fun _=>[]))
  (h:WQ P N D ops A2 R rest ((d,v)::env) (Hp W0 bxs)):WQ P N D ops A2 R (o::rest) env (Hp W0 bxs):=
 KA hd (fun a W h1 _ hp=>by
  unfold OpS
  rw[D2 h1 hg,if_pos rfl]
  refine⟨fun c e=>(by rw[ho] at e;cases e), .inr ⟨g,_,Nq ho hc (A7 h1 _ _ hf) (DR (A7 h1) ha) hE,(hC W hp).out.mono ?_⟩⟩
  rintro e W' ⟨x,he,_,hb,_⟩
  exact⟨he,hp.grow hb,hb⟩) h
end
theorem RR (x:Nat) (h:x≤18446744073709551615) (W:World):Ad Tryz.prog 358 #[.int .u64 (x:Nat)] W (fun _:Unit=> .int .i64 (Lib.bitLen x)) (fun _=>True) (fun _=>[]):=by
 refine Ad.of1 ((Go.Proofs.Any.bits_Len (P:=Tryz.prog) (ρ:=Tryz.lays125_ren) { Tryz.lays125 with } (x:Int) W (by omega) (by omega)).mono ?_)
 rintro e w' ⟨rfl,rfl⟩
 exact⟨I,Below.refl _ _⟩
abbrev lsF (c:Nat):Value:= .func (.func 323) #[Af c] #[]
abbrev B5 (g:Nat) (l:List Ar) (junk:List Value):Bx:=⟨g,62,ptC l++junk,true,none⟩
-- BOXES 3
-- CODE2
def GI (x:Ar):List Ar→List Ar
 |[]=>[x]
 |y::l=>if E6 x y=true then x::y::l else y::GI x l
def Co (l:List Ar):List Ar:=l.foldl (fun s x=>GI x s) []
theorem Pg (x:Ar): ∀l,(GI x l).length=l.length+1
 |[]=>rfl
 |y::l=>by
  unfold GI
  split
  ·rfl
  ·rw[List.length_cons,Pg x l];rfl
theorem Lh {x y:Ar}: ∀ {l:List Ar},y∈GI x l↔y=x∨y∈l
 |[]=>by simp[GI]
 |z::l=>by
  unfold GI
  split
  ·simp
  ·rw[List.mem_cons,Lh (l:=l),List.mem_cons]
   constructor
   ·rintro(h|h|h)
    ·exact .inr (.inl h)
    ·exact .inl h
    ·exact .inr (.inr h)
   ·rintro(h|h|h)
    ·exact .inr (.inl h)
    ·exact .inl h
    ·exact .inr (.inr h)
theorem JW {a b c:Ar} (h1: ¬BT b a) (h2: ¬BT c b): ¬BT c a:=fun h=>by
 rcases J3 a b with d|d|d
 ·exact h2 (PI h d)
 ·subst d;exact h2 h
 ·exact h1 d
abbrev SrC (l:List Ar):Prop:=l.Pairwise fun a b=> ¬BT b a
theorem PT {x:Ar}: ∀ {l:List Ar},SrC l→SrC (GI x l)
 |[],_=>List.pairwise_cons.2 ⟨fun _ h=>absurd h List.not_mem_nil,List.Pairwise.nil⟩
 |y::l,h=>by
  have⟨h1,h2⟩:=List.pairwise_cons.1 h
  unfold GI
  split
  ·rename_i c
   have c:=CK.1 c
   refine List.pairwise_cons.2 ⟨fun z hz=> ?_,h⟩
   rcases List.mem_cons.1 hz with rfl|hz
   ·exact Ig c
   ·exact JW (Ig c) (h1 z hz)
  ·rename_i c
   refine List.pairwise_cons.2 ⟨fun z hz=> ?_,PT h2⟩
   rcases Lh.1 hz with rfl|hz
   ·exact fun d=>c (CK.2 d)
   ·exact h1 z hz
theorem HF: ∀(l s:List Ar),SrC s→SrC (l.foldl (fun s x=>GI x s) s)∧(l.foldl (fun s x=>GI x s) s).length=s.length+l.length∧ ∀y,y∈l.foldl (fun s x=>GI x s) s↔y∈s∨y∈l
 |[],s,h=>⟨h,rfl,fun y=>by simp⟩
 |x::l,s,h=>by
  obtain⟨a,b,c⟩:=HF l (GI x s) (PT h)
  refine⟨a,by rw[List.foldl_cons,b,Pg,List.length_cons];omega,fun y=> ?_⟩
  rw[List.foldl_cons,c,Lh,List.mem_cons]
  constructor
  ·rintro((h|h)|h)
   ·exact .inr (.inl h)
   ·exact .inl h
   ·exact .inr (.inr h)
  ·rintro(h|h|h)
   ·exact .inl (.inr h)
   ·exact .inl (.inl h)
   ·exact .inr h
theorem QC (l:List Ar):SrC (Co l):=(HF l [] List.Pairwise.nil).1
theorem KZ (l:List Ar):(Co l).length=l.length:=by
 have:=(HF l [] List.Pairwise.nil).2.1
 rw[List.length_nil,Nat.zero_add] at this;exact this
theorem QP {l:List Ar} {y:Ar}:y∈Co l↔y∈l:=by
 have:=(HF l [] List.Pairwise.nil).2.2 y
 exact this.trans (by simp)
theorem SQ (l:List Ar) {i:Nat} (hi:i<l.length):Co (l.take (i+1))=GI l[i] (Co (l.take i)):=by
 rw[Co,List.take_add_one,List.getElem?_eq_getElem hi,List.foldl_append];rfl
theorem Mb {x:Ar}: ∀(s:List Ar) (j:Nat),j≤s.length→(∀y∈s.take j, ¬BT x y)→(∀y∈s.drop j,BT x y)→GI x s=s.take j++x::s.drop j
 |[],j,hj,_,_=>by
  obtain rfl:j=0:=by simpa using hj
  rfl
 |y::l,0,_,_,h2=>by
  unfold GI
  rw[if_pos (CK.2 (h2 y (List.mem_cons_self ..)))];rfl
 |y::l,j+1,hj,h1,h2=>by
  unfold GI
  rw[if_neg (fun c=>h1 y (by simp) (CK.1 c)),Mb l j (by simpa using hj) (fun z hz=>h1 z (by simp[hz])) (fun z hz=>h2 z (by simpa using hz))]
  rfl
theorem Tn {x:Ar} {s:List Ar} {j:Nat} (hs:SrC s) (hj:j≤s.length) (h2: ∀y∈s.drop j,BT x y) (h1: ∀(h:0<j), ¬BT x s[j-1]):GI x s=s.take j++x::s.drop j:=by
 refine Mb s j hj (fun y hy=> ?_) h2
 obtain⟨k,hk,rfl⟩:=List.getElem_of_mem hy
 have hk':k<j:=by simp at hk;omega
 rw[List.getElem_take]
 have h3:=h1 (by omega)
 by_cases e:k=j-1
 ·subst e;exact h3
 ·exact JW (List.pairwise_iff_getElem.1 hs k (j-1) (by omega) (by omega) (by omega)) h3
theorem R9 (l:List Ar):Co (l.take 1)++l.drop 1=l:=by
 cases l with
 |nil=>rfl
 |cons x l=>rfl
abbrev JO (c:Nat) (x y:Ar) (W:World):Prop:=Ad Tryz.prog 323 #[Af c,cvV x,cvV y] W (fun _:Unit=> .int .i64 (Jv x y)) (fun _=>True) (fun _=>[])
theorem Rh (c:Nat) (W:World) (g cap:Nat) (l:List Ar) (junk:List Value) (hn:l.length<4611686018427387904) (hg:W.heap[g]? =some (.cells (ptC l++junk).toArray 62 (0,0)))
  (hf: ∀W',GL W W' g→ ∀x∈l, ∀y∈l,JO c x y W'):
  Calls Tryz.prog 373 #[.slice (some ⟨g,0,none⟩) l.length cap, .int .i64 0, .int .i64 (l.length:Nat),lsF c] W fun e W'=> ∃x:Unit,e= .returned ((fun _=> .tuple #[]) x)∧True∧KW W W' g ((fun _=>g) x) ((fun _=> .cells (ptC (Co l)++junk).toArray 62 (0,0)) x):=by
 have key:Calls Tryz.prog 373 [.slice (some ⟨g,0,none⟩) l.length cap, .int .i64 0, .int .i64 (l.length:Nat),lsF c].toArray W fun e W'=> ∃x:Unit,e= .returned ((fun _=> .tuple #[]) x)∧(fun _=>True) x∧Below (Ba W).heap.size (Ba W) W'∧As (Ba W) W' ((fun _=>[AS (A3 W g),B5 g (Co l) junk]) x):=by
  refine C6 (X:=Unit) (val:=fun _=> .tuple #[]) (Φ:=fun _=>True) (nb:=fun _=>[AS (A3 W g),B5 g (Co l) junk]) (Hp.enterT (B:=B5 g l junk) I hg) Tryz.func373 I I I ?_
  refine zA (zB (wP I (wP I (wP I (Aa (zE (zH ?_)))))))
  refine Aw (X:=Nat) (fun i=>[(0, .slice (some ⟨g,0,none⟩) l.length cap),(1, .int .i64 0),(2, .int .i64 (l.length:Nat)),(3,lsF c),(8, .int .i64 (i:Nat))]) (fun i=>[AS (A3 W g),B5 g (Co (l.take i)++l.drop i) junk])
   (fun i=>1≤i∧(i≤l.length∨i=1)) (fun i=>l.length+1-i) 1 ⟨Nat.le_refl _, .inr rfl⟩ ⟨rfl,rfl,rfl,rfl,rfl,trivial⟩ [] (by rw[R9];rfl) ?_
  rintro i ⟨hi1,hi2⟩
  refine zA (zA (zB (wP I (wP I (wP I ?_)))))
  by_cases hlt:i<l.length
  rotate_left
  ·refine wU 14 false I (dF (by omega)) (Aa (zE (zS I (zJ (zK (zK (zL ?_)))))))
   have e:Co (l.take i)++l.drop i=Co l:=by rw[List.take_of_length_le (by omega),List.drop_of_length_le (by omega),List.append_nil]
   refine SI (X:=Unit) (val:=fun _=> .tuple #[]) (Φ:=fun _=>True) (nb:=fun _=>[AS (A3 W g),B5 g (Co l) junk]) (fn:=Tryz.f373) tH I () I tO fun W1 hp=> ?_
   rw[e] at hp
   exact(hp.pick (l:=[AS (A3 W g),B5 g (Co l) junk]) [0,1] (by decide) I).own
  refine wU 14 true I (dT (by omega)) (Aa (zE (zR I (zI (zE (zA (zH (zA (zB (wP I (wP I (Aa (zE ?_)))))))))))))
  refine zH ?_
  obtain⟨s,hs⟩: ∃s,s=Co (l.take i):=⟨_,rfl⟩
  obtain⟨x,hx⟩: ∃x,x=l[i]:=⟨_,rfl⟩
  obtain⟨rr,hr⟩: ∃rr,rr=l.drop (i+1):=⟨_,rfl⟩
  have hsl:s.length=i:=by rw[hs,KZ,List.length_take];omega
  have hsort:SrC s:=hs▸QC _
  have hdrop:l.drop i=x::rr:=by rw[hx,hr];exact List.drop_eq_getElem_cons hlt
  have hrl:rr.length=l.length-(i+1):=by rw[hr,List.length_drop]
  have hxl:x∈l:=hx▸List.getElem_mem hlt
  have hsm: ∀y∈s,y∈l:=fun y hy=>by rw[hs] at hy;exact List.mem_of_mem_take (QP.1 hy)
  have hnext: ∀j,j≤s.length→(∀y∈s.drop j,BT x y)→(∀(h:0<j), ¬BT x s[j-1]!)→s.take j++x::s.drop j++rr=Co (l.take (i+1))++l.drop (i+1):=fun j h1 h2 h3=>by
   rw[SQ l hlt, ←hs, ←hx, ←hr,Tn hsort h1 h2 fun h=>by have:=h3 h;rwa [getElem!_pos s (j-1) (by omega)] at this]
  refine Aw (X:=Nat) (fun j=>[(0, .slice (some ⟨g,0,none⟩) l.length cap),(1, .int .i64 0),(2, .int .i64 (l.length:Nat)),(3,lsF c),(8, .int .i64 (i:Nat)),(9, .int .i64 (j:Nat))]) (fun j=>[AS (A3 W g),B5 g (s.take j++x::s.drop j++rr) junk])
   (fun j=>j≤s.length∧ ∀y∈s.drop j,BT x y) (fun j=>j) i ⟨by omega,by rw[←hsl,List.drop_length];exact fun y hy=>absurd hy List.not_mem_nil⟩ ⟨rfl,rfl,rfl,rfl,rfl,rfl,trivial⟩ [] (by rw[←hs,hdrop, ←hsl,List.take_length,List.drop_length,List.append_assoc];rfl) ?_
  rintro j ⟨hj,hgt⟩
  have hj:j≤s.length:=hj
  have hgt: ∀y∈s.drop j,BT x y:=hgt
  refine zA (zA (zU (qP I (qP I (qP I ?_)))))
  cases j with
  |zero=>
   refine Eg 20 (.bool false) I I ?_
   refine qP I ?_
   iterate 12 refine EL I I ?_
   refine qP I (AB (Aa (zE (zS I (zJ (zK (zK (zL (zN (zE (zB (wP I (wP I ?_)))))))))))))
   refine wV 16 ((i+1:Nat):Int) I (Ax (by omega)) (wP I (Aa ?_))
   refine Al (i+1) ⟨by show 1≤i+1;omega, .inl hlt⟩ (by show l.length+1-(i+1)<l.length+1-i;omega) ⟨I,I,I,I,I,tO⟩ [] ?_
   rw[hnext 0 hj hgt fun h=>absurd h (by decide)];rfl
  |succ m=>
   have hm:m<s.length:=hj
   obtain⟨y,hy⟩: ∃y,y=s[m]:=⟨_,rfl⟩
   have hyl:y∈l:=hsm y (hy▸List.getElem_mem hm)
   have e1:s.take (m+1)=s.take m++[y]:=by rw[List.take_add_one,List.getElem?_eq_getElem hm,hy];rfl
   have e2:s.drop m=y::s.drop (m+1):=by rw[hy];exact List.drop_eq_getElem_cons hm
   have e3:s[m+1-1]! =y:=by rw[Nat.add_sub_cancel,getElem!_pos s m hm,hy]
   have hA:(ptC (s.take m)).length=m*2:=by rw[B1,List.length_take,Nat.min_eq_left (by omega)]
   obtain⟨C,hC⟩: ∃C,C=ptC (s.drop (m+1)++rr)++junk:=⟨_,rfl⟩
   have row1:ptC (s.take (m+1)++x::s.drop (m+1)++rr)++junk=ptC (s.take m)++([str (Ac y.1),str (Ac y.2),str (Ac x.1),str (Ac x.2)]++C):=by rw[e1,hC];simp[ptC,List.flatMap_append]
   have row2:ptC (s.take m++x::s.drop m++rr)++junk=ptC (s.take m)++([str (Ac x.1),str (Ac x.2),str (Ac y.1),str (Ac y.2)]++C):=by rw[e2,hC];simp[ptC,List.flatMap_append]
   refine qU 20 true I (dT (by omega)) (qP I (qP I (qP I (qP I ?_))))
   refine qJ ?_
   refine qL 0 I I (fun W1 hp=>show Ai W1 g (0+(m+1)*2) [str (Ac x.1),str (Ac x.2)] from G6 hp 1 (A:=ptC (s.take m)++[str (Ac y.1),str (Ac y.2)]) (C:=C) I (by rw[row1];simp) (by rw[List.length_append,hA];simp only[List.length_cons,List.length_nil];omega)) I (qP I (qP I (qP I (qV 29 (m:Nat) I (show w64 (((m+1:Nat):Int)-1)=_ by rw[Ap (by omega) (by omega)];omega) ?_))))
   refine qJ ?_
   refine qL 0 I I (fun W1 hp=>show Ai W1 g (0+m*2) [str (Ac y.1),str (Ac y.2)] from G6 hp 1 (A:=ptC (s.take m)) (C:=[str (Ac x.1),str (Ac x.2)]++C) I (by rw[row1];simp) (by rw[hA];simp)) I ?_
   refine U3 (first:=[Af c]) I I I I I I (by kernel_rfl) (fun W1 hp=>hf W1 (IW hg ⟨_,List.mem_cons_self ..⟩ hp) x hxl y hyl) ?_
   refine qP I (qU 33 (E6 x y) I (Se x y) (qP I (AB (Aa (zE ?_)))))
   refine Aj I (fun h=> ?_) (fun h=> ?_)
   rotate_left
   ·have hc: ¬BT x y:=fun d=>by rw[CK.2 d] at h;cases h
    refine zJ (zK (zK (zL (zN (zE (zB (wP I (wP I (wV 16 ((i+1:Nat):Int) I (Ax (by omega)) (wP I (Aa ?_)))))))))))
    refine Al (i+1) ⟨by show 1≤i+1;omega, .inl hlt⟩ (by show l.length+1-(i+1)<l.length+1-i;omega) ⟨I,I,I,I,I,tO⟩ [] ?_
    rw[hnext (m+1) hj hgt fun _=>by rw[e3];exact hc];rfl
   have hc:BT x y:=CK.1 h
   clear h
   refine Ya (bxs':=[AS (A3 W g),⟨g,62,ptC (s.take m)++([str (Ac y.1),str (Ac y.2),str (Ac x.1),str (Ac x.2)]++C),true,none⟩]) (by rw[←row1]) ?_
   refine zI (zE (Az (B6 ?_)))
   repeat refine Az ?_
   refine AV (X:=Unit) [true,true,false,false,false,true,true,true,true,true,true,true,true,true,true,false,false,false] (fun _=>[(0, .slice (some ⟨g,0,none⟩) l.length cap),(1, .int .i64 0),(2, .int .i64 (l.length:Nat)),(3,lsF c),(8, .int .i64 (i:Nat)),(9, .int .i64 ((m+1:Nat):Int))]) (fun _=>[AS (A3 W g),⟨g,62,ptC (s.take m)++([str (Ac x.1),str (Ac x.2),str (Ac y.1),str (Ac y.2)]++C),true,none⟩])
    6 [AS (A3 W g),⟨g,62,ptC (s.take m)++([str (Ac y.1),str (Ac y.2),str (Ac x.1),str (Ac x.2)]++C),true,none⟩] Tryz.mixed (by kernel_rfl) ?_ ?_
   ·refine qP I (qP I (qP I (qP I (qP I (qV 44 (m:Nat) I (show w64 (((m+1:Nat):Int)-1)=_ by rw[Ap (by omega) (by omega)];omega) ?_)))))
    refine qJ ?_
    refine qL 0 I I (fun W1 hp=>show Ai W1 g (0+m*2) [str (Ac y.1),str (Ac y.2)] from G6 hp 1 (A:=ptC (s.take m)) (C:=[str (Ac x.1),str (Ac x.2)]++C) I (by simp) (by rw[hA];simp)) I (qP I (qP I ?_))
    refine qJ ?_
    refine qL 0 I I (fun W1 hp=>show Ai W1 g (0+(m+1)*2) [str (Ac x.1),str (Ac x.2)] from G6 hp 1 (A:=ptC (s.take m)++[str (Ac y.1),str (Ac y.2)]) (C:=C) I (by simp) (by rw[List.length_append,hA];simp only[List.length_cons,List.length_nil];omega)) I ?_
    refine qJ ?_
    refine BU ?_
    have h1:Bw (ptC (s.take m)++([str (Ac y.1),str (Ac y.2),str (Ac x.1),str (Ac x.2)]++C)) (0+(m+1)*2) (cvV y).cells.toList=ptC (s.take m)++([str (Ac y.1),str (Ac y.2),str (Ac y.1),str (Ac y.2)]++C):=by
     rw[show 0+(m+1)*2=(ptC (s.take m)).length+2 by rw[hA];omega,DV];rfl
    have h2:Bw (ptC (s.take m)++([str (Ac y.1),str (Ac y.2),str (Ac y.1),str (Ac y.2)]++C)) (0+m*2) (cvV x).cells.toList=ptC (s.take m)++([str (Ac x.1),str (Ac x.2),str (Ac y.1),str (Ac y.2)]++C):=by
     rw[show 0+m*2=(ptC (s.take m)).length+0 by rw[hA];omega,DV];rfl
    have h3:0+(m+1)*2+2≤(ptC (s.take m)++([str (Ac y.1),str (Ac y.2),str (Ac x.1),str (Ac x.2)]++C)).length:=by rw[List.length_append,hA,List.length_append];simp only[List.length_cons,List.length_nil];omega
    have h4:0+m*2+2≤(ptC (s.take m)++([str (Ac y.1),str (Ac y.2),str (Ac y.1),str (Ac y.2)]++C)).length:=by rw[List.length_append,hA,List.length_append];simp only[List.length_cons,List.length_nil];omega
    refine wX ?_
    refine RS.cons ?_ (RS.cons ?_ (RS.cons ?_ (RS.nil)))
    ·refine wP I (Aa (Ag (wX ?_)))
     refine RS.cons ?_ (RS.cons ?_ (RS.nil))
     ·refine wP I (Aa (Ag (wX ?_)))
      refine RS.cons ?_ (RS.cons ?_ (RS.nil))
      ·refine wP I (Aa (Ag (wX (wZ ?_))))
       refine AE 1 _ tH I I I I I I I I I I h3 h1 ?_
       refine Aa (Ag (wY (wZ ?_)))
       refine wV 41 (m:Nat) I (show w64 (((m+1:Nat):Int)-1)=_ by rw[Ap (by omega) (by omega)];omega) ?_;(first|refine wJ ?_|refine qJ ?_)
       refine Aa (Ag (wY (wZ ?_)))
       refine AE 1 _ tH I I I I I I I I I I h4 h2 ?_
       refine Aa (Ag ?_)
       refine AP I (by kernel_rfl) ?_
       exact A6 () ⟨I,I,I,I,I,I,tO⟩ [0,1] (by decide) I
      ·refine AE 1 _ tH I I I I I I I I I I h3 h1 ?_
       refine Aa (Ag (wY (wZ (wP I (Aa (Ag (wY (wZ ?_))))))))
       refine wV 41 (m:Nat) I (show w64 (((m+1:Nat):Int)-1)=_ by rw[Ap (by omega) (by omega)];omega) ?_;(first|refine wJ ?_|refine qJ ?_)
       refine Aa (Ag (wY (wZ ?_)))
       refine AE 1 _ tH I I I I I I I I I I h4 h2 ?_
       refine Aa (Ag ?_)
       refine AP I (by kernel_rfl) ?_
       exact A6 () ⟨I,I,I,I,I,I,tO⟩ [0,1] (by decide) I
     ·refine AE 1 _ tH I I I I I I I I I I h3 h1 ?_
      refine Aa (Ag (wY (wZ (wP I (Aa (Ag (wY (wZ (wP I (Aa (Ag (wY (wZ ?_)))))))))))))
      refine wV 41 (m:Nat) I (show w64 (((m+1:Nat):Int)-1)=_ by rw[Ap (by omega) (by omega)];omega) ?_;(first|refine wJ ?_|refine qJ ?_)
      refine Aa (Ag (wY (wZ ?_)))
      refine AE 1 _ tH I I I I I I I I I I h4 h2 ?_
      refine Aa (Ag ?_)
      refine AP I (by kernel_rfl) ?_
      exact A6 () ⟨I,I,I,I,I,I,tO⟩ [0,1] (by decide) I
    ·refine wP I (Aa (Ag (wX ?_)))
     refine RS.cons ?_ (RS.cons ?_ (RS.cons ?_ (RS.nil)))
     ·refine wP I (Aa (Ag (wX ?_)))
      refine RS.cons ?_ (RS.cons ?_ (RS.nil))
      ·refine wP I (Aa (Ag (wX (wZ ?_))))
       refine AE 1 _ tH I I I I I I I I I I h3 h1 ?_
       refine Aa (Ag (wY (wZ ?_)))
       refine wV 41 (m:Nat) I (show w64 (((m+1:Nat):Int)-1)=_ by rw[Ap (by omega) (by omega)];omega) ?_;(first|refine wJ ?_|refine qJ ?_)
       refine Aa (Ag (wY (wZ ?_)))
       refine AE 1 _ tH I I I I I I I I I I h4 h2 ?_
       refine Aa (Ag ?_)
       refine AP I (by kernel_rfl) ?_
       exact A6 () ⟨I,I,I,I,I,I,tO⟩ [0,1] (by decide) I
      ·refine AE 1 _ tH I I I I I I I I I I h3 h1 ?_
       refine Aa (Ag (wY (wZ (wP I (Aa (Ag (wY (wZ ?_))))))))
       refine wV 41 (m:Nat) I (show w64 (((m+1:Nat):Int)-1)=_ by rw[Ap (by omega) (by omega)];omega) ?_;(first|refine wJ ?_|refine qJ ?_)
       refine Aa (Ag (wY (wZ ?_)))
       refine AE 1 _ tH I I I I I I I I I I h4 h2 ?_
       refine Aa (Ag ?_)
       refine AP I (by kernel_rfl) ?_
       exact A6 () ⟨I,I,I,I,I,I,tO⟩ [0,1] (by decide) I
     ·refine wP I (Aa (Ag (wX ?_)))
      refine RS.cons ?_ (RS.cons ?_ (RS.nil))
      ·refine wP I (Aa (Ag (wX (wZ ?_))))
       refine AE 1 _ tH I I I I I I I I I I h3 h1 ?_
       refine Aa (Ag (wY (wZ ?_)))
       refine wV 41 (m:Nat) I (show w64 (((m+1:Nat):Int)-1)=_ by rw[Ap (by omega) (by omega)];omega) ?_;(first|refine wJ ?_|refine qJ ?_)
       refine Aa (Ag (wY (wZ ?_)))
       refine AE 1 _ tH I I I I I I I I I I h4 h2 ?_
       refine Aa (Ag ?_)
       refine AP I (by kernel_rfl) ?_
       exact A6 () ⟨I,I,I,I,I,I,tO⟩ [0,1] (by decide) I
      ·refine AE 1 _ tH I I I I I I I I I I h3 h1 ?_
       refine Aa (Ag (wY (wZ (wP I (Aa (Ag (wY (wZ ?_))))))))
       refine wV 41 (m:Nat) I (show w64 (((m+1:Nat):Int)-1)=_ by rw[Ap (by omega) (by omega)];omega) ?_;(first|refine wJ ?_|refine qJ ?_)
       refine Aa (Ag (wY (wZ ?_)))
       refine AE 1 _ tH I I I I I I I I I I h4 h2 ?_
       refine Aa (Ag ?_)
       refine AP I (by kernel_rfl) ?_
       exact A6 () ⟨I,I,I,I,I,I,tO⟩ [0,1] (by decide) I
     ·refine AE 1 _ tH I I I I I I I I I I h3 h1 ?_
      refine Aa (Ag (wY ?_))
      refine RS.cons ?_ (RS.cons ?_ (RS.nil))
      ·refine wP I (Aa (Ag (wY (wZ (wP I (Aa (Ag (wY (wZ ?_)))))))))
       refine wV 41 (m:Nat) I (show w64 (((m+1:Nat):Int)-1)=_ by rw[Ap (by omega) (by omega)];omega) ?_;(first|refine wJ ?_|refine qJ ?_)
       refine Aa (Ag (wY (wZ ?_)))
       refine AE 1 _ tH I I I I I I I I I I h4 h2 ?_
       refine Aa (Ag ?_)
       refine AP I (by kernel_rfl) ?_
       exact A6 () ⟨I,I,I,I,I,I,tO⟩ [0,1] (by decide) I
      ·refine wP I (Aa (Ag (wY (wZ (wP I (Aa (Ag (wY (wZ ?_)))))))))
       refine wV 41 (m:Nat) I (show w64 (((m+1:Nat):Int)-1)=_ by rw[Ap (by omega) (by omega)];omega) ?_;(first|refine wJ ?_|refine qJ ?_)
       refine Aa (Ag (wY (wZ ?_)))
       refine AE 1 _ tH I I I I I I I I I I h4 h2 ?_
       refine Aa (Ag ?_)
       refine AP I (by kernel_rfl) ?_
       exact A6 () ⟨I,I,I,I,I,I,tO⟩ [0,1] (by decide) I
    ·refine AE 1 _ tH I I I I I I I I I I h3 h1 ?_
     refine Aa (Ag (wY ?_))
     refine RS.cons ?_ (RS.cons ?_ (RS.nil))
     ·refine wP I (Aa (Ag (wY (wZ (wP I (Aa (Ag (wY (wZ (wP I (Aa (Ag (wY ?_)))))))))))))
      refine wZ ?_
      refine wV 41 (m:Nat) I (show w64 (((m+1:Nat):Int)-1)=_ by rw[Ap (by omega) (by omega)];omega) ?_;(first|refine wJ ?_|refine qJ ?_)
      refine Aa (Ag (wY (wZ ?_)))
      refine AE 1 _ tH I I I I I I I I I I h4 h2 ?_
      refine Aa (Ag ?_)
      refine AP I (by kernel_rfl) ?_
      exact A6 () ⟨I,I,I,I,I,I,tO⟩ [0,1] (by decide) I
     ·refine wP I (Aa (Ag (wY ?_)))
      refine RS.cons ?_ (RS.cons ?_ (RS.nil))
      ·refine wP I (Aa (Ag (wY (wZ (wP I (Aa (Ag (wY (wZ ?_)))))))))
       refine wV 41 (m:Nat) I (show w64 (((m+1:Nat):Int)-1)=_ by rw[Ap (by omega) (by omega)];omega) ?_;(first|refine wJ ?_|refine qJ ?_)
       refine Aa (Ag (wY (wZ ?_)))
       refine AE 1 _ tH I I I I I I I I I I h4 h2 ?_
       refine Aa (Ag ?_)
       refine AP I (by kernel_rfl) ?_
       exact A6 () ⟨I,I,I,I,I,I,tO⟩ [0,1] (by decide) I
      ·refine wP I (Aa (Ag (wY (wZ (wP I (Aa (Ag (wY (wZ ?_)))))))))
       refine wV 41 (m:Nat) I (show w64 (((m+1:Nat):Int)-1)=_ by rw[Ap (by omega) (by omega)];omega) ?_;(first|refine wJ ?_|refine qJ ?_)
       refine Aa (Ag (wY (wZ ?_)))
       refine AE 1 _ tH I I I I I I I I I I h4 h2 ?_
       refine Aa (Ag ?_)
       refine AP I (by kernel_rfl) ?_
       exact A6 () ⟨I,I,I,I,I,I,tO⟩ [0,1] (by decide) I
   intro _
   refine zN (zE (zB (wP I (wP I (wV 36 (m:Nat) I (show w64 (((m+1:Nat):Int)-1)=_ by rw[Ap (by omega) (by omega)];omega) (wP I (Aa ?_)))))))
   refine Al m ⟨by show m≤s.length;omega,fun z hz=> ?_⟩ (by show m<m+1;omega) ⟨I,I,I,I,I,I,tO⟩ [] (by rw[←row2];rfl)
   rw[e2] at hz
   rcases List.mem_cons.1 hz with rfl|hz
   ·exact hc
   ·exact hgt z hz
 refine key.mono ?_
 rintro e W' ⟨x,he,_,hb,hn'⟩
 exact⟨x,he,tO,Gm hg I hb hn'⟩
theorem RH (c:Nat) (W:World) (g cap:Nat) (l:List Ar) (junk:List Value) (z:Int) (hn:l.length≤12) (hg:W.heap[g]? =some (.cells (ptC l++junk).toArray 62 (0,0)))
  (hf: ∀W',GL W W' g→ ∀x∈l, ∀y∈l,JO c x y W'):
  Calls Tryz.prog 357 #[.slice (some ⟨g,0,none⟩) l.length cap, .int .i64 0, .int .i64 (l.length:Nat), .int .i64 z,lsF c] W fun e W'=> ∃x:Unit,e= .returned ((fun _=> .tuple #[]) x)∧True∧KW W W' g ((fun _=>g) x) ((fun _=> .cells (ptC (Co l)++junk).toArray 62 (0,0)) x):=by
 have key:Calls Tryz.prog 357 [.slice (some ⟨g,0,none⟩) l.length cap, .int .i64 0, .int .i64 (l.length:Nat), .int .i64 z,lsF c].toArray W fun e W'=> ∃x:Unit,e= .returned ((fun _=> .tuple #[]) x)∧(fun _=>True) x∧Below (Ba W).heap.size (Ba W) W'∧As (Ba W) W' ((fun _=>[AS (A3 W g),B5 g (Co l) junk]) x):=by
  refine C6 (X:=Unit) (val:=fun _=> .tuple #[]) (Φ:=fun _=>True) (nb:=fun _=>[AS (A3 W g),B5 g (Co l) junk]) (Hp.enterT (B:=B5 g l junk) I hg) Tryz.func357 I I I ?_
  refine zA (zB (wP I (Aa (zE (zA (zB (wP I (Aa (zE (zH ?_))))))))))
  refine Aw (X:=Unit) (fun _=>[(0, .slice (some ⟨g,0,none⟩) l.length cap),(1, .int .i64 0),(2, .int .i64 (l.length:Nat)),(3, .int .i64 z),(4,lsF c)]) (fun _=>[AS (A3 W g),B5 g l junk]) (fun _=>True) (fun _=>0) () tO ⟨I,I,I,I,I,tO⟩ [] I ?_
  intro _ _
  refine zH (zA (zB (wP I (wP I (wP I (wV 23 (l.length:Nat) I (show w64 ((l.length:Nat)-0)=_ by rw[Ap (by omega) (by omega)];omega) (wP I (Aa (zE (zA (zA (zB (wP I (wP I ?_))))))))))))))
  refine wU 25 true I (dT (by omega)) (Aa (zE (zR I (zA (zB (wP I (wP I (wP I (wP I ?_)))))))))
  refine Er (X:=Unit) (val:=fun _=> .tuple #[]) (Φ:=fun _=>True) (capt:=[]) 1 (B:=B5 g l junk) (L1:=[]) (L2:=[]) (b:=g) (ob:= .cells (ptC l++junk).toArray 62 (0,0)) (fun _=>B5 g (Co l) junk) (g':=fun _=>g) (o':=fun _=> .cells (ptC (Co l)++junk).toArray 62 (0,0))
   rfl rfl rfl rfl rfl rfl (by kernel_rfl) rfl rfl (fun _ _=>rfl) (fun W1 hp=>Rh c W1 g cap l junk (by omega) (hp.own.cell 1 _ rfl (g, .cells (ptC l++junk).toArray 62 (0,0)) (List.mem_cons_self ..)).1 (fun W2 hk=>hf W2 ((IW hg ⟨_,List.mem_cons_self ..⟩ hp).trans hk))) (fun _ _=> ?_)
  refine Aa (zE (zO (zP (zQ (zP (zQ ?_))))))
  refine VF (X:=Unit) (val:=fun _=> .tuple #[]) (Φ:=fun _=>True) (nb:=fun _=>[AS (A3 W g),B5 g (Co l) junk]) (fn:=Tryz.f357) tH I () I tO fun W1 hp=> ?_
  exact(hp.pick (l:=[AS (A3 W g),B5 g (Co l) junk]) [0,1] (by decide) I).own
 refine key.mono ?_
 rintro e W' ⟨x,he,_,hb,hn'⟩
 exact⟨x,he,tO,Gm hg I hb hn'⟩
theorem Xe {n:Nat} (h:n≤12):IntKind.u64.wrap (n:Nat)=(n:Int):=by
 simp only[IntKind.wrap,IntKind.signed,IntKind.bits]
 simp
 omega
theorem QL (c:Nat) (W:World) (g cap:Nat) (l:List Ar) (junk:List Value) (hn:l.length≤12) (hg:W.heap[g]? =some (.cells (ptC l++junk).toArray 62 (0,0)))
  (hf: ∀W',GL W W' g→ ∀x∈l, ∀y∈l,JO c x y W'):
  Calls Tryz.prog 322 #[.slice (some ⟨g,0,none⟩) l.length cap,lsF c] W fun e W'=> ∃x:Unit,e= .returned ((fun _=> .tuple #[]) x)∧True∧KW W W' g ((fun _=>g) x) ((fun _=> .cells (ptC (Co l)++junk).toArray 62 (0,0)) x):=by
 have key:Calls Tryz.prog 322 [.slice (some ⟨g,0,none⟩) l.length cap,lsF c].toArray W fun e W'=> ∃x:Unit,e= .returned ((fun _=> .tuple #[]) x)∧(fun _=>True) x∧Below (Ba W).heap.size (Ba W) W'∧As (Ba W) W' ((fun _=>[AS (A3 W g),B5 g (Co l) junk]) x):=by
  refine C6 (X:=Unit) (val:=fun _=> .tuple #[]) (Φ:=fun _=>True) (nb:=fun _=>[AS (A3 W g),B5 g (Co l) junk]) (Hp.enterT (B:=B5 g l junk) I hg) Tryz.func322 I I I ?_
  refine zA (zB (wP I (wP I (wP I (Aa (zE (zB (wP I (wP I (wP I ?_))))))))))
  refine J4 (k:= .u64) (kt:= .i64) (by kernel_rfl) (by kernel_rfl) I I I I ?_
  refine Ao 10 (.int .u64 (l.length:Nat)) I (congrArg (Value.int .u64) (Xe hn)) ?_
  refine Bh (capt:=[]) I I I I I I (by kernel_rfl) (fun W _=>RR l.length (by omega) W) ?_
  refine wP I ?_
  refine Er (X:=Unit) (val:=fun _=> .tuple #[]) (Φ:=fun _=>True) (capt:=[]) 1 (B:=B5 g l junk) (L1:=[]) (L2:=[]) (b:=g) (ob:= .cells (ptC l++junk).toArray 62 (0,0)) (fun _=>B5 g (Co l) junk) (g':=fun _=>g) (o':=fun _=> .cells (ptC (Co l)++junk).toArray 62 (0,0))
   rfl rfl rfl rfl rfl rfl (by kernel_rfl) rfl rfl (fun _ _=>rfl) (fun W1 hp=>RH c W1 g cap l junk _ hn (hp.own.cell 1 _ rfl (g, .cells (ptC l++junk).toArray 62 (0,0)) (List.mem_cons_self ..)).1 (fun W2 hk=>hf W2 ((IW hg ⟨_,List.mem_cons_self ..⟩ hp).trans hk))) (fun _ _=> ?_)
  refine Aa ?_
  refine SI (X:=Unit) (val:=fun _=> .tuple #[]) (Φ:=fun _=>True) (nb:=fun _=>[AS (A3 W g),B5 g (Co l) junk]) (fn:=Tryz.f322) tH I () I tO fun W1 hp=> ?_
  exact(hp.pick (l:=[AS (A3 W g),B5 g (Co l) junk]) [0,1] (by decide) I).own
 refine key.mono ?_
 rintro e W' ⟨x,he,_,hb,hn'⟩
 exact⟨x,he,tO,Gm hg I hb hn'⟩
-- BOXES 3
-- CODE2
section
variable {r:Option Nat} {n:Nat} {P:Program} {W0:World} {N:Nat} {D:List Deferred} {ops:List Oper} {Q:Exit→Act→World→Prop} {o:Oper} {rest:List Oper} {env:Env} {bxs:List Bx}
theorem U5 (k:Nat) {t e:TypeId} {z:Value} (ht:P.underlying t=some (.slice e)) (hz: ∀W,(zeroValue e).run P W= .ok z W) {c:Call} {x:Operand} {B:Bx} {off m cp:Nat}
  (hg:A0 ops N env o=some true) (hd:o.dst=none) (ho:o.op= .call c) (hc:c.callee= .builtin .clear) (ha:c.args= #[x]) (hat:c.argTypes= #[t])
  (hk:nth bxs k=some B) (hon:B.row=true) (hx:evO N env x=some (.slice (some ⟨B.b,off,none⟩) m cp)) (h1:CE (BA z.cells.toList m)=true) (hfit:off+(BA z.cells.toList m).length≤B.cells.length)
  (h:WL r n P N D ops Q rest env (Hp W0 (bxs.set k { B with cells:=Bw B.cells off (BA z.cells.toList m) }))):WL r n P N D ops Q (o::rest) env (Hp W0 bxs):= .mk fun a W ha' hd' hp=>by
 rw[Be] at hk
 refine By hg ha' (fun c e=>by rw[ho] at e;cases e) ?_
 have h3:=(hp.at_ _ _ hk (Bx.row_on hon).1).1
 rw[(Bx.row_on hon).2] at h3
 obtain⟨W',hr,hu⟩:=EW (P:=P) (o:=off) (BA z.cells.toList m) 0 B.cells W h3 (by omega) h1
 have e1:c.args.map (ov env a).eval= #[.slice (some ⟨B.b,off,none⟩) m cp]:=by rw[ha];simp[A7 ha' _ _ hx]
 have hrun:(Builtin.clear_ #[t] o.type #[.slice (some ⟨B.b,off,none⟩) m cp]).run P W= .ok (.tuple #[]) W':=by
  cases m with
  |zero=>
   have e0:BA z.cells.toList 0=[]:=rfl
   rw[e0] at hr
   simp[storeCells] at hr
   simp[Builtin.clear_,run_underlying ht,hr]
  |succ m=>simp[Builtin.clear_,run_underlying ht,hz,FU,hr]
 have:(execOp (ov env a).eval o).run P W= .ok (.value (.tuple #[])) W':=by
  simp only[execOp,ho,resolve,hc,invoke,builtin,e1,hat,Sem.run_bind,Sem.run_pure,Result.andThen_ok,hrun]
 rw[this]
 simp only[Oper.uponIn,hd]
 rw[Nat.add_zero] at hu
 exact h.out a W' ha' hd' (hp.upd hk hon hu)
end
def Ea (l:List Ar):Nat→List Ar
 |0=>[]
 |n+1=>if 0<n∧l[n]? =l[n-1]? then Ea l n else Ea l n++(l[n]?).toList
abbrev G7 (l:List Ar):List Ar:=Ea l l.length
theorem PM (l:List Ar): ∀n,(Ea l n).length≤n
 |0=>Nat.le_refl _
 |n+1=>by
  have ih:=PM l n
  unfold Ea
  split
  ·omega
  ·rw[List.length_append]
   have:(l[n]?).toList.length≤1:=by cases l[n]? <;>simp
   omega
theorem JQ {l:List Ar} {n:Nat} (h0:0<n) (h:l[n]? =l[n-1]?):Ea l (n+1)=Ea l n:=by
 show(if 0<n∧l[n]? =l[n-1]? then Ea l n else _)=_
 rw[if_pos ⟨h0,h⟩]
theorem LF {l:List Ar} {n:Nat} (hn:n<l.length) (h: ¬(0<n∧l[n]? =l[n-1]?)):Ea l (n+1)=Ea l n++[l[n]]:=by
 show(if 0<n∧l[n]? =l[n-1]? then _ else Ea l n++(l[n]?).toList)=_
 rw[if_neg h,List.getElem?_eq_getElem hn];rfl
theorem PB (l:List Ar):Ea l 1=l.take 1:=by
 cases l with
 |nil=>rfl
 |cons x l=>rfl
theorem N8 {l:List Ar} (hs:SrC l): ∀n,n≤l.length→(Ea l n).Pairwise BT∧(∀x,x∈Ea l n↔x∈l.take n)
 |0,_=>⟨List.Pairwise.nil,fun x=>by simp[Ea]⟩
 |n+1,hn=>by
  obtain⟨a,b⟩:=N8 hs n (by omega)
  have hn':n<l.length:=hn
  have et:l.take (n+1)=l.take n++[l[n]]:=by rw[List.take_add_one,List.getElem?_eq_getElem hn'];rfl
  by_cases h:0<n∧l[n]? =l[n-1]?
  ·rw[JQ h.1 h.2]
   refine⟨a,fun x=> ?_⟩
   rw[b,et,List.mem_append,List.mem_singleton]
   refine⟨.inl,fun h2=> ?_⟩
   rcases h2 with h2|rfl
   ·exact h2
   ·have e:l[n]=l[n-1]'(by omega):=by
     have:=h.2
     rw[List.getElem?_eq_getElem hn',List.getElem?_eq_getElem (by omega)] at this
     exact Option.some.inj this
    rw[e]
    exact List.mem_iff_getElem.2 ⟨n-1,by rw[List.length_take];omega,by rw[List.getElem_take]⟩
  ·rw[LF hn' h]
   refine⟨List.pairwise_append.2 ⟨a,List.pairwise_cons.2 ⟨fun _ h=>absurd h List.not_mem_nil,List.Pairwise.nil⟩,fun x hx y hy=> ?_⟩,fun x=> ?_⟩
   ·obtain rfl:=List.mem_singleton.1 hy
    obtain⟨i,hi,rfl⟩:=List.mem_iff_getElem.1 ((b x).1 hx)
    rw[List.length_take] at hi
    rw[List.getElem_take]
    have hp:=List.pairwise_iff_getElem.1 hs
    have h1:=hp i n (by omega) hn' (by omega)
    rcases J3 l[i] l[n] with d|d|d
    ·exact d
    ·exfalso
     refine h ⟨by omega, ?_⟩
     rw[List.getElem?_eq_getElem hn',List.getElem?_eq_getElem (show n-1<l.length by omega)]
     congr 1
     by_cases ei:i=n-1
     ·subst ei;exact d.symm
     ·have h2:=hp i (n-1) (by omega) (by omega) (by omega)
      have h3:=hp (n-1) n (by omega) hn' (by omega)
      rw[d] at h2
      rcases J3 l[n] (l[n-1]'(by omega)) with d2|d2|d2
      ·exact absurd d2 h3
      ·exact d2
      ·exact absurd d2 h2
    ·exact absurd d h1
   ·rw[et,List.mem_append,List.mem_append,b]
theorem T1 {l:List Ar} (hs:SrC l):(G7 l).Pairwise BT∧ ∀x,x∈G7 l↔x∈l:=by
 have:=N8 hs l.length (Nat.le_refl _)
 rw[List.take_length] at this
 exact this
theorem Oo {x y:Ar}:decide (Ac x.1=Ac y.1∧Ac x.2=Ac y.2)=decide (x=y):=decide_eq_decide.2 ⟨fun h=>Prod.ext (II.1 h.1) (II.1 h.2),fun h=>by rw[h];exact⟨rfl,rfl⟩⟩
theorem NN {W0 W:World} {bxs:List Bx} (hp:Hp W0 bxs W) (k:Nat) {g:Nat} {l:List Ar} {junk:List Value} (hk:nth bxs k=some (B5 g l junk)) {i:Nat} (hi:i<l.length):Ai W g (0+i*2) [str (Ac l[i].1),str (Ac l[i].2)]:=by
 obtain⟨g',off',e,h⟩:=(BG.of_row (Ai.of_bx hp k hk rfl)).at_ hi
 cases e
 exact h i hi
theorem S9: ∀m,CE (BA (Value.agg #[str [],str []]).cells.toList m)=true
 |0=>rfl
 |m+1=>by
  have ih:=S9 m
  show CE (str []::str []::BA _ m)=true
  exact ih
theorem SD (m:Nat):(BA (Value.agg #[str [],str []]).cells.toList m).length=m*2:=Ex _ m
theorem Ki (W:World) (g cap:Nat) (l:List Ar) (junk:List Value) (hn:l.length≤100000) (hcap:l.length≤cap) (hg:W.heap[g]? =some (.cells (ptC l++junk).toArray 62 (0,0))):
  Calls Tryz.prog 279 #[.slice (some ⟨g,0,none⟩) l.length cap] W fun e W'=> ∃x:List Value,e= .returned ((fun _=> .slice (some ⟨g,0,none⟩) (G7 l).length cap) x)∧True∧KW W W' g ((fun _=>g) x) ((fun x=> .cells (ptC (G7 l)++x).toArray 62 (0,0)) x):=by
 have key:Calls Tryz.prog 279 [.slice (some ⟨g,0,none⟩) l.length cap].toArray W fun e W'=> ∃x:List Value,e= .returned ((fun _=> .slice (some ⟨g,0,none⟩) (G7 l).length cap) x)∧(fun _=>True) x∧Below (Ba W).heap.size (Ba W) W'∧As (Ba W) W' ((fun x=>[AS (A3 W g),B5 g (G7 l) x]) x):=by
  refine C6 (X:=List Value) (val:=fun _=> .slice (some ⟨g,0,none⟩) (G7 l).length cap) (Φ:=fun _=>True) (nb:=fun x=>[AS (A3 W g),B5 g (G7 l) x]) (Hp.enterT (B:=B5 g l junk) I hg) Tryz.func279 I I I ?_
  refine zA (zB (wP I (Aa (zE (zA (zA (zB (wP I (wP I (wP I ?_))))))))))
  by_cases hlt:l.length<2
  ·have e:G7 l=l:=by
    rcases(show l.length=0∨l.length=1 by omega) with e|e
    ·rw[G7,e,List.length_eq_zero_iff.1 e];rfl
    ·rw[G7,e,PB,List.take_of_length_le (by omega)]
   refine wU 8 true I (dT (by omega)) (Aa (zE (zR I (zA (zB (wP I (wP I (Aa (zE (zO (zP ?_)))))))))))
   rw[e]
   exact Ay tH I (.tmp I) junk I tO fun W1 hp=>(hp.pick (l:=[AS (A3 W g),B5 g l junk]) [0,1] (by decide) I).own
  refine wU 8 false I (dF (by omega)) (Aa (zE (zS I (zI (zE (zA (zA (zB (wP I (Aa (zE (zH ?_))))))))))))
  refine Aw (X:=Nat) (fun i=>[(0, .slice (some ⟨g,0,none⟩) l.length cap),(3, .int .i64 (i:Nat))]) (fun _=>[AS (A3 W g),B5 g l junk]) (fun i=>1≤i∧i≤l.length∧Ea l i=l.take i) (fun i=>l.length-i) 1 ⟨Nat.le_refl _,by omega,PB l⟩ ⟨I,I,tO⟩ [] I ?_
  rintro i ⟨hi1,hi2,hc⟩
  have hi1:1≤i:=hi1
  have hi2:i≤l.length:=hi2
  have hc:Ea l i=l.take i:=hc
  refine zA (zA (zB (wP I (wP I (wP I (wP I ?_))))))
  by_cases hi:i<l.length
  rotate_left
  ·obtain rfl:i=l.length:=by omega
   have e:G7 l=l:=by rw[G7,hc,List.take_length]
   refine wU 13 false I (dF (by omega)) (Aa (zE (zS I (zJ (zK (zK (zL (zE (zA (zB (wP I (wP I (Aa ?_)))))))))))))
   refine zE (zO ?_)
   rw[e]
   exact Ay tH I (.tmp I) junk I tO fun W1 hp=>(hp.pick (l:=[AS (A3 W g),B5 g l junk]) [0,1] (by decide) I).own
  refine wU 13 true I (dT (by omega)) (Aa (zE (zR I (zI (zE (zA (zH (zA (zU ?_)))))))))
  have hm:i-1<l.length:=by omega
  obtain⟨x,hx⟩: ∃x,x=l[i]:=⟨_,rfl⟩
  obtain⟨y,hy⟩: ∃y,y=l[i-1]:=⟨_,rfl⟩
  have ex:l[i]? =some x:=by rw[List.getElem?_eq_getElem hi,hx]
  have ey:l[i-1]? =some y:=by rw[List.getElem?_eq_getElem hm,hy]
  have rx: ∀ {W1:World},Hp (Ba W) [AS (A3 W g),B5 g l junk] W1→Ai W1 g (0+i*2) [str (Ac x.1),str (Ac x.2)]:=fun hp=>by rw[hx];exact NN hp 1 rfl hi
  have ry: ∀ {W1:World},Hp (Ba W) [AS (A3 W g),B5 g l junk] W1→Ai W1 g (0+(i-1)*2) [str (Ac y.1),str (Ac y.2)]:=fun hp=>by rw[hy];exact NN hp 1 rfl hm
  refine qP I (qP I ?_)
  refine qJ ?_
  refine qL 0 I I (fun W1 hp=>rx hp) I (qP I (qP I (qP I (qV 22 ((i-1:Nat):Int) I (show w64 ((i:Int)-1)=_ by rw[Ap (by omega) (by omega)];omega) ?_))))
  refine qJ ?_
  refine qL 0 I I (fun W1 hp=>ry hp) I ?_
  refine OU (Ac x.1) (Ac x.2) (Ac y.1) (Ac y.2) I I I I I ?_
  refine qU 25 (decide (x=y)) I Oo (AB (Aa (zE ?_)))
  refine Aj I (fun hxy=> ?_) (fun hxy=> ?_)
  rotate_left
  ·have hne:x≠y:=of_decide_eq_false hxy
   refine zI (zN (zE (zB (wP I (wP I (wV 15 ((i+1:Nat):Int) I (Ax (by omega)) (wP I (Aa ?_))))))))
   exact Al (i+1) ⟨by omega,hi,by
    rw[LF hi (fun h=>hne (by rw[ex,ey] at h;exact Option.some.inj h.2)),hc,List.take_add_one,List.getElem?_eq_getElem hi];rfl⟩ (by show l.length-(i+1)<l.length-i;omega) ⟨rfl,rfl,trivial⟩ [] rfl
  have hxe:x=y:=of_decide_eq_true hxy
  have hsame:Ea l (i+1)=l.take i:=by rw[JQ (by omega) (by rw[ex,ey,hxe]),hc]
  refine zA (zB (wP I (wP I ?_)))
  refine Dw i tH I I I I I I I I (by omega) hcap ?_
  refine Ao 28 (.slice (some ⟨g,0+i*2,none⟩) (l.length-i) (cap-i)) I (by rw[if_neg (by omega)]) ?_
  refine wP I (Aa (zE (zA (zA (zB (wP I (Aa (zE (zH ?_)))))))))
  refine Aw (X:=Nat) (fun k=>[(0, .slice (some ⟨g,0,none⟩) l.length cap),(3, .int .i64 ((Ea l (i+k)).length:Nat)),(4, .slice (some ⟨g,0+i*2,none⟩) (l.length-i) (cap-i)),(5, .int .i64 (k:Nat))]) (fun k=>[AS (A3 W g),B5 g (Ea l (i+k)++l.drop (Ea l (i+k)).length) junk])
   (fun k=>1≤k∧i+k≤l.length∧1≤(Ea l (i+k)).length∧(Ea l (i+k)).length+1≤i+k) (fun k=>l.length-i-k) 1 ⟨Nat.le_refl _,hi,by rw[hsame,List.length_take];omega,by rw[hsame,List.length_take];omega⟩ ⟨rfl,by rw[hsame,List.length_take,Nat.min_eq_left (by omega)];rfl,rfl,rfl,trivial⟩ [] (by rw[hsame,List.length_take,Nat.min_eq_left (by omega),List.take_append_drop];rfl) ?_
  rintro k ⟨hk1,hk2,hk3,hk4⟩
  have hk1:1≤k:=hk1
  have hk2:i+k≤l.length:=hk2
  have hk3:1≤(Ea l (i+k)).length:=hk3
  have hk4:(Ea l (i+k)).length+1≤i+k:=hk4
  obtain⟨C,hC⟩: ∃C,C=Ea l (i+k):=⟨_,rfl⟩
  rw[←hC] at hk3 hk4
  rw[←hC]
  have hlen:(C++l.drop C.length).length=l.length:=by rw[List.length_append,List.length_drop];omega
  refine zA (zA (zB (wP I (wP I (wP I (wP I ?_))))))
  by_cases hlk:k<l.length-i
  ·refine wU 32 true I (dT (by omega)) (Aa (zE (zR I (zI (zE (zA (zH (zA (zU ?_)))))))))
   have old: ∀j (hj:j<l.length),C.length≤j→(C++l.drop C.length)[j]'(by rw[hlen];exact hj)=l[j]:=fun j hj h=>by
    rw[List.getElem_append_right h,List.getElem_drop]
    congr 1;omega
   have h1:i+k<l.length:=by omega
   have h2:i+k-1<l.length:=by omega
   obtain⟨u,hu⟩: ∃u,u=l[i+k]:=⟨_,rfl⟩
   obtain⟨v,hv⟩: ∃v,v=l[i+k-1]:=⟨_,rfl⟩
   have eu:l[i+k]? =some u:=by rw[List.getElem?_eq_getElem h1,hu]
   have ev:l[i+k-1]? =some v:=by rw[List.getElem?_eq_getElem h2,hv]
   have ru: ∀ {W1:World},Hp (Ba W) [AS (A3 W g),B5 g (C++l.drop C.length) junk] W1→Ai W1 g (0+i*2+k*2) [str (Ac u.1),str (Ac u.2)]:=fun hp=>by
    have:=NN hp 1 rfl (i:=i+k) (by rw[hlen];exact h1)
    rw[old _ h1 (by omega), ←hu] at this
    rwa [show 0+i*2+k*2=0+(i+k)*2 by omega]
   have rv: ∀ {W1:World},Hp (Ba W) [AS (A3 W g),B5 g (C++l.drop C.length) junk] W1→Ai W1 g (0+i*2+(k-1)*2) [str (Ac v.1),str (Ac v.2)]:=fun hp=>by
    have:=NN hp 1 rfl (i:=i+k-1) (by rw[hlen];exact h2)
    rw[old _ h2 (by omega), ←hv] at this
    rwa [show 0+i*2+(k-1)*2=0+(i+k-1)*2 by omega]
   refine qP I (qP I ?_)
   refine qJ ?_
   refine qL 0 I I (fun W1 hp=>ru hp) I (qP I (qP I (qP I (qV 41 ((k-1:Nat):Int) I (show w64 ((k:Int)-1)=_ by rw[Ap (by omega) (by omega)];omega) ?_))))
   refine qJ ?_
   refine qL 0 I I (fun W1 hp=>rv hp) I ?_
   refine VO (Ac u.1) (Ac u.2) (Ac v.1) (Ac v.2) I I I I I ?_
   refine Eg 44 (.bool (!decide (u=v))) I (congrArg (fun b=>Value.bool (!b)) Oo) ?_
   refine AB (Aa (zE ?_))
   refine Aj I (fun huv=> ?_) (fun huv=> ?_)
   ·have hne:u≠v:=fun e=>by rw[e,dT rfl] at huv;cases huv
    have hnew:Ea l (i+(k+1))=C++[u]:=by
     rw[show i+(k+1)=i+k+1 by omega,LF h1 (fun h=>hne (by rw[eu,ev] at h;exact Option.some.inj h.2)), ←hC,hu]
    have hd:l.drop C.length=l[C.length]'(by omega)::l.drop (C.length+1):=List.drop_eq_getElem_cons (by omega)
    have hs1:Bw (ptC (C++l.drop C.length)++junk) (0+C.length*2) (cvV u).cells.toList=ptC (C++[u]++l.drop (C++[u]).length)++junk:=by
     rw[hd,C1,List.append_assoc,show 0+C.length*2=(ptC C).length+0 by rw[B1];omega,DV]
     simp only[List.length_append,List.length_cons,List.length_nil,Nat.zero_add,C1,List.append_assoc]
     rfl
    have hs2:0+C.length*2+2≤(ptC (C++l.drop C.length)++junk).length:=by rw[List.length_append,B1,hlen];omega
    refine zA (zB (wP I (wP I (wP I (wP I ?_)))))
    refine wJ ?_
    refine wL 0 I I (fun W1 hp=>ru hp) I ?_
    refine wJ ?_
    refine AE 1 _ tH I I I I I I I I I I hs2 hs1 ?_
    refine Aa (zE (zB (wP I (wP I (wV 53 ((C.length+1:Nat):Int) I (Ax (by omega)) (wP I (Aa (zN (zE (zB (wP I (wP I (wV 34 ((k+1:Nat):Int) I (Ax (by omega)) ?_)))))))))))))
    exact wP I (Aa (Al (k+1) ⟨by omega,by omega,by rw[hnew,List.length_append];omega,by rw[hnew,List.length_append,List.length_singleton];omega⟩ (by show l.length-i-(k+1)<l.length-i-k;omega) ⟨I,by rw[hnew,List.length_append];rfl,I,I,tO⟩ [] (by rw[hnew];rfl)))
   ·have he:u=v:=by
     cases hd:decide (u=v) with
     |true=>exact of_decide_eq_true hd
     |false=>rw[hd] at huv;cases huv
    have hsm:Ea l (i+(k+1))=C:=by rw[show i+(k+1)=i+k+1 by omega,JQ (by omega) (by rw[eu,ev,he]), ←hC]
    exact zI (zN (zE (zB (wP I (wP I (wV 34 ((k+1:Nat):Int) I (Ax (by omega)) (wP I (Aa (Al (k+1) ⟨by omega,by omega,by rw[hsm];exact hk3,by rw[hsm];omega⟩ (by show l.length-i-(k+1)<l.length-i-k;omega) ⟨I,by rw[hsm];rfl,I,I,tO⟩ [] (by rw[hsm];rfl))))))))))
  have ek:i+k=l.length:=by omega
  rw[ek] at hC
  have hCC:G7 l=C:=hC.symm
  refine wU 32 false I (dF (by omega)) (Aa (zE (zS I (zJ (zK (zK (zL (zE (zA (zB ?_))))))))))
  have hd1:(ptC (l.drop C.length)).length=(l.length-C.length)*2:=by rw[B1,List.length_drop]
  refine wP I (wP I ?_)
  refine Dw C.length tH I I I I I I I I (by omega) hcap ?_
  refine Ao 56 (.slice (some ⟨g,0+C.length*2,none⟩) (l.length-C.length) (cap-C.length)) I (by rw[if_neg (by omega)]) ?_
  refine U5 1 (e:=62) (z:= .agg #[str [],str []]) Tryz.underlying210 Tryz.zeroValue62 I I I I I I I I I (S9 _) (by rw[SD];show 0+C.length*2+_≤(ptC (C++l.drop C.length)++junk).length;rw[List.length_append,B1,hlen];omega) ?_
  refine Aa (zE (zA (zB (wP I (wP I ?_)))))
  refine Bm C.length tH I I I I I I I I (by omega) ?_
  refine wP I (Aa (zE (zO (zQ (zP (zP (zQ (zP ?_))))))))
  have hs3:Bw (ptC (C++l.drop C.length)++junk) (0+C.length*2) (BA (Value.agg #[str [],str []]).cells.toList (l.length-C.length))=ptC C++(BA (Value.agg #[str [],str []]).cells.toList (l.length-C.length)++junk):=by
   rw[C1,List.append_assoc,show 0+C.length*2=(ptC C).length by rw[B1];omega]
   exact RQ (ptC C) (ptC (l.drop C.length)) junk _ (by rw[hd1,SD])
  rw[hCC]
  exact Ay tH I (.tmp I) (BA (Value.agg #[str [],str []]).cells.toList (l.length-C.length)++junk) I tO fun W1 hp=>by
   rw[show[AS (A3 W g),B5 g (C++l.drop C.length) junk].set 1 _=[AS (A3 W g),(⟨g,62,Bw (ptC (C++l.drop C.length)++junk) (0+C.length*2) (BA (Value.agg #[str [],str []]).cells.toList (l.length-C.length)),true,none⟩:Bx)] from rfl,hs3] at hp
   exact(hp.pick (l:=[AS (A3 W g),B5 g C (BA (Value.agg #[str [],str []]).cells.toList (l.length-C.length)++junk)]) [0,1] (by decide) I).own
 refine key.mono ?_
 rintro e W' ⟨x,he,_,hb,hn'⟩
 exact⟨x,he,tO,Gm hg I hb hn'⟩
theorem BG.cells {W:World} {p:Option Addr} {l:List Ar} (h:BG W p l):LB W p (ptC l):=by
 rcases h with rfl|⟨b,off,e,h⟩
 ·exact .inl I
 ·by_cases h0:l=[]
  ·exact .inl (by rw[h0];rfl)
  refine .inr ⟨b,off,e, ?_⟩
  have hpos:0<l.length:=List.length_pos_iff.2 h0
  refine⟨(h 0 hpos).lt,fun m u hu=> ?_⟩
  have hm:m<l.length*2:=by rw[←B1];exact(List.getElem?_eq_some_iff.1 hu).1
  have hi:m/2<l.length:=by omega
  have hr:=h (m/2) hi
  have hd:=UN hi
  rw[hd,List.getElem?_append_right (by rw[B1,List.length_take];omega),B1,List.length_take,Nat.min_eq_left (by omega),List.getElem?_append_left (by show _<2;omega)] at hu
  have:=hr.get (m-m/2*2) u hu
  rwa [show off+m/2*2+(m-m/2*2)=off+m by omega] at this
theorem M6 (W:World) (p:Option Addr) (cap:Nat) (l:List Ar) (hn:l.length≤100000) (hA:BG W p l) (hne:l≠[]):
  Ad Tryz.prog 321 #[slv p l.length cap] W (fun V:Vec=>V.val l.length) (fun V=>V.OK 2 l.length (ptC l)∧V.p≠none) (fun V=>[V.bx 62 (ptC l)]):=by
 have hc:=hA.cells
 obtain⟨b,off,rfl,hR⟩: ∃b off,p=some ⟨b,off,none⟩∧Ai W b off (ptC l):=by
  rcases hc with h|h
  ·exfalso
   have h2:l.length*2=0:=by rw[←B1,h];rfl
   exact hne (List.length_eq_zero_iff.1 (by omega))
  ·exact h
 refine Ab (args:=[slv (some ⟨b,off,none⟩) l.length cap]) Tryz.func321 I I I ?_
 refine zA (zB (wP I (Aa (zE (zA (zA (zB (wP I ?_))))))))
 refine Ug tH I I I I I I I ?_
 refine zC (zE (zS I (zI (zE (zA (zB ?_))))))
 refine Em tH I I I I I ?_
 intro g
 refine wP I ?_
 refine ER (len:=0) (V:=⟨some g,0,[]⟩) (xs:=[]) 0 Tryz.vec210 rfl rfl rfl rfl rfl rfl rfl rfl rfl ⟨rfl,(fun h=>by cases h),fun _=>⟨Nat.le_refl _,Nat.zero_le _,rfl⟩⟩ (B1 l) (fun W hp j u hj=> ?_) (ED _) (by simp only[maxLen];omega) (by omega) ?_
 ·rw[Addr.add_none]
  exact((hR.hp hp).get j u hj)
 intro V hV hp0
 refine wP I (Aa (zE (zO ?_)))
 have e0:0+l.length=l.length:=Nat.zero_add _
 rw[e0,List.nil_append] at hV
 exact Ay tH I (.tmp I) V (by rw[e0]) ⟨hV,fun h=>hne (List.length_eq_zero_iff.1 (hp0 h))⟩ fun W hp=>As.of_hp1 hp 0 I
-- BOXES 4
-- CODE2
theorem PH (W:World) (g:Nat) (a b:Int) (h:Ai W g 0 [.int .i64 a, .int .i64 b]):
  Ad Tryz.prog 275 #[.slice (some ⟨g,0,none⟩) 2 2] W (fun _:Unit=> .int .i64 (if a=0 then b else a)) (fun _=>True) (fun _=>[]):=by
 refine Ab (args:=[.slice (some ⟨g,0,none⟩) 2 2]) Tryz.func275 I I I ?_
 have h0:Ai W g (0+0*1) [.int .i64 a]:=⟨h.lt,fun j u hu=>h.get j u (by cases j with|zero=>exact hu|succ j=>cases hu)⟩
 have h1:Ai W g (0+1*1) [.int .i64 b]:=⟨h.lt,fun j u hu=>by
  cases j with
  |zero=>exact h.get 1 u hu
  |succ j=>cases hu⟩
 refine zA (zB (wP I (Aa (zE (zA (zB (wP I (Aa (zE (zA (zA (zB (wP I (wP I (wP I ?_)))))))))))))))
 refine Aa (zE (zH ?_))
 refine Aw (X:=Nat) (fun k=>[(3, .int .i64 0),(6, .slice (some ⟨g,0,none⟩) 2 2),(7, .int .i64 2),(8, .int .i64 (k:Nat))]) (fun _=>[]) (fun k=>k≤2∧(0<k→a=0)∧(1<k→b=0)) (fun k=>2-k) 0 ⟨by omega,fun h=>absurd h (by omega),fun h=>absurd h (by omega)⟩ ⟨I,I,I,I,tO⟩ [] I ?_
 rintro k ⟨hk,ha,hb⟩
 refine zA (zB (wP I (Aa (zE (zA ?_)))))
 refine Aj I (fun h=> ?_) (fun h=> ?_)
 rotate_left
 ·have e:k=2:=by have h':decide ((k:Int)<2)=false:=h;rw[decide_eq_false_iff_not] at h';omega
  exact zJ (zK (zK (zL (zE (zA (zB (wP I (wP I (Aa (zE (zO (wR1 I I (by rw[if_pos (ha (by omega)),hb (by omega)])))))))))))))
 have hk:k<2:=by have h':decide ((k:Int)<2)=true:=h;rw[decide_eq_true_iff] at h';omega
 clear h
 rcases(show k=0∨k=1 by omega) with rfl|rfl
 ·refine zI (zE (zA (zH (zA (zB ?_)))))
  refine wJ ?_
  refine wL 0 I I (fun W hp=>h0.hp hp) I (wP I (Aa (zE (zA (zB (wP I (wP I (wP I (Aa (zE ?_))))))))))
  refine Aj I (fun hx=> ?_) (fun hx=> ?_)
  ·have hx:a≠0:=by have h':(a !=0)=true:=hx;simpa using h'
   exact zA (zB (wP I (wP I (Aa (zE (zO (zQ (zP (zP (zQ (zP (wR1 I I (by rw[if_neg hx])))))))))))))
  ·have hx:a=0:=by have h':(a !=0)=false:=hx;simpa using h'
   exact zI (zN (zE (zB (wP I (wP I (Aa (Al 1 ⟨by omega,fun _=>hx,fun h=>absurd h (by omega)⟩ (by omega) ⟨I,I,I,I,tO⟩ [] I)))))))
 ·have ha:=ha (by omega)
  refine zI (zE (zA (zH (zA (zB ?_)))))
  refine wJ ?_
  refine wL 0 I I (fun W hp=>h1.hp hp) I (wP I (Aa (zE (zA (zB (wP I (wP I (wP I (Aa (zE ?_))))))))))
  refine Aj I (fun hx=> ?_) (fun hx=> ?_)
  ·exact zA (zB (wP I (wP I (Aa (zE (zO (zQ (zP (zP (zQ (zP (wR1 I I (by rw[if_pos ha])))))))))))))
  ·have hx:b=0:=by have h':(b !=0)=false:=hx;simpa using h'
   exact zI (zN (zE (zB (wP I (wP I (Aa (Al 2 ⟨by omega,fun _=>ha,fun _=>hx⟩ (by omega) ⟨I,I,I,I,tO⟩ [] I)))))))
theorem P7 (p q:Ar) (zp:szQ p.1 8∧szQ p.2 8) (zq:szQ q.1 8∧szQ q.2 8) (W:World) (hv:AL W) (ht:AA W):
  Ad Tryz.prog 274 #[cvV p,cvV q] W (fun _:Unit=> .int .i64 (Jv p q)) (fun _=>True) (fun _=>[]):=by
 refine Ab (args:=[cvV p,cvV q]) Tryz.func274 I I I ?_
 refine zA (zB ?_)
 (refine Ak rfl rfl rfl rfl ?_;intro)
 (refine Ak rfl rfl rfl rfl ?_;intro)
 refine wP I (Aa ?_)
 rename_i b2 b3
 refine zE (zA (zU (qP I (qB 0 I I I (qP I (qB 1 I I I (qC I I (fun W hp=>CC p.1 q.1 (sz2 zp.1 zq.1 (by decide)) W (hv.hp hp) (ht.hp hp)) (qP I (qB 0 I I I (qP I (qB 1 I I I (qC I I (fun W hp=>CC p.2 q.2 (sz2 zp.2 zq.2 (by decide)) W (hv.hp hp) (ht.hp hp)) (AB ?_)))))))))))))
 (refine At Tryz.hZ tH rfl rfl rfl rfl rfl rfl rfl rfl rfl rfl rfl ?_;intro)
 rename_i b15
 exact wC I I (fun W hp=>PH W b15 (Cw p.1 q.1) (Cw p.2 q.2) (Ai.of_bx hp 2 I I)) (wP I (Aa (zE (zO (wR1 I I I)))))
theorem Qt (l:List Ar) (h0:0<l.length) (hn:l.length≤4096) (hz: ∀x∈l,szQ x.1 8∧szQ x.2 8) (hm: ∀k (hk:k<l.length), ¬Jv l[k] l[0]<0) (p:Option Addr) (cap:Nat) (W:World) (hA:BG W p l) (hv:AL W) (ht:AA W):
  Ad Tryz.prog 277 #[slv p l.length cap, .func (.func 274) #[] #[]] W (fun _:Unit=>cvV l[0]) (fun _=>True) (fun _=>[]):=by
 obtain⟨bq,oq,rfl,hrq⟩:=hA.at_ h0
 obtain⟨x,hx⟩: ∃x,x=l[0]:=⟨_,rfl⟩
 have hr0:=hrq 0 h0
 have zx:=hz _ (List.getElem_mem h0)
 rw[←hx] at hr0 zx hm⊢
 refine Ab (args:=[slv (some ⟨bq,oq,none⟩) l.length cap, .func (.func 274) #[] #[]]) Tryz.func277 I I I ?_
 refine zA (zB ?_)
 (refine Ae Tryz.hZ rfl rfl rfl rfl ?_;intro)
 refine Aa ?_
 rename_i b4
 refine zE (zA (zA (zB (wP I (wP I (wP I (Aa (zE ?_))))))))
 refine Aj I (fun h=> ?_) (fun h=> ?_)
 ·have h':decide (((l.length:Nat):Int)<1)=true:=h
  rw[decide_eq_true_iff] at h';omega
 clear h
 refine zI (zE (zA (zB (wP I ?_))))
 refine wJ ?_
 refine wL 0 I I (fun W hp=>hr0.hp hp) I ?_
 (refine Ae Tryz.hZ rfl rfl rfl rfl ?_;intro)
 refine wS 1 I I I (Aa ?_)
 rename_i b5
 refine zE (zA (zA (zB (wP I (Aa (zE (zH ?_)))))))
 refine Aw (X:=Nat) (fun k=>[(0,slv (some ⟨bq,oq,none⟩) l.length cap),(1, .func (.func 274) #[] #[]),(4, .pointer (some ⟨b4,0,none⟩)),(5, .pointer (some ⟨b5,0,none⟩)),(6, .int .i64 ((k+1:Nat):Int))]) (fun k=>[⟨b4,62,[str [],str []],true,none⟩,⟨b5,62,(cvV x).cells.toList,true,none⟩])
  (fun k=>k<l.length) (fun k=>l.length-k) 0 h0 ⟨rfl,rfl,rfl,rfl,rfl,trivial⟩ [] rfl ?_
 intro k hk
 refine zA (zA (zB (wP I (wP I (wP I (wP I (Aa (zE ?_))))))))
 refine Aj I (fun h=> ?_) (fun h=> ?_)
 rotate_left
 ·exact zJ (zK (zK (zL (zE (zA (zB (wB 1 I I I (wS 0 I I I (Aa (zE (zO (Ay tH I (.cell 0 I I I I I) () I tO fun W _=>As.nil _ _))))))))))))
 have hk1:k+1<l.length:=by have h':decide (((k+1:Nat):Int)<(l.length:Nat))=true:=h;rw[decide_eq_true_iff] at h';omega
 clear h
 have zk:=hz _ (List.getElem_mem hk1)
 have hmk:=hm (k+1) hk1
 have hrk:=hrq (k+1) hk1
 obtain⟨y,hy⟩: ∃y,y=l[k+1]:=⟨_,rfl⟩
 rw[←hy] at zk hmk hrk
 refine zI (zE (zA (zH (zA (zU (qP I (qP I (qP I ?_))))))))
 refine qJ ?_
 refine qL 0 I I (fun W hp=>hrk.hp hp) I (qB 1 I I I ?_)
 refine FW (capt:=[]) I I I I I I (by kernel_rfl) (fun W hp=>P7 y x zk zx W (hv.hp hp) (ht.hp hp)) ?_
 refine qP I (AB (Aa (zE ?_)))
 refine Aj I (fun hq=> ?_) (fun hq=> ?_)
 ·exact absurd (of_decide_eq_true hq) hmk
 exact zI (zN (zE (zB (wP I (wP I (wV 19 ((k+1+1:Nat):Int) I (Ax (by omega)) (wP I (Aa (Al (k+1) hk1 (by show l.length-(k+1)<l.length-k;omega) ⟨I,I,I,I,I,tO⟩ [] I)))))))))
theorem LV (l:List Ar) (h0:0<l.length) (hn:l.length≤100000) (p:Option Addr) (cap:Nat) (W:World) (hA:BG W p l):
  Ad Tryz.prog 276 #[slv p l.length cap,cvV l[0]] W (fun _:Unit=> .int .i64 0) (fun _=>True) (fun _=>[]):=by
 obtain⟨g,off,rfl,hrow⟩:=hA.at_ h0
 have hr:=hrow 0 h0
 obtain⟨q,hq⟩: ∃q,q=l[0]:=⟨_,rfl⟩
 rw[←hq] at hr⊢
 refine Ab (args:=[slv (some ⟨g,off,none⟩) l.length cap,cvV q]) Tryz.func276 I I I ?_
 refine zA (zB ?_)
 (refine Ak rfl rfl rfl rfl ?_;intro)
 refine wP I (Aa ?_)
 rename_i b3
 refine zE (zA (zA (zB (wP I (wP I (wP I (Aa (zE (zH ?_)))))))))
 refine Aw (X:=Unit) (fun _=>[(0,slv (some ⟨g,off,none⟩) l.length cap),(3,Af b3),(7, .int .i64 (l.length:Nat)),(8, .int .i64 ((0:Nat):Int))]) (fun _=>[⟨b3,62,(cvV q).cells.toList,true,none⟩]) (fun _=>True) (fun _=>0) () tO ⟨I,I,I,I,tO⟩ [] I ?_
 intro _ _
 refine zA (zB (wP I (wU 9 true I (dT (by omega)) (Aa (zE (zA (zR I (zI (zE (zA (zH (zA (zB ?_)))))))))))))
 refine wP I (wP I (Aa (zE (Az (zU (qB 0 I I I (qP I (qP I ?_))))))))
 refine qJ ?_
 refine qL 0 I I (fun W1 hp=>hr.hp hp) I ?_
 refine OU (Ac q.1) (Ac q.2) (Ac q.1) (Ac q.2) I I I I I ?_
 refine qU 16 true I (by simp) (AB (Aa (zE (zR I (zA (zB (wP I (wP I (Aa (zE (zO (zQ (zP (zP ?_))))))))))))))
 exact zQ (zP (wR1 I I I))
-- BOXES 3
-- CODE2
abbrev TQ (ix:Nat→Nat) (P:Nat→Ar) (k:Nat):List Value:=[.int .i64 (ix k:Nat),cvV (P k)]
theorem RU (p:Option Addr) (n cap:Nat) (W:World):Ad Tryz.prog 326 #[slv p n cap] W (fun b:Nat=> .func (.func 359) #[] #[Af b]) (fun _=>True) (fun b=>[⟨b,210,[slv p n cap],true,none⟩]):=by
 refine Ab (args:=[slv p n cap]) Tryz.func326 I I I ?_
 refine zA (zB ?_)
 (refine Ak rfl rfl rfl rfl ?_;intro)
 refine wP I (Aa ?_)
 rename_i b
 exact zE (zA (zB (wP I (wP I (Aa (zE (zO (Ay tH I (.tmp I) b I tO fun W1 hp=>As.of_hp hp))))))))
theorem PW (p:Option Addr) (n cap:Nat) (W:World):Ad Tryz.prog 327 #[slv p n cap] W (fun b:Nat=> .func (.func 360) #[] #[Af b]) (fun _=>True) (fun b=>[⟨b,210,[slv p n cap],true,none⟩]):=by
 refine Ab (args:=[slv p n cap]) Tryz.func327 I I I ?_
 refine zA (zB ?_)
 (refine Ak rfl rfl rfl rfl ?_;intro)
 refine wP I (Aa ?_)
 rename_i b
 exact zE (zA (zB (wP I (wP I (Aa (zE (zO (Ay tH I (.tmp I) b I tO fun W1 hp=>As.of_hp hp))))))))
theorem Tl (l:List Ar) (b1:Nat) (p:Option Addr) (cap:Nat) (hn:l.length<1099511627776):N1 Tryz.prog 359 [Af b1] l.length (TQ (fun k=>k) (Av l)) (fun _=>TM b1 p cap l):=by
 refine⟨fun y J Jx hN hB hA hU hY W hJ=> ?_⟩
 have hp0:=(hN _ _ W hJ).1.pts
 refine C0 (args:=[.func (.yield y) #[] #[],Af b1]) (J0:=J 0 []) (Jm:=fun W=> ∃L,J l.length L W) Tryz.func359 I I I hJ ?_
 refine zA (zB (wL 0 I I (fun W hp=>(hN _ _ W hp).1.var) I (wP I (wP I (Aa (zE (zH ?_)))))))
 refine C7 (X:=Nat×List (Nat×Obj)) (fun s=>[(0, .func (.yield y) #[] #[]),(1,Af b1),(5,slv p l.length cap),(6, .int .i64 (l.length:Nat)),(7, .int .i64 (s.1:Nat))]) (fun s W=>J s.1 s.2 W)
  (fun s=>s.1≤l.length) (fun s=>l.length-s.1) (0,[]) (Nat.zero_le _) ⟨rfl,rfl,rfl,rfl,rfl,trivial⟩ (fun W hp=>hp) ?_
 rintro⟨i,L⟩ hi
 have hi:i≤l.length:=hi
 refine zA (zB (wP I ?_))
 by_cases hlt:i<l.length
 rotate_left
 ·refine wU 8 false I (dF (by omega)) (Aa (zE (zA (zS I (zJ (zK (zK (zL ?_))))))))
  exact EA I fun W hp=>⟨L,by
   have e:i=l.length:=by omega
   have hp:J i L W:=hp
   rw[e] at hp
   exact hp⟩
 refine wU 8 true I (dT (by omega)) (Aa (zE (zA (zR I (zI (zE (zA (zH (zA (zB ?_))))))))))
 obtain⟨g,off,hpe,hrow⟩: ∃g off,p=some ⟨g,off,none⟩∧ ∀W k L,J k L W→ ∀j,j<l.length→Ai W g (off+j*2) [str (Ac (Av l j).1),str (Ac (Av l j).2)]:=by
  obtain⟨g,off,e,_⟩:=hp0.at_ hlt
  refine⟨g,off,e,fun W1 k L1 h1 j hj=> ?_⟩
  obtain⟨g',off',e',h2⟩:=(hN _ _ W1 h1).1.pts.at_ hj
  rw[e] at e'
  cases e'
  rw[CT hj]
  exact h2 j hj
 subst hpe
 refine wP I ?_
 refine wJ ?_
 refine wL 0 I I (fun W hp=>hrow W _ _ hp i hlt) I ?_
 refine JK (fun b W=>J i [(b, .cells (Value.agg #[str [],str []]).cells 62 (0,0))] W) I I I (Tryz.hZ.get I) (fun W W' b hp hb hl ho=>hA _ _ W W' b _ hp hb hl ho) fun b=> ?_
 refine wP I ?_
 refine JE (cs:=[str [],str []]) (ty:=62) (fun W=>J i (MG b (Av l i)) W) tH I I I I I I (fun W hp=>(hN _ _ W hp).2 (b,_) (List.mem_cons_self ..)) I I I (fun W W' hp hu=>hU _ _ _ _ W W' hp hu) ?_
 refine Aa (zE (zA (zB (wP I (wP I (wL 0 I I (fun W hp=>show Ai W b 0 (cvV (Av l i)).cells.toList from Ai.of_block ((hN _ _ W hp).2 (b,_) (List.mem_cons_self ..))) I ?_))))))
 have hYk: ∀W,J i (MG b (Av l i)) W→YieldAt (Fw none) 0 Tryz.prog y (TQ (fun k=>k) (Av l) i).toArray W fun e W'=>(e= .returned (.bool true)∧J (i+1) (MG b (Av l i)) W')∨(e= .returned (.bool false)∧Jx W'):=fun W h=>hY _ _ W hlt h
 refine DK (A1:=fun W=>J (i+1) (MG b (Av l i)) W) (A2:=Jx) I I I I I I hYk ?_ ?_
 rotate_left
 ·exact wP I (Aa (zE (zR I (zO (zQ (zP (zP (zQ (BI I (fun W h=>h))))))))))
 exact wP I (Aa (zE (zS I (zI (zN (zE (zB (wP I (wV 17 ((i+1:Nat):Int) I (Ax (by omega)) (wP I (Aa (CA (i+1,MG b (Av l i)) hlt (by show l.length-(i+1)<l.length-i;omega) ⟨I,I,I,I,I,tO⟩ (fun W hp=>hp)))))))))))))
theorem Ra (l:List Ar) (b1:Nat) (p:Option Addr) (cap:Nat) (hn:l.length<1099511627776):N1 Tryz.prog 360 [Af b1] l.length (TQ (fun k=>l.length-1-k) (fun k=>Av l (l.length-1-k))) (fun _=>TM b1 p cap l):=by
 refine⟨fun y J Jx hN hB hA hU hY W hJ=> ?_⟩
 have hp0:=(hN _ _ W hJ).1.pts
 refine C0 (args:=[.func (.yield y) #[] #[],Af b1]) (J0:=J 0 []) (Jm:=fun W=> ∃L,J l.length L W) Tryz.func360 I I I hJ ?_
 refine zA (zB (wL 0 I I (fun W hp=>(hN _ _ W hp).1.var) I (wP I (wP I (wV 6 ((l.length:Int)-1-(0:Nat)) I (show w64 ((l.length:Int)-1)=_ by rw[Ap (by omega) (by omega)];omega) (wP I (Aa (zE (zH ?_)))))))))
 refine C7 (X:=Nat) (fun k=>[(0, .func (.yield y) #[] #[]),(1,Af b1),(3, .int .i64 ((l.length:Int)-1-(k:Nat)))]) (fun k W=>J k [] W)
  (fun k=>k≤l.length) (fun k=>l.length-k) 0 (Nat.zero_le _) ⟨rfl,rfl,rfl,trivial⟩ (fun W hp=>hp) ?_
 intro k hk
 have hk:k≤l.length:=hk
 refine zA (zA (zB (wP I (wP I ?_))))
 by_cases hlt:k<l.length
 rotate_left
 ·refine wU 8 false I (dF (by omega)) (Aa (zE (zS I (zJ (zK (zK (zL ?_)))))))
  exact EA I fun W hp=>⟨[],by
   have e:k=l.length:=by omega
   have hp:J k [] W:=hp
   rw[e] at hp
   exact hp⟩
 refine wU 8 true I (dT (by omega)) (Aa (zE (zR I (zI (zE (zA (zH (zA (zB ?_)))))))))
 obtain⟨g,off,hpe,hrow⟩: ∃g off,p=some ⟨g,off,none⟩∧ ∀W k L,J k L W→ ∀j,j<l.length→Ai W g (off+j*2) [str (Ac (Av l j).1),str (Ac (Av l j).2)]:=by
  obtain⟨g,off,e,_⟩:=hp0.at_ hlt
  refine⟨g,off,e,fun W1 k L1 h1 j hj=> ?_⟩
  obtain⟨g',off',e',h2⟩:=(hN _ _ W1 h1).1.pts.at_ hj
  rw[e] at e'
  cases e'
  rw[CT hj]
  exact h2 j hj
 subst hpe
 have ej:(l.length:Int)-1-(k:Nat)=((l.length-1-k:Nat):Int):=by omega
 have hj:l.length-1-k<l.length:=by omega
 refine wP I (wP I (wV 12 ((l.length-1-k:Nat):Int) I ej (wL 0 I I (fun W hp=>(hN _ _ W hp).1.var) I (wP I (wV 14 ((l.length-1-k:Nat):Int) I ej ?_)))))
 refine wJ ?_
 refine wL 0 I I (fun W hp=>hrow W _ _ hp (l.length-1-k) hj) I ?_
 have hYk: ∀W,J k [] W→YieldAt (Fw none) 0 Tryz.prog y (TQ (fun k=>l.length-1-k) (fun k=>Av l (l.length-1-k)) k).toArray W fun e W'=>(e= .returned (.bool true)∧J (k+1) [] W')∨(e= .returned (.bool false)∧Jx W'):=fun W h=>hY _ _ W hlt h
 refine DK (A1:=fun W=>J (k+1) [] W) (A2:=Jx) I I I I I I hYk ?_ ?_
 rotate_left
 ·exact wP I (Aa (zE (zR I (zO (zQ (zP (zP (zQ (BI I (fun W h=>h))))))))))
 exact wP I (Aa (zE (zS I (zI (zN (zE (zB (wP I (wP I (wV 10 ((l.length:Int)-1-((k+1:Nat):Int)) I (show w64 ((l.length:Int)-1-(k:Nat)-1)=_ by rw[Ap (by omega) (by omega)];omega) (wP I (Aa (CA (k+1) hlt (by show l.length-(k+1)<l.length-k;omega) ⟨I,I,I,tO⟩ (fun W hp=>hp))))))))))))))
end
end Go.Proofs.YtndkgionklmdfaaGreatDoor
