/-
  Lemmas that the theorem convexMass_upto_card needs (part 5 of 7).
-/
import Derived.Test.YthndmdimmgkpgaaGreatDoorCmd
import Derived.Shelf.Lays
import Derived.Shelf.SlLaysN
import Derived.Shelf.Small.Bits
import Derived.Laws.StructEq
set_option maxHeartbeats 64000000
namespace Go.Proofs.YthndmdimmgkpgaaGreatDoor
section
open Go Go.RowKit Go.Am Go.Lib
set_option maxRecDepth 10000
-- BOXES 4
-- CODE2
theorem XH {W m:Nat} (h:W<br^(m+3)):((W/br^(m+2)%br)*br+W/br^(m+1)%br)*br+W/br^m%br=W/br^m:=by
 have h1:W/br^(m+1)=W/br^m/br:=by rw[Nat.pow_succ,Nat.div_div_eq_div_mul]
 have h2:W/br^(m+2)=W/br^m/br/br:=by rw[Nat.pow_succ, ←Nat.div_div_eq_div_mul,h1]
 have h3:W/br^m<br*br*br:=by
  apply Nat.div_lt_of_lt_mul
  have:br^(m+3)=br^m*(br*br*br):=by rw[Nat.pow_succ,Nat.pow_succ,Nat.pow_succ];simp[Nat.mul_assoc]
  rw[←this];exact h
 rw[h2,h1]
 generalize W/br^m=x at h3⊢
 have h3:x<1000000*1000000*1000000:=h3
 show((x/1000000/1000000%1000000)*1000000+x/1000000%1000000)*1000000+x%1000000=x
 omega
theorem XK {b m:Nat} (h:b<br^(m+2)):(b/br^(m+1)%br)*br+b/br^m%br=b/br^m:=by
 have h1:b/br^(m+1)=b/br^m/br:=by rw[Nat.pow_succ,Nat.div_div_eq_div_mul]
 have h3:b/br^m<br*br:=by
  apply Nat.div_lt_of_lt_mul
  have:br^(m+2)=br^m*(br*br):=by rw[Nat.pow_succ,Nat.pow_succ];simp[Nat.mul_assoc]
  rw[←this];exact h
 rw[h1]
 generalize b/br^m=x at h3⊢
 have h3:x<1000000*1000000:=h3
 show(x/1000000%1000000)*1000000+x%1000000=x
 omega
theorem Xn {W b m g:Nat} (hg:g=W/m/(b/m+1)) (hm:0<m):g*b≤W:=by
 have h1:b<(b/m+1)*m:=Nat.lt_mul_of_div_lt (Nat.lt_succ_self _) hm
 have h2:g*(b/m+1)≤W/m:=by rw[hg];exact Nat.div_mul_le_self ..
 have h3:g*(b/m+1)*m≤W/m*m:=Nat.mul_le_mul_right _ h2
 have h4:W/m*m≤W:=Nat.div_mul_le_self ..
 have h5:g*b≤g*((b/m+1)*m):=Nat.mul_le_mul_left _ (by omega)
 rw[←Nat.mul_assoc] at h5
 omega
theorem Vh {x r:Nat} (_hx:x<br):lv br (x::lbs br r)=r*br+x:=by
 show x+br*lv br (lbs br r)=_
 rw[Ka br2,Nat.mul_comm,Nat.add_comm]
theorem Nm {w b g r:Nat} (h:w=g*b+r) (hr:r<b):w/b=g∧w%b=r:=by
 have hb:0<b:=by omega
 subst h
 rw[Nat.mul_comm]
 exact⟨by rw[Nat.mul_add_div hb,Nat.div_eq_of_lt hr,Nat.add_zero],by rw[Nat.mul_add_mod,Nat.mod_eq_of_lt hr]⟩
theorem Iw (W:World) (p q:Option Addr) (cap cap2:Nat) (a b:Nat) (hb0:0<b) (hA:Ax W p (lbs br a)) (hB:Ax W q (lbs br b)) (hna:(lbs br a).length≤1000) (hnb:(lbs br b).length≤1000):
  Aj Tryz.prog 144 #[slv p (lbs br a).length cap,slv q (lbs br b).length cap2] W (fun x:NV×NV=> .tuple #[B0 x.1 (lbs br (a/b)).length,B0 x.2 (lbs br (a%b)).length]) (fun x=>Cl x.1 (lbs br (a/b))∧Cl x.2 (lbs br (a%b))) (fun x=>[BF x.1 (lbs br (a/b)),BF x.2 (lbs br (a%b))]):=by
 have hla:=Bq br2 a
 have hlb:=Bq br2 b
 have hal:=AK br2 a
 have hbl:=AK br2 b
 obtain⟨K,hK⟩: ∃n,(lbs br a).length=n:=⟨_,rfl⟩
 obtain⟨n,hn⟩: ∃n,(lbs br b).length=n:=⟨_,rfl⟩
 have hn0:n≠0:=fun e=>by
  have:=(Dt br2).1 (List.length_eq_zero_iff.1 (hn.trans e));omega
 rw[hK] at hna hal
 rw[hn] at hnb hbl
 refine Ac (args:=[slv p (lbs br a).length cap,slv q (lbs br b).length cap2]) Tryz.func144 I I I ?_
 rw[hK,hn]
 refine zA (zB (wP I (wP I (Aa (zE (zA (zA (zB (wP I (wP I (wP I ?_)))))))))))
 by_cases hn1:n=1
 ·subst hn1
  obtain⟨b1,o1,rfl,r1⟩:=hB.row (show 0<(lbs br b).length by omega)
  have r1:=r1 0 (by omega)
  obtain⟨v,hv⟩: ∃v,lim (lbs br b) 0=v:=⟨_,rfl⟩
  rw[hv] at r1
  have hvb:v<br:=by rw[←hv];exact Bj br2 hlb _
  rw[Bl br2,Nat.pow_zero,Nat.div_one,Nat.mod_eq_of_lt (by rw[Nat.pow_one] at hbl;exact hbl)] at hv
  subst hv
  refine wU 14 true I (by simp) (Aa (zE (zR I (zA (zB (wP I (wP I ?_)))))))
  refine wJ ?_
  refine wL 0 I I (fun W hp=>r1.hp hp) I ?_
  refine wD (X:=NV×NV) I I (fun W' hp=>by have h:=O7 W' p cap a b (hA.hp hp) (by omega) hb0 hvb;rw[hK] at h;exact h) ?_
  rintro⟨x,y⟩ ⟨h1,h2⟩
  exact wP I (wP I (wP I (wP I (Aa (zE (zO (zP (AI tH I (.tmp I) (.tmp I) (x,y) I ⟨h1,h2⟩ fun W hp=>As.of_hp hp))))))))
 obtain⟨m,rfl⟩: ∃m,n=m+2:=⟨n-2,by omega⟩
 refine wU 14 false I (by rw[beq_eq_false_iff_ne];omega) (Aa ?_)
 obtain⟨bq,oq,rfl,rq⟩:=hB.row (show 0<(lbs br b).length by omega)
 obtain⟨u1,hu1⟩: ∃v,lim (lbs br b) (m+1)=v:=⟨_,rfl⟩
 obtain⟨u0,hu0⟩: ∃v,lim (lbs br b) m=v:=⟨_,rfl⟩
 have rq1:=rq (m+1) (by omega)
 have rq0:=rq m (by omega)
 rw[hu1] at rq1
 rw[hu0] at rq0
 have hu1b:u1<1000000:=by rw[←hu1];exact Bj br2 hlb _
 have hu0b:u0<1000000:=by rw[←hu0];exact Bj br2 hlb _
 rw[Bl br2] at hu1 hu0
 have ht2:=XK hbl
 rw[hu1,hu0] at ht2
 have ht2:u1*1000000+u0=b/br^m:=ht2
 obtain⟨tp,htp⟩: ∃tp,tp=b/br^m:=⟨_,rfl⟩
 have hpm:0<br^m:=Nat.pow_pos (by decide)
 refine zE (zS I (zI (zE (zA (zB (wP I (wP I (wP I (Aa (zE (zA (zU (qP I (qP I (qP I ?_)))))))))))))))
 refine qV 26 ((m+1:Nat):Int) I (by show w64 (((m+2:Nat):Int)-1)=_;rw[Ap (by omega) (by omega)];omega) ?_
 refine qJ ?_
 refine qL 0 I I (fun W hp=>rq1.hp hp) I (qP I (qP I (qP I (qP I (qV 32 (m:Nat) I (by show w64 (((m+2:Nat):Int)-2)=_;rw[Ap (by omega) (by omega)];omega) ?_)))))
 refine qJ ?_
 refine qL 0 I I (fun W hp=>rq0.hp hp) I (qP I (qV 35 (tp:Nat) I (by show w64 (w64 ((u1:Int)*((1000000:Nat):Int))+u0)=_;rw[Cm (by omega),AV (by omega),htp,ht2]) (qP I (AU (Aa (zE (zA (zB (wP I (wP I ?_))))))))))
 refine Cb Tryz.vec130 K I I I I I I I (by simp only[maxLen];omega) (by omega) ?_
 intro g
 have ez:BW (Value.cells (.int .i64 0)).toList K=nI (List.replicate K 0)++[]:=by rw[List.append_nil];exact FF K
 rw[ez]
 refine wP I (Aa (zE (zA (zB ?_))))
 refine E3 tH I I I I I ?_
 intro gr
 refine wP I (Aa (zE (zA (zA (zB (wP I (wP I (wP I (wV 42 ((K:Int)-1) I (Ap (by omega) (by omega)) (wP I (Aa (zE (zH ?_)))))))))))))
 have e0:lbs br 0=[]:=Bc
 refine AA (X:=Nat×List Nat×Nat×Nat×NV) (fun x=>[(0,slv p K cap),(1,slv (some ⟨bq,oq,none⟩) (m+2) cap2),(6, .int .i64 ((m+2:Nat):Int)),(7, .int .i64 (tp:Nat)),(8,slv (some ⟨g,0,none⟩) K K),(9,B0 x.2.2.2.2 (lbs br x.2.2.2.1).length),(10, .int .i64 ((x.1:Nat)-1:Int))]) (fun x=>[⟨g,3,nI x.2.1++[],true,none⟩,BF x.2.2.2.2 (lbs br x.2.2.2.1)])
  (fun x=>(x.1≤K∧x.2.1.length=K∧(∀y∈x.2.1,y<br)∧lv br x.2.1=br^x.1*x.2.2.1∧a/br^x.1=x.2.2.1*b+x.2.2.2.1∧x.2.2.2.1<b)∧Cl x.2.2.2.2 (lbs br x.2.2.2.1)) (fun x=>x.1) (K,List.replicate K 0,0,0,(gr,0,[])) ⟨⟨Nat.le_refl _,List.length_replicate,Hy (by decide) K,by rw[EL];show 0=br^K*0;rw[Nat.mul_zero],by show a/br^K=0*b+0;rw[Nat.div_eq_of_lt hal];omega,hb0⟩,by show Cl _ (lbs br 0);rw[e0];exact⟨rfl,(fun h=>by cases h),fun _=>⟨Nat.le_refl _,Nat.zero_le _,rfl⟩⟩⟩ ⟨rfl,rfl,rfl,rfl,rfl,by show _=some (slv _ (lbs br 0).length 0);rw[e0];rfl,rfl,trivial⟩ [] (by show _=[_,BF _ (lbs br 0)]++[];rw[e0];rfl) ?_
 rintro⟨k,l,qh,rs,x⟩ ⟨⟨hk,hl,hllt,hlv,hq,hr⟩,hx⟩
 have hk:k≤K:=hk
 have hl:l.length=K:=hl
 have hlv:lv br l=br^k*qh:=hlv
 have hq:a/br^k=qh*b+rs:=hq
 have hr:rs<b:=hr
 have hx:Cl x (lbs br rs):=hx
 refine zA (zA (zB (wP I (wP I ?_))))
 cases k with
 |zero=>
  have hq:a=qh*b+rs:=by simpa using hq
  have hlv:lv br l=qh:=by rw[hlv];simp
  obtain⟨eq1,eq2⟩:=Nm hq hr
  refine wU 44 false I (dF (by show¬(((0:Nat):Int)-1≥0);omega)) (Aa (zE (zS I (zJ (zK (zK (zL (zE (zA (zB ?_))))))))))
  have hV0:(⟨some g,K,[]⟩:Vec).OK 1 l.length (nI l):=⟨EA _,(fun h=>by cases h),fun _=>⟨by show _≤K;omega,by show K≤maxLen;simp only[maxLen];omega,by show(nI l).length+0=K*1;rw[BA];omega⟩⟩
  obtain⟨j1,hV1,he1⟩:=DM hV0 hllt
  refine wP I ?_
  refine Af 92 (slv (some ⟨g,0,none⟩) l.length K) I (by rw[hl]) ?_
  refine wC I I (fun W hp=>C8 W _ K _ (Ax.of_bx hp 0 I) hllt (by omega) (by omega)) (wP I (wP I (wP I (Aa (zE (zO ?_))))))
  rw[hlv, ←eq1] at hV1 he1
  rw[←eq2] at hx
  exact AI tH I (.tmp I) (.tmp I) (((g,K,j1):NV),x) (by rw[hlv, ←eq1, ←eq2]) ⟨hV1,hx⟩ fun W hp=>As.of_hp (hp.pick (l:=[BF (g,K,j1) (lbs br (a/b)),BF x (lbs br (a%b))]) [0,1] (by decide) (by
   show some [(⟨g,3,nI l++[],true,none⟩:Bx),BF x (lbs br rs)]=some [⟨g,3,nI (lbs br (a/b))++j1,true,none⟩,BF x (lbs br (a%b))]
   rw[he1,eq2]))
 |succ k=>
  have hq:a/br^(k+1)=qh*b+rs:=hq
  have hi:k<l.length:=by rw[hl];omega
  obtain⟨b1,o1,rfl,r1⟩:=hA.row (show k<(lbs br a).length by omega)
  have r1:=r1 k (by omega)
  obtain⟨v,hv⟩: ∃v,lim (lbs br a) k=v:=⟨_,rfl⟩
  rw[hv] at r1
  have hvb:v<br:=by rw[←hv];exact Bj br2 hla _
  have hvb':v<1000000:=hvb
  have hve:v=a/br^k%br:=by rw[←hv];exact Bl br2 a _
  obtain⟨w,hw⟩: ∃w,w=v+rs*br:=⟨_,rfl⟩
  have hlw:lv br (v::lbs br rs)=w:=by rw[Vh hvb,hw,Nat.add_comm]
  have hrsb:=hr
  have hwlt:w<br*b:=by
   have:(rs+1)*br≤b*br:=Nat.mul_le_mul_right _ hr
   rw[Nat.add_mul,Nat.one_mul] at this
   rw[hw,Nat.mul_comm br b];omega
  have hwlt3:w<br^(m+3):=by
   have h1:br*b<br*br^(m+2):=Nat.mul_lt_mul_of_pos_left hbl (by decide)
   rw[show br^(m+3)=br*br^(m+2) by rw[Nat.pow_succ,Nat.mul_comm]];omega
  have hwb:w/b<br:=Nat.div_lt_of_lt_mul (by rw[Nat.mul_comm];exact hwlt)
  have hs:=IL (B:=br) (d:=b) (q:=qh) (r:=rs) (i:=k) hq (n:=w) (by rw[hw,hve])
  have hzero:l[k]? =some 0:=by
   rw[Dz hi,Cv br2 _ hllt,hlv,Nat.pow_succ,Nat.mul_assoc,Nat.mul_div_cancel_left _ (Nat.pow_pos (by decide)),Nat.mul_mod_right]
  have hset:=HL (B:=br) (w/b) hzero
  rw[Nat.mul_zero,Nat.add_zero,hlv,Nat.pow_succ,Nat.mul_assoc, ←Nat.mul_add] at hset
  have hrl:(lbs br rs).length≤m+2:=(BQ br2).2 (by omega)
  have hwl:(lbs br w).length≤m+3:=(BQ br2).2 hwlt3
  refine wU 44 true I (dT (by show(((k+1:Nat):Int)-1≥0);omega)) (Aa (zE (zR I (zI (zE (zA (zH (zA (zB (wP I (wP I (wV 48 (k:Nat) I (by show((k+1:Nat):Int)-1=_;omega) ?_))))))))))))
  refine wJ ?_
  refine wL 0 I I (fun W hp=>r1.hp hp) I ?_
  refine AD Tryz.hZ tH I I I I I I I I I I I fun bN=> ?_
  refine wP I ?_
  refine G2 (len:=1) (V:=⟨some bN,1,[]⟩) (xs:=nI [v]) (news:=nI (lbs br rs)) 2 Tryz.vec130 rfl rfl rfl rfl rfl rfl rfl rfl rfl ⟨rfl,(fun h=>by cases h),fun _=>⟨Nat.le_refl _,(by show 1≤maxLen;decide),rfl⟩⟩ (EA _) (fun W' hp j u hj=> ?_) (fun u hu=> ?_) (by dsimp only;simp only[maxLen];omega) (by dsimp only;omega) ?_
  ·have hrow:=Ak.of_bx hp 1 rfl rfl
   have:=hrow.get j u (by show(nI (lbs br rs)++x.2.2)[j]? =_;rw[List.getElem?_append_left (List.getElem?_eq_some_iff.1 hj).1];exact hj)
   rw[Addr.add_none]
   exact this
  ·obtain⟨z,_,rfl⟩:=List.mem_map.1 hu;rfl
  intro V' hV' hV0
  obtain⟨pv,cv,jv⟩:=V'
  cases pv with
  |none=>have:=hV'.nil rfl;omega
  |some gv=>
  have ecat:nI [v]++nI (lbs br rs)=nI (v::lbs br rs):=rfl
  rw[ecat] at hV'⊢
  have hV':(⟨some gv,cv,jv⟩:Vec).OK 1 (v::lbs br rs).length (nI (v::lbs br rs)):=by rw[List.length_cons,Nat.add_comm];exact hV'
  have hclt: ∀y∈v::lbs br rs,y<br:=fun y hy=>by
   rcases List.mem_cons.1 hy with rfl|hy
   ·exact hvb
   ·exact Bq br2 rs y hy
  obtain⟨jw,hVw,hew⟩:=DM hV' hclt
  rw[hlw] at hVw hew
  refine Af 53 (slv (some ⟨gv,0,none⟩) (v::lbs br rs).length cv) I (by show slv _ (1+_) _=_;rw[List.length_cons,Nat.add_comm]) ?_
  refine wC I I (fun W hp=>(C8 W (some ⟨gv,0,none⟩) cv _ (Ax.of_bx hp 2 I) hclt (by have:=(hV'.cap (by simp)).1;exact this) (by rw[List.length_cons];omega)).cast (v':=slv (some ⟨gv,0,none⟩) (lbs br w).length cv) (by rw[hlw])) (wP I (Aa ?_))
  obtain⟨l2,hl2⟩: ∃v,lim (lbs br w) (m+2)=v:=⟨_,rfl⟩
  obtain⟨l1,hl1⟩: ∃v,lim (lbs br w) (m+1)=v:=⟨_,rfl⟩
  obtain⟨l0,hl0⟩: ∃v,lim (lbs br w) m=v:=⟨_,rfl⟩
  have hl2b:l2<1000000:=by rw[←hl2];exact Bj br2 (Bq br2 w) _
  have hl1b:l1<1000000:=by rw[←hl1];exact Bj br2 (Bq br2 w) _
  have hl0b:l0<1000000:=by rw[←hl0];exact Bj br2 (Bq br2 w) _
  have ht3:=XH hwlt3
  rw[←Bl br2, ←Bl br2, ←Bl br2,hl2,hl1,hl0] at ht3
  have ht3:(l2*1000000+l1)*1000000+l0=w/br^m:=ht3
  obtain⟨e,he⟩: ∃e,e=w/br^m/(b/br^m+1):=⟨_,rfl⟩
  have hest:=Xn he hpm
  have heb:e≤w/b:=(Nat.le_div_iff_mul_le hb0).2 hest
  have hebr:e<1000000:=Nat.lt_of_le_of_lt heb hwb
  have htpb:tp<1000000000000:=by rw[htp, ←ht2];omega
  have hlW: ∀ {W1:World} {bxs:List Bx},Hp W bxs W1→nth bxs 2=some (⟨gv,3,nI (v::lbs br rs)++jv,true,none⟩:Bx)→Ax W1 (some ⟨gv,0,none⟩) (lbs br w):=fun hp h2=>by rw[hew] at h2;exact Ax.of_bx hp 2 h2
  refine zE (zA (zB (wP I (wP I (wC I I (fun W' hp=>CZ W' (some ⟨gv,0,none⟩) cv _ (lbs br w) (m+2) l2 (hlW hp I) I (by omega) hl2) (wP I (wP I (wP I (wP I (wV 61 ((m+1:Nat):Int) I (by show w64 (((m+2:Nat):Int)-1)=_;rw[Ap (by omega) (by omega)];omega) (wC I I (fun W' hp=>CZ W' (some ⟨gv,0,none⟩) cv _ (lbs br w) (m+1) l1 (hlW hp I) I (by omega) hl1) ?_)))))))))))
  iterate 5 refine wP I ?_
  refine wV 67 (m:Nat) I (by show w64 (((m+2:Nat):Int)-2)=_;rw[Ap (by omega) (by omega)];omega) (wC I I (fun W' hp=>CZ W' (some ⟨gv,0,none⟩) cv _ (lbs br w) m l0 (hlW hp I) I (by omega) hl0) (wP I (wV 69 ((w/br^m:Nat):Int) I (by show w64 (w64 (w64 (w64 ((l2:Int)*((1000000:Nat):Int))+l1)*((1000000:Nat):Int))+l0)=_;rw[Cm (by omega),AV (by omega),Cm (by omega),AV (by omega),ht3]) (wP I (wP I (wV 71 ((tp+1:Nat):Int) I (Az (by omega)) ?_))))))
  refine D7 I I I I I (by omega) ?_
  refine wV 72 (e:Nat) I (by rw[he, ←htp];exact BE (by rw[←htp] at he;rw[←he];omega)) (wP I (Aa (zE (zA (zB (wP I (wP I (wP I ?_))))))))
  refine AD Tryz.hZ tH I I I I I I I I I I I fun bE=> ?_
  refine wD (X:=NV) I I (fun W' hp=>by
   have h:=Iu W' (some ⟨bq,oq,none⟩) (some ⟨bE,0,none⟩) cap2 1 b [e] (fun y hy=>by obtain rfl:=List.mem_singleton.1 hy;exact hebr) (hB.hp hp) (Ax.of_bx (junk:=[]) hp 3 rfl) (by omega) (by show 1≤1000000;decide)
   rw[hn,Oq] at h
   exact h) ?_
  intro xt hxt
  refine wD (X:=NV) I I (fun W' hp=>Fk W' (some ⟨gv,0,none⟩) (some ⟨xt.1,0,none⟩) cv xt.2.1 w (b*e) (by rw[Nat.mul_comm];exact hest) (hlW hp I) (Ax.of_bx hp 4 I) (by omega)) ?_
  intro x1 hx1
  refine wP I (Aa (AH ?_))
  try refine A0 ?_
  refine AF (X:=NV) (fun x2=>[(0,slv (some ⟨b1,o1,none⟩) K cap),(1,slv (some ⟨bq,oq,none⟩) (m+2) cap2),(6, .int .i64 ((m+2:Nat):Int)),(7, .int .i64 (tp:Nat)),(8,slv (some ⟨g,0,none⟩) K K),(9,B0 x2 (lbs br (w%b)).length),(10, .int .i64 (k:Nat)),(11, .int .i64 ((w/b:Nat):Int))]) (fun x2=>[⟨g,3,nI l++[],true,none⟩,BF x2 (lbs br (w%b))]) (fun x2=>Cl x2 (lbs br (w%b))) ?_ ?_
  ·refine zH ?_
   refine Eb (X:=Nat×Nat×NV) (fun y=>[(0,slv (some ⟨b1,o1,none⟩) K cap),(1,slv (some ⟨bq,oq,none⟩) (m+2) cap2),(6, .int .i64 ((m+2:Nat):Int)),(7, .int .i64 (tp:Nat)),(8,slv (some ⟨g,0,none⟩) K K),(9,B0 y.2.2 (lbs br y.2.1).length),(10, .int .i64 (k:Nat)),(11, .int .i64 (y.1:Nat))]) (fun y=>Hp W [⟨g,3,nI l++[],true,none⟩,BF y.2.2 (lbs br y.2.1)]) (fun y=>w=y.1*b+y.2.1∧Cl y.2.2 (lbs br y.2.1)) (fun y=>y.2.1) (e,w-b*e,x1) ⟨by show w=e*b+(w-b*e);rw[Nat.mul_comm b e];omega,hx1⟩ ⟨I,I,I,I,I,I,congrArg (fun z=>some (Value.int .i64 z)) (by show((k+1:Nat):Int)-1=(k:Nat);omega),I,tO⟩ (fun W hp=>hp.pick [0,5] (by decide) I) ?_
   rintro⟨e1,w1,x2⟩ ⟨hw1,hx2⟩
   have hw1:w=e1*b+w1:=hw1
   have hx2:Cl x2 (lbs br w1):=hx2
   have hw1l:(lbs br w1).length≤m+3:=(BQ br2).2 (by omega)
   refine zA (zA (zB (wP I (wP I ?_))))
   refine wC I I (fun W' hp=>by
    have h:=Ko W' (some ⟨x2.1,0,none⟩) (some ⟨bq,oq,none⟩) x2.2.1 cap2 w1 b (Ax.of_bx hp 1 rfl) (hB.hp hp) (by omega) (by omega)
    rw[hn] at h
    exact h) ?_
   refine wP I ?_
   by_cases hge:b≤w1
   ·have hc:0≤Lu w1 b:=by unfold Lu;rw[if_neg (by omega)];split<;>decide
    have he1:e1<w/b:=by
     have h1:(e1+1)*b≤w:=by rw[Nat.add_mul,Nat.one_mul];omega
     have:=(Nat.le_div_iff_mul_le hb0).2 h1
     omega
    have he1b:e1<1000000:=Nat.lt_trans he1 hwb
    refine wU 82 true I (dT hc) (Aa (zE (zR I (zI (zE (zH (zA (zB (wP I (wP I ?_))))))))))
    refine wD (X:=NV) I I (fun W' hp=>by
     have h:=Fk W' (some ⟨x2.1,0,none⟩) (some ⟨bq,oq,none⟩) x2.2.1 cap2 w1 b hge (Ax.of_bx hp 1 rfl) (hB.hp hp) (by omega)
     rw[hn] at h
     exact h) ?_
    intro x3 hx3
    exact wP I (Aa (zE (zB (wP I (wP I (wV 87 ((e1+1:Nat):Int) I (Az (by omega)) (wP I (Aa (zN (Ej (e1+1,w1-b,x3) ⟨by show w=(e1+1)*b+(w1-b);rw[Nat.add_mul,Nat.one_mul];omega,hx3⟩ (by show w1-b<w1;omega) ⟨I,I,I,I,I,I,I,I,tO⟩ (fun W hp=>hp.pick [0,2] (by decide) I)))))))))))
   ·have hc: ¬(0:Int)≤Lu w1 b:=by unfold Lu;rw[if_pos (by omega)];decide
    obtain⟨d1,d2⟩:=Nm hw1 (show w1<b by omega)
    exact wU 82 false I (dF hc) (Aa (zE (zS I (zJ (zK (zK (zL (Al x2 (by show Cl x2 (lbs br (w%b));rw[d2];exact hx2) ⟨I,I,I,I,I,by rw[d2];rfl,I,by rw[d1];rfl,tO⟩ [] (by rw[d2];rfl)))))))))
  intro x2 hx2
  have hx2:Cl x2 (lbs br (w%b)):=hx2
  refine zB (wP I (wP I (wP I ?_)))
  refine wJ ?_
  refine Aw 0 (nI (l.set k (w/b))++[]) tH I I I I I I I I I I (by show 0+k*1+1≤(nI l++[]).length;rw[List.append_nil,BA];omega) (C1 hi (w/b)) ?_
  exact Aa (zN (zE (zB (wP I (wP I (wV 46 ((k:Nat)-1:Int) I (Ap (by omega) (by omega)) (wP I (Aa (A6 (k,l.set k (w/b),qh*br+w/b,w%b,x2) ⟨⟨by show k≤K;omega,by rw[List.length_set];exact hl,CB hllt hwb,by show lv br (l.set k (w/b))=br^k*(qh*br+w/b);rw[hset,Nat.mul_comm qh],by show a/br^k=_;exact hs,Nat.mod_lt _ hb0⟩,hx2⟩ (by show k<k+1;omega) ⟨I,I,I,I,I,I,I,tO⟩ [] I)))))))))
-- BOXES 6
-- CODE2
theorem SM (x y:Int):Nat.gcd y.natAbs (x.tmod y).natAbs=Nat.gcd x.natAbs y.natAbs:=by
 rw[Int.natAbs_tmod,Nat.gcd_comm, ←Nat.gcd_rec,Nat.gcd_comm]
theorem Li (a b:Int) (ha:(decDigits a.natAbs).length≤300) (hb:(decDigits b.natAbs).length≤300) (W:World) (ht:AO W):
  Aj Tryz.prog 86 #[str (itoa a),str (itoa b)] W (fun _:Unit=> .tuple #[str (itoa ((Nat.gcd a.natAbs b.natAbs:Nat):Int)), .int .i64 0]) (fun _=>True) (fun _=>[]):=by
 have la:=Ci (m:=a.natAbs) (by omega)
 have lb:=Ci (m:=b.natAbs) (by omega)
 refine Ac (args:=[str (itoa a),str (itoa b)]) Tryz.func86 I I I ?_
 refine zA (zB (wP I (wP I (Aa (zE (zA (zA (zB (wP I (wP I (wC I I (fun W _=>De a b ha hb W) (wP I (Aa ?_)))))))))))))
 refine zE (zA (zB (wP I (wP I (Aa (zE (zS I (zI (zE (zA (zA (zB ?_))))))))))))
 cases hs:smI a&&smI b with
 |true=>
  obtain⟨h1,h2⟩:=Bool.and_eq_true_iff.1 hs
  have b1:=H5 h1
  have b2:=H5 h2
  refine wP I (wP I (wC I I (fun W _=>GB hs W) ?_))
  iterate 7 refine wP I ?_
  refine Aa (zE (zA (zB (wP I (Aa (zE (zR I (zA (zH ?_)))))))))
  refine AA (X:=Int×Int) (fun x=>[(7, .int .i64 x.1),(8, .int .i64 x.2)]) (fun _=>[]) (fun x=>x.1.natAbs<100000000000000000∧x.2.natAbs<100000000000000000∧Nat.gcd x.1.natAbs x.2.natAbs=Nat.gcd a.natAbs b.natAbs) (fun x=>x.2.natAbs) (a,b) ⟨b1,b2,I⟩ ⟨I,I,tO⟩ [] I ?_
  rintro⟨x,y⟩ ⟨hx,hy,hg⟩
  have hx:x.natAbs<100000000000000000:=hx
  have hy:y.natAbs<100000000000000000:=hy
  have hg:Nat.gcd x.natAbs y.natAbs=Nat.gcd a.natAbs b.natAbs:=hg
  refine zA (zA (zB (wP I (wP I ?_))))
  by_cases h0:y=0
  ·refine wU 29 false I (by rw[bne_eq_false_iff_eq];exact h0) (Aa (zE (zS I (zJ (zK (zK (zL (zE (zA (zB (wP I (wP I (wP I ?_)))))))))))))
   refine wV 36 (-x) I (show w64 (0-x)=_ by rw[Ap (by omega) (by omega)];omega) (wP I ?_)
   refine Af 37 (.int .i64 ((Nat.gcd a.natAbs b.natAbs:Nat):Int)) I (congrArg (Value.int .i64) (by
    rw[←hg,h0,Int.natAbs_zero,Nat.gcd_zero_right]
    show(if -x>x then -x else x)=_;split<;>omega)) ?_
   have hgl:Nat.gcd a.natAbs b.natAbs<100000000000000000:=by rw[←hg,h0,Int.natAbs_zero,Nat.gcd_zero_right];exact hx
   exact wC I I (fun W hp=>Bv ((Nat.gcd a.natAbs b.natAbs:Nat):Int) (by omega) (by omega) W (ht.hp hp)) (wP I (wP I (Aa (zE (zO (zP (wR2 I I I)))))))
  ·refine wU 29 true I (by rw[bne_iff_ne];exact h0) (Aa (zE (zR I (zI (zE (zH (zU (qP I (qP I (qP I ?_))))))))))
   refine Ez I I I I I h0 ?_
   refine qP I (qP I (AU (Aa (zN ?_))))
   have hr:(x.tmod y).natAbs<y.natAbs:=by rw[Int.natAbs_tmod];exact Nat.mod_lt _ (by omega)
   exact A6 (y,x.tmod y) ⟨hy,Nat.lt_trans hr hy,by show Nat.gcd y.natAbs (x.tmod y).natAbs=_;rw[SM];exact hg⟩ hr ⟨I,I,tO⟩ [] I
 |false=>
  obtain⟨x0,y0,h2⟩:=GD hs ha hb
  refine wP I (wP I (wC I I (fun W _=>h2 W) ?_))
  iterate 7 refine wP I ?_
  refine Aa (zE (zA (zB (wP I (Aa (zE (zS I (zI (zE (zA (zB (wP I ?_))))))))))))
  refine wD (X:=NV) I I (fun W' _=>Bf a (by omega) W') ?_
  intro x hx
  refine wP I (wP I ?_)
  refine wD (X:=NV) I I (fun W' _=>Bf b (by omega) W') ?_
  intro y hy
  refine wP I (wP I (wP I (Aa (zE (zA (zH ?_))))))
  refine Eb (X:=(Nat×NV)×(Nat×NV)) (fun s=>[(10,B0 s.1.2 (lbs br s.1.1).length),(11,B0 s.2.2 (lbs br s.2.1).length)]) (fun s=>Hp W [BF s.1.2 (lbs br s.1.1),BF s.2.2 (lbs br s.2.1)]) (fun s=>Nat.gcd s.1.1 s.2.1=Nat.gcd a.natAbs b.natAbs∧(lbs br s.1.1).length≤101∧(lbs br s.2.1).length≤101) (fun s=>s.2.1) ((a.natAbs,x),(b.natAbs,y)) ⟨I,la,lb⟩ ⟨I,I,tO⟩ (fun W hp=>hp) ?_
  rintro⟨⟨u,x⟩,⟨v,y⟩⟩ ⟨hg,hu,hv⟩
  have hg:Nat.gcd u v=Nat.gcd a.natAbs b.natAbs:=hg
  have hu:(lbs br u).length≤101:=hu
  have hv:(lbs br v).length≤101:=hv
  refine zA (zA (zB (wP I (wP I (wP I ?_)))))
  by_cases h0:v=0
  ·have e1:Nat.gcd a.natAbs b.natAbs=u:=by rw[←hg,h0,Nat.gcd_zero_right]
   have key: ∀e k,e=6*k→0<e→(lbs br u).length≤k→(decDigits u).length≤e:=fun e k he h0e hk=>by
    refine Dd e u (by omega) ?_
    have:=AK br2 u
    refine Nat.lt_of_lt_of_le this ?_
    rw[JH];exact Nat.pow_le_pow_right (by decide) (by omega)
   have hul:=key 606 101 rfl (by decide) hu
   refine wU 47 false I (dF (by rw[h0,Bc];decide)) (Aa (zE (zS I (zJ (zK (zK (zL (zE (zA (zB (wP I ?_)))))))))))
   refine Ay Tryz.hZ tH I I I I I I I I ?_
   refine Af 57 (IZ ((u:Nat):Int) (some ⟨x.1,0,none⟩) x.2.1) I (by unfold IZ;rw[dF (show¬((u:Nat):Int)<0 by omega),Int.natAbs_natCast];rfl) ?_
   exact wC I I (fun W' hp=>Fa ((u:Nat):Int) (by rw[Int.natAbs_natCast];exact hul) W' (some ⟨x.1,0,none⟩) x.2.1 (by rw[Int.natAbs_natCast];exact Ax.of_bx hp 0 I)) (wP I (wP I (Aa (zE (zO (wR2 I I (by rw[e1])))))))
  ·have hL:(lbs br v).length≠0:=fun e=>h0 ((Dt br2).1 (List.length_eq_zero_iff.1 e))
   have hr:u%v<v:=Nat.mod_lt _ (by omega)
   refine wU 47 true I (dT (by show(((lbs br v).length:Nat):Int)>0;omega)) (Aa (zE (zR I (zI (zE (zH (zA (zB (wP I (wP I ?_))))))))))
   refine wD (X:=NV×NV) I I (fun W' hp=>Iw W' (some ⟨x.1,0,none⟩) (some ⟨y.1,0,none⟩) x.2.1 y.2.1 u v (by omega) (Ax.of_bx hp 0 I) (Ax.of_bx hp 1 I) (by omega) (by omega)) ?_
   rintro⟨q,w⟩ ⟨hq,hw⟩
   iterate 5 refine wP I ?_
   exact Aa (zE (zB (wP I (wP I (wP I (wP I (Aa (zN (Ej ((v,y),(u%v,w)) ⟨by show Nat.gcd v (u%v)=_;rw[Nat.gcd_comm, ←Nat.gcd_rec,Nat.gcd_comm];exact hg,hv,by show(lbs br (u%v)).length≤101;exact Nat.le_trans ((BQ br2).2 (Nat.lt_trans hr (AK br2 v))) hv⟩ hr ⟨I,I,tO⟩ (fun W hp=>hp.pick [1,3] (by decide) I))))))))))
-- BOXES 4
def HO (W:World) (p:Option Addr) (l:List (List UInt8)):Prop:=l=[]∨ ∃b off,p=some ⟨b,off,none⟩∧Ak W b off (l.map str)
theorem HO.below {W W':World} {p:Option Addr} {l:List (List UInt8)} {n:Nat} (h:HO W p l) (hn:W.heap.size≤n) (hb:Below n W W'):HO W' p l:=by
 rcases h with h|⟨b,off,h1,h2⟩
 ·exact .inl h
 ·exact .inr ⟨b,off,h1,h2.below hn hb⟩
theorem HO.hp {W0 W:World} {bxs:List Bx} {p:Option Addr} {l:List (List UInt8)} (h:HO W0 p l) (hp:Hp W0 bxs W):HO W p l:=h.below (Nat.le_refl _) hp.below
theorem HO.row {W:World} {p:Option Addr} {l:List (List UInt8)} (h:HO W p l) {i:Nat} (hi:i<l.length): ∃b off,p=some ⟨b,off,none⟩∧ ∀k (hk:k<l.length),Ak W b (off+k*1) [str l[k]]:=by
 rcases h with rfl|⟨b,off,h1,h2⟩
 ·exact absurd hi (Nat.not_lt_zero _)
 ·refine⟨b,off,h1,fun k hk=>⟨h2.lt,fun j u hu=> ?_⟩⟩
  have hj:j=0:=by have:=(List.getElem?_eq_some_iff.1 hu).1;simpa using this
  subst hj
  have:=h2.get k (str l[k]) (by rw[List.getElem?_map,List.getElem?_eq_getElem hk];rfl)
  rw[Nat.mul_one,Nat.add_zero,this]
  simpa using hu
theorem GJ (n:Nat):itoa (n:Int)=decDigits n:=by
 unfold itoa;rw[if_neg (by omega)];rfl
abbrev q2 (n:Int) (d:Nat) (h:d≠0:=by decide) (hc:n.natAbs.Coprime d:=by decide):Rat:=⟨n,d,h,hc⟩
theorem dd1 (n:Nat) (h:n<10):decDigits n=[UInt8.ofNat (48+n)]:=by rw[decDigits,dif_pos h]
theorem ns2:Ad (q2 2 1)=[50]:=by rw[Ad,EP,if_pos rfl];exact(GJ 2).trans (dd1 2 (by decide))
theorem ns3:Ad (q2 3 1)=[51]:=by rw[Ad,EP,if_pos rfl];exact(GJ 3).trans (dd1 3 (by decide))
-- BOXES 2
-- CODE2
theorem TF (a:List UInt8):cut a [47]=(if hasPrefix a [45]=true then 45::(cut (trimPrefix a [45]) [47]).1 else(cut (trimPrefix a [45]) [47]).1,(cut (trimPrefix a [45]) [47]).2):=by
 rw[Bw,Ba]
 by_cases h:a[0]? =some 45
 ·rw[if_pos h,if_pos (dT h)]
  obtain⟨t,rfl⟩: ∃t,a=45::t:=by
   cases a with
   |nil=>cases h
   |cons b t=>
    have e:b=45:=by simpa using h
    exact⟨t,by rw[e]⟩
  show cut (45::t) [47]=(45::(cut t [47]).1,(cut t [47]).2)
  rcases G6 47 t with h1|⟨x,y,rfl,h1⟩
  ·rw[EI h1,EI (show(47:UInt8)∉45::t from fun h=>by
    rcases List.mem_cons.1 h with h|h
    ·cases h
    ·exact h1 h)]
  ·rw[FS y h1,show 45::(x++47::y)=(45::x)++47::y from rfl,FS y (show(47:UInt8)∉45::x from fun h=>by
    rcases List.mem_cons.1 h with h|h
    ·cases h
    ·exact h1 h)]
 ·rw[if_neg h,if_neg (by rw[dF h];decide)]
theorem Wn {a:List UInt8} {c:UInt8} (h:(cut a [47]).1[0]? =some c):a[0]? =some c:=by
 rcases G6 47 a with h1|⟨x,y,rfl,h1⟩
 ·rwa [EI h1] at h
 ·rw[FS y h1] at h
  cases x with
  |nil=>cases h
  |cons b t=>exact h
theorem TQ {m:Bool} {n:List UInt8} (h:m=false→n[0]? ≠some 45):Gp (if m=true then 45::n else n)=if dgB n=true∧ ¬(m=true∧n=[48]) then some (if m=true then -(AR n:Int) else AR n) else none:=by
 have hd:dgB n=true↔(ldn n=n.length∧n≠[]∧(1<n.length→n[0]? ≠some 48)):=by
  rw[GG];exact⟨KF,JE⟩
 have key: ∀(x:List UInt8),hasPrefix x [45]=m→trimPrefix x [45]=n→Gp x=if dgB n=true∧ ¬(m=true∧n=[48]) then some (if m=true then -(AR n:Int) else AR n) else none:=fun x h1 h2=>by
  unfold Gp
  rw[h1,h2]
  by_cases hc:dgB n=true∧ ¬(m=true∧n=[48])
  ·rw[if_pos hc]
   obtain⟨c1,c2,c3⟩:=hd.1 hc.1
   rw[if_pos ⟨c1,c2,c3,hc.2⟩]
  ·rw[if_neg hc,if_neg fun h4=>hc ⟨hd.2 ⟨h4.1,h4.2.1,h4.2.2.1⟩,h4.2.2.2⟩]
 cases m with
 |true=>
  refine key _ ?_ ?_
  ·rw[if_pos rfl,Bw];rfl
  ·rw[if_pos rfl,Ba];rfl
 |false=>
  have h0:=h rfl
  refine key _ ?_ ?_
  ·rw[if_neg (by decide),Bw,dF h0]
  ·rw[if_neg (by decide),Ba,if_neg h0]
def MA (m:Bool) (n d:List UInt8) (sl:Bool):Bool:= !dgB n||(sl&&(!dgB d||decide (d=[48])||decide (d=[49])))||(m&&decide (n=[48]))
theorem VT (a:List UInt8):frm a=if MA (hasPrefix a [45]) (cut (trimPrefix a [45]) [47]).1 (cut (trimPrefix a [45]) [47]).2.1 (cut (trimPrefix a [45]) [47]).2.2=true then none
  else some (if hasPrefix a [45]=true then -(AR (cut (trimPrefix a [45]) [47]).1:Int) else AR (cut (trimPrefix a [45]) [47]).1,if (cut (trimPrefix a [45]) [47]).2.2=true then AR (cut (trimPrefix a [45]) [47]).2.1 else 1):=by
 have h1:=TF a
 have h2:hasPrefix a [45]=false→(cut (trimPrefix a [45]) [47]).1[0]? ≠some 45:=fun hm hc=>by
  have h3:=Wn hc
  rw[Bw] at hm
  have hm:=of_decide_eq_false hm
  rw[Ba,if_neg hm] at h3
  exact hm h3
 have h3:=TQ h2
 unfold frm
 generalize hasPrefix a [45]=m at*
 generalize cut (trimPrefix a [45]) [47]=c at*
 obtain⟨n,d,sl⟩:=c
 rw[h1]
 simp only at h3⊢
 rw[h3]
 have hd:dgB d=true↔(ldn d=d.length∧d≠[]∧(1<d.length→d[0]? ≠some 48)):=by
  rw[GG];exact⟨KF,JE⟩
 by_cases hc:dgB n=true∧ ¬(m=true∧n=[48])
 ·rw[if_pos hc]
  have e1:MA m n d sl=(sl&&(!dgB d||decide (d=[48])||decide (d=[49]))):=by
   unfold MA
   rw[hc.1]
   have:(m&&decide (n=[48]))=false:=by
    by_cases hm:m=true
    ·rw[hm,dF fun h=>hc.2 ⟨hm,h⟩];rfl
    ·rw[show m=false by simpa using hm];rfl
   rw[this,Bool.or_false];rfl
  rw[e1]
  simp only
  cases sl with
  |false=>rfl
  |true=>
   simp only[Bool.true_eq_false,if_false,Bool.true_and,if_true]
   by_cases hk:dgB d=true∧d≠[48]∧d≠[49]
   ·obtain⟨k1,k2,k3⟩:=hd.1 hk.1
    have e0:(!dgB d||decide (d=[48])||decide (d=[49]))=false:=by rw[hk.1,dF hk.2.1,dF hk.2.2];rfl
    rw[if_pos ⟨k1,k2,k3,hk.2⟩,e0,if_neg (show¬(false=true) by decide)]
   ·rw[if_neg fun h4=>hk ⟨hd.2 ⟨h4.1,h4.2.1,h4.2.2.1⟩,h4.2.2.2⟩,if_pos]
    by_cases k1:dgB d=true
    ·by_cases k2:d=[48]
     ·rw[dT k2];simp
     ·by_cases k3:d=[49]
      ·rw[dT k3];simp
      ·exact absurd ⟨k1,k2,k3⟩ hk
    ·rw[show dgB d=false by simpa using k1];rfl
 ·rw[if_neg hc,if_pos]
  unfold MA
  by_cases k1:dgB n=true
  ·by_cases k2:m=true
   ·by_cases k3:n=[48]
    ·rw[k2,dT k3];simp
    ·exact absurd ⟨k1,fun h=>k3 h.2⟩ hc
   ·exact absurd ⟨k1,fun h=>k2 h.1⟩ hc
  ·rw[show dgB n=false by simpa using k1];rfl
theorem KU {n:List UInt8} (h:dgB n=true):n=decDigits (AR n):=Qb.1 (GG.1 h)
theorem Pe {n:List UInt8} (h:dgB n=true) (hl:n.length≤9):AR n<1000000000:=by
 have e:=KU h
 rw[e] at hl
 exact Lp hl
theorem Dr (a:List UInt8) (ha:a.length<4611686018427387904) (W:World) (ht:AO W):
  Aj Tryz.prog 31 #[str a] W (fun _:Unit=> .int .i64 (rdR a).2) (fun _=>True) (fun _=>[]):=by
 have hfr:=VT a
 have hsv:PE a=PE a:=rfl
 have hcl:=RY (trimPrefix a [45])
 have htl:(trimPrefix a [45]).length≤a.length:=by rw[Ba];split<;>simp
 have hmiss:(cut (trimPrefix a [45]) [47]).2.2=false→(cut (trimPrefix a [45]) [47]).2.1=[]:=fun h=>by
  rcases G6 47 (trimPrefix a [45]) with h1|⟨x,y,e,h1⟩
  ·rw[EI h1]
  ·rw[e,FS y h1] at h;cases h
 conv at hsv=>rhs;unfold PE
 generalize hasPrefix a [45]=m at*
 generalize cut (trimPrefix a [45]) [47]=c at*
 obtain⟨n,d,sl⟩:=c
 simp only at hfr hsv hcl hmiss
 refine Ac (args:=[str a]) Tryz.func31 I I I ?_
 refine zA (zB (wP I (Aa (zE (zA (zB (wP I (wC I I (fun W _=>(FO a ha W).cast hsv) ?_))))))))
 iterate 9 refine wP I ?_
 refine Aa ?_
 obtain⟨P1,e1⟩: ∃b,dgB n=b:=⟨_,rfl⟩
 obtain⟨P2,e2⟩: ∃b,dgB d=b:=⟨_,rfl⟩
 obtain⟨P3,e3⟩: ∃b,decide (d=[48])=b:=⟨_,rfl⟩
 obtain⟨P4,e4⟩: ∃b,decide (d=[49])=b:=⟨_,rfl⟩
 obtain⟨P5,e5⟩: ∃b,decide (n=[48])=b:=⟨_,rfl⟩
 have hB:MA m n d sl=(!P1||(sl&&(!P2||P3||P4))||(m&&P5)):=by unfold MA;rw[e1,e2,e3,e4,e5]
 refine AH (A0 (A0 ?_))
 refine AF (X:=Unit) (fun _=>[(4,str n),(5,str d),(6, .bool sl),(41, .bool (MA m n d sl))]) (fun _=>[]) (fun _=>True) ?_ ?_
 ·refine zB (wP I (wC I I (fun W _=>(HH n (by omega) W).cast (v':= .bool P1) (by rw[e1])) (wP I (wP I ?_))))
  refine CQ 19 I (fun h19=> ?_) (fun h19=> ?_)
  ·refine An I I ?_
   iterate 13 refine An I I ?_
   refine wP I (wP I ?_)
   iterate 5 refine An I I ?_
   exact wP I (Aa (Al () tO ⟨I,I,I,congrArg (fun b=>some (Value.bool b)) (by rw[hB];simp_all),tO⟩ [] I))
  ·refine wP I (wP I ?_)
   refine CQ 21 I (fun h21=> ?_) (fun h21=> ?_)
   ·refine wP I (wC I I (fun W _=>(HH d (by omega) W).cast (v':= .bool P2) (by rw[e2])) (wP I (wP I ?_)))
    refine CQ 25 I (fun h25=> ?_) (fun h25=> ?_)
    ·refine An I I ?_
     refine An I I ?_
     refine wP I (wP I ?_)
     iterate 2 refine An I I ?_
     refine wP I (wP I (wP I (wP I ?_)))
     iterate 5 refine An I I ?_
     exact wP I (Aa (Al () tO ⟨I,I,I,congrArg (fun b=>some (Value.bool b)) (by rw[hB];simp_all),tO⟩ [] I))
    ·refine wP I (wP I (wU 27 P3 I ((Be _ _).trans e3) (wP I (wP I ?_))))
     refine CQ 29 I (fun h29=> ?_) (fun h29=> ?_)
     ·refine An I I ?_
      refine An I I ?_
      refine wP I (wP I (wP I (wP I ?_)))
      iterate 5 refine An I I ?_
      exact wP I (Aa (Al () tO ⟨I,I,I,congrArg (fun b=>some (Value.bool b)) (by rw[hB];simp_all),tO⟩ [] I))
     ·refine wP I (wP I (wU 31 P4 I ((Be _ _).trans e4) (wP I (wP I (wP I (wP I ?_))))))
      refine CQ 35 I (fun h35=> ?_) (fun h35=> ?_)
      ·refine An I I ?_
       iterate 4 refine An I I ?_
       exact wP I (Aa (Al () tO ⟨I,I,I,congrArg (fun b=>some (Value.bool b)) (by rw[hB];simp_all),tO⟩ [] I))
      ·refine wP I (wP I ?_)
       refine CQ 37 I (fun h37=> ?_) (fun h37=> ?_)
       ·exact wP I (wP I (wU 39 P5 I ((Be _ _).trans e5) (wP I (wP I (Aa (Al () tO ⟨I,I,I,congrArg (fun b=>some (Value.bool b)) (by rw[hB];simp_all),tO⟩ [] I))))))
       ·refine An I I ?_
        refine An I I ?_
        exact wP I (wP I (Aa (Al () tO ⟨I,I,I,congrArg (fun b=>some (Value.bool b)) (by rw[hB];simp_all),tO⟩ [] I)))
   ·refine An I I ?_
    iterate 10 refine An I I ?_
    iterate 5 refine wP I ?_
    refine CQ 37 I (fun h37=> ?_) (fun h37=> ?_)
    ·exact wP I (wP I (wU 39 P5 I ((Be _ _).trans e5) (wP I (wP I (Aa (Al () tO ⟨I,I,I,congrArg (fun b=>some (Value.bool b)) (by rw[hB];simp_all),tO⟩ [] I))))))
    ·refine An I I ?_
     refine An I I ?_
     exact wP I (wP I (Aa (Al () tO ⟨I,I,I,congrArg (fun b=>some (Value.bool b)) (by rw[hB];simp_all),tO⟩ [] I)))
 intro _ _
 refine Av I (fun hbad=> ?_) (fun hbad=> ?_)
 ·rw[if_pos hbad] at hfr
  exact zA (zB (wP I (Aa (zE (zO (zP (wR1 I I (by unfold rdR;rw[hfr]))))))))
 have hbad:MA m n d sl=false:=hbad
 rw[if_neg (by rw[hbad];decide)] at hfr
 have hn:dgB n=true:=by
  cases h:dgB n with
  |true=>rfl
  |false=>unfold MA at hbad;rw[h] at hbad;cases hbad
 have hdl:sl=true→dgB d=true:=fun hs=>by
  cases h:dgB d with
  |true=>rfl
  |false=>unfold MA at hbad;rw[h,hs,hn] at hbad;cases hbad
 have hna:(if m=true then -(AR n:Int) else AR n).natAbs=AR n:=by split<;>omega
 have hne:=KU hn
 have hlen1:n.length≤300↔AR n<Bp:=by
  conv=>lhs;rw[hne]
  exact G3
 have hlen2:d.length≤300↔(if sl=true then AR d else 1)<Bp:=by
  cases hs:sl with
  |true=>
   rw[if_pos rfl]
   conv=>lhs;rw[KU (hdl hs)]
   exact G3
  |false=>
   rw[hmiss hs,if_neg (by decide)]
   exact⟨fun _=>G3.1 (by rw[F7];decide),fun _=>by decide⟩
 have hcode:(rdR a).2=if AR n<Bp∧(if sl=true then AR d else 1)<Bp then(if Nat.gcd (AR n) (if sl=true then AR d else 1)=1 then 0 else 11) else 4:=by
  unfold rdR
  rw[hfr]
  simp only[hna]
  generalize (if sl=true then AR d else 1)=k
  by_cases c1:AR n<Bp∧k<Bp
  ·rw[if_pos c1,if_pos c1]
   by_cases c2:Nat.gcd (AR n) k=1
   ·rw[if_pos c2,if_pos c2]
   ·rw[if_neg c2,if_neg c2]
  ·rw[if_neg c1,if_neg c1]
 refine zI (zE (A0 (A0 ?_)))
 refine AF (X:=Unit) (fun _=>[(4,str n),(5,str d),(6, .bool sl),(49, .bool (decide (¬(n.length≤300∧d.length≤300))))]) (fun _=>[]) (fun _=>True) ?_ ?_
 ·refine zB (wP I (wP I ?_))
  refine Af 43 (.int .i64 (n.length:Nat)) I (congrArg (fun n:Nat=>Value.int .i64 (n:Int)) (A4 n)) ?_
  refine wP I ?_
  by_cases h1:n.length≤300
  ·refine wU 44 false I (dF (by omega)) (wP I (wP I (wP I ?_)))
   refine Af 47 (.int .i64 (d.length:Nat)) I (congrArg (fun n:Nat=>Value.int .i64 (n:Int)) (A4 d)) ?_
   exact wP I (wU 48 (decide (¬(n.length≤300∧d.length≤300))) I (decide_eq_decide.2 (by show((d.length:Nat):Int)>300↔_;omega)) (wP I (Aa (Al () tO ⟨I,I,I,I,tO⟩ [] I))))
  ·refine wU 44 true I (dT (by show((n.length:Nat):Int)>300;omega)) (wP I ?_)
   iterate 3 refine An I I ?_
   exact wP I (Aa (Al () tO ⟨I,I,I,by rw[dT (show¬(n.length≤300∧d.length≤300) by omega)];rfl,tO⟩ [] I))
 intro _ _
 refine Av I (fun hlong=> ?_) (fun hlong=> ?_)
 ·have hlong:=of_decide_eq_true hlong
  exact zA (zB (wP I (Aa (zE (zO (zP (wR1 I I (by rw[hcode,if_neg fun h=>hlong ⟨hlen1.2 h.1,hlen2.2 h.2⟩]))))))))
 have hlong:n.length≤300∧d.length≤300:=Decidable.byContradiction fun h=>of_decide_eq_false hlong h
 rw[if_pos ⟨hlen1.1 hlong.1,hlen2.1 hlong.2⟩] at hcode
 refine zI (zE (zA (zA (zB (wP I (wP I (Aa ?_)))))))
 cases hs:sl with
 |false=>
  have hcode:(rdR a).2=0:=by rw[hcode,hs];exact if_pos (show Nat.gcd (AR n) 1=1 from Nat.gcd_one_right _)
  exact zE (zR I (zA (zB (wP I (Aa (zE (zO (zP (wR1 I I (by rw[hcode]))))))))))
 |true=>
  have hd:=hdl hs
  have hde:=KU hd
  rw[hs,if_pos rfl] at hcode
  refine zE (zS I (zI (zE (A0 (A0 ?_)))))
  refine AF (X:=Unit) (fun _=>[(4,str n),(5,str d),(59, .bool (decide (n.length≤9∧d.length≤9)))]) (fun _=>[]) (fun _=>True) ?_ ?_
  ·refine zB (wP I (wP I ?_))
   refine Af 53 (.int .i64 (n.length:Nat)) I (congrArg (fun n:Nat=>Value.int .i64 (n:Int)) (A4 n)) ?_
   refine wP I ?_
   by_cases h1:n.length≤9
   ·refine wU 54 true I (dT (by omega)) (wP I (wP I (wP I ?_)))
    refine Af 57 (.int .i64 (d.length:Nat)) I (congrArg (fun n:Nat=>Value.int .i64 (n:Int)) (A4 d)) ?_
    exact wP I (wU 58 (decide (n.length≤9∧d.length≤9)) I (decide_eq_decide.2 (by omega)) (wP I (Aa (Al () tO ⟨I,I,I,tO⟩ [] I))))
   ·refine wU 54 false I (dF (by omega)) (wP I ?_)
    iterate 3 refine An I I ?_
    exact wP I (Aa (Al () tO ⟨I,I,by rw[dF (fun h:n.length≤9∧d.length≤9=>h1 h.1)];rfl,tO⟩ [] I))
  intro _ _
  refine Av I (fun h9=> ?_) (fun h9=> ?_)
  ·obtain⟨h9,h9'⟩:=of_decide_eq_true h9
   have l1:AR n<1000000000:=Pe hn h9
   have l2:AR d<1000000000:=Pe hd h9'
   refine zA (zA (zB (wP I (wC I I (fun W _=>Cd n (by omega) (GG.1 hn).all W) (wP I (wC I I (fun W _=>Cd d (by omega) (GG.1 hd).all W) (wC I I (fun W _=>Ke (AR n) (AR d) (by omega) (by omega) W) (wP I ?_))))))))
   by_cases hg:Nat.gcd (AR n) (AR d)=1
   ·exact wU 65 false I (by rw[bne_eq_false_iff_eq];omega) (Aa (zE (zS I (zI (zE (zA (zB (wP I (Aa (zE (zO (zP (wR1 I I (by rw[hcode,if_pos hg]))))))))))))))
   ·exact wU 65 true I (by rw[bne_iff_ne];omega) (Aa (zE (zR I (zA (zB (wP I (Aa (zE (zO (zP (zP (wR1 I I (by rw[hcode,if_neg hg])))))))))))))
  ·have e1:n=itoa ((AR n:Nat):Int):=by rw[GJ];exact hne
   have e2:d=itoa ((AR d:Nat):Int):=by rw[GJ];exact hde
   refine zI (zE (zA (zA (zB (wP I (wP I ?_))))))
   refine wC I I (fun W1 hp=>by
    have h:=Li ((AR n:Nat):Int) ((AR d:Nat):Int) (by rw[Int.natAbs_natCast, ←hne];exact hlong.1) (by rw[Int.natAbs_natCast, ←hde];exact hlong.2) W1 (ht.hp hp)
    rw[←e1, ←e2,Int.natAbs_natCast,Int.natAbs_natCast,GJ] at h
    exact h) ?_
   iterate 5 refine wP I ?_
   refine Aa (zE (zA (zB (wP I (wP I ?_)))))
   by_cases hg:Nat.gcd (AR n) (AR d)=1
   ·exact wU 73 false I (by show(!_)=false;rw[Be,hg,F7];rfl) (Aa (zE (zS I (zI (zE (zA (zB (wP I (Aa (zE (zO (wR1 I I (by rw[hcode,if_pos hg])))))))))))))
   ·refine Af 73 (.bool true) I (congrArg Value.bool (by
     show(!_)=true
     rw[Be,dF fun h=>hg (by have:=congrArg AR h;rw[BO] at this;exact this)];rfl)) ?_
    exact Aa (zE (zR I (zA (zB (wP I (Aa (zE (zO (zP (wR1 I I (by rw[hcode,if_neg hg])))))))))))
-- BOXES 1
-- CODE2
theorem DX (a b c d:Int) (ha:okN a) (hb:okN b) (hc:okN c) (hd:okN d) (hab:okN (a*b)) (hcd:okN (c*d)) (W:World) (ht:AO W):
  Aj Tryz.prog 122 #[str (itoa a),str (itoa b),str (itoa c),str (itoa d)] W (fun _:Unit=> .tuple #[str (itoa (a*b)),str (itoa (c*d)), .int .i64 0]) (fun _=>True) (fun _=>[]):=by
 refine Ac (args:=[str (itoa a),str (itoa b),str (itoa c),str (itoa d)]) Tryz.func122 I I I ?_
 refine zA (zB (wP I (wP I (wP I (Aa (zE (zA (zB (wP I (wP I (wC I I (fun W1 hp=>IH a b ha.dd hb.dd hab.dd W1 (ht.hp hp)) ?_)))))))))))
 iterate 5 refine wP I ?_
 refine Aa (zE (zA (zA (zB (wP I (wP I (Aa (zE (zS I (zI (zE (zA (zB ?_)))))))))))))
 refine wP I (wP I (wC I I (fun W1 hp=>IH c d hc.dd hd.dd hcd.dd W1 (ht.hp hp)) ?_))
 iterate 5 refine wP I ?_
 refine Aa (zE (zA (zB ?_)))
 iterate 6 refine wP I ?_
 exact Aa (zE (zO (wR3 I I I)))
-- BOXES 8
-- CODE2
theorem N1 {a:Int} {g:Nat} (hg:0<g) (h:(g:Int)∣a):(a/(g:Int)).natAbs=a.natAbs/g∧a.natAbs%g=0∧(a/(g:Int)<0↔a<0)∧a.tdiv (g:Int)=a/(g:Int)∧a.tmod (g:Int)=0:=by
 obtain⟨k,rfl⟩:=h
 have e1:(g:Int)*k/(g:Int)=k:=Int.mul_ediv_cancel_left _ (by omega)
 refine⟨?_, ?_, ?_, ?_, ?_⟩
 ·rw[e1,Int.natAbs_mul,Int.natAbs_natCast,Nat.mul_div_cancel_left _ hg]
 ·rw[Int.natAbs_mul,Int.natAbs_natCast,Nat.mul_mod_right]
 ·rw[e1]
  constructor
  ·intro h;exact Int.mul_neg_of_pos_of_neg (by omega) h
  ·intro h
   by_cases h1:k<0
   ·exact h1
   ·have:=Int.mul_nonneg (show(0:Int)≤(g:Int) by omega) (show 0≤k by omega);omega
 ·rw[e1];exact Int.mul_tdiv_cancel_left _ (by omega)
 ·exact Int.mul_tmod_right _ _
theorem Lm (a:Int) (g:Nat) (hg:0<g) (h:(g:Int)∣a) (ha:(decDigits a.natAbs).length≤300) (hgl:(decDigits g).length≤300) (W:World) (ht:AO W):
  Aj Tryz.prog 201 #[str (itoa a),str (itoa (g:Int))] W (fun _:Unit=> .tuple #[str (itoa (a/(g:Int))),str [48], .int .i64 0]) (fun _=>True) (fun _=>[]):=by
 obtain⟨q1,q2,q3,q4,q5⟩:=N1 hg h
 have la:=Ci (m:=a.natAbs) (by omega)
 have lg:=Ci (m:=g) (by omega)
 have hgn:((g:Int)).natAbs=g:=Int.natAbs_natCast g
 have hgl2:(decDigits ((g:Int)).natAbs).length≤300:=by rw[hgn];exact hgl
 have hql:(decDigits (a/(g:Int)).natAbs).length≤300:=by
  rw[q1]
  have key: ∀e,0<e→(decDigits a.natAbs).length≤e→(decDigits (a.natAbs/g)).length≤e:=fun e he h=>Dd e _ (by omega) (Nat.lt_of_le_of_lt (Nat.div_le_self ..) (Nat.lt_of_lt_of_le (CP _) (Nat.pow_le_pow_right (by decide) h)))
  exact key 300 (by decide) ha
 have hneg:decide ((g:Int)<0)=false:=dF (by omega)
 have hg48:itoa (g:Int)≠[48]:=fun e=>by
  have:=IP.1 e
  omega
 refine Ac (args:=[str (itoa a),str (itoa (g:Int))]) Tryz.func201 I I I ?_
 refine zA (zB (wP I (wP I (wP I (Aa (zE (zA (zA (zB (wP I (wP I (wC I I (fun W _=>De a (g:Int) ha hgl2 W) (wP I ?_)))))))))))))
 refine Aa (zE (zA (zB (wP I (wP I (Aa (zE (zS I (zI (zE (zA (zA (zB ?_)))))))))))))
 refine wP I (wP I (wU 28 false I ((Be _ _).trans (dF hg48)) (Aa (zE (zS I (zI (zE (zA (zA (zB ?_))))))))))
 cases hs:smI a&&smI (g:Int) with
 |true=>
  obtain⟨h1,h2⟩:=Bool.and_eq_true_iff.1 hs
  have b1:=H5 h1
  have b2:=H5 h2
  have b3:(a/(g:Int)).natAbs≤a.natAbs:=by rw[q1];exact Nat.div_le_self ..
  refine wP I (wP I (wC I I (fun W _=>GB hs W) ?_))
  iterate 7 refine wP I ?_
  refine Aa (zE (zA (zB (wP I (Aa (zE (zR I (zA (zU (qP I (qP I ?_)))))))))))
  refine IN I I I I I (by omega) ?_
  refine qV 39 (a/(g:Int)) I (by rw[q4];exact Ap (by omega) (by omega)) (qP I (qP I ?_))
  refine Ez I I I I I (by omega) ?_
  refine qV 42 0 I q5 (qP I (qP I (AU (Aa (zE (zA (zA (zB (wP I (wP I ?_))))))))))
  refine Af 44 (.bool false) I I ?_
  refine wP I ?_
  iterate 5 refine An I I ?_
  refine wP I (Aa (zE (zS I (zI (zE (zA (zB (wP I (wC I I (fun W hp=>Bv (a/(g:Int)) (by omega) (by omega) W (ht.hp hp)) (wP I (wC I I (fun W hp=>(Bv 0 (by decide) (by decide) W (ht.hp hp)).cast (v':=str [48]) (by rw[Ce])) (wP I (wP I (wP I ?_))))))))))))))
  exact Aa (zE (zO (zP (wR3 I I I))))
 |false=>
  obtain⟨x0,y0,h2⟩:=GD hs ha hgl2
  refine wP I (wP I (wC I I (fun W _=>h2 W) ?_))
  iterate 7 refine wP I ?_
  refine Aa (zE (zA (zB (wP I (Aa (zE (zS I (zI (zE (zA (zB (wP I ?_))))))))))))
  refine wD (X:=NV) I I (fun W' _=>Bf a (by omega) W') ?_
  intro x hx
  refine wP I ?_
  refine wD (X:=NV) I I (fun W' _=>Bf (g:Int) (by omega) W') ?_
  intro y hy
  refine Af 64 (.agg #[.bool false,B0 y (lbs br g).length]) I (by unfold Vt;rw[hneg,hgn]) ?_
  rw[hgn] at hy⊢
  (refine Ag Tryz.hZ rfl rfl rfl rfl ?_;intro)
  (refine Ag Tryz.hZ rfl rfl rfl rfl ?_;intro)
  refine wS 2 I I I (wS 3 I I I (Aa ?_))
  rename_i b13 b14
  refine zE (zA (zB (wP I (wB 2 I I I (wP I (wB 3 I I I ?_))))))
  refine wD (X:=NV×NV) I I (fun W' hp=>Iw W' (some ⟨x.1,0,none⟩) (some ⟨y.1,0,none⟩) x.2.1 y.2.1 a.natAbs g hg (Ax.of_bx hp 0 I) (Ax.of_bx hp 1 I) (by omega) (by omega)) ?_
  rintro⟨q,w⟩ ⟨hq,hw⟩
  have e0:lbs br (a.natAbs%g)=[]:=by rw[q2];exact Bc
  have hq:Cl q (lbs br (a.natAbs/g)):=hq
  simp only[e0]
  iterate 5 refine wP I ?_
  refine Aa (AH ?_)
  try refine A0 ?_
  refine AF (X:=Nat×Nat) (fun s=>[(13,Ai b13),(14,Ai b14),(15,B0 q (lbs br (a.natAbs/g)).length),(16,B0 w 0),(17,Ai s.1),(18,Ai s.2)]) (fun s=>[BF q (lbs br (a.natAbs/g)),BF w [],⟨s.1,153,[.bool (decide (a/(g:Int)<0)),B0 q (lbs br (a.natAbs/g)).length],true,none⟩,⟨s.2,153,[.bool false,B0 w 0],true,none⟩]) (fun _=>True) ?_ ?_
  ·by_cases hn:a<0
   ·have hqn:a/(g:Int)<0:=q3.2 hn
    have hqL:0<(lbs br (a.natAbs/g)).length:=List.length_pos_iff.2 fun e=>by have:=(Dt br2).1 e;omega
    have e1:decide (a<0)=true:=dT hn
    have e2:decide (a/(g:Int)<0)=true:=dT hqn
    simp only[e2]
    refine zB (wP I (wB 2 I I I (wU 74 true I e1 (wP I (wB 3 I I I ?_)))))
    refine Hq Tryz.underlying4 I I I I I I ?_
    refine wP I (wP I (wP I (wP I (wU 81 true I (dT (by omega)) (wP I (wP I ?_))))))
    refine Ay Tryz.hZ tH I I I I I I I I ?_
    refine wP I (wB 2 I I I (wU 86 true I e1 (wP I (wP I (wP I (wP I ?_))))))
    refine Af 90 (.bool false) I I ?_
    refine wP I (wP I ?_)
    refine Ay Tryz.hZ tH I I I I I I I I ?_
    (refine Ag Tryz.hZ rfl rfl rfl rfl ?_;intro)
    (refine Ag Tryz.hZ rfl rfl rfl rfl ?_;intro)
    refine wS 6 I I I (wS 7 I I I (Aa ?_))
    rename_i b17 b18
    exact Se (b17,b18) tO ⟨I,I,I,I,I,I,tO⟩ [4,5,6,7] (by decide) I
   ·have hqn: ¬a/(g:Int)<0:=fun h=>hn (q3.1 h)
    have e1:decide (a<0)=false:=dF hn
    have e2:decide (a/(g:Int)<0)=false:=dF hqn
    simp only[e2]
    refine zB (wP I (wB 2 I I I (wU 74 false I e1 (wP I (wB 3 I I I ?_)))))
    refine Hq Tryz.underlying4 I I I I I I ?_
    refine wP I ?_
    iterate 3 refine An I I ?_
    refine wP I (wP I ?_)
    refine Ay Tryz.hZ tH I I I I I I I I ?_
    refine wP I (wB 2 I I I (wU 86 false I e1 (wP I ?_)))
    iterate 3 refine An I I ?_
    refine wP I (wP I ?_)
    refine Ay Tryz.hZ tH I I I I I I I I ?_
    (refine Ag Tryz.hZ rfl rfl rfl rfl ?_;intro)
    (refine Ag Tryz.hZ rfl rfl rfl rfl ?_;intro)
    refine wS 6 I I I (wS 7 I I I (Aa ?_))
    rename_i b17 b18
    exact Se (b17,b18) tO ⟨I,I,I,I,I,I,tO⟩ [4,5,6,7] (by decide) I
  rintro⟨b17,b18⟩ _
  refine zA (zA (zB (wP I (wP I (wP I ?_)))))
  refine Af 96 (.bool false) I I ?_
  refine wP I ?_
  iterate 5 refine An I I ?_
  refine wP I (Aa (zE (zS I (zI (zE (zA (zB (wB 2 I I I ?_))))))))
  refine wC I I (fun W' hp=>by
   have h:=E8 (a/(g:Int)) hql W' (some ⟨q.1,0,none⟩) q.2.1
   rw[q1] at h
   exact h (Ax.of_bx hp 0 I)) ?_
  iterate 5 refine wP I ?_
  refine Aa (zE (zA (zA (zB (wP I (wP I (Aa (zE (zS I (zI (zE (zA (zB ?_)))))))))))))
  refine wP I (wB 3 I I I ?_)
  refine wC I I (fun W' hp=>by
   have h:=Fa 0 (by decide+kernel) W' (some ⟨w.1,0,none⟩) w.2.1 (.inl Bc)
   rw[Ce,show(0:Int).natAbs=0 from rfl,Bc] at h
   exact h) ?_
  exact wP I (wP I (wP I (Aa (zE (zO (wR3 I I I))))))
-- BOXES 1
-- CODE2
theorem QF {n m k:Nat} (h:n≤m) (hk:0<k) (hm:(decDigits m).length≤k):(decDigits n).length≤k:=
 Dd k n (by omega) (Nat.lt_of_le_of_lt h (Nat.lt_of_lt_of_le (CP m) (Nat.pow_le_pow_right (by decide) hm)))
theorem HU {z:Int} (h:z<0):itoa z=45::itoa (-z):=by
 unfold itoa
 rw[if_pos h,if_neg (by omega),show(-z).toNat=z.natAbs by omega]
theorem KG {z:Int} (h: ¬z<0):itoa z=decDigits z.natAbs:=by rw[BL];unfold Gu;rw[if_neg h];rfl
theorem RZ {z:Int} (h:(itoa z).length≤18):z.natAbs<1000000000000000000:=by
 rw[BL,List.length_append] at h
 exact Nat.lt_of_lt_of_le (CP _) (show _≤10^18 from Nat.pow_le_pow_right (by decide) (by omega))
theorem Kn (z d:Int) (hd:d≠0) (hz:okN z) (hdk:okN d) (W:World) (ht:AO W):
  Aj Tryz.prog 150 #[str (itoa z),str (itoa d)] W (fun _:Unit=> .tuple #[str (Ad (nrm z d)), .int .i64 0]) (fun _=>True) (fun _=>[]):=by
 have lz:=Fz hz.dd
 have ld:=Fz hdk.dd
 obtain⟨c0,hc0,hc45⟩:=EN d
 obtain⟨u,hu⟩: ∃u,u=if d<0 then -z else z:=⟨_,rfl⟩
 obtain⟨e,he⟩: ∃e,e=d.natAbs:=⟨_,rfl⟩
 have he0:0<e:=by omega
 have hnr:nrm z d=mkRat u e:=by unfold nrm;rw[hu,he]
 have hua:u.natAbs=z.natAbs:=by rw[hu];split<;>omega
 have huk:okN u:=by unfold okN;rw[hua];exact hz
 have hek:okN (e:Int):=by unfold okN;rw[Int.natAbs_natCast,he];exact hdk
 have hel:(decDigits e).length≤300:=by have:=hek.dd;rwa [Int.natAbs_natCast] at this
 have hie:itoa (e:Int)=decDigits e:=GJ e
 rw[hnr]
 refine Ac (args:=[str (itoa z),str (itoa d)]) Tryz.func150 I I I ?_
 refine zA (zB (wP I (wP I (Aa (zE (zA (zA (zB (wP I ?_)))))))))
 refine AZ 0 tH I I I I I I I I hc0 ?_
 refine wP I (wU 11 (decide (d<0)) I ((Du c0 45).trans hc45) (Aa (AH ?_)))
 try refine A0 ?_
 refine AF (X:=Unit) (fun _=>[(0,str (itoa u)),(1,str (itoa (e:Int)))]) (fun _=>[]) (fun _=>True) ?_ ?_
 ·refine Av I (fun h=> ?_) (fun h=> ?_)
  ·have h:d<0:=of_decide_eq_true h
   have ed:itoa d=45::itoa (e:Int):=by rw[HU h,show -d=(e:Int) by omega]
   have eu:u= -z:=by rw[hu,if_pos h]
   obtain⟨c1,hc1,hc2⟩:=EN z
   refine zA (zB (wP I ?_))
   refine EY 1 tH I I I I I I I I (by rw[ed,List.length_cons];omega) ?_
   refine Af 13 (str (itoa (e:Int))) I (by rw[ed];rfl) ?_
   refine wP I (Aa (zE (zA (zB (wP I ?_)))))
   refine AZ 0 tH I I I I I I I I hc1 ?_
   refine wP I (wU 16 (decide (z<0)) I ((Du c1 45).trans hc2) (Aa (zE ?_)))
   refine Av I (fun hzn=> ?_) (fun hzn=> ?_)
   ·have hzn:z<0:=of_decide_eq_true hzn
    refine zB (wP I ?_)
    refine EY 1 tH I I I I I I I I (by rw[HU hzn,List.length_cons];omega) ?_
    exact wP I (Aa (Al () tO ⟨by rw[HU hzn,eu];rfl,I,tO⟩ [] I))
   ·have hzn: ¬z<0:=of_decide_eq_false hzn
    refine zA (zB (wP I (wP I ?_)))
    by_cases hz0:z=0
    ·exact wU 20 false I (by show(!_)=false;rw[Be,hz0,Ce];rfl) (Aa (zE (zS I (zI (Al () tO ⟨by rw[eu,hz0];rfl,I,tO⟩ [] I)))))
    ·refine wU 20 true I (by show(!_)=true;rw[Be,dF fun h=>hz0 (IP.1 h)];rfl) (Aa (zE (zR I (zB (wP I ?_)))))
     refine BV I I I I I (a:=[45]) (b:=itoa z) (by decide) (by omega) ?_
     exact wP I (Aa (Al () tO ⟨by rw[eu,HU (show -z<0 by omega),Int.neg_neg];rfl,I,tO⟩ [] I))
  ·have h: ¬d<0:=of_decide_eq_false h
   exact zI (Al () tO ⟨by rw[hu,if_neg h];rfl,by rw[show(e:Int)=d by omega];rfl,tO⟩ [] I)
 intro _ _
 have lu:=Fz huk.dd
 have le:=Fz hek.dd
 obtain⟨c1,hc1,hc2⟩:=EN u
 refine A0 (A0 ?_)
 refine AF (X:=Unit) (fun _=>[(0,str (itoa u)),(1,str (itoa (e:Int))),(30, .bool (decide ((itoa u).length≤18∧(itoa (e:Int)).length≤18)))]) (fun _=>[]) (fun _=>True) ?_ ?_
 ·refine zB (wP I (wP I ?_))
  refine Af 24 (.int .i64 ((itoa u).length:Nat)) I (congrArg (fun n:Nat=>Value.int .i64 (n:Int)) (A4 _)) ?_
  refine wP I ?_
  by_cases h1:(itoa u).length≤18
  ·refine wU 25 true I (dT (by omega)) (wP I (wP I (wP I ?_)))
   refine Af 28 (.int .i64 ((itoa (e:Int)).length:Nat)) I (congrArg (fun n:Nat=>Value.int .i64 (n:Int)) (A4 _)) ?_
   exact wP I (wU 29 (decide ((itoa u).length≤18∧(itoa (e:Int)).length≤18)) I (decide_eq_decide.2 (by omega)) (wP I (Aa (Al () tO ⟨I,I,I,tO⟩ [] I))))
  ·refine wU 25 false I (dF (by omega)) (wP I ?_)
   iterate 3 refine An I I ?_
   exact wP I (Aa (Al () tO ⟨I,I,by rw[dF (fun h:(itoa u).length≤18∧(itoa (e:Int)).length≤18=>h1 h.1)];rfl,tO⟩ [] I))
 intro _ _
 refine Av I (fun h18=> ?_) (fun h18=> ?_)
 ·obtain⟨h1,h2⟩:=of_decide_eq_true h18
  have u18:=RZ h1
  have e18:=RZ h2
  rw[Int.natAbs_natCast] at e18
  rw[hie] at h2
  refine zA (zA (zB (wP I ?_)))
  refine AZ 0 tH I I I I I I I I hc1 ?_
  refine wP I (wU 33 (decide (u<0)) I ((Du c1 45).trans hc2) (Aa (zE ?_)))
  refine Av I (fun hn=> ?_) (fun hn=> ?_)
  ·have hn:u<0:=of_decide_eq_true hn
   have eu:itoa u=45::decDigits u.natAbs:=by rw[HU hn,KG (by omega),Int.natAbs_neg]
   have hdl:(decDigits u.natAbs).length≤18:=by rw[eu,List.length_cons] at h1;omega
   refine zA (zB (wP I ?_))
   refine EY 1 tH I I I I I I I I (by rw[eu,List.length_cons];omega) ?_
   refine Af 35 (str (decDigits u.natAbs)) I (by rw[eu];rfl) ?_
   refine wC I I (fun W _=>(Cd (decDigits u.natAbs) hdl (ET _).all W).cast (v':= .int .i64 (u.natAbs:Nat)) (by rw[BO])) (wP I (wV 37 u I (by show w64 (0-((u.natAbs:Nat):Int))=_;rw[Ap (by omega) (by omega)];omega) (wP I ?_)))
   refine Af 38 (str (decDigits e)) I (by rw[hie]) ?_
   exact wC I I (fun W _=>(Cd (decDigits e) h2 (ET _).all W).cast (v':= .int .i64 (e:Nat)) (by rw[BO])) (wC I I (fun W _=>Fl u e (by omega) he0 (by omega) W) (wP I (wP I (Aa (zE (zO (zP (zP (wR2 I I I)))))))))
  ·have hn: ¬u<0:=of_decide_eq_false hn
   have eu:itoa u=decDigits u.natAbs:=KG hn
   rw[eu] at h1
   refine zI (zE (zA (zB (wP I ?_))))
   refine Af 41 (str (decDigits u.natAbs)) I (by rw[eu]) ?_
   refine wC I I (fun W _=>(Cd (decDigits u.natAbs) h1 (ET _).all W).cast (v':= .int .i64 u) (by rw[BO];exact congrArg (Value.int .i64) (by omega))) (wP I ?_)
   refine Af 43 (str (decDigits e)) I (by rw[hie]) ?_
   exact wC I I (fun W _=>(Cd (decDigits e) h2 (ET _).all W).cast (v':= .int .i64 (e:Nat)) (by rw[BO])) (wC I I (fun W _=>Fl u e (by omega) he0 (by omega) W) (wP I (wP I (Aa (zE (zO (zP (wR2 I I I))))))))
 obtain⟨g,hg⟩: ∃g,Nat.gcd u.natAbs e=g:=⟨_,rfl⟩
 have hg0:0<g:=by rw[←hg];exact Nat.gcd_pos_of_pos_right _ he0
 have hgu:(g:Int)∣u:=Int.natAbs_dvd_natAbs.1 (by rw[Int.natAbs_natCast, ←hg];exact Nat.gcd_dvd_left ..)
 have hge:g∣e:=by rw[←hg];exact Nat.gcd_dvd_right ..
 have hgle:g≤e:=Nat.le_of_dvd he0 hge
 have hgl:(decDigits g).length≤300:=QF hgle (by decide) hel
 obtain⟨x,hx⟩: ∃x,x=u/(g:Int):=⟨_,rfl⟩
 have hxe:=N1 hg0 hgu
 have hxl:(decDigits x.natAbs).length≤300:=by
  rw[hx,hxe.1]
  exact QF (Nat.div_le_self ..) (by decide) huk.dd
 obtain⟨y,hy⟩: ∃y,y=e/g:=⟨_,rfl⟩
 have hyl:(decDigits y).length≤300:=by
  rw[hy]
  exact QF (Nat.div_le_self ..) (by decide) hel
 have hyI:(e:Int)/(g:Int)=(y:Int):=by rw[hy];exact(Int.natCast_ediv _ _).symm
 have hnum:Ad (mkRat u e)=if y=1 then itoa x else itoa x++[47]++decDigits y:=by
  by_cases h1:y=1
  ·rw[if_pos h1,Jy (by omega) (by rw[hg, ←hy];exact h1),hg, ←hx]
  ·rw[if_neg h1,Jd (by omega) (by rw[hg, ←hy];exact h1),hg, ←hx, ←hy,GJ]
 have lx:=Fz hxl
 obtain⟨c3,hc3,hc4⟩:=EN x
 refine zI (zE (zA (zB (wP I (wP I (wC I I (fun W1 hp=>(Li u (e:Int) huk.dd hek.dd W1 (ht.hp hp)).cast (v':= .tuple #[str (itoa (g:Int)), .int .i64 0]) (by rw[Int.natAbs_natCast,hg])) ?_))))))
 iterate 5 refine wP I ?_
 refine Aa (zE (zA (zA (zB (wP I (wP I (Aa (zE (zS I (zI (zE (zA (zB ?_)))))))))))))
 refine wP I (wP I (wC I I (fun W1 hp=>(Lm u g hg0 hgu huk.dd hgl W1 (ht.hp hp)).cast (v':= .tuple #[str (itoa x),str [48], .int .i64 0]) (by rw[hx])) ?_))
 iterate 6 refine wP I ?_
 refine Aa (zE (zA (zA (zB (wP I (wP I (Aa (zE (zS I (zI (zE (zA (zB ?_)))))))))))))
 refine wP I (wP I (wC I I (fun W1 hp=>(Lm (e:Int) g hg0 (Int.natCast_dvd_natCast.2 hge) hek.dd hgl W1 (ht.hp hp)).cast (v':= .tuple #[str (decDigits y),str [48], .int .i64 0]) (by rw[hyI,GJ])) ?_))
 iterate 6 refine wP I ?_
 refine Aa (zE (zA (zA (zB (wP I (wP I (Aa (zE (zS I (zI (zE (zA (zB ?_)))))))))))))
 refine wP I (wP I (Aa (zE (zA (zA (zB (wP I ?_)))))))
 refine AZ 0 tH I I I I I I I I hc3 ?_
 refine wP I (wU 78 (decide (x<0)) I ((Du c3 45).trans hc4) (Aa (AH ?_)))
 try refine A0 ?_
 refine AF (X:=Unit) (fun _=>[(0,str (itoa x)),(1,str (decDigits y)),(8,str (decDigits x.natAbs))]) (fun _=>[]) (fun _=>True) ?_ ?_
 ·refine Av I (fun hn=> ?_) (fun hn=> ?_)
  ·have hn:x<0:=of_decide_eq_true hn
   have ex:itoa x=45::decDigits x.natAbs:=by rw[HU hn,KG (by omega),Int.natAbs_neg]
   refine zB (wP I ?_)
   refine EY 1 tH I I I I I I I I (by rw[ex,List.length_cons];omega) ?_
   refine Af 80 (str (decDigits x.natAbs)) I (by rw[ex];rfl) ?_
   exact wP I (Aa (Al () tO ⟨I,I,I,tO⟩ [] I))
  ·have hn: ¬x<0:=of_decide_eq_false hn
   exact zI (Al () tO ⟨I,I,by rw[←KG hn];rfl,tO⟩ [] I)
 intro _ _
 refine zA (zA (zB (wP I (wP I ?_))))
 refine Af 82 (.int .i64 ((decDigits x.natAbs).length:Nat)) I (congrArg (fun n:Nat=>Value.int .i64 (n:Int)) (A4 _)) ?_
 refine wP I (wU 83 false I (dF (by omega)) (wP I (wP I (wP I ?_))))
 refine Af 86 (.int .i64 ((decDigits y).length:Nat)) I (congrArg (fun n:Nat=>Value.int .i64 (n:Int)) (A4 _)) ?_
 refine wP I (wU 87 false I (dF (by omega)) (wP I (Aa (zE (zS I (zI (zE (zA (zA (zB (wP I (wP I ?_))))))))))))
 by_cases h1:y=1
 ·exact wU 90 true I (by rw[Be,h1,F7];rfl) (Aa (zE (zR I (zA (zB (wP I (wP I (wP I (Aa (zE (zO (zP (wR2 I I (by rw[hnum,if_pos h1]))))))))))))))
 ·refine wU 90 false I (by rw[Be];exact dF fun h=>h1 (by have:=congrArg AR h;rw[BO] at this;exact this)) (Aa (zE (zS I (zI (zE (zA (zB (wP I ?_))))))))
  refine BV I I I I I (a:=itoa x) (b:=[47]) (by omega) (by decide) ?_
  refine wP I ?_
  refine BV I I I I I (by rw[List.length_append];show _+1≤_;omega) (by omega) ?_
  exact wP I (wP I (Aa (zE (zO (wR2 I I (by rw[hnum,if_neg h1]))))))
theorem QW (n d m c:Int) (hn:okN n) (hd:okN d) (hm:okN m) (hc:okN c) (hnm:okN (n*m)) (hdc:okN (d*c)) (h0:d*c≠0) (W:World) (ht:AO W):
  Aj Tryz.prog 180 #[str (itoa n),str (itoa d),str (itoa m),str (itoa c)] W (fun _:Unit=> .tuple #[str (Ad (nrm (n*m) (d*c))), .int .i64 0]) (fun _=>True) (fun _=>[]):=by
 refine Ac (args:=[str (itoa n),str (itoa d),str (itoa m),str (itoa c)]) Tryz.func180 I I I ?_
 refine zA (zB (wP I (wP I (Aa (zE (zA (zB (wP I (wP I (wP I (wP I (wC I I (fun W1 hp=>DX n m d c hn hm hd hc hnm hdc W1 (ht.hp hp)) ?_))))))))))))
 iterate 7 refine wP I ?_
 refine Aa (zE (zA (zA (zB (wP I (wP I (Aa (zE (zS I (zI (zE (zA (zB ?_)))))))))))))
 exact wP I (wP I (wC I I (fun W1 hp=>Kn (n*m) (d*c) h0 hnm hdc W1 (ht.hp hp)) (wP I (wP I (wP I (wP I (Aa (zE (zO (wR2 I I I))))))))))
-- BOXES 1
-- CODE2
theorem Ii {q:Rat} (h:okQ q):(Ad q).length≤1000:=by
 have:=Bk h
 omega
theorem MR {q:Rat} (h:okQ q) (W:World) (ht:AO W):Aj Tryz.prog 31 #[str (Ad q)] W (fun _:Unit=> .int .i64 0) (fun _=>True) (fun _=>[]):=
 (Dr (Ad q) (by have:=Ii h;omega) W ht).cast (by rw[JT h])
theorem CI {p q:Rat} (hp':okQ p) (hq:okQ q) (W:World) (ht:AO W):Aj Tryz.prog 100 #[str (Ad p),str (Ad q)] W (fun _:Unit=> .int .i64 0) (fun _=>True) (fun _=>[]):=by
 refine Ac (args:=[str (Ad p),str (Ad q)]) Tryz.func100 I I I ?_
 refine zA (zB (wP I (Aa (zE (zA (zA (zB (wP I (wC I I (fun W1 hp=>MR hp' W1 (ht.hp hp)) (wP I (Aa (zE (zA ?_)))))))))))))
 refine zB (wP I (wP I (Aa (zE (zS I (zI (zE (zA (zB (wP I (wC I I (fun W1 hp=>MR hq W1 (ht.hp hp)) (wP I (Aa ?_)))))))))))))
 exact zE (zO (wR1 I I I))
def iN (q:Rat):Int:=if ES q=true then q.num else 0
def iD (q:Rat):Int:=if ES q=true then((q.den:Nat):Int) else 0
theorem BI {q:Rat} (h:okQ q):By Tryz.prog 120 [str (Ad q)] (.tuple #[.int .i64 (iN q), .int .i64 (iD q), .bool (ES q)]):=fun W=>
 (RC q (by have:=Ii h;omega) W).cast (by
  unfold iN iD
  cases ES q<;>rfl)
theorem Mz {x y:Int} (hx:x.natAbs<1000000000) (hy:y.natAbs<1000000000):(x*y).natAbs<1000000000000000000:=by
 rw[Int.natAbs_mul]
 have:=Nat.mul_lt_mul'' hx hy
 omega
theorem DU {x y:Int} (hx:x.natAbs<1000000000) (hy:y.natAbs<1000000000):w64 (x*y)=x*y:=by
 have:=Mz hx hy
 exact Ap (by omega) (by omega)
theorem Gn {n:Nat} (h:n<1000000000):((n:Nat):Int).natAbs<1000000000:=by rw[Int.natAbs_natCast];exact h
def sh2 (p q:Rat):Bool:=ES p&&ES q
theorem Gw {p q:Rat} (h:sh2 p q=true):iN p=p.num∧iD p=(p.den:Nat)∧iN q=q.num∧iD q=(q.den:Nat)∧p.num.natAbs<1000000000∧p.den<1000000000∧q.num.natAbs<1000000000∧q.den<1000000000:=by
 obtain⟨h1,h2⟩:=Bool.and_eq_true_iff.1 h
 obtain⟨a1,a2⟩:=JP h1
 obtain⟨b1,b2⟩:=JP h2
 exact⟨if_pos h1,if_pos h1,if_pos h2,if_pos h2,a1,a2,b1,b2⟩
theorem Sh (z:Int) {d:Nat} (hd:0<d):nrm z (d:Int)=mkRat z d:=by
 unfold nrm
 rw[if_neg (by omega),Int.natAbs_natCast]
theorem B4 {q:Rat} (h:okQ q):By Tryz.prog 121 [str (Ad q)] (.tuple #[str (itoa q.num),str (itoa ((q.den:Nat):Int))]):=fun W=>
 (Pc q (Ii h) W).cast (by rw[GJ])
theorem GZ (p q:Rat) (h:Sz2 p q) (W:World) (ht:AO W):
  Aj Tryz.prog 56 #[str (Ad p),str (Ad q)] W (fun _:Unit=> .tuple #[.int .i64 (Dv p q), .int .i64 0]) (fun _=>True) (fun _=>[]):=by
 have hpn:=p.den_pos
 have hqn:=q.den_pos
 rw[←NR]
 obtain⟨x,hx⟩: ∃x,p.num*((q.den:Nat):Int)=x:=⟨_,rfl⟩
 obtain⟨y,hy⟩: ∃y,q.num*((p.den:Nat):Int)=y:=⟨_,rfl⟩
 rw[hx,hy]
 refine Ac (args:=[str (Ad p),str (Ad q)]) Tryz.func56 I I I ?_
 refine zA (zB (wP I (wP I (Aa (zE (zA (zA (zB (wP I (wP I (wC I I (fun W1 hp=>CI h.okp h.okq W1 (ht.hp hp)) (wP I (Aa ?_)))))))))))))
 refine zE (zA (zB (wP I (wP I (Aa (zE (zS I (zI (zE (zA (zB (wP I (wC I I (fun W _=>BI h.okp W) ?_)))))))))))))
 iterate 7 refine wP I ?_
 refine Aa (zE (zA (zB (wP I (wC I I (fun W _=>BI h.okq W) ?_)))))
 iterate 7 refine wP I ?_
 refine Aa (AH (A0 (A0 ?_)))
 refine AF (X:=Unit) (fun _=>[(0,str (Ad p)),(1,str (Ad q)),(7, .int .i64 (iN p)),(8, .int .i64 (iD p)),(10, .int .i64 (iN q)),(11, .int .i64 (iD q)),(41, .bool (sh2 p q))]) (fun _=>[]) (fun _=>True) ?_ ?_
 ·refine zB (wP I (wP I ?_))
  refine CQ 39 I (fun h39=> ?_) (fun h39=> ?_)
  ·exact wP I (wP I (Aa (Al () tO ⟨I,I,I,I,I,I,congrArg (fun b=>some (Value.bool b)) (by unfold sh2;simp_all),tO⟩ [] I)))
  ·refine An I I ?_
   exact wP I (Aa (Al () tO ⟨I,I,I,I,I,I,congrArg (fun b=>some (Value.bool b)) (by unfold sh2;simp_all),tO⟩ [] I))
 intro _ _
 refine Av I (fun hs=> ?_) (fun hs=> ?_)
 ·obtain⟨e1,e2,e3,e4,l1,l2,l3,l4⟩:=Gw hs
  have w1:w64 (iN p*iD q)=x:=by rw[e1,e4, ←hx];exact DU l1 (Gn l4)
  have w2:w64 (iN q*iD p)=y:=by rw[e3,e2, ←hy];exact DU l3 (Gn l2)
  refine zA (zH (zA (zB (wP I (wP I (wP I (wV 45 x I w1 (wP I (wP I (wP I (wV 48 y I w2 (wP I ?_))))))))))))
  by_cases h1:x<y
  ·exact wU 49 true I (dT h1) (wP I (Aa (zE (zR I (zA (zB (wP I (wP I (Aa (zE (zO (zQ (zP (zP (wR2 I I (by rw[Fg,if_pos h1]))))))))))))))))
  refine wU 49 false I (dF h1) (wP I (Aa (zE (zS I (zA (zB (wP I (wP I (wP I (wV 53 x I w1 (wP I (wP I (wP I ?_)))))))))))))
  refine wV 56 y I w2 (wP I ?_)
  by_cases h2:y<x
  ·exact wU 57 true I (dT h2) (wP I (Aa (zE (zR I (zA (zB (wP I (wP I (Aa (zE (zO (zQ (zP (zP (wR2 I I (by rw[Fg,if_neg h1,if_neg (by omega)]))))))))))))))))
  refine wU 57 false I (dF h2) (wP I (Aa (zE (zS I (zI (zN (zE (zA (zB (wP I (wP I (Aa (zE ?_)))))))))))))
  exact zO (zP (wR2 I I (by rw[Fg,if_neg h1,if_pos (by omega)])))
 ·refine zI (zE (zA (zB (wP I (wC I I (fun W _=>B4 h.okp W) ?_)))))
  iterate 5 refine wP I ?_
  refine Aa (zE (zA (zB (wP I (wC I I (fun W _=>B4 h.okq W) ?_)))))
  iterate 5 refine wP I ?_
  refine Aa (zE (zA (zB (wP I (wP I (wP I (wP I (wC I I (fun W1 hp=>(DX p.num (q.den:Nat) q.num (p.den:Nat) h.okp.1 h.okq.2 h.okq.1 h.okp.2 h.c1 h.c2 W1 (ht.hp hp)).cast (v':= .tuple #[str (itoa x),str (itoa y), .int .i64 0]) (by rw[hx,hy])) ?_))))))))
  iterate 7 refine wP I ?_
  refine Aa (zE (zA (zA (zB (wP I (wP I (Aa (zE (zS I (zI (zE (zA (zB ?_)))))))))))))
  exact wP I (wP I (wC I I (fun W1 hp=>LG x y (by rw[←hx];exact h.c1.dd) (by rw[←hy];exact h.c2.dd) W1) (wP I (wP I (wP I (wP I (Aa (zE (zO (wR2 I I I))))))))))
-- BOXES 1
-- CODE2
theorem E6 (a b c d:Int) (ha:okN a) (hb:okN b) (hab: ¬okN (a*b)) (W:World) (ht:AO W):
  Aj Tryz.prog 122 #[str (itoa a),str (itoa b),str (itoa c),str (itoa d)] W (fun _:Unit=> .tuple #[str [],str [], .int .i64 4]) (fun _=>True) (fun _=>[]):=by
 refine Ac (args:=[str (itoa a),str (itoa b),str (itoa c),str (itoa d)]) Tryz.func122 I I I ?_
 refine zA (zB (wP I (wP I (wP I (Aa (zE (zA (zB (wP I (wP I (wC I I (fun W1 hp=>(Lx a b ha.dd hb.dd W1 (ht.hp hp)).cast (E4 hab)) ?_)))))))))))
 iterate 5 refine wP I ?_
 refine Aa (zE (zA (zA (zB (wP I (wP I (Aa (zE (zR I (zA (zB (wP I (wP I (wP I (wP I ?_)))))))))))))))
 exact Aa (zE (zO (zP (wR3 I I I))))
theorem FV (a b c d:Int) (ha:okN a) (hb:okN b) (hc:okN c) (hd:okN d) (hab:okN (a*b)) (hcd: ¬okN (c*d)) (W:World) (ht:AO W):
  Aj Tryz.prog 122 #[str (itoa a),str (itoa b),str (itoa c),str (itoa d)] W (fun _:Unit=> .tuple #[str (itoa (a*b)),str [], .int .i64 4]) (fun _=>True) (fun _=>[]):=by
 refine Ac (args:=[str (itoa a),str (itoa b),str (itoa c),str (itoa d)]) Tryz.func122 I I I ?_
 refine zA (zB (wP I (wP I (wP I (Aa (zE (zA (zB (wP I (wP I (wC I I (fun W1 hp=>IH a b ha.dd hb.dd hab.dd W1 (ht.hp hp)) ?_)))))))))))
 iterate 5 refine wP I ?_
 refine Aa (zE (zA (zA (zB (wP I (wP I (Aa (zE (zS I (zI (zE (zA (zB ?_)))))))))))))
 refine wP I (wP I (wC I I (fun W1 hp=>(Lx c d hc.dd hd.dd W1 (ht.hp hp)).cast (E4 hcd)) ?_))
 iterate 5 refine wP I ?_
 refine Aa (zE (zA (zB ?_)))
 iterate 6 refine wP I ?_
 exact Aa (zE (zO (wR3 I I I)))
def opV (ok:Prop) [Decidable ok] (r:Rat):Value:=if ok then .tuple #[str (Ad r), .int .i64 0] else .tuple #[str [], .int .i64 4]
theorem HJ {ok:Prop} [Decidable ok] {r:Rat} (h:ok):opV ok r= .tuple #[str (Ad r), .int .i64 0]:=if_pos h
theorem H3 {ok:Prop} [Decidable ok] {r:Rat} (h: ¬ok):opV ok r= .tuple #[str [], .int .i64 4]:=if_neg h
instance (z:Int):Decidable (okN z):=inferInstanceAs (Decidable (z.natAbs<Bp))
def Ei (p q:Rat):Prop:=okN (p.num*(q.den:Nat))∧okN (q.num*(p.den:Nat))∧okN ((p.den:Nat)*(q.den:Nat))∧okN (p.num*(q.den:Nat)+q.num*(p.den:Nat))
instance (p q:Rat):Decidable (Ei p q):=inferInstanceAs (Decidable (_∧_∧_∧_))
theorem OL (p q:Rat) (hkp:okQ p) (hkq:okQ q) (W:World) (ht:AO W):
  Aj Tryz.prog 101 #[str (Ad p),str (Ad q)] W (fun _:Unit=>opV (Ei p q) (p+q)) (fun _=>True) (fun _=>[]):=by
 have hpn:=p.den_pos
 have hqn:=q.den_pos
 have ra:=KN p q
 refine Ac (args:=[str (Ad p),str (Ad q)]) Tryz.func101 I I I ?_
 refine zA (zB (wP I (wP I (Aa (zE (zA (zB (wP I (wC I I (fun W _=>BI hkp W) ?_)))))))))
 iterate 7 refine wP I ?_
 refine Aa (zE (zA (zB (wP I (wC I I (fun W _=>BI hkq W) ?_)))))
 iterate 7 refine wP I ?_
 refine Aa (AH (A0 (A0 ?_)))
 refine AF (X:=Unit) (fun _=>[(0,str (Ad p)),(1,str (Ad q)),(6, .int .i64 (iN p)),(7, .int .i64 (iD p)),(9, .int .i64 (iN q)),(10, .int .i64 (iD q)),(37, .bool (sh2 p q))]) (fun _=>[]) (fun _=>True) ?_ ?_
 ·refine zB (wP I (wP I ?_))
  refine CQ 35 I (fun h35=> ?_) (fun h35=> ?_)
  ·exact wP I (wP I (Aa (Al () tO ⟨I,I,I,I,I,I,congrArg (fun b=>some (Value.bool b)) (by unfold sh2;simp_all),tO⟩ [] I)))
  ·refine An I I ?_
   exact wP I (Aa (Al () tO ⟨I,I,I,I,I,I,congrArg (fun b=>some (Value.bool b)) (by unfold sh2;simp_all),tO⟩ [] I))
 intro _ _
 refine Av I (fun hs=> ?_) (fun hs=> ?_)
 ·obtain⟨e1,e2,e3,e4,l1,l2,l3,l4⟩:=Gw hs
  have m1:=Mz l1 (Gn l4)
  have m2:=Mz l3 (Gn l2)
  have m3:=Mz (Gn l2) (Gn l4)
  have hdd:((p.den:Nat):Int)*((q.den:Nat):Int)=((p.den*q.den:Nat):Int):=(Int.natCast_mul _ _).symm
  rw[hdd,Int.natAbs_natCast] at m3
  have hpq:=Nat.mul_pos hpn hqn
  rw[hdd,Sh _ hpq] at ra
  have hok:Ei p q:=⟨CW (Nat.lt_trans (show(p.num*(q.den:Nat)).natAbs<1000000000000000000 by omega) (by decide)),CW (Nat.lt_trans (show(q.num*(p.den:Nat)).natAbs<1000000000000000000 by omega) (by decide)),CW (Nat.lt_trans (show(((p.den:Nat):Int)*((q.den:Nat):Int)).natAbs<1000000000000000000 by rw[hdd,Int.natAbs_natCast];omega) (by decide)),CW (Nat.lt_trans (show(p.num*(q.den:Nat)+q.num*(p.den:Nat)).natAbs<2000000000000000001 by omega) (by decide))⟩
  refine zA (zB (wP I (wP I (wP I (wV 40 (p.num*(q.den:Nat)) I (by rw[e1,e4];exact DU l1 (Gn l4)) (wP I (wP I (wP I (wV 43 (q.num*(p.den:Nat)) I (by rw[e3,e2];exact DU l3 (Gn l2)) (wP I (wV 44 (p.num*(q.den:Nat)+q.num*(p.den:Nat)) I (Ap (by omega) (by omega)) (wP I (wP I (wP I ?_))))))))))))))
  exact wV 47 ((p.den*q.den:Nat):Int) I (by rw[e2,e4, ←hdd];exact DU (Gn l2) (Gn l4)) (wC I I (fun W _=>(Fl (p.num*(q.den:Nat)+q.num*(p.den:Nat)) (p.den*q.den) (by omega) hpq (by omega) W).cast (v':=str (Ad (p+q))) (by rw[ra])) (wP I (wP I (Aa (zE (zO (zP (AI tH I (.tmp I) (.tmp I) () (HJ hok).symm tO fun W _=>As.nil _ _))))))))
 ·have hd0:((p.den:Nat):Int)*((q.den:Nat):Int)≠0:=Int.mul_ne_zero (by omega) (by omega)
  refine zI (zE (zA (zB (wP I (wC I I (fun W _=>B4 hkp W) ?_)))))
  iterate 5 refine wP I ?_
  refine Aa (zE (zA (zB (wP I (wC I I (fun W _=>B4 hkq W) ?_)))))
  iterate 5 refine wP I ?_
  refine Aa ?_
  by_cases h1:okN (p.num*(q.den:Nat))
  ·by_cases h2:okN (q.num*(p.den:Nat))
   ·refine zE (zA (zB (wP I (wP I (wP I (wP I (wC I I (fun W1 hp=>DX p.num (q.den:Nat) q.num (p.den:Nat) hkp.1 hkq.2 hkq.1 hkp.2 h1 h2 W1 (ht.hp hp)) ?_)))))))
    iterate 7 refine wP I ?_
    refine Aa (zE (zA (zA (zB (wP I (wP I (Aa (zE (zS I (zI (zE (zA (zB ?_)))))))))))))
    by_cases h3:okN ((p.den:Nat)*(q.den:Nat))
    ·skip
     refine wP I (wP I ?_)
     refine wC I I (fun W1 hp=>by
      have h1:=DX (p.den:Nat) (q.den:Nat) 1 1 hkp.2 hkq.2 (CW (by decide)) (CW (by decide)) h3 (CW (by decide)) W1 (ht.hp hp)
      rw[show(1:Int)*1=1 from rfl,PS] at h1
      exact h1) ?_
     iterate 7 refine wP I ?_
     refine Aa (zE (zA (zA (zB ?_))))
     iterate 5 refine wP I ?_
     refine wU 82 false I (by show(!_)=false;rw[Be,dT I];rfl) (wP I (Aa (zE (zS I (zI (zE (zA (zB ?_))))))))
     by_cases h4:okN (p.num*(q.den:Nat)+q.num*(p.den:Nat))
     ·have hok:Ei p q:=⟨h1,h2,h3,h4⟩
      refine wP I (wP I (wC I I (fun W1 hp=>Ra (p.num*(q.den:Nat)) (q.num*(p.den:Nat)) h1.dd h2.dd h4.dd W1 (ht.hp hp)) ?_))
      iterate 5 refine wP I ?_
      refine Aa (zE (zA (zA (zB (wP I (wP I (Aa (zE (zS I (zI (zE (zA (zB ?_)))))))))))))
      exact wP I (wP I (wC I I (fun W1 hp=>(Kn _ _ hd0 h4 h3 W1 (ht.hp hp)).cast (v':= .tuple #[str (Ad (p+q)), .int .i64 0]) (by rw[ra])) (wP I (wP I (wP I (wP I (Aa (zE (zO (AI tH I (.tmp I) (.tmp I) () (HJ hok).symm tO fun W _=>As.nil _ _))))))))))
     ·have hno: ¬Ei p q:=fun h=>h4 h.2.2.2
      refine wP I (wP I (wC I I (fun W1 hp=>(QB (p.num*(q.den:Nat)) (q.num*(p.den:Nat)) h1.dd h2.dd W1 (ht.hp hp)).cast (E4 h4)) ?_))
      iterate 5 refine wP I ?_
      refine Aa (zE (zA (zA (zB (wP I (wP I (Aa (zE (zR I (zA (zB (wP I (wP I (wP I ?_))))))))))))))
      exact Aa (zE (zO (zP (AI tH I (.tmp I) (.tmp I) () (H3 hno).symm tO fun W _=>As.nil _ _))))
    ·have hno: ¬Ei p q:=fun h=>h3 h.2.2.1
     refine wP I (wP I ?_)
     refine wC I I (fun W1 hp=>by
      have h1:=E6 (p.den:Nat) (q.den:Nat) 1 1 hkp.2 hkq.2 h3 W1 (ht.hp hp)
      rw[PS] at h1
      exact h1) ?_
     iterate 7 refine wP I ?_
     refine Aa (zE (zA (zA (zB (wP I (wP I (wP I ?_)))))))
     iterate 2 refine An I I ?_
     exact wP I (Aa (zE (zR I (zA (zB (wP I (wP I (wP I (Aa (zE (zO (zP (AI tH I (.tmp I) (.tmp I) () (H3 hno).symm tO fun W _=>As.nil _ _)))))))))))))
   ·have hno: ¬Ei p q:=fun h=>h2 h.2.1
    refine zE (zA (zB (wP I (wP I (wP I (wP I (wC I I (fun W1 hp=>FV p.num (q.den:Nat) q.num (p.den:Nat) hkp.1 hkq.2 hkq.1 hkp.2 h1 h2 W1 (ht.hp hp)) ?_)))))))
    iterate 7 refine wP I ?_
    refine Aa (zE (zA (zA (zB (wP I (wP I (Aa (zE (zR I (zA (zB (wP I (wP I (wP I ?_))))))))))))))
    exact Aa (zE (zO (zP (AI tH I (.tmp I) (.tmp I) () (H3 hno).symm tO fun W _=>As.nil _ _))))
  ·have hno: ¬Ei p q:=fun h=>h1 h.1
   refine zE (zA (zB (wP I (wP I (wP I (wP I (wC I I (fun W1 hp=>E6 p.num (q.den:Nat) q.num (p.den:Nat) hkp.1 hkq.2 h1 W1 (ht.hp hp)) ?_)))))))
   iterate 7 refine wP I ?_
   refine Aa (zE (zA (zA (zB (wP I (wP I (Aa (zE (zR I (zA (zB (wP I (wP I (wP I ?_))))))))))))))
   exact Aa (zE (zO (zP (AI tH I (.tmp I) (.tmp I) () (H3 hno).symm tO fun W _=>As.nil _ _))))
theorem V6 {q:Rat} (h:okQ q):okQ (-q):=⟨S4 h.1,h.2⟩
theorem QT (p q:Rat) (hkp:okQ p) (hkq:okQ q) (W:World) (ht:AO W):
  Aj Tryz.prog 43 #[str (Ad p),str (Ad q)] W (fun _:Unit=>opV (Ei p (-q)) (p-q)) (fun _=>True) (fun _=>[]):=by
 obtain⟨rs,re,hr⟩: ∃s e,opV (Ei p (-q)) (p-q)= .tuple #[str s, .int .i64 e]:=by unfold opV;split<;>exact⟨_,_,rfl⟩
 refine Ac (args:=[str (Ad p),str (Ad q)]) Tryz.func43 I I I ?_
 refine zA (zB (wP I (wP I (Aa (zE (zA (zA (zB (wP I (wP I (wC I I (fun W1 hp=>CI hkp hkq W1 (ht.hp hp)) (wP I (Aa ?_)))))))))))))
 refine zE (zA (zB (wP I (wP I (Aa (zE (zS I (zI (zE (zA (zB (wP I (wP I ?_)))))))))))))
 exact wC I I (fun W _=>R8 q (Ii hkq) W) (wC I I (fun W1 hp=>(OL p (-q) hkp (V6 hkq) W1 (ht.hp hp)).cast ((congrArg (opV _) (Rat.sub_eq_add_neg p q).symm).trans hr)) (wP I (wP I (wP I (wP I (Aa (zE (zO (wR2 I I hr.symm)))))))))
-- BOXES 1
-- CODE2
def Ep (p q:Rat):Prop:=okN (p.num*q.num)∧okN ((p.den:Nat)*(q.den:Nat))
def BB (p q:Rat):Prop:=okN (p.num*(q.den:Nat))∧okN (q.num*(p.den:Nat))
instance (p q:Rat):Decidable (Ep p q):=inferInstanceAs (Decidable (_∧_))
instance (p q:Rat):Decidable (BB p q):=inferInstanceAs (Decidable (_∧_))
theorem O4 {p q:Rat} (hs:sh2 p q=true):okN (p.num*(q.den:Nat))∧okN (q.num*(p.den:Nat))∧okN ((p.den:Nat)*(q.den:Nat))∧okN (p.num*q.num):=by
 obtain⟨e1,e2,e3,e4,l1,l2,l3,l4⟩:=Gw hs
 exact⟨CW (Nat.lt_trans (Mz l1 (Gn l4)) (by decide)),CW (Nat.lt_trans (Mz l3 (Gn l2)) (by decide)),CW (Nat.lt_trans (Mz (Gn l2) (Gn l4)) (by decide)),CW (Nat.lt_trans (Mz l1 l3) (by decide))⟩
theorem PY (n d m c:Int) (hn:okN n) (hd:okN d) (hm:okN m) (hc:okN c) (hno:okN (n*m)→okN (d*c)→False) (W:World) (ht:AO W):
  Aj Tryz.prog 180 #[str (itoa n),str (itoa d),str (itoa m),str (itoa c)] W (fun _:Unit=> .tuple #[str [], .int .i64 4]) (fun _=>True) (fun _=>[]):=by
 refine Ac (args:=[str (itoa n),str (itoa d),str (itoa m),str (itoa c)]) Tryz.func180 I I I ?_
 refine zA (zB (wP I (wP I (Aa (zE (zA (zB (wP I (wP I (wP I (wP I ?_)))))))))))
 by_cases h1:okN (n*m)
 ·refine wC I I (fun W1 hp=>FV n m d c hn hm hd hc h1 (hno h1) W1 (ht.hp hp)) ?_
  iterate 7 refine wP I ?_
  refine Aa (zE (zA (zA (zB (wP I (wP I (Aa (zE (zR I (zA (zB (wP I (wP I (wP I ?_))))))))))))))
  exact Aa (zE (zO (zP (wR2 I I I))))
 ·refine wC I I (fun W1 hp=>E6 n m d c hn hm h1 W1 (ht.hp hp)) ?_
  iterate 7 refine wP I ?_
  refine Aa (zE (zA (zA (zB (wP I (wP I (Aa (zE (zR I (zA (zB (wP I (wP I (wP I ?_))))))))))))))
  exact Aa (zE (zO (zP (wR2 I I I))))
theorem QA (p q:Rat) (hkp:okQ p) (hkq:okQ q) (h:Ep p q) (W:World) (ht:AO W):
  Aj Tryz.prog 128 #[str (Ad p),str (Ad q)] W (fun _:Unit=> .tuple #[str (Ad (p*q)), .int .i64 0]) (fun _=>True) (fun _=>[]):=by
 have hpn:=p.den_pos
 have hqn:=q.den_pos
 have ra:=Ig p q
 refine Ac (args:=[str (Ad p),str (Ad q)]) Tryz.func128 I I I ?_
 refine zA (zB (wP I (wP I (Aa (zE (zA (zA (zB (wP I (wP I (wC I I (fun W1 hp=>CI hkp hkq W1 (ht.hp hp)) (wP I (Aa ?_)))))))))))))
 refine zE (zA (zB (wP I (wP I (Aa (zE (zS I (zI (zE (zA (zB (wP I (wC I I (fun W _=>BI hkp W) ?_)))))))))))))
 iterate 7 refine wP I ?_
 refine Aa (zE (zA (zB (wP I (wC I I (fun W _=>BI hkq W) ?_)))))
 iterate 7 refine wP I ?_
 refine Aa (AH (A0 (A0 ?_)))
 refine AF (X:=Unit) (fun _=>[(0,str (Ad p)),(1,str (Ad q)),(7, .int .i64 (iN p)),(8, .int .i64 (iD p)),(10, .int .i64 (iN q)),(11, .int .i64 (iD q)),(38, .bool (sh2 p q))]) (fun _=>[]) (fun _=>True) ?_ ?_
 ·refine zB (wP I (wP I ?_))
  refine CQ 36 I (fun h36=> ?_) (fun h36=> ?_)
  ·exact wP I (wP I (Aa (Al () tO ⟨I,I,I,I,I,I,congrArg (fun b=>some (Value.bool b)) (by unfold sh2;simp_all),tO⟩ [] I)))
  ·refine An I I ?_
   exact wP I (Aa (Al () tO ⟨I,I,I,I,I,I,congrArg (fun b=>some (Value.bool b)) (by unfold sh2;simp_all),tO⟩ [] I))
 intro _ _
 refine Av I (fun hs=> ?_) (fun hs=> ?_)
 ·obtain⟨e1,e2,e3,e4,l1,l2,l3,l4⟩:=Gw hs
  have m1:=Mz l1 l3
  have m3:=Mz (Gn l2) (Gn l4)
  have hdd:((p.den:Nat):Int)*((q.den:Nat):Int)=((p.den*q.den:Nat):Int):=(Int.natCast_mul _ _).symm
  rw[hdd,Int.natAbs_natCast] at m3
  have hpq:=Nat.mul_pos hpn hqn
  rw[hdd,Sh _ hpq] at ra
  refine zA (zB (wP I (wP I (wP I (wV 41 (p.num*q.num) I (by rw[e1,e3];exact DU l1 l3) (wP I (wP I (wP I (wV 44 ((p.den*q.den:Nat):Int) I (by rw[e2,e4, ←hdd];exact DU (Gn l2) (Gn l4)) (wC I I (fun W _=>(Fl (p.num*q.num) (p.den*q.den) (by omega) hpq (by omega) W).cast (v':=str (Ad (p*q))) (by rw[ra])) (wP I (wP I (Aa ?_)))))))))))))
  exact zE (zO (zP (wR2 I I I)))
 ·have hd0:((p.den:Nat):Int)*((q.den:Nat):Int)≠0:=Int.mul_ne_zero (by omega) (by omega)
  refine zI (zE (zA (zB (wP I (wC I I (fun W _=>B4 hkp W) ?_)))))
  iterate 5 refine wP I ?_
  refine Aa (zE (zA (zB (wP I (wC I I (fun W _=>B4 hkq W) ?_)))))
  iterate 5 refine wP I ?_
  refine Aa (zE (zA (zB (wP I (wP I (wP I (wP I (wC I I (fun W1 hp=>(QW p.num (p.den:Nat) q.num (q.den:Nat) hkp.1 hkp.2 hkq.1 hkq.2 h.1 h.2 hd0 W1 (ht.hp hp)).cast (v':= .tuple #[str (Ad (p*q)), .int .i64 0]) (by rw[ra])) (wP I (wP I (wP I (wP I (Aa ?_)))))))))))))
  exact zE (zO (wR2 I I I))
theorem Rw (p q:Rat) (hkp:okQ p) (hkq:okQ q) (hno: ¬Ep p q) (W:World) (ht:AO W):
  Aj Tryz.prog 128 #[str (Ad p),str (Ad q)] W (fun _:Unit=> .tuple #[str [], .int .i64 4]) (fun _=>True) (fun _=>[]):=by
 refine Ac (args:=[str (Ad p),str (Ad q)]) Tryz.func128 I I I ?_
 refine zA (zB (wP I (wP I (Aa (zE (zA (zA (zB (wP I (wP I (wC I I (fun W1 hp=>CI hkp hkq W1 (ht.hp hp)) (wP I (Aa ?_)))))))))))))
 refine zE (zA (zB (wP I (wP I (Aa (zE (zS I (zI (zE (zA (zB (wP I (wC I I (fun W _=>BI hkp W) ?_)))))))))))))
 iterate 7 refine wP I ?_
 refine Aa (zE (zA (zB (wP I (wC I I (fun W _=>BI hkq W) ?_)))))
 iterate 7 refine wP I ?_
 refine Aa (AH (A0 (A0 ?_)))
 refine AF (X:=Unit) (fun _=>[(0,str (Ad p)),(1,str (Ad q)),(7, .int .i64 (iN p)),(8, .int .i64 (iD p)),(10, .int .i64 (iN q)),(11, .int .i64 (iD q)),(38, .bool (sh2 p q))]) (fun _=>[]) (fun _=>True) ?_ ?_
 ·refine zB (wP I (wP I ?_))
  refine CQ 36 I (fun h36=> ?_) (fun h36=> ?_)
  ·exact wP I (wP I (Aa (Al () tO ⟨I,I,I,I,I,I,congrArg (fun b=>some (Value.bool b)) (by unfold sh2;simp_all),tO⟩ [] I)))
  ·refine An I I ?_
   exact wP I (Aa (Al () tO ⟨I,I,I,I,I,I,congrArg (fun b=>some (Value.bool b)) (by unfold sh2;simp_all),tO⟩ [] I))
 intro _ _
 refine Av I (fun hs=> ?_) (fun hs=> ?_)
 ·exact absurd (⟨(O4 hs).2.2.2,(O4 hs).2.2.1⟩) hno
 ·refine zI (zE (zA (zB (wP I (wC I I (fun W _=>B4 hkp W) ?_)))))
  iterate 5 refine wP I ?_
  refine Aa (zE (zA (zB (wP I (wC I I (fun W _=>B4 hkq W) ?_)))))
  iterate 5 refine wP I ?_
  refine Aa (zE (zA (zB (wP I (wP I (wP I (wP I (wC I I (fun W1 hp=>PY p.num (p.den:Nat) q.num (q.den:Nat) hkp.1 hkp.2 hkq.1 hkq.2 (fun h1 h2=>hno ⟨h1,h2⟩) W1 (ht.hp hp)) (wP I (wP I (wP I (wP I (Aa ?_)))))))))))))
  exact zE (zO (wR2 I I I))
theorem QQ (p q:Rat) (hkp:okQ p) (hkq:okQ q) (h:BB p q) (W:World) (ht:AO W):
  Aj Tryz.prog 56 #[str (Ad p),str (Ad q)] W (fun _:Unit=> .tuple #[.int .i64 (Dv p q), .int .i64 0]) (fun _=>True) (fun _=>[]):=by
 have hpn:=p.den_pos
 have hqn:=q.den_pos
 rw[←NR]
 obtain⟨x,hx⟩: ∃x,p.num*((q.den:Nat):Int)=x:=⟨_,rfl⟩
 obtain⟨y,hy⟩: ∃y,q.num*((p.den:Nat):Int)=y:=⟨_,rfl⟩
 rw[hx,hy]
 refine Ac (args:=[str (Ad p),str (Ad q)]) Tryz.func56 I I I ?_
 refine zA (zB (wP I (wP I (Aa (zE (zA (zA (zB (wP I (wP I (wC I I (fun W1 hp=>CI hkp hkq W1 (ht.hp hp)) (wP I (Aa ?_)))))))))))))
 refine zE (zA (zB (wP I (wP I (Aa (zE (zS I (zI (zE (zA (zB (wP I (wC I I (fun W _=>BI hkp W) ?_)))))))))))))
 iterate 7 refine wP I ?_
 refine Aa (zE (zA (zB (wP I (wC I I (fun W _=>BI hkq W) ?_)))))
 iterate 7 refine wP I ?_
 refine Aa (AH (A0 (A0 ?_)))
 refine AF (X:=Unit) (fun _=>[(0,str (Ad p)),(1,str (Ad q)),(7, .int .i64 (iN p)),(8, .int .i64 (iD p)),(10, .int .i64 (iN q)),(11, .int .i64 (iD q)),(41, .bool (sh2 p q))]) (fun _=>[]) (fun _=>True) ?_ ?_
 ·refine zB (wP I (wP I ?_))
  refine CQ 39 I (fun h39=> ?_) (fun h39=> ?_)
  ·exact wP I (wP I (Aa (Al () tO ⟨I,I,I,I,I,I,congrArg (fun b=>some (Value.bool b)) (by unfold sh2;simp_all),tO⟩ [] I)))
  ·refine An I I ?_
   exact wP I (Aa (Al () tO ⟨I,I,I,I,I,I,congrArg (fun b=>some (Value.bool b)) (by unfold sh2;simp_all),tO⟩ [] I))
 intro _ _
 refine Av I (fun hs=> ?_) (fun hs=> ?_)
 ·obtain⟨e1,e2,e3,e4,l1,l2,l3,l4⟩:=Gw hs
  have w1:w64 (iN p*iD q)=x:=by rw[e1,e4, ←hx];exact DU l1 (Gn l4)
  have w2:w64 (iN q*iD p)=y:=by rw[e3,e2, ←hy];exact DU l3 (Gn l2)
  refine zA (zH (zA (zB (wP I (wP I (wP I (wV 45 x I w1 (wP I (wP I (wP I (wV 48 y I w2 (wP I ?_))))))))))))
  by_cases h1:x<y
  ·exact wU 49 true I (dT h1) (wP I (Aa (zE (zR I (zA (zB (wP I (wP I (Aa (zE (zO (zQ (zP (zP (wR2 I I (by rw[Fg,if_pos h1]))))))))))))))))
  refine wU 49 false I (dF h1) (wP I (Aa (zE (zS I (zA (zB (wP I (wP I (wP I (wV 53 x I w1 (wP I (wP I (wP I ?_)))))))))))))
  refine wV 56 y I w2 (wP I ?_)
  by_cases h2:y<x
  ·exact wU 57 true I (dT h2) (wP I (Aa (zE (zR I (zA (zB (wP I (wP I (Aa (zE (zO (zQ (zP (zP (wR2 I I (by rw[Fg,if_neg h1,if_neg (by omega)]))))))))))))))))
  refine wU 57 false I (dF h2) (wP I (Aa (zE (zS I (zI (zN (zE (zA (zB (wP I (wP I (Aa (zE ?_)))))))))))))
  exact zO (zP (wR2 I I (by rw[Fg,if_neg h1,if_pos (by omega)])))
 ·refine zI (zE (zA (zB (wP I (wC I I (fun W _=>B4 hkp W) ?_)))))
  iterate 5 refine wP I ?_
  refine Aa (zE (zA (zB (wP I (wC I I (fun W _=>B4 hkq W) ?_)))))
  iterate 5 refine wP I ?_
  refine Aa (zE (zA (zB (wP I (wP I (wP I (wP I (wC I I (fun W1 hp=>(DX p.num (q.den:Nat) q.num (p.den:Nat) hkp.1 hkq.2 hkq.1 hkp.2 h.1 h.2 W1 (ht.hp hp)).cast (v':= .tuple #[str (itoa x),str (itoa y), .int .i64 0]) (by rw[hx,hy])) ?_))))))))
  iterate 7 refine wP I ?_
  refine Aa (zE (zA (zA (zB (wP I (wP I (Aa (zE (zS I (zI (zE (zA (zB ?_)))))))))))))
  exact wP I (wP I (wC I I (fun W1 hp=>LG x y (by rw[←hx];exact h.1.dd) (by rw[←hy];exact h.2.dd) W1) (wP I (wP I (wP I (wP I (Aa (zE (zO (wR2 I I I))))))))))
theorem QJ (p q:Rat) (hkp:okQ p) (hkq:okQ q) (hno: ¬BB p q) (W:World) (ht:AO W):
  Aj Tryz.prog 56 #[str (Ad p),str (Ad q)] W (fun _:Unit=> .tuple #[.int .i64 0, .int .i64 4]) (fun _=>True) (fun _=>[]):=by
 refine Ac (args:=[str (Ad p),str (Ad q)]) Tryz.func56 I I I ?_
 refine zA (zB (wP I (wP I (Aa (zE (zA (zA (zB (wP I (wP I (wC I I (fun W1 hp=>CI hkp hkq W1 (ht.hp hp)) (wP I (Aa ?_)))))))))))))
 refine zE (zA (zB (wP I (wP I (Aa (zE (zS I (zI (zE (zA (zB (wP I (wC I I (fun W _=>BI hkp W) ?_)))))))))))))
 iterate 7 refine wP I ?_
 refine Aa (zE (zA (zB (wP I (wC I I (fun W _=>BI hkq W) ?_)))))
 iterate 7 refine wP I ?_
 refine Aa (AH (A0 (A0 ?_)))
 refine AF (X:=Unit) (fun _=>[(0,str (Ad p)),(1,str (Ad q)),(7, .int .i64 (iN p)),(8, .int .i64 (iD p)),(10, .int .i64 (iN q)),(11, .int .i64 (iD q)),(41, .bool (sh2 p q))]) (fun _=>[]) (fun _=>True) ?_ ?_
 ·refine zB (wP I (wP I ?_))
  refine CQ 39 I (fun h39=> ?_) (fun h39=> ?_)
  ·exact wP I (wP I (Aa (Al () tO ⟨I,I,I,I,I,I,congrArg (fun b=>some (Value.bool b)) (by unfold sh2;simp_all),tO⟩ [] I)))
  ·refine An I I ?_
   exact wP I (Aa (Al () tO ⟨I,I,I,I,I,I,congrArg (fun b=>some (Value.bool b)) (by unfold sh2;simp_all),tO⟩ [] I))
 intro _ _
 refine Av I (fun hs=> ?_) (fun hs=> ?_)
 ·exact absurd (⟨(O4 hs).1,(O4 hs).2.1⟩) hno
 ·refine zI (zE (zA (zB (wP I (wC I I (fun W _=>B4 hkp W) ?_)))))
  iterate 5 refine wP I ?_
  refine Aa (zE (zA (zB (wP I (wC I I (fun W _=>B4 hkq W) ?_)))))
  iterate 5 refine wP I ?_
  refine Aa (zE (zA (zB (wP I (wP I (wP I (wP I ?_)))))))
  by_cases h1:okN (p.num*(q.den:Nat))
  ·refine wC I I (fun W1 hp=>FV p.num (q.den:Nat) q.num (p.den:Nat) hkp.1 hkq.2 hkq.1 hkp.2 h1 (fun h2=>hno ⟨h1,h2⟩) W1 (ht.hp hp)) ?_
   iterate 7 refine wP I ?_
   refine Aa (zE (zA (zA (zB (wP I (wP I (Aa (zE (zR I (zA (zB (wP I (wP I (wP I ?_))))))))))))))
   exact Aa (zE (zO (zP (wR2 I I I))))
  ·refine wC I I (fun W1 hp=>E6 p.num (q.den:Nat) q.num (p.den:Nat) hkp.1 hkq.2 h1 W1 (ht.hp hp)) ?_
   iterate 7 refine wP I ?_
   refine Aa (zE (zA (zA (zB (wP I (wP I (Aa (zE (zR I (zA (zB (wP I (wP I (wP I ?_))))))))))))))
   exact Aa (zE (zO (zP (wR2 I I I))))
def cmV (p q:Rat):Value:=if BB p q then .tuple #[.int .i64 (Dv p q), .int .i64 0] else .tuple #[.int .i64 0, .int .i64 4]
theorem Ro (p q:Rat) (hkp:okQ p) (hkq:okQ q) (W:World) (ht:AO W):
  Aj Tryz.prog 128 #[str (Ad p),str (Ad q)] W (fun _:Unit=>opV (Ep p q) (p*q)) (fun _=>True) (fun _=>[]):=by
 by_cases h:Ep p q
 ·exact(QA p q hkp hkq h W ht).cast (HJ h).symm
 ·exact(Rw p q hkp hkq h W ht).cast (H3 h).symm
theorem RH (p q:Rat) (hkp:okQ p) (hkq:okQ q) (W:World) (ht:AO W):
  Aj Tryz.prog 56 #[str (Ad p),str (Ad q)] W (fun _:Unit=>cmV p q) (fun _=>True) (fun _=>[]):=by
 by_cases h:BB p q
 ·exact(QQ p q hkp hkq h W ht).cast (if_pos h).symm
 ·exact(QJ p q hkp hkq h W ht).cast (if_neg h).symm
-- BOXES 5
theorem K7 (p q:Rat) (hp:okQ p) (hq:okQ q) (h1: ¬okN (p.num*(q.den:Nat))) (W:World) (ht:AO W):
  Aj Tryz.prog 110 #[C4 p,C4 q] W (fun _:Unit=> .tuple #[str [],str [], .int .i64 4]) (fun _=>True) (fun _=>[]):=by
 refine Ac (args:=[C4 p,C4 q]) Tryz.func110 I I I ?_
 refine zA (zB ?_)
 (refine A5 rfl rfl rfl rfl ?_;intro)
 (refine A5 rfl rfl rfl rfl ?_;intro)
 refine wP I (wP I (wP I (Aa (zE (zA (zB (wP I (wB 0 I I I (wP I (wB 1 I I I (wC I I (fun W h=>(BY p.num (q.den:Nat) hp.1 hq.2 W (ht.hp h)).cast (E4 h1)) ?_)))))))))))
 iterate 5 refine wP I ?_
 refine Aa (zE (zA (zA (zB (wP I (wP I (Aa (zE (zR I (zA (zB (wP I (wP I (wP I (wP I ?_)))))))))))))))
 exact Aa (zE (zO (zP (wR3 I I I))))
theorem KB (p q:Rat) (hp:okQ p) (hq:okQ q) (h1:okN (p.num*(q.den:Nat))) (h2: ¬okN (q.num*(p.den:Nat))) (W:World) (ht:AO W):
  Aj Tryz.prog 110 #[C4 p,C4 q] W (fun _:Unit=> .tuple #[str (itoa (p.num*(q.den:Nat))),str [], .int .i64 4]) (fun _=>True) (fun _=>[]):=by
 refine Ac (args:=[C4 p,C4 q]) Tryz.func110 I I I ?_
 refine zA (zB ?_)
 (refine A5 rfl rfl rfl rfl ?_;intro)
 (refine A5 rfl rfl rfl rfl ?_;intro)
 refine wP I (wP I (wP I (Aa (zE (zA (zB (wP I (wB 0 I I I (wP I (wB 1 I I I (wC I I (fun W h=>(BY p.num (q.den:Nat) hp.1 hq.2 W (ht.hp h)).cast (F5 h1)) ?_)))))))))))
 iterate 5 refine wP I ?_
 refine Aa (zE (zA (zA (zB (wP I (wP I (Aa (zE (zS I (zI (zE (zA (zB ?_)))))))))))))
 refine wP I (wB 1 I I I (wP I (wB 0 I I I (wC I I (fun W h=>(BY q.num (p.den:Nat) hq.1 hp.2 W (ht.hp h)).cast (E4 h2)) ?_))))
 iterate 5 refine wP I ?_
 refine Aa (zE (zA (zB ?_)))
 iterate 6 refine wP I ?_
 exact Aa (zE (zO (wR3 I I I)))
theorem H1 (p q:Rat) (hp:okQ p) (hq:okQ q) (h: ¬BB p q): ∃s, ∀(W:World) (_:AO W),
  Aj Tryz.prog 110 #[C4 p,C4 q] W (fun _:Unit=> .tuple #[str s,str [], .int .i64 4]) (fun _=>True) (fun _=>[]):=by
 by_cases h1:okN (p.num*(q.den:Nat))
 ·exact⟨_,fun W ht=>KB p q hp hq h1 (fun h2=>h ⟨h1,h2⟩) W ht⟩
 ·exact⟨_,fun W ht=>K7 p q hp hq h1 W ht⟩
theorem NW (p q r:Rat) (b h:Nat) (z:Int) (hp:okQ p) (hq:okQ q) (hr:nrm z ((p.den:Nat)*(q.den:Nat))=r) (hE:Bg Tryz.prog h=true)
  (hop:BB p q→ ∀W,AO W→Aj Tryz.prog h #[str (itoa (p.num*(q.den:Nat))),str (itoa (q.num*(p.den:Nat)))] W (fun _:Unit=>Io z) (fun _=>True) (fun _=>[])) (W:World) (ht:AO W) (hrow:Ak W b 0 [.func (.func h) #[] #[]]):
  Aj Tryz.prog 109 #[C4 p,C4 q,Ai b] W (fun _:Unit=>if BB p q∧okN z∧okN ((p.den:Nat)*(q.den:Nat)) then .tuple #[str (Ad r), .int .i64 0] else .tuple #[str [], .int .i64 4]) (fun _=>True) (fun _=>[]):=by
 by_cases hx:BB p q
 ·by_cases hz:okN z
  ·by_cases hd:okN ((p.den:Nat)*(q.den:Nat))
   ·rw[if_pos ⟨hx,hz,hd⟩]
    exact(H7 p q b h z hp hq hx.1 hx.2 hz hd hE (fun W2 h2=>(hop hx W2 h2).cast (F5 hz)) W ht hrow).cast (by rw[hr])
   ·rw[if_neg fun e=>hd e.2.2]
    refine Ac (args:=[C4 p,C4 q,Ai b]) Tryz.func109 I I I ?_
    refine zA (zB ?_)
    (refine A5 rfl rfl rfl rfl ?_;intro)
    (refine A5 rfl rfl rfl rfl ?_;intro)
    refine wP I (wP I (Aa (zE (zA (zB (wB 0 I I I (wB 1 I I I (wC I I (fun W h=>CK p q hp hq hx.1 hx.2 W (ht.hp h)) ?_))))))))
    iterate 7 refine wP I ?_
    refine Aa (zE (zA (zA (zB (wP I (wP I (Aa (zE (zS I (zI (zE (zA (zB ?_)))))))))))))
    refine wL 0 I I (fun W h=>hrow.hp h) I (wP I (wP I ?_))
    refine Br (capt:=[]) I I I I I I hE (fun W h=>(hop hx W (ht.hp h)).cast (F5 hz)) ?_
    iterate 5 refine wP I ?_
    refine Aa (zE (zA (zA (zB (wP I (wP I (Aa (zE (zS I (zI (zE (zA (zB ?_)))))))))))))
    refine wP I (wB 0 I I I (wP I (wB 1 I I I (wC I I (fun W h=>(BY (p.den:Nat) (q.den:Nat) hp.2 hq.2 W (ht.hp h)).cast (E4 hd)) ?_))))
    iterate 5 refine wP I ?_
    refine Aa (zE (zA (zA (zB (wP I (wP I (Aa (zE (zR I (zA (zB (wP I (wP I (wP I ?_))))))))))))))
    exact Aa (zE (zO (zP (wR2 I I I))))
  ·rw[if_neg fun e=>hz e.2.1]
   refine Ac (args:=[C4 p,C4 q,Ai b]) Tryz.func109 I I I ?_
   refine zA (zB ?_)
   (refine A5 rfl rfl rfl rfl ?_;intro)
   (refine A5 rfl rfl rfl rfl ?_;intro)
   refine wP I (wP I (Aa (zE (zA (zB (wB 0 I I I (wB 1 I I I (wC I I (fun W h=>CK p q hp hq hx.1 hx.2 W (ht.hp h)) ?_))))))))
   iterate 7 refine wP I ?_
   refine Aa (zE (zA (zA (zB (wP I (wP I (Aa (zE (zS I (zI (zE (zA (zB ?_)))))))))))))
   refine wL 0 I I (fun W h=>hrow.hp h) I (wP I (wP I ?_))
   refine Br (capt:=[]) I I I I I I hE (fun W h=>(hop hx W (ht.hp h)).cast (E4 hz)) ?_
   iterate 5 refine wP I ?_
   refine Aa (zE (zA (zA (zB (wP I (wP I (Aa (zE (zR I (zA (zB (wP I (wP I (wP I ?_))))))))))))))
   exact Aa (zE (zO (zP (wR2 I I I))))
 ·rw[if_neg fun e=>hx e.1]
  obtain⟨s,hs⟩:=H1 p q hp hq hx
  refine Ac (args:=[C4 p,C4 q,Ai b]) Tryz.func109 I I I ?_
  refine zA (zB ?_)
  (refine A5 rfl rfl rfl rfl ?_;intro)
  (refine A5 rfl rfl rfl rfl ?_;intro)
  refine wP I (wP I (Aa (zE (zA (zB (wB 0 I I I (wB 1 I I I (wC I I (fun W h=>hs W (ht.hp h)) ?_))))))))
  iterate 7 refine wP I ?_
  refine Aa (zE (zA (zA (zB (wP I (wP I (Aa (zE (zR I (zA (zB (wP I (wP I (wP I ?_))))))))))))))
  exact Aa (zE (zO (zP (wR2 I I I))))
theorem SR {p q:Rat}:Ei p q↔BB p q∧okN (p.num*(q.den:Nat)+q.num*(p.den:Nat))∧okN ((p.den:Nat)*(q.den:Nat)):=⟨fun h=>⟨⟨h.1,h.2.1⟩,h.2.2.2,h.2.2.1⟩,fun h=>⟨h.1.1,h.1.2,h.2.2,h.2.1⟩⟩
theorem Et {p q:Rat}:Ei p (-q)↔BB p q∧okN (p.num*(q.den:Nat)-q.num*(p.den:Nat))∧okN ((p.den:Nat)*(q.den:Nat)):=by
 have e:(-q).num= -q.num:=rfl
 have d:(-q).den=q.den:=rfl
 unfold Ei BB okN
 rw[e,d,Int.neg_mul,Int.natAbs_neg, ←Int.sub_eq_add_neg]
 exact⟨fun h=>⟨⟨h.1,h.2.1⟩,h.2.2.2,h.2.2.1⟩,fun h=>⟨h.1.1,h.1.2,h.2.2,h.2.1⟩⟩
theorem VP {a ok:Prop} [Decidable a] [Decidable ok] (h:ok↔a) (r:Rat):(if a then Value.tuple #[str (Ad r), .int .i64 0] else .tuple #[str [], .int .i64 4])=opV ok r:=by
 by_cases c:a
 ·rw[if_pos c,HJ (h.2 c)]
 ·rw[if_neg c,H3 fun e=>c (h.1 e)]
theorem KW (ok:Prop) [Decidable ok] (r:Rat): ∃s e,opV ok r= .tuple #[str s, .int .i64 e]:=by unfold opV;split<;>exact⟨_,_,rfl⟩
theorem QG {p q:Rat} (hs:smQ p∧smQ q):Ei p q∧Ei p (-q)∧Ep p q∧BB p q:=by
 have m1:=CO hs.1.1 (CG q hs.2)
 have m2:=CO hs.2.1 (CG p hs.1)
 have m3:=CO (CG p hs.1) (CG q hs.2)
 have m4:=CO hs.1.1 hs.2.1
 have k: ∀z:Int,z.natAbs<10^18→okN z:=fun z h=>CW (Nat.lt_trans h (by decide))
 have d1:BB p q:=⟨k _ (by omega),k _ (by omega)⟩
 exact⟨SR.2 ⟨d1,k _ (by omega),k _ (by omega)⟩,Et.2 ⟨d1,k _ (by omega),k _ (by omega)⟩,⟨k _ (by omega),k _ (by omega)⟩,d1⟩
theorem Qa (p q:Rat) (hkp:okQ p) (hkq:okQ q) (W0:World) (hv:BU W0) (ht:AO W0):
  Aj Tryz.prog 126 #[str (Ad p),str (Ad q)] W0 (fun _:Unit=>opV (Ei p (-q)) (p-q)) (fun _=>True) (fun _=>[]):=by
 obtain⟨rs,re,hr⟩:=KW (Ei p (-q)) (p-q)
 have hlp:=Bk hkp
 have hlq:=Bk hkq
 refine Ac (args:=[str (Ad p),str (Ad q)]) Tryz.func126 I I I ?_
 refine zA (zB (wP I (wP I (Aa (zE (zA (zA (zB (wP I (wP I ?_))))))))))
 have hquick: ∀W,AO W→Aj Tryz.prog 48 #[str (Ad p),str (Ad q), .func (.func 178) #[] #[]] W (fun _:Unit=>if smQ p∧smQ q then .tuple #[str (Ad (p-q)), .bool true] else .tuple #[str [], .bool false]) (fun _=>True) (fun _=>[]):=
  fun W ht=>DN p q (p-q) (p.num*(q.den:Nat)-q.num*(p.den:Nat)) ((p.den:Nat)*(q.den:Nat)) _ (by kernel_rfl) (by omega) (by omega) (fun hp hq=>by
   have m1:=CO hp.1 (CG q hq)
   have m2:=CO hq.1 (CG p hp)
   have m3:=CO (CG p hp) (CG q hq)
   exact⟨L6 _ _ _ _ hp.1 (CG p hp) hq.1 (CG q hq),D3,by omega,by omega,Ie p q⟩) W ht
 by_cases hs:smQ p∧smQ q
 ·refine wC I I (fun W h=>(hquick W (ht.hp h)).cast (if_pos hs)) ?_
  iterate 5 refine wP I ?_
  refine Aa (zE (zA (zB (wP I (Aa (zE (zR I (zA (zB (wP I (wP I (wP I (Aa ?_)))))))))))))
  exact zE (zO (zP (AI tH I (.tmp I) (.tmp I) () (HJ (QG hs).2.1).symm tO fun W _=>As.nil _ _)))
 ·refine wC I I (fun W h=>(hquick W (ht.hp h)).cast (if_neg hs)) ?_
  iterate 5 refine wP I ?_
  refine Aa (zE (zA (zB (wP I (Aa (zE (zS I (zI (zE (zA (zB (wP I (wP I ?_)))))))))))))
  refine wD (X:=Nat) I I (fun W _=>F3 179 W) ?_
  intro b18 _
  exact wC I I (fun W hp=>DS p q rs re 109 [Ai b18] hkp hkq W (hv.hp hp) (ht.hp hp) (by kernel_rfl) (fun W' hb=>(NW p q (p-q) b18 179 (p.num*(q.den:Nat)-q.num*(p.den:Nat)) hkp hkq (Ie p q) (by kernel_rfl) (fun hx W2 ht2=>Mf _ _ hx.1 hx.2 W2 ht2) W' ((ht.hp hp).below hb) ((Ak.of_bx hp 0 I I).below (Nat.le_refl _) hb)).cast ((VP Et _).trans hr))) (wP I (wP I (wP I (wP I (Aa (zE (zO (wR2 I I hr.symm))))))))
theorem OW (p q:Rat) (hp:okQ p) (hq:okQ q) (hno: ¬Ep p q) (W:World) (ht:AO W):
  Aj Tryz.prog 136 #[C4 p,C4 q] W (fun _:Unit=> .tuple #[str [], .int .i64 4]) (fun _=>True) (fun _=>[]):=by
 refine Ac (args:=[C4 p,C4 q]) Tryz.func136 I I I ?_
 refine zA (zB ?_)
 (refine A5 rfl rfl rfl rfl ?_;intro)
 (refine A5 rfl rfl rfl rfl ?_;intro)
 refine wP I (wP I (Aa (zE (zA (zB (wP I (wB 0 I I I (wP I (wB 1 I I I ?_)))))))))
 by_cases hz:okN (p.num*q.num)
 ·refine wC I I (fun W h=>(BY p.num q.num hp.1 hq.1 W (ht.hp h)).cast (F5 hz)) ?_
  iterate 5 refine wP I ?_
  refine Aa (zE (zA (zA (zB (wP I (wP I (Aa (zE (zS I (zI (zE (zA (zB ?_)))))))))))))
  refine wP I (wB 0 I I I (wP I (wB 1 I I I (wC I I (fun W h=>(BY (p.den:Nat) (q.den:Nat) hp.2 hq.2 W (ht.hp h)).cast (E4 fun hd=>hno ⟨hz,hd⟩)) ?_))))
  iterate 5 refine wP I ?_
  refine Aa (zE (zA (zA (zB (wP I (wP I (Aa (zE (zR I (zA (zB (wP I (wP I (wP I ?_))))))))))))))
  exact Aa (zE (zO (zP (wR2 I I I))))
 ·refine wC I I (fun W h=>(BY p.num q.num hp.1 hq.1 W (ht.hp h)).cast (E4 hz)) ?_
  iterate 5 refine wP I ?_
  refine Aa (zE (zA (zA (zB (wP I (wP I (Aa (zE (zR I (zA (zB (wP I (wP I (wP I ?_))))))))))))))
  exact Aa (zE (zO (zP (wR2 I I I))))
theorem PD (p q:Rat) (hp:okQ p) (hq:okQ q) (W:World) (ht:AO W):
  Aj Tryz.prog 136 #[C4 p,C4 q] W (fun _:Unit=>opV (Ep p q) (p*q)) (fun _=>True) (fun _=>[]):=by
 by_cases h:Ep p q
 ·exact(LI p q hp hq h.1 h.2 W ht).cast (HJ h).symm
 ·exact(OW p q hp hq h W ht).cast (H3 h).symm
theorem Pa (p q:Rat) (hkp:okQ p) (hkq:okQ q) (W0:World) (hv:BU W0) (ht:AO W0):
  Aj Tryz.prog 72 #[str (Ad p),str (Ad q)] W0 (fun _:Unit=>opV (Ep p q) (p*q)) (fun _=>True) (fun _=>[]):=by
 obtain⟨rs,re,hr⟩:=KW (Ep p q) (p*q)
 have hlp:=Bk hkp
 have hlq:=Bk hkq
 refine Ac (args:=[str (Ad p),str (Ad q)]) Tryz.func72 I I I ?_
 refine zA (zB (wP I (wP I (Aa (zE (zA (zA (zB (wP I (wP I ?_))))))))))
 have hquick: ∀W,AO W→Aj Tryz.prog 48 #[str (Ad p),str (Ad q), .func (.func 135) #[] #[]] W (fun _:Unit=>if smQ p∧smQ q then .tuple #[str (Ad (p*q)), .bool true] else .tuple #[str [], .bool false]) (fun _=>True) (fun _=>[]):=
  fun W ht=>DN p q (p*q) (p.num*q.num) ((p.den:Nat)*(q.den:Nat)) _ (by kernel_rfl) (by omega) (by omega) (fun hp hq=>by
   have m1:=CO hp.1 hq.1
   have m3:=CO (CG p hp) (CG q hq)
   exact⟨Lh _ _ _ _ hp.1 (CG p hp) hq.1 (CG q hq),D3,by omega,by omega,Ig p q⟩) W ht
 by_cases hs:smQ p∧smQ q
 ·refine wC I I (fun W h=>(hquick W (ht.hp h)).cast (if_pos hs)) ?_
  iterate 5 refine wP I ?_
  refine Aa (zE (zA (zB (wP I (Aa (zE (zR I (zA (zB (wP I (wP I (wP I (Aa ?_)))))))))))))
  exact zE (zO (zP (AI tH I (.tmp I) (.tmp I) () (HJ (QG hs).2.2.1).symm tO fun W _=>As.nil _ _)))
 ·refine wC I I (fun W h=>(hquick W (ht.hp h)).cast (if_neg hs)) ?_
  iterate 5 refine wP I ?_
  refine Aa (zE (zA (zB (wP I (Aa (zE (zS I (zI (zE (zA (zB (wP I (wP I ?_)))))))))))))
  exact wC I I (fun W hp=>DS p q rs re 136 [] hkp hkq W (hv.hp hp) (ht.hp hp) (by kernel_rfl) (fun W' hb=>(PD p q hkp hkq W' ((ht.hp hp).below hb)).cast hr)) (wP I (wP I (wP I (wP I (Aa (zE (zO (wR2 I I hr.symm))))))))
-- BOXES 5
-- CODE2
def nmV:Option Rat→Value
 |some q=> .agg #[str (Ad q), .int .i64 0]
 |none=> .agg #[str [], .int .i64 4]
def okO:Option Rat→Prop
 |some q=>okQ q
 |none=>True
@[irreducible] def opO (ok : Prop) [Decidable ok] (r : Rat) : Option Rat := if ok then some r else none
theorem Ut {ok:Prop} [Decidable ok] {r:Rat} {s:List UInt8} {e:Int} (h:opV ok r= .tuple #[str s, .int .i64 e]):Value.agg #[str s, .int .i64 e]=nmV (opO ok r):=by
 unfold opV at h
 unfold opO
 split at h
 ·rename_i c
  rw[if_pos c]
  injection h with h
  rw[nmV, ←h]
 ·rename_i c
  rw[if_neg c]
  injection h with h
  rw[nmV, ←h]
def I2 (p q:Rat):Prop:=Ei p (-q)
instance (p q:Rat):Decidable (I2 p q):=inferInstanceAs (Decidable (Ei p (-q)))
def BZ:Option Rat→Option Rat→Option Rat
 |some p,some q=>opO (I2 p q) (p-q)
 |_,_=>none
def EO:Option Rat→Option Rat→Option Rat
 |some p,some q=>opO (Ep p q) (p*q)
 |_,_=>none
theorem DP (q:Rat) (W:World):Aj Tryz.prog 62 #[str (Ad q)] W (fun _:Unit=>nmV (some q)) (fun _=>True) (fun _=>[]):=by
 refine Ac (args:=[str (Ad q)]) Tryz.func62 I I I ?_
 refine zA (zB ?_)
 (refine Ag Tryz.hZ rfl rfl rfl rfl ?_;intro)
 refine Aa (zE (zA (zB (wP I ?_))))
 refine Ay Tryz.hZ tH I I I I I I I I ?_
 exact wS 0 I I I (Aa (zE (zO (Au tH I (.cell 0 I I I I I) () I tO fun W _=>As.nil _ _))))
theorem EV (a b:Option Rat) (ha:okO a) (hb:okO b) (W:World) (ht:AO W):
  Aj Tryz.prog 61 #[nmV a,nmV b] W (fun _:Unit=>nmV (BZ a b)) (fun _=>True) (fun _=>[]):=by
 cases a with
 |none=>
  refine Ac (args:=[nmV none,nmV b]) Tryz.func61 I I I ?_
  refine zA (zB ?_)
  (refine A5 rfl rfl rfl rfl ?_;intro)
  (refine A5 rfl rfl rfl rfl ?_;intro)
  (refine Ag Tryz.hZ rfl rfl rfl rfl ?_;intro)
  refine Aa (zE (zA (zA (zB (wP I (wB 0 I I I (wP I (Aa (zE (zR I (zA (zB (wB 0 I I I ?_)))))))))))))
  exact wS 2 I I I (Aa (zE (zO (zP (Au tH I (.cell 2 I I I I I) () I tO fun W _=>As.nil _ _)))))
 |some p=>
  cases b with
  |none=>
   refine Ac (args:=[nmV (some p),nmV none]) Tryz.func61 I I I ?_
   refine zA (zB ?_)
   (refine A5 rfl rfl rfl rfl ?_;intro)
   (refine A5 rfl rfl rfl rfl ?_;intro)
   (refine Ag Tryz.hZ rfl rfl rfl rfl ?_;intro)
   refine Aa (zE (zA (zA (zB (wP I (wB 0 I I I (wP I (Aa (zE (zS I (zI (zE (zA (zA ?_))))))))))))))
   refine zB (wP I (wB 1 I I I (wP I (Aa (zE (zR I (zA (zB (wB 1 I I I (wS 2 I I I (Aa (zE (zO ?_)))))))))))))
   exact zP (Au tH I (.cell 2 I I I I I) () I tO fun W _=>As.nil _ _)
  |some q=>
   obtain⟨rs,re,hr⟩:=KW (I2 p q) (p-q)
   have hv:Value.agg #[str rs, .int .i64 re]=nmV (BZ (some p) (some q)):=Ut hr
   rw[←hv]
   refine Ac (args:=[nmV (some p),nmV (some q)]) Tryz.func61 I I I ?_
   refine zA (zB ?_)
   (refine A5 rfl rfl rfl rfl ?_;intro)
   (refine A5 rfl rfl rfl rfl ?_;intro)
   (refine Ag Tryz.hZ rfl rfl rfl rfl ?_;intro)
   refine Aa (zE (zA (zA (zB (wP I (wB 0 I I I (wP I (Aa (zE (zS I (zI (zE (zA (zA ?_))))))))))))))
   refine zB (wP I (wB 1 I I I (wP I (Aa (zE (zS I (zI (zE (zA (zB (wP I (wB 0 I I I (wP I ?_)))))))))))))
   refine wB 1 I I I (wC I I (fun W hp=>(QT p q ha hb W (ht.hp hp)).cast hr) ?_)
   iterate 5 refine wP I ?_
   refine Aa (zE (zA (zB (wP I (wP I ?_)))))
   refine Ay Tryz.hZ tH I I I I I I I I ?_
   exact wS 2 I I I (Aa (zE (zO (Au tH I (.cell 2 I I I I I) () I tO fun W _=>As.nil _ _))))
theorem J8 (a b:Option Rat) (ha:okO a) (hb:okO b) (W:World) (ht:AO W):
  Aj Tryz.prog 64 #[nmV a,nmV b] W (fun _:Unit=>nmV (EO a b)) (fun _=>True) (fun _=>[]):=by
 cases a with
 |none=>
  refine Ac (args:=[nmV none,nmV b]) Tryz.func64 I I I ?_
  refine zA (zB ?_)
  (refine A5 rfl rfl rfl rfl ?_;intro)
  (refine A5 rfl rfl rfl rfl ?_;intro)
  (refine Ag Tryz.hZ rfl rfl rfl rfl ?_;intro)
  refine Aa (zE (zA (zA (zB (wP I (wB 0 I I I (wP I (Aa (zE (zR I (zA (zB (wB 0 I I I ?_)))))))))))))
  exact wS 2 I I I (Aa (zE (zO (zP (Au tH I (.cell 2 I I I I I) () I tO fun W _=>As.nil _ _)))))
 |some p=>
  cases b with
  |none=>
   refine Ac (args:=[nmV (some p),nmV none]) Tryz.func64 I I I ?_
   refine zA (zB ?_)
   (refine A5 rfl rfl rfl rfl ?_;intro)
   (refine A5 rfl rfl rfl rfl ?_;intro)
   (refine Ag Tryz.hZ rfl rfl rfl rfl ?_;intro)
   refine Aa (zE (zA (zA (zB (wP I (wB 0 I I I (wP I (Aa (zE (zS I (zI (zE (zA (zA ?_))))))))))))))
   refine zB (wP I (wB 1 I I I (wP I (Aa (zE (zR I (zA (zB (wB 1 I I I (wS 2 I I I (Aa (zE (zO ?_)))))))))))))
   exact zP (Au tH I (.cell 2 I I I I I) () I tO fun W _=>As.nil _ _)
  |some q=>
   obtain⟨rs,re,hr⟩:=KW (Ep p q) (p*q)
   have hv:Value.agg #[str rs, .int .i64 re]=nmV (EO (some p) (some q)):=Ut hr
   rw[←hv]
   refine Ac (args:=[nmV (some p),nmV (some q)]) Tryz.func64 I I I ?_
   refine zA (zB ?_)
   (refine A5 rfl rfl rfl rfl ?_;intro)
   (refine A5 rfl rfl rfl rfl ?_;intro)
   (refine Ag Tryz.hZ rfl rfl rfl rfl ?_;intro)
   refine Aa (zE (zA (zA (zB (wP I (wB 0 I I I (wP I (Aa (zE (zS I (zI (zE (zA (zA ?_))))))))))))))
   refine zB (wP I (wB 1 I I I (wP I (Aa (zE (zS I (zI (zE (zA (zB (wP I (wB 0 I I I (wP I ?_)))))))))))))
   refine wB 1 I I I (wC I I (fun W hp=>(Ro p q ha hb W (ht.hp hp)).cast hr) ?_)
   iterate 5 refine wP I ?_
   refine Aa (zE (zA (zB (wP I (wP I ?_)))))
   refine Ay Tryz.hZ tH I I I I I I I I ?_
   exact wS 2 I I I (Aa (zE (zO (Au tH I (.cell 2 I I I I I) () I tO fun W _=>As.nil _ _))))
-- BOXES 5
-- CODE2
theorem RK {z d:Int} (hd:d≠0) (hz:okN z) (hk:okN d):okQ (nrm z d):=(HV (k:=mxd) z hd hz hk).ok (by decide)
theorem CS {q:Rat}:okO (some q)↔okQ q:=Iff.rfl
theorem Ua {ok:Prop} [Decidable ok] {r:Rat} (h:ok→okQ r):okO (opO ok r):=by
 unfold opO
 by_cases c:ok
 ·rw[if_pos c];exact CS.2 (h c)
 ·rw[if_neg c];trivial
theorem MS {p q:Rat} (h:I2 p q):okQ (p-q):=by
 rw[←Ie]
 have h':=Et.1 h
 exact RK D3 h'.2.1 h'.2.2
theorem Nl {p q:Rat} (h:Ep p q):okQ (p*q):=by
 rw[←Ig]
 exact RK D3 h.1 h.2
theorem HZ (a b:Option Rat):okO (BZ a b):=by
 cases a with
 |none=>trivial
 |some p=>cases b with
  |none=>trivial
  |some q=>rw[BZ];exact Ua MS
theorem MK (a b:Option Rat):okO (EO a b):=by
 cases a with
 |none=>trivial
 |some p=>cases b with
  |none=>trivial
  |some q=>rw[EO];exact Ua Nl
theorem Sx (a:Option Rat): ∃s e,nmV a= .agg #[str s, .int .i64 e]∧(a=none∧s=[]∧e=4∨ ∃x,a=some x∧s=Ad x∧e=0):=by
 cases a with
 |none=>exact⟨[],4,rfl,Or.inl ⟨rfl,rfl,rfl⟩⟩
 |some x=>exact⟨Ad x,0,rfl,Or.inr ⟨x,rfl,rfl,rfl⟩⟩
def tA (p q r:Ah):Option Rat:=EO (BZ (some q.1) (some p.1)) (BZ (some r.2) (some p.2))
def tB (p q r:Ah):Option Rat:=EO (BZ (some q.2) (some p.2)) (BZ (some r.1) (some p.1))
def tnV (p q r:Ah):Value:=match tA p q r,tB p q r with
 |some x,some y=>cmV x y
 |_,_=> .tuple #[.int .i64 0, .int .i64 4]
def okP (p:Ah):Prop:=okQ p.1∧okQ p.2
theorem VI (x y:Rat): ∃s e,cmV x y= .tuple #[.int .i64 s, .int .i64 e]:=by unfold cmV;split<;>exact⟨_,_,rfl⟩
theorem PG (p q r:Ah) (hp:okP p) (hq:okP q) (hr:okP r) (W:World) (ht:AO W):
  Aj Tryz.prog 93 #[cvV p,cvV q,cvV r] W (fun _:Unit=>tnV p q r) (fun _=>True) (fun _=>[]):=by
 obtain⟨sa,ea,va,ca⟩:=Sx (EO (BZ (some q.1) (some p.1)) (BZ (some r.2) (some p.2)))
 obtain⟨sb,eb,vb,cb⟩:=Sx (EO (BZ (some q.2) (some p.2)) (BZ (some r.1) (some p.1)))
 refine Ac (args:=[cvV p,cvV q,cvV r]) Tryz.func93 I I I ?_
 refine zA (zB ?_)
 (refine A5 rfl rfl rfl rfl ?_;intro)
 (refine A5 rfl rfl rfl rfl ?_;intro)
 (refine A5 rfl rfl rfl rfl ?_;intro)
 refine wP I (wP I (Aa ?_))
 rename_i b3 b4 b5
 refine zE (A0 ?_)
 refine Bb (X:=Nat) [true,true,true,true,true,true,true,true,true,true,true,true,true,true,true,false,false] (fun b=>[(3,Ai b3),(4,Ai b4),(5,Ai b5),(8,Ai b)]) (fun b=>[⟨b3,35,(cvV p).cells.toList,true,none⟩,⟨b4,35,(cvV q).cells.toList,true,none⟩,⟨b5,35,(cvV r).cells.toList,true,none⟩,⟨b,84,[str sa, .int .i64 ea],true,none⟩])
   2 [⟨b3,35,(cvV p).cells.toList,true,none⟩,⟨b4,35,(cvV q).cells.toList,true,none⟩,⟨b5,35,(cvV r).cells.toList,true,none⟩] Tryz.mixed (by kernel_rfl) ?_ ?_
 ·refine qP I (qB 1 I I I (qC I I (fun W hp=>DP q.1 W) (qP I (qB 0 I I I (qC I I (fun W hp=>DP p.1 W) (qC I I (fun W h=>EV (some q.1) (some p.1) (CS.2 hq.1) (CS.2 hp.1) W (ht.hp h)) (qP I (qB 2 I I I (qC I I (fun W hp=>DP r.2 W) (qP I (qB 0 I I I (qC I I (fun W hp=>DP p.2 W) (qC I I (fun W h=>EV (some r.2) (some p.2) (CS.2 hr.2) (CS.2 hp.2) W (ht.hp h)) ?_)))))))))))))
  refine qC I I (fun W h=>(J8 (BZ (some q.1) (some p.1)) (BZ (some r.2) (some p.2)) (HZ _ _) (HZ _ _) W (ht.hp h)).cast va) (Ck (wX (wZ ?_)))
  refine Ag Tryz.hZ rfl rfl rfl rfl ?_;intro b
  refine Aa (Ab (wX (wZ (wS 3 I I I (Aa (Ab ?_))))))
  refine A8 I (by((repeat (first|refine AC.same ?_|refine AC.off I ?_));exact tO)) ?_
  exact Ar b ⟨I,I,I,I,tO⟩ [0,1,2,3] (by decide) I
 intro b8
 refine zE (A0 ?_)
 refine Bb (X:=Nat) [true,true,true,true,true,true,true,true,true,true,true,true,true,true,true,false,false] (fun b=>[(8,Ai b8),(9,Ai b)]) (fun b=>[⟨b3,35,(cvV p).cells.toList,true,none⟩,⟨b4,35,(cvV q).cells.toList,true,none⟩,⟨b5,35,(cvV r).cells.toList,true,none⟩,⟨b8,84,[str sa, .int .i64 ea],true,none⟩,⟨b,84,[str sb, .int .i64 eb],true,none⟩])
   2 [⟨b3,35,(cvV p).cells.toList,true,none⟩,⟨b4,35,(cvV q).cells.toList,true,none⟩,⟨b5,35,(cvV r).cells.toList,true,none⟩,⟨b8,84,[str sa, .int .i64 ea],true,none⟩] Tryz.mixed (by kernel_rfl) ?_ ?_
 ·refine qP I (qB 1 I I I (qC I I (fun W hp=>DP q.2 W) (qP I (qB 0 I I I (qC I I (fun W hp=>DP p.2 W) (qC I I (fun W h=>EV (some q.2) (some p.2) (CS.2 hq.2) (CS.2 hp.2) W (ht.hp h)) (qP I (qB 2 I I I (qC I I (fun W hp=>DP r.1 W) (qP I (qB 0 I I I (qC I I (fun W hp=>DP p.1 W) (qC I I (fun W h=>EV (some r.1) (some p.1) (CS.2 hr.1) (CS.2 hp.1) W (ht.hp h)) ?_)))))))))))))
  refine qC I I (fun W h=>(J8 (BZ (some q.2) (some p.2)) (BZ (some r.1) (some p.1)) (HZ _ _) (HZ _ _) W (ht.hp h)).cast vb) (Ck (wX (wZ ?_)))
  refine Ag Tryz.hZ rfl rfl rfl rfl ?_;intro b
  refine Aa (Ab (wX (wZ (wS 4 I I I (Aa (Ab ?_))))))
  refine A8 I (by((repeat (first|refine AC.same ?_|refine AC.off I ?_));exact tO)) ?_
  exact Ar b ⟨I,I,tO⟩ [0,1,2,3,4] (by decide) I
 intro b9
 refine zE (zA (zA (zB ?_)))
 rcases ca with⟨ha,rfl,rfl⟩|⟨x,ha,rfl,rfl⟩
 ·skip
  refine wP I (wB 3 I I I (wP I (Aa (zE (zR I (zA (zU (qP I (qB 3 I I I (qP I (qP I (AU (Aa ?_)))))))))))))
  exact zE (zO (zP (wR2 I I (by rw[tnV,tA,ha]))))
 rcases cb with⟨hb,rfl,rfl⟩|⟨y,hb,rfl,rfl⟩
 ·skip
  refine wP I (wB 3 I I I (wP I (Aa (zE (zS I (zI (zE (zA (zA (zB (wP I (wB 4 I I I (wP I ?_)))))))))))))
  exact Aa (zE (zR I (zA (zU (qP I (qB 4 I I I (qP I (qP I (AU (Aa (zE (zO (zP (wR2 I I (by rw[tnV,tA,tB,ha,hb])))))))))))))))
 obtain⟨rs,re,hv⟩:=VI x y
 have hx:okQ x:=by have h:=MK (BZ (some q.1) (some p.1)) (BZ (some r.2) (some p.2));rw[ha] at h;exact CS.1 h
 have hy:okQ y:=by have h:=MK (BZ (some q.2) (some p.2)) (BZ (some r.1) (some p.1));rw[hb] at h;exact CS.1 h
 refine wP I (wB 3 I I I (wP I (Aa (zE (zS I (zI (zE (zA (zA (zB (wP I (wB 4 I I I (wP I ?_)))))))))))))
 refine Aa (zE (zS I (zI (zE (zA (zB (wP I (wB 3 I I I (wP I (wB 4 I I I (wC I I (fun W h=>(RH x y hx hy W (ht.hp h)).cast hv) (wP I (wP I (wP I (wP I ?_)))))))))))))))
 exact Aa (zE (zO (wR2 I I (by rw[tnV,tA,tB,ha,hb];exact hv.symm))))
-- BOXES 5
-- CODE2
def Hf (a:List UInt8):Bool:=(decide (12<a.length)&&decide (a.length<299))||decide (604<a.length)
theorem Ja (a:List UInt8) (W:World):Aj Tryz.prog 125 #[str a] W (fun _:Unit=> .bool (Hf a)) (fun _=>True) (fun _=>[]):=by
 refine Ac (args:=[str a]) Tryz.func125 I I I ?_
 refine zA (zB (wP I (Aa (zE (zA (zB (wP I (wP I ?_))))))))
 refine Af 4 (.int .i64 (a.length:Nat)) I (congrArg (fun n:Nat=>Value.int .i64 (n:Int)) (A4 _)) ?_
 refine wP I ?_
 by_cases h1:12<a.length
 ·refine wU 5 true I (dT (by omega)) (wP I (wP I (wP I ?_)))
  refine Af 8 (.int .i64 (a.length:Nat)) I (congrArg (fun n:Nat=>Value.int .i64 (n:Int)) (A4 _)) ?_
  refine wP I ?_
  by_cases h2:a.length<299
  ·refine wU 9 true I (dT (by omega)) (wP I (wP I ?_))
   iterate 3 refine An I I ?_
   exact wP I (wP I (Aa (zE (zO (wR1 I I (by unfold Hf;rw[dT h1,dT h2];rfl))))))
  ·refine wU 9 false I (dF (by omega)) (wP I (wP I (wP I (wP I ?_))))
   refine Af 13 (.int .i64 (a.length:Nat)) I (congrArg (fun n:Nat=>Value.int .i64 (n:Int)) (A4 _)) ?_
   exact wP I (wU 14 (decide (604<a.length)) I (decide_eq_decide.2 (by omega)) (wP I (wP I (Aa (zE (zO (wR1 I I (by unfold Hf;rw[dT h1,dF h2];rfl))))))))
 ·refine wU 5 false I (dF (by omega)) (wP I ?_)
  iterate 3 refine An I I ?_
  refine wP I (wP I (wP I (wP I ?_)))
  refine Af 13 (.int .i64 (a.length:Nat)) I (congrArg (fun n:Nat=>Value.int .i64 (n:Int)) (A4 _)) ?_
  exact wP I (wU 14 (decide (604<a.length)) I (decide_eq_decide.2 (by omega)) (wP I (wP I (Aa (zE (zO (wR1 I I (by unfold Hf;rw[dF h1];rfl))))))))
abbrev PtS:=List UInt8×List UInt8
def GL (W:World) (p:Option Addr) (l:List PtS):Prop:=l=[]∨ ∃b off,p=some ⟨b,off,none⟩∧ ∀i (hi:i<l.length),Ak W b (off+i*2) [str l[i].1,str l[i].2]
theorem GL.hp {W0 W:World} {bxs:List Bx} {p:Option Addr} {l:List PtS} (h:GL W0 p l) (hp:Hp W0 bxs W):GL W p l:=by
 rcases h with h|⟨b,off,e,h⟩
 ·exact Or.inl h
 ·exact Or.inr ⟨b,off,e,fun i hi=>(h i hi).hp hp⟩
def K5 (x:PtS):Bool:=Hf x.1||Hf x.2
def Kj (l:List PtS):Bool:=l.any K5||decide (8<l.length)
theorem M5 (W:World) (p:Option Addr) (cap:Nat) (l:List PtS) (hA:GL W p l) (hn:l.length<4611686018427387904):Aj Tryz.prog 58 #[slv p l.length cap] W (fun _:Unit=> .bool (Kj l)) (fun _=>True) (fun _=>[]):=by
 refine Ac (args:=[slv p l.length cap]) Tryz.func58 I I I ?_
 refine zA (zB (wP I (Aa (zE (zA (zA (zB (wP I (Aa (zE (zH ?_)))))))))))
 refine AA (X:=Nat) (fun i=>[(0,slv p l.length cap),(3, .int .i64 (i:Nat))]) (fun _=>[]) (fun i=>i≤l.length∧ ∀j (hj:j<l.length),j<i→K5 l[j]=false) (fun i=>l.length-i) 0 ⟨Nat.zero_le _,fun j _ h=>by omega⟩ ⟨I,I,tO⟩ [] I ?_
 rintro i ⟨hi,hno⟩
 have hi:i≤l.length:=hi
 refine zA (zA (zB (wP I (wP I (wP I (wP I ?_))))))
 by_cases hlt:i<l.length
 ·refine wU 7 true I (dT (by omega)) (Aa (zE (zR I (zI (zE (zA (zH (zA (zB ?_)))))))))
  obtain⟨b,off,rfl,hrow⟩: ∃b off,p=some ⟨b,off,none⟩∧ ∀i (hi:i<l.length),Ak W b (off+i*2) [str l[i].1,str l[i].2]:=by
   rcases hA with h|h
   ·rw[h] at hlt;exact absurd hlt (by simp)
   ·exact h
  have hr:=hrow i hlt
  obtain⟨x,hx⟩: ∃x,l[i]=x:=⟨_,rfl⟩
  rw[hx] at hr
  refine wP I (wP I ?_)
  refine wJ ?_
  refine wP I (wL 0 I I (fun W1 hp=>hr.hp hp) I (wC I I (fun W1 _=>Ja x.1 W1) ?_))
  have next:Hf x.1=false→Hf x.2=false→ ∀j (hj:j<l.length),j<i+1→K5 l[j]=false:=by
   intro h1 h2 j hj hji
   rcases Nat.lt_or_ge j i with q|q
   ·exact hno j hj q
   ·obtain rfl:j=i:=by omega
    rw[hx,K5,h1,h2];rfl
  cases h1:Hf x.1 with
  |true=>
   refine wP I ?_
   iterate 6 refine An I I ?_
   refine wP I (Aa (zE (zR I (zA (zB (wP I (Aa (zE (zO (zQ (zP (zP (zQ ?_)))))))))))))
   refine zP ?_
   exact Au tH I (.tmp I) () (by
    have:l.any K5=true:=List.any_eq_true.2 ⟨l[i],List.getElem_mem _,by rw[hx,K5,h1];rfl⟩
    rw[Kj,this];rfl) trivial fun W _=>As.nil _ _
  |false=>
   refine wP I (wP I (wP I ?_))
   refine wJ ?_
   refine wP I (wL 1 I I (fun W1 hp=>hr.hp hp) I (wC I I (fun W1 _=>Ja x.2 W1) ?_))
   cases h2:Hf x.2 with
   |true=>
    refine wP I (Aa (zE (zR I (zA (zB (wP I (Aa (zE (zO (zQ (zP (zP (zQ ?_)))))))))))))
    refine zP ?_
    exact Au tH I (.tmp I) () (by
     have:l.any K5=true:=List.any_eq_true.2 ⟨l[i],List.getElem_mem _,by rw[hx,K5,h1,h2];rfl⟩
     rw[Kj,this];rfl) trivial fun W _=>As.nil _ _
   |false=>
    exact wP I (Aa (zE (zS I (zI (zN (zE (zB (wP I (wP I (wV 9 ((i+1:Nat):Int) I (Az (by omega)) (wP I (Aa (A6 (i+1) ⟨hlt,next h1 h2⟩ (by show l.length-(i+1)<l.length-i;omega) ⟨I,I,tO⟩ [] I)))))))))))))
 ·refine wU 7 false I (dF (by omega)) (Aa (zE (zS I (zJ (zK (zK (zL (zE (zA (zB (wP I (wP I (wP I ?_)))))))))))))
  refine wU 26 (decide (8<l.length)) I (decide_eq_decide.2 (by omega)) (wP I (Aa (zE (zO ?_))))
  exact Au tH I (.tmp I) () (by
   have:l.any K5=false:=by
    rw[List.any_eq_false]
    intro x hx
    obtain⟨j,hj,rfl⟩:=List.getElem_of_mem hx
    rw[hno j hj (by omega)];decide
   rw[Kj,this];rfl) trivial fun W _=>As.nil _ _
-- BOXES 5
-- CODE2
def Gc:List PtS→Int
 |[]=>0
 |x::l=>if (rdR x.1).2≠0 then(rdR x.1).2 else if (rdR x.2).2≠0 then(rdR x.2).2 else Gc l
theorem Ni {l:List PtS} {i:Nat} (h:i<l.length):Gc (l.drop i)=if (rdR l[i].1).2≠0 then(rdR l[i].1).2 else if (rdR l[i].2).2≠0 then(rdR l[i].2).2 else Gc (l.drop (i+1)):=by
 rw[List.drop_eq_getElem_cons h]
 rfl
theorem Hg (W:World) (p:Option Addr) (cap:Nat) (l:List PtS) (hA:GL W p l) (hn:l.length<4611686018427387904) (hs: ∀x∈l,x.1.length<4611686018427387904∧x.2.length<4611686018427387904) (ht:AO W):
  Aj Tryz.prog 92 #[slv p l.length cap] W (fun _:Unit=> .int .i64 (Gc l)) (fun _=>True) (fun _=>[]):=by
 refine Ac (args:=[slv p l.length cap]) Tryz.func92 I I I ?_
 refine zA (zB (wP I (Aa (zE (zA (zA (zB (wP I (Aa (zE (zH ?_)))))))))))
 refine AA (X:=Nat) (fun i=>[(0,slv p l.length cap),(3, .int .i64 (i:Nat))]) (fun _=>[]) (fun i=>i≤l.length∧Gc l=Gc (l.drop i)) (fun i=>l.length-i) 0 ⟨Nat.zero_le _,I⟩ ⟨I,I,tO⟩ [] I ?_
 rintro i ⟨hi,he⟩
 have hi:i≤l.length:=hi
 have he:Gc l=Gc (l.drop i):=he
 refine zA (zA (zB (wP I (wP I (wP I (wP I ?_))))))
 by_cases hlt:i<l.length
 ·refine wU 9 true I (dT (by omega)) (Aa (zE (zR I (zI (zE (zA (zH (zA (zA (zB ?_))))))))))
  obtain⟨b,off,rfl,hrow⟩: ∃b off,p=some ⟨b,off,none⟩∧ ∀i (hi:i<l.length),Ak W b (off+i*2) [str l[i].1,str l[i].2]:=by
   rcases hA with h|h
   ·rw[h] at hlt;exact absurd hlt (by simp)
   ·exact h
  have hr:=hrow i hlt
  have hz:=hs l[i] (List.getElem_mem _)
  rw[Ni hlt] at he
  generalize l[i]=x at hr hz he
  generalize he1:(rdR x.1).2=e1 at he
  generalize he2:(rdR x.2).2=e2 at he
  refine wP I (wP I ?_)
  refine wJ ?_
  refine wP I (wL 0 I I (fun W1 hp=>hr.hp hp) I (wC I I (fun W1 hp=>(Dr x.1 hz.1 W1 (ht.hp hp)).cast (congrArg (Value.int .i64) he1)) (wP I (Aa (zE (zA (zB (wP I (wP I ?_)))))))))
  by_cases h1:e1=0
  ·subst h1
   refine Af 19 (.bool false) I I ?_
   refine Aa (zE (zS I (zI (zE (zA (zB (wP I (wP I ?_))))))))
   refine wJ ?_
   refine wP I (wL 1 I I (fun W1 hp=>hr.hp hp) I (wC I I (fun W1 hp=>(Dr x.2 hz.2 W1 (ht.hp hp)).cast (congrArg (Value.int .i64) he2)) (wP I (Aa (zE (zA (zB (wP I (wP I ?_)))))))))
   by_cases h2:e2=0
   ·subst h2
    refine Af 28 (.bool false) I I ?_
    exact Aa (zE (zS I (zI (zN (zE (zB (wP I (wP I (wV 11 ((i+1:Nat):Int) I (Az (by omega)) (wP I (Aa (A6 (i+1) ⟨hlt,by rw[he];rfl⟩ (by show l.length-(i+1)<l.length-i;omega) ⟨I,I,tO⟩ [] I))))))))))))
   ·refine wU 28 true I (by show(!decide (e2=0))=true;rw[dF h2];rfl) (Aa (zE (zR I (zA (zB (wP I (wP I (Aa (zE (zO (zQ (zP (zP ?_)))))))))))))
    exact zQ (zP (wR1 I I (by rw[he,if_neg (by simp),if_pos h2])))
  ·refine wU 19 true I (by show(!decide (e1=0))=true;rw[dF h1];rfl) (Aa (zE (zR I (zA (zB (wP I (wP I (Aa (zE (zO (zP (zQ (zP (zP ?_))))))))))))))
   exact zQ (zP (wR1 I I (by rw[he,if_pos h1])))
 ·refine wU 9 false I (dF (by omega)) (Aa (zE (zS I (zJ (zK (zK (zL (zE (zA (zB (wP I (Aa (zE ?_)))))))))))))
  exact zO (wR1 I I (by rw[he,List.drop_of_length_le (by omega)];rfl))
-- BOXES 4
-- CODE2
section
variable {P:Program} {N:Nat} {D:List Deferred} {ops:List Oper} {o:Oper} {rest:List Oper} {env:Env} {A A2:World→Prop} {R:Act→World→Prop}
theorem SQ (k:Nat) {d:Nat} {t e:TypeId} {m:Nat} {parts:Array (Nat×Operand)} {vs:List (Nat×Value)} (z:Value) {c:List Value} (ht:P.underlying t=some (.array m e)) (hz: ∀W,(zeroValue t).run P W= .ok z W) (hs: ∀W,(Go.sizeOf e).run P W= .ok k W)
  (hg:A7 ops N env o=some true) (hd:o.dst=some d) (ho:o.op= .build t parts) (hp:Eg (evO N env) parts.toList=some vs) (hc:Gz (JJ k) z.cells.toList vs=some c)
  (h:WQ P N D ops A2 R rest ((d, .agg c.toArray)::env) A):WQ P N D ops A2 R (o::rest) env A:=
 D6 hg hd (fun c e=>by rw[ho] at e;cases e) (fun ρ W hρ _=>by
  have hparts:(parts.map fun(i,x)=>(i,ρ x)).toList=vs:=by rw[←EC hρ hp];simp
  have hfill:=KI hc
  simp only[Array.toArray_toList] at hfill
  have hfill':Instr.fill (fun i=>some (i*k,k)) z.cells (parts.map fun(i,x)=>(i,ρ x)).toList=some c.toArray:=by rw[hparts];exact hfill
  simp only[execOp,ho,Instr.build,Sem.run_bind,hz,Result.andThen_ok,run_underlying ht,hs,Sem.run_pure]
  rw[hfill']
  simp) h
end
section
variable {r:Option Nat} {n:Nat} {P:Program} {N:Nat} {D:List Deferred} {ops:List Oper} {Q:Exit→Act→World→Prop} {o:Oper} {rest:List Oper} {env:Env} {A A2:World→Prop} {R:Act→World→Prop}
theorem Ir {ρ:Operand→Value} {t e:TypeId} {m c:Nat} {x y:Operand} {k:IntKind} {b off:Nat} {z:Int} (ht:P.underlying t=some (.array m e)) (hs: ∀W,(Go.sizeOf e).run P W= .ok c W) (ho:o.op= .indexAddr t x y)
  (hx:ρ x= .pointer (some ⟨b,off,none⟩)) (hy:ρ y= .int k z) (h0:0≤z∧z<m) (W:World):(execOp ρ o).run P W= .ok (.value (.pointer (some ⟨b,off+z.toNat*c,none⟩))) W:=by
 simp[execOp,ho,hx,hy,Instr.indexAt,Instr.sureAddr,asIntOf,run_underlying ht,hs,h0.1,h0.2,Addr.add_none]
theorem EX {d:Nat} {t e:TypeId} {m c:Nat} {x y:Operand} {k:IntKind} {b off:Nat} {z:Int} (ht:P.underlying t=some (.array m e)) (hs: ∀W,(Go.sizeOf e).run P W= .ok c W) (hg:A7 ops N env o=some true) (hd:o.dst=some d) (ho:o.op= .indexAddr t x y)
  (hx:evO N env x=some (.pointer (some ⟨b,off,none⟩))) (hy:evO N env y=some (.int k z)) (h0:0≤z∧z<m)
  (h:WL r n P N D ops Q rest ((d, .pointer (some ⟨b,off+z.toNat*c,none⟩))::env) A):WL r n P N D ops Q (o::rest) env A:=
 CV hg hd (fun c e=>by rw[ho] at e;cases e) (fun _ W hρ _=>Ir ht hs ho (hρ _ _ hx) (hρ _ _ hy) h0 W) h
theorem B5 {d:Nat} {t e:TypeId} {m c:Nat} {x y:Operand} {k:IntKind} {b off:Nat} {z:Int} (ht:P.underlying t=some (.array m e)) (hs: ∀W,(Go.sizeOf e).run P W= .ok c W) (hg:A7 ops N env o=some true) (hd:o.dst=some d) (ho:o.op= .indexAddr t x y)
  (hx:evO N env x=some (.pointer (some ⟨b,off,none⟩))) (hy:evO N env y=some (.int k z)) (h0:0≤z∧z<m)
  (h:WQ P N D ops A2 R rest ((d, .pointer (some ⟨b,off+z.toNat*c,none⟩))::env) A):WQ P N D ops A2 R (o::rest) env A:=
 D6 hg hd (fun c e=>by rw[ho] at e;cases e) (fun _ W hρ _=>Ir ht hs ho (hρ _ _ hx) (hρ _ _ hy) h0 W) h
end
def Ch (W:World) (p:Option Addr) (l:List Ah):Prop:=l=[]∨ ∃b off,p=some ⟨b,off,none⟩∧ ∀i (hi:i<l.length),Ak W b (off+i*2) [str (Ad l[i].1),str (Ad l[i].2)]
theorem Ch.below {W W':World} {p:Option Addr} {l:List Ah} {n:Nat} (h:Ch W p l) (hn:W.heap.size≤n) (hb:Below n W W'):Ch W' p l:=by
 rcases h with h|⟨b,off,h1,h2⟩
 ·exact .inl h
 ·exact .inr ⟨b,off,h1,fun i hi=>(h2 i hi).below hn hb⟩
theorem Ch.hp {W0 W:World} {bxs:List Bx} {p:Option Addr} {l:List Ah} (h:Ch W0 p l) (hp:Hp W0 bxs W):Ch W p l:=h.below (Nat.le_refl _) hp.below
theorem Ch.at_ {W:World} {p:Option Addr} {l:List Ah} (h:Ch W p l) {i:Nat} (hi:i<l.length): ∃g off,p=some ⟨g,off,none⟩∧ ∀k (hk:k<l.length),Ak W g (off+k*2) [str (Ad l[k].1),str (Ad l[k].2)]:=by
 rcases h with h|⟨g,off,e,h⟩
 ·rw[h] at hi;exact absurd hi (Nat.not_lt_zero _)
 ·exact⟨g,off,e,h⟩
abbrev ptS (q:Ah):PtS:=(Ad q.1,Ad q.2)
structure Uc (b:Nat) (p:Option Addr) (cap:Nat) (l:List Ah) (W:World):Prop where
 var:Ak W b 0 [slv p l.length cap]
 pts:Ch W p l
abbrev sdV (p q:Ah):Value:= .agg #[str (Ad p.1),str (Ad p.2),str (Ad q.1),str (Ad q.2)]
abbrev WR (l:List Ah) (k:Nat):List Value:=[.int .i64 (k:Nat),sdV (Ae l k) (Ae l (k+1))]
theorem DW (p:Option Addr) (n cap:Nat) (W:World):Aj Tryz.prog 44 #[slv p n cap] W (fun b:Nat=> .func (.func 103) #[] #[Ai b]) (fun _=>True) (fun b=>[⟨b,22,[slv p n cap],true,none⟩]):=by
 refine Ac (args:=[slv p n cap]) Tryz.func44 I I I ?_
 refine zA (zB ?_)
 (refine A5 rfl rfl rfl rfl ?_;intro)
 refine wP I (Aa ?_)
 rename_i b
 exact zE (zA (zB (wP I (wP I (Aa (zE (zO (Au tH I (.tmp I) b I tO fun W1 hp=>As.of_hp hp))))))))
abbrev MB (b:Nat) (q:Ah):List (Nat×Obj):=[(b, .cells (cvV q).cells 35 (0,0))]
theorem EK (l:List Ah) (b1:Nat) (p:Option Addr) (cap:Nat) (hn:l.length<1099511627776):Qi Tryz.prog 103 [Ai b1] l.length (WR l) (fun _=>Uc b1 p cap l):=by
 refine⟨fun y J Jx hN hB hA hU hY W hJ=> ?_⟩
 have hdr: ∀k L W,J k L W→J k L { W with drawn:=W.drawn+1 }:=fun k L W h=>hB k L W _ h ⟨rfl,rfl,rfl,Nat.le_refl _,fun _ _=>rfl⟩
 have hp0:=(hN _ _ W hJ).1.pts
 refine Eu (args:=[.func (.yield y) #[] #[],Ai b1]) (J0:=J 0 []) (Jm:=fun W=> ∃L,J l.length L W) Tryz.func103 I I I hJ ?_
 refine zA (zB (wL 0 I I (fun W hp=>(hN _ _ W hp).1.var) I (wP I (wP I (Aa (zE (zH ?_)))))))
 refine Eb (X:=Nat×List (Nat×Obj)) (fun s=>[(0, .func (.yield y) #[] #[]),(1,Ai b1),(5,slv p l.length cap),(6, .int .i64 (l.length:Nat)),(7, .int .i64 (s.1:Nat))]) (fun s W=>J s.1 s.2 W)
  (fun s=>s.1≤l.length) (fun s=>l.length-s.1) (0,[]) (Nat.zero_le _) ⟨rfl,rfl,rfl,rfl,rfl,trivial⟩ (fun W hp=>hp) ?_
 rintro⟨i,L⟩ hi
 have hi:i≤l.length:=hi
 refine zA (zB (wP I ?_))
 by_cases hlt:i<l.length
 rotate_left
 ·refine wU 8 false I (dF (by omega)) (Aa (zE (zA (zS I (zJ (zK (zK (zL ?_))))))))
  exact Im I fun W hp=>⟨L,by
   have e:i=l.length:=by omega
   have hp:J i L W:=hp
   rw[e] at hp
   exact hp⟩
 refine wU 8 true I (dT (by omega)) (Aa (zE (zA (zR I (zI (zE (zA (zH (zA (zB ?_))))))))))
 have hn0:0<l.length:=by omega
 have l2:(i+1)%l.length<l.length:=Nat.mod_lt _ hn0
 obtain⟨g,off,hpe,hrow⟩: ∃g off,p=some ⟨g,off,none⟩∧ ∀W k L,J k L W→ ∀j,j<l.length→Ak W g (off+j*2) [str (Ad (Ae l j).1),str (Ad (Ae l j).2)]:=by
  obtain⟨g,off,e,_⟩:=hp0.at_ hlt
  refine⟨g,off,e,fun W1 k L1 h1 j hj=> ?_⟩
  obtain⟨g',off',e',h2⟩:=(hN _ _ W1 h1).1.pts.at_ hj
  rw[e] at e'
  cases e'
  rw[AG hj]
  exact h2 j hj
 subst hpe
 have hz:(l.length:Int)≠0:=by omega
 have e2:(w64 ((i:Int)+1)).tmod (l.length:Int)=(((i+1)%l.length:Nat):Int):=by
  rw[Ap (x:=(i:Int)+1) (by omega) (by omega)]
  rfl
 refine wP I ?_
 refine wJ ?_
 refine wL 0 I I (fun W hp=>hrow W _ _ hp i hlt) I ?_
 refine MX (fun b W=>J i [(b, .cells (Value.agg #[str [],str []]).cells 35 (0,0))] W) I I I (Tryz.hZ.get I) (fun W W' b hp hb hl ho=>hA _ _ W W' b _ hp hb hl ho) fun b=> ?_
 refine wP I ?_
 refine Ns (cs:=[str [],str []]) (ty:=35) (fun W=>J i (MB b (Ae l i)) W) tH I I I I I I (fun W hp=>(hN _ _ W hp).2 (b,_) (List.mem_cons_self ..)) I I I (fun W W' hp hu=>hU _ _ _ _ W W' hp hu) ?_
 refine Aa (zE (A0 ?_))
 refine RL 12 (hdr _ _) Tryz.mixed (by kernel_rfl) I ?_
 refine qP I (qP I (qL 0 I I (fun W hp=>show Ak W b 0 (cvV (Ae l i)).cells.toList from Ak.of_block ((hN _ _ W hp).2 (b,_) (List.mem_cons_self ..))) I (qL 0 I I (fun W hp=>(hN _ _ W hp).1.var) I (qP I (qP I (qL 0 I I (fun W hp=>(hN _ _ W hp).1.var) I (qP I ?_)))))))
 refine Ez I I I I I hz ?_
 refine qV 20 (((i+1)%l.length:Nat):Int) I e2 ?_
 refine qJ ?_
 refine qL 0 I I (fun W hp=>hrow W _ _ hp ((i+1)%l.length) l2) I ?_
 refine SQ 2 (.agg #[str [],str [],str [],str []]) Tryz.underlying66 (fun W=>by kernel_rfl) Tryz.sizeOf35 I I I I I ?_
 refine AU ?_
 have hYk: ∀W,J i (MB b (Ae l i)) W→YieldAt (Fw none) 0 Tryz.prog y (WR l i).toArray W fun e W'=>(e= .returned (.bool true)∧J (i+1) (MB b (Ae l i)) W')∨(e= .returned (.bool false)∧Jx W'):=fun W h=>hY _ _ W hlt h
 unfold WR at hYk
 rw[←BH l (i+1)] at hYk
 refine G8 (A1:=fun W=>J (i+1) (MB b (Ae l i)) W) (A2:=Jx) I I I I I I hYk ?_ ?_
 rotate_left
 ·exact wP I (Aa (zE (zR I (zO (zQ (zP (zP (zQ (Dl I (fun W h=>h))))))))))
 exact wP I (Aa (zE (zS I (zI (zN (zE (zB (wP I (wV 26 ((i+1:Nat):Int) I (Az (by omega)) (wP I (Aa (Ej (i+1,MB b (Ae l i)) hlt (by show l.length-(i+1)<l.length-i;omega) ⟨I,I,I,I,I,tO⟩ (fun W hp=>hp)))))))))))))
theorem Ld (W:World) (p:Option Addr) (cap:Nat) (l:List PtS) (hA:GL W p l) (hn:l.length<4611686018427387904) (hs: ∀x∈l,x.1.length≤4000000000∧x.2.length≤4000000000) (hv:BU W) (ht:AO W):
  Aj Tryz.prog 54 #[slv p l.length cap] W (fun _:Unit=> .int .i64 (Gc l)) (fun _=>True) (fun _=>[]):=by
 refine Ac (args:=[slv p l.length cap]) Tryz.func54 I I I ?_
 refine zA (zB (wP I (Aa (zE (zA (zA (zB (wP I (wP I (wP I (Aa (zE (zH ?_)))))))))))))
 refine AA (X:=Nat) (fun i=>[(2, .int .i64 0),(8,slv p l.length cap),(9, .int .i64 (l.length:Nat)),(10, .int .i64 (i:Nat))]) (fun _=>[]) (fun i=>i≤l.length∧Gc l=Gc (l.drop i)) (fun i=>l.length-i) 0 ⟨Nat.zero_le _,I⟩ ⟨I,I,I,I,tO⟩ [] I ?_
 rintro i ⟨hi,he⟩
 have hi:i≤l.length:=hi
 have he:Gc l=Gc (l.drop i):=he
 refine zA (zB (wP I ?_))
 by_cases hlt:i<l.length
 rotate_left
 ·refine wU 11 false I (dF (by omega)) (Aa (zE (zA (zS I (zJ (zK (zK (zL (zE (zA (zB (wP I (Aa ?_)))))))))))))
  exact zE (zO (wR1 I I (by rw[he,List.drop_of_length_le (by omega)];rfl)))
 refine wU 11 true I (dT (by omega)) (Aa (zE (zA (zR I (zI (zE (zA (zH (zA (zB ?_))))))))))
 obtain⟨b,off,rfl,hrow⟩: ∃b off,p=some ⟨b,off,none⟩∧ ∀i (hi:i<l.length),Ak W b (off+i*2) [str l[i].1,str l[i].2]:=by
  rcases hA with h|h
  ·rw[h] at hlt;exact absurd hlt (by simp)
  ·exact h
 have hr:=hrow i hlt
 have hz:=hs l[i] (List.getElem_mem _)
 rw[Ni hlt] at he
 obtain⟨⟨x,y⟩,hx⟩: ∃x,x=l[i]:=⟨_,rfl⟩
 rw[←hx] at hr hz he
 simp only at hr hz he
 refine wJ ?_
 refine wL 0 I I (fun W1 hp=>hr.hp hp) I ?_
 (refine Ag Tryz.hZ rfl rfl rfl rfl ?_;intro)
 refine wS 0 I I I (Aa (zE (zA (zB (wP I (wB 0 I I I (wP I (wB 0 I I I ?_))))))))
 refine AD Tryz.hZ tH I I I I I I I I I I I fun bS=> ?_
 refine wP I (wP I (Aa ?_))
 rename_i b4
 refine zE (zH ?_)
 refine AA (X:=Nat) (fun k=>[(2, .int .i64 0),(8,slv (some ⟨b,off,none⟩) l.length cap),(9, .int .i64 (l.length:Nat)),(10, .int .i64 (i:Nat)),(18,slv (some ⟨bS,0,none⟩) 2 2),(19, .int .i64 2),(20, .int .i64 (k:Nat))]) (fun _=>[⟨b4,35,[str x,str y],true,none⟩,⟨bS,23,[str x,str y],true,none⟩]) (fun k=>k=0∨k=1∧(rdR x).2=0∨k=2∧(rdR x).2=0∧(rdR y).2=0) (fun k=>2-k) 0 (Or.inl I) ⟨I,I,I,I,I,I,I,tO⟩ [] I ?_
 rintro k (rfl|⟨rfl,h1⟩|⟨rfl,h1,h2⟩)
 ·refine zA (zB (wP I (Aa (zE (zA (zR I (zI (zE (zA (zH (zA (zB (wI I I (by decide) (by decide) ?_)))))))))))))
  refine wB 1 I I I (wP I (Aa (zE (zA (zB (wP I (wC I I (fun W1 hp=>GF x hz.1 W1 (hv.hp hp) (ht.hp hp)) (wP I (Aa (zE (zA (zB (wP I (wP I ?_))))))))))))))
  by_cases h1:(rdR x).2=0
  rotate_left
  ·refine wU 27 true I (bne_iff_ne.2 h1) (Aa (zE (zR I (zA (zB (wP I (wP I (Aa (zE (zO (zQ (zP (zP ?_)))))))))))))
   refine zQ (zQ (zP (zP (zQ (zP ?_)))))
   rw[if_pos h1] at he
   exact wR1 I I (by rw[he])
  exact wU 27 false I (bne_eq_false_iff_eq.2 h1) (Aa (zE (zS I (zI (zN (zE (zB (wP I (wP I (Aa (A6 1 (Or.inr (Or.inl ⟨I,h1⟩)) (by decide) ⟨I,I,I,I,I,I,I,tO⟩ [] I)))))))))))
 ·rw[if_neg (fun h=>h h1)] at he
  refine zA (zB (wP I (Aa (zE (zA (zR I (zI (zE (zA (zH (zA (zB (wI I I (by decide) (by decide) ?_)))))))))))))
  refine wB 1 I I I (wP I (Aa (zE (zA (zB (wP I (wC I I (fun W1 hp=>GF y hz.2 W1 (hv.hp hp) (ht.hp hp)) (wP I (Aa (zE (zA (zB (wP I (wP I ?_))))))))))))))
  by_cases h2:(rdR y).2=0
  rotate_left
  ·refine wU 27 true I (bne_iff_ne.2 h2) (Aa (zE (zR I (zA (zB (wP I (wP I (Aa (zE (zO (zQ (zP (zP ?_)))))))))))))
   refine zQ (zQ (zP (zP (zQ (zP ?_)))))
   rw[if_pos h2] at he
   exact wR1 I I (by rw[he])
  exact wU 27 false I (bne_eq_false_iff_eq.2 h2) (Aa (zE (zS I (zI (zN (zE (zB (wP I (wP I (Aa (A6 2 (Or.inr (Or.inr ⟨I,h1,h2⟩)) (by decide) ⟨I,I,I,I,I,I,I,tO⟩ [] I)))))))))))
 ·rw[if_neg (fun h=>h h1),if_neg (fun h=>h h2)] at he
  refine zA (zB (wP I (Aa (zE (zA (zS I (zJ (zK (zK (zL (zN (zE (zB ?_)))))))))))))
  exact wP I (wV 30 ((i+1:Nat):Int) I (Az (by omega)) (wP I (Aa (A6 (i+1) ⟨hlt,he⟩ (by show l.length-(i+1)<l.length-i;omega) ⟨I,I,I,I,tO⟩ [_,_] I))))
-- BOXES 12
-- CODE2
def Hi (k:Nat) (l:List Ah):Prop:= ∀p∈l,szQ p.1 k∧szQ p.2 k
theorem Hi.at_ {k:Nat} {l:List Ah} (h:Hi k l) (h0:0<l.length) (i:Nat):szQ (Ae l i).1 k∧szQ (Ae l i).2 k:=h _ (AX h0 i)
theorem So {p q r:Ah} {k:Nat} (hp:szQ p.1 k∧szQ p.2 k) (hq:szQ q.1 k∧szQ q.2 k) (hr:szQ r.1 k∧szQ r.2 k) (hk:k≤36):WS p q r:=by
 have a:=hq.1.sub hp.1
 have b:=hr.2.sub hp.2
 have c:=hq.2.sub hp.2
 have d:=hr.1.sub hp.1
 exact⟨sz2 hq.1 hp.1 (by omega),sz2 hr.2 hp.2 (by omega),sz2 hq.2 hp.2 (by omega),sz2 hr.1 hp.1 (by omega),sz2 a b (by omega),sz2 c d (by omega),sz2 (a.mul b) (c.mul d) (by omega)⟩
theorem Xo {x y:Rat} (h:y<x):Dv x y=1:=by
 have h1:=HN x y
 rw[dT h] at h1
 have h2:=of_decide_eq_true h1
 rcases GW x y with e|e|e<;>omega
theorem T8 {p q r:Ah} (h:0<A9 p q r):RF p q r=1:=Xo (by unfold A9 at h;grind)
theorem TO {l:List Ah} (h:Bh l) {k i:Nat} (hk:k<l.length) (hi:i<l.length) (h1:i≠k) (h2:i≠(k+1)%l.length):RF (Ae l k) (Ae l (k+1)) (Ae l i)=1:=by
 refine T8 (Cp.sideS h hk hi h1 ?_ ?_)
 ·intro e
  rw[e,Nat.mod_eq_of_lt (by omega)] at h2
  exact h2 I
 ·rintro⟨e,e2⟩
  rw[e,e2,Nat.mod_self] at h2
  exact h2 I
theorem Bu {W0 W:World} {bxs:List Bx} (hp:Hp W0 bxs W) (k:Nat) {c:Nat} (h:bxs[k]? =some ⟨c,61,[.int .i64 0],true,none⟩):C9 W c:=
 (hp.own.cell k _ h (c,_) (List.mem_cons_self ..)).1
theorem Ch.b {W:World} {p:Option Addr} {l:List Ah} (h:Ch W p l):GL W p (l.map ptS):=by
 rcases h with e|⟨g,off,e,hr⟩
 ·exact .inl (by rw[e];rfl)
 ·refine .inr ⟨g,off,e,fun i hi=> ?_⟩
  rw[List.getElem_map]
  exact hr i (by rw[List.length_map] at hi;exact hi)
theorem Sw: ∀ {l:List Ah},(∀p∈l,okQ p.1∧okQ p.2)→Gc (l.map ptS)=0
 |[],_=>rfl
 |p::l,h=>by
  obtain⟨h1,h2⟩:=h p (List.mem_cons_self ..)
  show(if (rdR (Ad p.1)).2≠0 then _ else if (rdR (Ad p.2)).2≠0 then _ else Gc (l.map ptS))=0
  rw[JT h1,JT h2,if_neg (fun h=>h rfl),if_neg (fun h=>h rfl)]
  exact Sw fun q hq=>h q (List.mem_cons_of_mem _ hq)
theorem He (W:World) (p:Option Addr) (cap:Nat) (l:List Ah) (hA:Ch W p l) (hn:l.length≤100000) (hk: ∀p∈l,okQ p.1∧okQ p.2) (hv:BU W) (ht:AO W):
  Aj Tryz.prog 54 #[slv p l.length cap] W (fun _:Unit=> .int .i64 0) (fun _=>True) (fun _=>[]):=by
 have h:=Ld W p cap (l.map ptS) hA.b (by rw[List.length_map];omega) (fun x hx=>by
  obtain⟨q,hq,rfl⟩:=List.mem_map.1 hx
  have h1:=Bk (hk q hq).1
  have h2:=Bk (hk q hq).2
  show(Ad q.1).length≤_∧(Ad q.2).length≤_
  omega) hv ht
 rwa [Sw hk,List.length_map] at h
theorem Ou (l:List Ah) (hP:Bh l) (h3:3≤l.length) (hn:l.length≤4096) (hs:Hi 36 l) (p:Option Addr) (cap:Nat) (W:World) (hA:Ch W p l) (hv:BU W) (ht:AO W):
  Aj Tryz.prog 18 #[slv p l.length cap] W (fun _:Unit=> .int .i64 0) (fun _=>True) (fun _=>[]):=by
 have hn0:0<l.length:=by omega
 have hz:(l.length:Int)≠0:=by omega
 refine Ac (args:=[slv p l.length cap]) Tryz.func18 I I I ?_
 refine zA (zB ?_)
 (refine A5 rfl rfl rfl rfl ?_;intro)
 (refine Ag Tryz.hZ rfl rfl rfl rfl ?_;intro)
 refine Aa ?_
 rename_i b1 b2
 refine zE (zA (zH (zA (zB (wB 0 I I I (wP I (wP I (wU 13 false I (dF (by omega)) (wP I (Aa (zE (zS I (zA ?_)))))))))))))
 refine zB (wB 0 I I I (wP I (wP I (wU 17 false I (dF (by omega)) (wP I (Aa (zE (zS I (zI (zN (zE (zA (zA ?_)))))))))))))
 refine zB (wB 0 I I I (wC I I (fun W1 hp=>He W1 p cap l (hA.hp hp) (by omega) (fun q hq=>⟨(hs q hq).1.ok (by decide),(hs q hq).2.ok (by decide)⟩) (hv.hp hp) (ht.hp hp)) (wP I (Aa (zE (zA (zB (wP I (wP I (Aa (zE (zS I (zI ?_)))))))))))))
 refine zE (zA (zB ?_))
 refine Ay Tryz.hZ tH I I I I I I I I ?_
 (refine A5 rfl rfl rfl rfl ?_;intro)
 (refine Ag Tryz.hZ rfl rfl rfl rfl ?_;intro)
 (refine Ag Tryz.hZ rfl rfl rfl rfl ?_;intro)
 refine wS 3 I I I (wS 4 I I I (Aa ?_))
 rename_i bC b4 b5
 refine zE (zA (zA (zB (wB 0 I I I ?_))))
 refine wD (X:=Nat) I I (fun W1 _=>DW p l.length cap W1) ?_
 intro bp _
 refine Aa (zE (zH ?_))
 refine Fp (X:=Unit) (fun _=>[⟨b1,22,[slv p l.length cap],true,none⟩,⟨b2,27,[.int .i64 0],true,none⟩,⟨bC,61,[.int .i64 0],true,none⟩,⟨b4,59,[Ai bC],true,none⟩,⟨b5,4,[.bool false],true,none⟩,⟨bp,22,[slv p l.length cap],true,none⟩])
  (fun _ _=>True) (fun _ _=>False) () rfl (by kernel_rfl) (EK l bp p cap (by omega)) (fun _=>rfl)
  trivial [] rfl (fun k x W1 _ hp=>⟨Ak.of_bx hp 5 rfl rfl,hA.hp hp⟩) ?_ ?_ (fun _ _ _ _ _ h=>h.elim)
 ·rintro k ⟨⟩ d l' rec L hk _ hrec
  have hk:k<l.length:=hk
  refine zA (zB (wP I (Aa (zE (zB ?_)))))
  (refine Ag Tryz.hZ rfl rfl rfl rfl ?_;intro)
  refine wS 9 I I I (Aa ?_)
  rename_i b7
  refine Dc 8 hrec I ?_
  refine CF (zA (zB (wB 1 I I I (wP I (wP I (Aa (zE (zH ?_))))))))
  refine AA (X:=Nat) (fun i=>[(1,Ai b1),(2,Ai b2),(4,Ai b4),(5,Ai b5),(6, .int .i64 (k:Nat)),(7,Ai b7),(29,slv p l.length cap),(30, .int .i64 (l.length:Nat)),(31, .int .i64 (i:Nat))])
   (fun _=>[AP L,⟨b1,22,[slv p l.length cap],true,none⟩,⟨b2,27,[.int .i64 0],true,none⟩,⟨bC,61,[.int .i64 0],true,none⟩,⟨b4,59,[Ai bC],true,none⟩,⟨b5,4,[.bool false],true,none⟩,⟨bp,22,[slv p l.length cap],true,none⟩,BD d,Bm l' rec .busy none,⟨b7,66,(sdV (Ae l k) (Ae l (k+1))).cells.toList,true,none⟩])
   (fun i=>i≤l.length) (fun i=>l.length-i) 0 (Nat.zero_le _) ⟨rfl,rfl,rfl,rfl,rfl,rfl,rfl,rfl,rfl,trivial⟩ [] rfl ?_
  intro i hi
  have hi:i≤l.length:=hi
  refine zA (zB (wP I ?_))
  by_cases hlt:i<l.length
  rotate_left
  ·exact wU 32 false I (dF (by omega)) (Aa (zE (zA (zS I (zJ (zK (zK (zL (zN (Ct 8 () hrec I tO [_] I))))))))))
  refine wU 32 true I (dT (by omega)) (Aa (zE (zA (zR I (zI (zE (zA (zH (zA (zB ?_))))))))))
  obtain⟨g,off,hpe,hrow⟩:=hA.at_ hlt
  have hrow:=hrow i hlt
  rw[←AG hlt] at hrow
  subst hpe
  refine wP I ?_
  refine wJ ?_
  refine wL 0 I I (fun W1 hp=>hrow.hp hp) I ?_
  (refine Ag Tryz.hZ rfl rfl rfl rfl ?_;intro)
  refine wP I (wS 10 I I I (Aa ?_))
  rename_i b9
  refine zE (zA (zA (zB (wP I (wP I (wP I ?_))))))
  by_cases h1:i=k
  ·refine wU 38 false I (bne_eq_false_iff_eq.2 (by omega)) (wP I ?_)
   iterate 7 refine An I I ?_
   refine wP I (wP I ?_)
   iterate 8 refine An I I ?_
   refine wP I (Aa (zE (zS I (zI (zE (zA (zB (wB 4 I I I ?_))))))))
   refine AL I I I I ?_
   exact wP I (wB 3 I I I (wP I (Aa (zE (zS I (zI (zN (zE (zB (wP I (wV 67 ((i+1:Nat):Int) I (Az (by omega)) (wP I (Aa (A6 (i+1) hlt (by show l.length-(i+1)<l.length-i;omega) ⟨I,I,I,I,I,I,I,I,I,tO⟩ [_] I))))))))))))))
  refine wU 38 true I (bne_iff_ne.2 (by omega)) (wP I (wP I (wP I (wP I (wV 42 ((k+1:Nat):Int) I (Az (by omega)) (wB 1 I I I (wP I ?_)))))))
  refine Fx I I I I I hz ?_
  refine wV 45 (((k+1)%l.length:Nat):Int) I I (wP I ?_)
  by_cases h2:i=(k+1)%l.length
  ·refine wU 46 false I (bne_eq_false_iff_eq.2 (by omega)) (wP I (wP I ?_))
   iterate 8 refine An I I ?_
   refine wP I (Aa (zE (zS I (zI (zE (zA (zB (wB 4 I I I ?_))))))))
   refine AL I I I I ?_
   exact wP I (wB 3 I I I (wP I (Aa (zE (zS I (zI (zN (zE (zB (wP I (wV 67 ((i+1:Nat):Int) I (Az (by omega)) (wP I (Aa (A6 (i+1) hlt (by show l.length-(i+1)<l.length-i;omega) ⟨I,I,I,I,I,I,I,I,I,tO⟩ [_] I))))))))))))))
  refine wU 46 true I (bne_iff_ne.2 (by omega)) (wP I (wP I (wB 4 I I I ?_)))
  refine EX Tryz.underlying66 Tryz.sizeOf35 I I I I I ⟨by decide,by decide⟩ ?_
  refine wB 9 I I I ?_
  refine EX Tryz.underlying66 Tryz.sizeOf35 I I I I I ⟨by decide,by decide⟩ ?_
  refine wB 9 I I I (wB 10 I I I (wC I I (fun W1 hp=>(Qq bC (Ae l k) (Ae l (k+1)) (Ae l i) (So (hs.at_ hn0 _) (hs.at_ hn0 _) (hs.at_ hn0 _) (by decide)) W1 (Bu hp 3 I) (hv.hp hp) (ht.hp hp)).cast (v':= .int .i64 1) (by rw[TO hP hk hlt h1 h2])) (wP I (wP I (Aa (zE (zS I (zI (zE (zA (zB (wB 4 I I I ?_))))))))))))
  refine AL I I I I ?_
  exact wP I (wB 3 I I I (wP I (Aa (zE (zS I (zI (zN (zE (zB (wP I (wV 67 ((i+1:Nat):Int) I (Az (by omega)) (wP I (Aa (A6 (i+1) hlt (by show l.length-(i+1)<l.length-i;omega) ⟨I,I,I,I,I,I,I,I,I,tO⟩ [_] I))))))))))))))
 ·rintro⟨⟩ d l' rec _
  refine zN (zE (zA (zA (zB (wB 4 I I I (Aa (zE (zS I (zI (zE (zA (zB (wS 1 I I I ?_)))))))))))))
  refine Aa (zE (zO ?_))
  refine CN 6 I ?_
  exact Au tH I (.cell 1 I I I I I) () I tO fun W _=>As.nil _ _
-- BOXES 6
-- CODE2
structure Gi (W:World) (p:Option Addr) (l:List Ah):Prop where
 poly:Bh l
 n3:3≤l.length
 n:l.length≤4096
 sz:Hi 36 l
 m:Ch W p l
 v:BU W
 t:AO W
theorem Gi.hp {W0 W:World} {bxs:List Bx} {p:Option Addr} {l:List Ah} (h:Gi W0 p l) (hp:Hp W0 bxs W):Gi W p l:=⟨h.poly,h.n3,h.n,h.sz,h.m.hp hp,h.v.hp hp,h.t.hp hp⟩
theorem Gi.chk {W:World} {p:Option Addr} {l:List Ah} (h:Gi W p l) (cap:Nat):Aj Tryz.prog 18 #[slv p l.length cap] W (fun _:Unit=> .int .i64 0) (fun _=>True) (fun _=>[]):=
 Ou l h.poly h.n3 h.n h.sz p cap W h.m h.v h.t
theorem FU (l:List Ah) (p:Option Addr) (cap:Nat) (W:World) (h:Gi W p l):
  Aj Tryz.prog 41 #[slv p l.length cap, .slice none 0 0] W (fun _:Unit=> .int .i64 0) (fun _=>True) (fun _=>[]):=by
 refine Ac (args:=[slv p l.length cap, .slice none 0 0]) Tryz.func41 I I I ?_
 refine zA (zB (wP I (Aa (zE (zA (zA (zB (wP I (wC I I (fun W1 hp=>(h.hp hp).chk cap) (wP I (Aa (zE (zS I ?_)))))))))))))
 refine zI (zE (zA (zA (zB (wP I (wP I (wP I (Aa (zE (zH ?_))))))))))
 refine AA (X:=Unit) (fun _=>[(1, .slice none 0 0),(4, .int .i64 0),(12, .int .i64 0),(13, .int .i64 0)]) (fun _=>[]) (fun _=>True) (fun _=>0) () tO ⟨I,I,I,I,tO⟩ [] I ?_
 intro _ _
 refine zA (zB (wP I (Aa (zE (zA (zS I (zJ (zK (zK (zL (zE (zA (zA ?_)))))))))))))
 refine zB (wP I (wP I (wP I (wP I ?_))))
 iterate 4 refine An I I ?_
 refine wP I (wP I ?_)
 iterate 4 refine An I I ?_
 exact wP I (Aa (zE (zS I (zI (zE (zA (zB (wP I (Aa (zE (zO (wR1 I I I))))))))))))
theorem Iy (l:List Ah) (p:Option Addr) (cap:Nat) (a b d:Rat) (ha:okQ a) (hb:okQ b) (hd:okQ d) (h0:a≠0∨b≠0) (g cp:Nat) (W:World) (h:Gi W p l) (hrow:Ak W g 0 [str (Ad a),str (Ad b),str (Ad d)]):
  Aj Tryz.prog 41 #[slv p l.length cap,slv (some ⟨g,0,none⟩) 3 cp] W (fun _:Unit=> .int .i64 0) (fun _=>True) (fun _=>[]):=by
 have hv:=h.v
 have ht:=h.t
 have hS:HO W (some ⟨g,0,none⟩) [Ad a,Ad b,Ad d]:= .inr ⟨g,0,rfl,hrow⟩
 have hok: ∀x∈[Ad a,Ad b,Ad d],x.length≤4000000000∧(rdR x).2=0:=fun x hx=>by
  have one: ∀ {q:Rat},okQ q→(Ad q).length≤4000000000∧(rdR (Ad q)).2=0:=fun {q} hq=>by
   have:=Bk hq
   exact⟨by omega,by rw[JT hq]⟩
  rcases List.mem_cons.1 hx with rfl|hx
  ·exact one ha
  ·rcases List.mem_cons.1 hx with rfl|hx
   ·exact one hb
   ·obtain rfl:=List.mem_singleton.1 hx;exact one hd
 refine Ac (args:=[slv p l.length cap,slv (some ⟨g,0,none⟩) 3 cp]) Tryz.func41 I I I ?_
 refine zA (zB (wP I (Aa (zE (zA (zA (zB (wP I (wC I I (fun W1 hp=>(h.hp hp).chk cap) (wP I (Aa (zE (zS I ?_)))))))))))))
 refine zI (zE (zA (zA (zB (wP I (wP I (wP I (Aa (zE (zH ?_))))))))))
 refine AA (X:=Nat) (fun i=>[(1,slv (some ⟨g,0,none⟩) 3 cp),(4, .int .i64 0),(11,slv (some ⟨g,0,none⟩) 3 cp),(12, .int .i64 3),(13, .int .i64 (i:Nat))]) (fun _=>[]) (fun i=>i≤3) (fun i=>3-i) 0 (Nat.zero_le _) ⟨I,I,I,I,I,tO⟩ [] I ?_
 intro i hi
 have hi:i≤3:=hi
 refine zA (zB (wP I ?_))
 by_cases hlt:i<3
 ·refine wU 14 true I (dT (by omega)) (Aa (zE (zA (zR I (zI (zE (zA (zH (zA (zB ?_))))))))))
  obtain⟨g',off,hpe,hr⟩:=hS.row (i:=i) hlt
  have hr:=hr i hlt
  obtain⟨x,hx⟩: ∃x,x=[Ad a,Ad b,Ad d][i]'hlt:=⟨_,rfl⟩
  obtain⟨hl,hE⟩:=hok x (hx▸List.getElem_mem hlt)
  rw[←hx] at hr
  cases hpe
  refine wJ ?_
  refine wL 0 I I (fun W1 hp=>hr.hp hp) I (wP I (Aa (zE (zA (zB (wP I (wC I I (fun W1 hp=>(GF x hl W1 (hv.hp hp) (ht.hp hp)).cast (v':= .int .i64 0) (by rw[hE])) (wP I (Aa (zE (zA (zB (wP I (wP I ?_))))))))))))))
  exact Aa (zE (zS I (zI (zN (zE (zB (wP I (wV 22 ((i+1:Nat):Int) I (Az (by omega)) (wP I (Aa (A6 (i+1) hlt (by show 3-(i+1)<3-i;omega) ⟨I,I,I,I,I,tO⟩ [] I)))))))))))
 refine wU 14 false I (dF (by omega)) (Aa (zE (zA (zS I (zJ (zK (zK (zL (zE (zA (zA (zB ?_))))))))))))
 have r0:Ak W g (0+0*1) [str (Ad a)]:=⟨hrow.lt,fun k u hu=>by
  cases k with
  |zero=>simp at hu;exact hrow.get 0 u (by simpa using hu)
  |succ k=>simp at hu⟩
 have r1:Ak W g (0+1*1) [str (Ad b)]:=⟨hrow.lt,fun k u hu=>by
  cases k with
  |zero=>simp at hu;exact hrow.get 1 u (by simpa using hu)
  |succ k=>simp at hu⟩
 iterate 5 refine wP I ?_
 refine wI I I (by decide) (by decide) (wL 0 I I (fun W1 hp=>r0.hp hp) I (wP I ?_))
 by_cases ha0:a=0
 ·have hb0:b≠0:=by rcases h0 with h0|h0;exact absurd ha0 h0;exact h0
  refine wU 30 true I ((Be _ _).trans ((L7 a).trans (dT ha0))) (wP I (wP I (wP I (wI I I (by decide) (by decide) (wL 0 I I (fun W1 hp=>r1.hp hp) I (wP I (wU 36 false I ((Be _ _).trans ((L7 b).trans (dF hb0))) (wP I (Aa (zE (zS I (zI (zE ?_)))))))))))))
  exact zA (zB (wP I (Aa (zE (zO (wR1 I I I))))))
 ·refine wU 30 false I ((Be _ _).trans ((L7 a).trans (dF ha0))) (wP I (wP I ?_))
  iterate 4 refine An I I ?_
  exact wP I (Aa (zE (zS I (zI (zE (zA (zB (wP I (Aa (zE (zO (wR1 I I I))))))))))))
structure WW (f:Bn) (q:Ah):Prop where
 m1:Sz2 f.a q.1
 m2:Sz2 f.b q.2
 s:Sz2 (f.a*q.1) (f.b*q.2)
 d:Sz2 (f.a*q.1+f.b*q.2) f.c
structure Kb (b4 b5 b6 b7 c:Nat) (f:Bn) (W:World):Prop where
 r4:Ak W b4 0 [Ai c]
 r5:Ak W b5 0 [str (Ad f.a)]
 r6:Ak W b6 0 [str (Ad f.b)]
 r7:Ak W b7 0 [str (Ad f.c)]
 k:C9 W c
 v:BU W
 t:AO W
theorem C9.below {W W':World} {c n:Nat} (h:C9 W c) (hn:W.heap.size≤n) (hb:Below n W W'):C9 W' c:=
 (hb.block c (Nat.lt_of_lt_of_le (Array.getElem?_eq_some_iff.1 h).1 hn)).trans h
theorem Kb.below {b4 b5 b6 b7 c:Nat} {f:Bn} {W W':World} (h:Kb b4 b5 b6 b7 c f W) (hb:Below W.heap.size W W'):Kb b4 b5 b6 b7 c f W':=
 ⟨h.r4.below (Nat.le_refl _) hb,h.r5.below (Nat.le_refl _) hb,h.r6.below (Nat.le_refl _) hb,h.r7.below (Nat.le_refl _) hb,h.k.below (Nat.le_refl _) hb,h.v.below hb,h.t.below hb⟩
theorem Kb.hp {b4 b5 b6 b7 c:Nat} {f:Bn} {W0 W:World} {bxs:List Bx} (h:Kb b4 b5 b6 b7 c f W0) (hp:Hp W0 bxs W):Kb b4 b5 b6 b7 c f W:=h.below hp.below
theorem Fe (c:Nat) (f:Bn) (W:World):Aj Tryz.prog 67 #[Ai c,str (Ad f.a),str (Ad f.b),str (Ad f.c)] W
  (fun x:Nat×Nat×Nat×Nat=> .func (.func 132) #[] #[Ai x.1,Ai x.2.1,Ai x.2.2.1,Ai x.2.2.2]) (fun _=>True)
  (fun x=>[⟨x.1,59,[Ai c],true,none⟩,⟨x.2.1,23,[str (Ad f.a)],true,none⟩,⟨x.2.2.1,23,[str (Ad f.b)],true,none⟩,⟨x.2.2.2,23,[str (Ad f.c)],true,none⟩]):=by
 refine Ac (args:=[Ai c,str (Ad f.a),str (Ad f.b),str (Ad f.c)]) Tryz.func67 I I I ?_
 refine zA (zB ?_)
 (refine A5 rfl rfl rfl rfl ?_;intro)
 (refine A5 rfl rfl rfl rfl ?_;intro)
 (refine A5 rfl rfl rfl rfl ?_;intro)
 (refine A5 rfl rfl rfl rfl ?_;intro)
 refine wP I (Aa ?_)
 rename_i b4 b5 b6 b7
 exact zE (zA (zB (wP I (wP I (Aa (zE (zO (Au tH I (.tmp I) (b4,b5,b6,b7) I tO fun W1 hp=>As.of_hp hp))))))))
theorem CL (b4 b5 b6 b7 c:Nat) (f:Bn) (q:Ah) (hz:WW f q) (W:World) (hL:Kb b4 b5 b6 b7 c f W):
  Aj Tryz.prog 132 #[cvV q,Ai b4,Ai b5,Ai b6,Ai b7] W (fun _:Unit=>str (Ad (f.at q))) (fun _=>True) (fun _=>[]):=by
 refine Ac (args:=[cvV q,Ai b4,Ai b5,Ai b6,Ai b7]) Tryz.func132 I I I ?_
 refine zA (zB ?_)
 (refine A5 rfl rfl rfl rfl ?_;intro)
 refine wP I (Aa (zE (zA (zU (qL 0 I I (fun W1 hp=>(hL.hp hp).r4) I (qL 0 I I (fun W1 hp=>(hL.hp hp).r5) I (qP I (qB 0 I I I (qC I I (fun W1 hp=>Cj c f.a q.1 hz.m1 W1 (hL.hp hp).k (hL.hp hp).v (hL.hp hp).t) (qL 0 I I (fun W1 hp=>(hL.hp hp).r4) I (qL 0 I I (fun W1 hp=>(hL.hp hp).r6) I (qP I (qB 0 I I I ?_)))))))))))))
 refine qC I I (fun W1 hp=>Cj c f.b q.2 hz.m2 W1 (hL.hp hp).k (hL.hp hp).v (hL.hp hp).t) (qP I (qP I (AU (Aa (zE (zA (zU (qL 0 I I (fun W1 hp=>(hL.hp hp).r4) I (qL 0 I I (fun W1 hp=>(hL.hp hp).r4) I (qP I (qP I (qC I I (fun W1 hp=>CD c (f.a*q.1) (f.b*q.2) hz.s W1 (hL.hp hp).k (hL.hp hp).v (hL.hp hp).t) (qL 0 I I (fun W1 hp=>(hL.hp hp).r7) I ?_)))))))))))))
 exact qC I I (fun W1 hp=>CC c (f.a*q.1+f.b*q.2) f.c hz.d W1 (hL.hp hp).k (hL.hp hp).v (hL.hp hp).t) (qP I (AU (Aa (zE (zO (wR1 I I I))))))
abbrev vsC (l:List Rat):List Value:=l.map fun q=>str (Ad q)
theorem VW (a b:List Rat):vsC (a++b)=vsC a++vsC b:=List.map_append
theorem CH (l:List Ah) (F:Ah→Rat) (g:Nat) (capt:List Value) (hE:Bg Tryz.prog g=true) (hn:l.length≤4096) (p:Option Addr) (cap:Nat) (W:World) (hA:Ch W p l)
  (hg: ∀q∈l, ∀W1,Below W.heap.size W W1→Aj Tryz.prog g ([cvV q]++capt).toArray W1 (fun _:Unit=>str (Ad (F q))) (fun _=>True) (fun _=>[])):
  Aj Tryz.prog 66 #[slv p l.length cap, .func (.func g) #[] capt.toArray] W (fun V:Vec=>V.val l.length) (fun V=>V.OK 1 l.length (vsC (l.map F))) (fun V=>[V.bx 23 (vsC (l.map F))]):=by
 refine Ac (args:=[slv p l.length cap, .func (.func g) #[] capt.toArray]) Tryz.func66 I I I ?_
 refine zA (zB (wP I (Aa (zE (zA (zB (wP I (Aa (zE (zA (zA (zB (wP I (wP I (wP I ?_)))))))))))))))
 refine Aa (zE (zH ?_))
 refine Ey ?_
 refine AA (X:=Nat×Vec) (fun s=>[(1, .func (.func g) #[] capt.toArray),(5,s.2.val s.1),(8,slv p l.length cap),(9, .int .i64 (l.length:Nat)),(10, .int .i64 (s.1:Nat))])
  (fun s=>[s.2.bx 23 (vsC ((l.take s.1).map F))]) (fun s=>s.1≤l.length∧s.2.OK 1 s.1 (vsC ((l.take s.1).map F))) (fun s=>l.length-s.1) (0,Vec.empty) ⟨Nat.zero_le _,Vec.OK.empty 1⟩ ⟨rfl,rfl,rfl,rfl,rfl,trivial⟩ [] rfl ?_
 rintro⟨i,V⟩ ⟨hi,hV⟩
 have hi:i≤l.length:=hi
 have hV:V.OK 1 i (vsC ((l.take i).map F)):=hV
 refine zA (zB (wP I ?_))
 by_cases hlt:i<l.length
 ·refine wU 11 true I (dT (by omega)) (Aa (zE (zA (zR I (zI (zE (zA (zH (zA (zB ?_))))))))))
  obtain⟨gp,off,hpe,hrow⟩:=hA.at_ hlt
  have hrow:=hrow i hlt
  have hq:=hg l[i] (List.getElem_mem hlt)
  have hsu:(l.take (i+1)).map F=(l.take i).map F++[F l[i]]:=by
   rw[List.take_add_one,List.getElem?_eq_getElem hlt,List.map_append];rfl
  obtain⟨q,hqe⟩: ∃q,q=l[i]:=⟨_,rfl⟩
  rw[←hqe] at hrow hq hsu
  subst hpe
  refine wJ ?_
  refine wL 0 I I (fun W1 hp=>hrow.hp hp) I ?_
  (refine Ag Tryz.hZ rfl rfl rfl rfl ?_;intro)
  refine wS 1 I I I (Aa (zE (zB (wP I (wP I (wB 1 I I I ?_))))))
  refine Br (capt:=capt) I I I I I I hE (fun W1 hp=>hq W1 hp.below) ?_
  refine AD Tryz.hZ tH I I I I I I I I I I I fun bS=> ?_
  refine Bo (V:=V) (len:=i) (xs:=vsC ((l.take i).map F)) 0 2 Tryz.vec87 (i+1) (vsC ((l.take (i+1)).map F)) I I I I I I I I I I I hV I I I (by rw[hsu,VW];rfl) (by simp only[maxLen];omega) (by omega) I ?_
  intro gV cV jV hV1
  exact wP I (Aa (zN (zE (zB (wP I (wV 20 ((i+1:Nat):Int) I (Az (by omega)) (wP I (Aa (A6 (i+1,⟨some gV,cV,jV⟩) ⟨hlt,hV1⟩ (by show l.length-(i+1)<l.length-i;omega) ⟨I,I,I,I,I,tO⟩ _ I)))))))))
 have e:i=l.length:=by omega
 subst e
 have et:l.take l.length=l:=List.take_of_length_le (Nat.le_refl _)
 rw[et] at hV
 refine wU 11 false I (dF (by omega)) (Aa (zE (zA (zS I (zJ (zK (zK (zL (zE (zA (zB (wP I (wP I ?_)))))))))))))
 refine Aa (zE (zO ?_))
 exact Au tH I (.tmp I) V I hV fun W1 hp=>by
  have hp:Hp W [V.bx 23 (vsC ((l.take l.length).map F))] W1:=hp
  rw[et] at hp
  exact As.of_hp hp
end
end Go.Proofs.YthndmdimmgkpgaaGreatDoor
namespace Go.Proofs
open Go.Shelf
def Tryz.lays125_ren:Go.Shelf.Ren:=⟨fun|125=>134|128=>189|129=>190|n=>n,fun|3=>3|4=>4|5=>5|9=>9|46=>148|51=>196|53=>198|n=>n,fun n=>n⟩
theorem Tryz.lays125:Go.Proofs.Lays.n125 Tryz.prog Tryz.lays125_ren:= {
 mixed:=by kernel_rfl
 f125:=Tryz.func134.trans (congrArg some (by kernel_rfl))
 f128:=Tryz.func189.trans (congrArg some (by kernel_rfl))
 f129:=Tryz.func190.trans (congrArg some (by kernel_rfl))
 t3:=Tryz.underlying3
 a3:=Tryz.isAgg3
 z3:=Tryz.sizeOf3
 v3:=Tryz.zeroValue3
 t4:=Tryz.underlying4
 a4:=Tryz.isAgg4
 z4:=Tryz.sizeOf4
 v4:=Tryz.zeroValue4
 t5:=Tryz.underlying5
 a5:=Tryz.isAgg5
 z5:=Tryz.sizeOf5
 v5:=Tryz.zeroValue5
 t9:=Tryz.underlying9
 a9:=Tryz.isAgg9
 z9:=Tryz.sizeOf9
 v9:=Tryz.zeroValue9
 t46:=Tryz.underlying148
 a46:=Tryz.isAgg148
 z46:=Tryz.sizeOf148
 v46:=Tryz.zeroValue148
 t51:=Tryz.underlying196
 a51:=Tryz.isAgg196
 z51:=Tryz.sizeOf196
 v51:=Tryz.zeroValue196
 t53:=Tryz.underlying198
 a53:=Tryz.isAgg198
 z53:=Tryz.sizeOf198
 v53:=Tryz.zeroValue198 }
end Go.Proofs
namespace Go.Proofs.YthndmdimmgkpgaaGreatDoor
section
open Go Go.RowKit Go.Am Go.Lib
set_option maxRecDepth 10000
-- BOXES 3
structure Gd (W W':World) (g:Nat):Prop where
 os:W'.os=W.os
 tape:W'.tape=W.tape
 output:W'.output=W.output
 size:W.heap.size≤W'.heap.size
 at_: ∀x,x≠g→x<W.heap.size→W'.heap[x]? =W.heap[x]?
theorem FM {W W':World} {g:Nat} {B:Bx} {o:Obj} (hg:W.heap[g]? =some o) (hB: ∃o',(g,o')∈B.blk) (hp:Hp (AY W) [AP (At W g),B] W'):Gd W W' g:=by
 have c0: ∀p∈At W g,W'.heap[p.1]? =some p.2:=fun p hq=>(hp.own.cell 0 _ rfl p hq).1
 have old: ∀x,x≠g→x<W.heap.size→W'.heap[x]? =W.heap[x]? :=fun x hx hlt=>by
  have h1:W.heap[x]? =some W.heap[x]:=Array.getElem?_eq_getElem hlt
  rw[h1]
  exact c0 (x,W.heap[x]) (DH.2 ⟨hx,h1⟩)
 refine⟨hp.below.os,hp.below.tape,hp.below.output, ?_,old⟩
 have hlt:=(Array.getElem?_eq_some_iff.1 hg).1
 by_cases e:W.heap.size-1=g
 ·obtain⟨o',ho⟩:=hB
  have:=(Array.getElem?_eq_some_iff.1 (hp.own.cell 1 B rfl _ ho).1).1
  have h2:g<W'.heap.size:=this
  omega
 ·have h1:=old (W.heap.size-1) e (by omega)
  rw[Array.getElem?_eq_getElem (show W.heap.size-1<W.heap.size by omega)] at h1
  have:=(Array.getElem?_eq_some_iff.1 h1).1
  omega
theorem Gd.trans {W W1 W2:World} {g:Nat} (h:Gd W W1 g) (h':Gd W1 W2 g):Gd W W2 g:=
 ⟨h'.os.trans h.os,h'.tape.trans h.tape,h'.output.trans h.output,Nat.le_trans h.size h'.size,fun x hx hlt=>(h'.at_ x hx (Nat.lt_of_lt_of_le hlt h.size)).trans (h.at_ x hx hlt)⟩
theorem Gd.below {W0 W W':World} {g:Nat} (hk:Gd W W' g) (hb:Below W0.heap.size W0 W) (hg:W0.heap.size≤g):Below W0.heap.size W0 W':=
 ⟨hk.os.trans hb.os,hk.tape.trans hb.tape,hk.output.trans hb.output,Nat.le_trans hb.size hk.size,fun i hi=>(hk.at_ i (by omega) (Nat.lt_of_lt_of_le hi hb.size)).trans (hb.block i hi)⟩
theorem JW {W0 W:World} {bxs:List Bx} (hp:Hp W0 bxs W) (k:Nat) {g:Nat} {e:TypeId} {xs A B C:List Value} {off:Nat} (hk:nth bxs k=some ⟨g,e,xs,true,none⟩) (hxs:xs=A++(B++C)) (hoff:off=A.length):Ak W g off B:=by
 have h:=Ak.of_bx hp k hk rfl
 refine⟨h.lt,fun m u hu=> ?_⟩
 have:=h.get (A.length+m) u (by
  show xs[A.length+m]? =some u
  rw[hxs,List.getElem?_append_right (by omega),Nat.add_sub_cancel_left,List.getElem?_append_left (List.getElem?_eq_some_iff.1 hu).1]
  exact hu)
 rw[Nat.zero_add, ←hoff] at this
 exact this
theorem XE {r:Option Nat} {n:Nat} {P:Program} {W0:World} {N:Nat} {D:List Deferred} {c:Code} {Q:Exit→Act→World→Prop} {env:Env} {bxs bxs':List Bx} (e:bxs=bxs') (h:WC r n P N D c Q env (Hp W0 bxs')):WC r n P N D c Q env (Hp W0 bxs):=e▸h
section
variable {r:Option Nat} {n:Nat} {P:Program} {N:Nat} {D:List Deferred} {ops:List Oper} {Q:Exit→Act→World→Prop} {o:Oper} {rest:List Oper} {env:Env} {A:World→Prop}
theorem Mp {W:World} {t ty e:TypeId} {size bytes:Nat} {z:Value} (hty:VecTy P t e size bytes z) {b:Option Addr} {k c c':Nat} (hk:k≤c):
  (Builtin.append_ #[t,t] ty #[.slice b k c, .slice none 0 c']).run P W= .ok (.slice b k c) W:=by
 obtain⟨i,hi,hz,hsz,hby⟩:=hty.hi
 have hs:(Go.sizeOf e).run P W= .ok i.size W:=by simp[sizeOf,typeInfo,hi]
 cases b<;>simp[Builtin.append_,run_underlying hty.ht,hs,hk,Builtin.lenOf,Builtin.firstCells,storeCells]
theorem JC {d:Nat} {t e:TypeId} {size bytes:Nat} {z:Value} (hty:VecTy P t e size bytes z) {c:Call} {s x:Operand} {b:Option Addr} {k cp cp':Nat}
  (hg:A7 ops N env o=some true) (hd:o.dst=some d) (ho:o.op= .call c) (hc:c.callee= .builtin .append) (ha:c.args= #[s,x]) (hat:c.argTypes= #[t,t])
  (hs:evO N env s=some (.slice b k cp)) (hx:evO N env x=some (.slice none 0 cp')) (hk:k≤cp)
  (h:WL r n P N D ops Q rest ((d, .slice b k cp)::env) A):WL r n P N D ops Q (o::rest) env A:= .mk fun act W h2 h3 hp=>by
 refine BN hg h2 (fun c e=>by rw[ho] at e;cases e) ?_
 have hr:=Mp (P:=P) (W:=W) (ty:=o.type) hty (b:=b) (c':=cp') hk
 have e1:c.args.map (ov env act).eval= #[.slice b k cp, .slice none 0 cp']:=by rw[ha];simp[AE h2 _ _ hs,AE h2 _ _ hx]
 have:(execOp (ov env act).eval o).run P W= .ok (.value (.slice b k cp)) W:=by
  simp only[execOp,ho,resolve,hc,invoke,builtin,e1,hat,Sem.run_bind,Sem.run_pure,Result.andThen_ok,hr]
 rw[this]
 simp only[Oper.uponIn,hd]
 exact h.out act W h2 h3 hp
end
def Xr (V:Vec):Option Addr:=V.p.map fun g=>⟨g,0,none⟩
def V8 (V:Vec):Nat:=match V.p with
 |none=>0
 |some _=>V.cap
theorem KT {V:Vec} {size n:Nat} {xs:List Value} (h:V.OK size n xs):V.val n= .slice (Xr V) n (V8 V):=by
 obtain⟨p,cap,junk⟩:=V
 cases p with
 |none=>rw[h.nil rfl];rfl
 |some g=>rfl
theorem Vk {V:Vec} {size n:Nat} {xs:List Value} (h:V.OK size n xs):n≤V8 V:=by
 obtain⟨p,cap,junk⟩:=V
 cases p with
 |none=>rw[h.nil rfl];exact Nat.le_refl _
 |some g=>exact(h.cap (by simp)).1
def Mn (W:World) (p:Option Addr) (cs:List Value):Prop:=cs=[]∨ ∃b off,p=some ⟨b,off,none⟩∧Ak W b off cs
theorem Mn.none {W:World} {l:List Value} (h:Mn W none l):l=[]:=by
 rcases h with h|⟨b,off,e,_⟩
 ·exact h
 ·cases e
-- BOXES 3
def T2p (n0 n1:Nat):Nat→Nat
 |0=>0
 |1=>n0
 |_=>n0+n1
def C2p (c0 c1:List Value):Nat→List Value
 |0=>[]
 |1=>c0
 |_=>c0++c1
theorem Og (W:World) (m:Nat) (hm:m≤1000000):Aj Tryz.prog 138 #[.slice none 0 0, .int .i64 (m:Nat)] W (fun V:Vec=>V.val 0) (fun V=>V.OK 2 0 []∧(0<m→V.p≠none)) (fun V=>[V.bx 35 []]):=by
 refine Ac (args:=[.slice none 0 0, .int .i64 (m:Nat)]) Tryz.func138 I I I ?_
 refine zA (zB (wP I (Aa (zE (zA (zA (zB (wP I (wP I (Aa (zE (zS I (zI ?_)))))))))))))
 refine zE (zA (zA (zB ?_)))
 iterate 8 refine wP I ?_
 refine Aa (zE (zA (zB (wP I (wP I (Aa (zE ?_)))))))
 have e14:w64 ((m:Int)-w64 (0-0))=m:=by
  have:w64 (0-0)=0:=rfl
  rw[this];exact(Ap (by omega) (by omega)).trans (by omega)
 refine Bi 16 _ I (show Value.bool (decide (w64 ((m:Int)-w64 (0-0))>0))= .bool (decide (0<m)) by rw[e14];congr 1;simp) ?_
 refine Av I (fun h=> ?_) (fun h=> ?_)
 ·have h:0<m:=by simpa using h
  refine zB (wP I (wP I (wP I ?_)))
  refine C5 0 tH I I I I I I I I (Nat.le_refl _) ?_
  refine wP I ?_
  refine LY Tryz.vec22 (ku:= .i64) (by kernel_rfl) m I I I I I I I I e14 h (by simp only[maxLen];omega) (by omega) ?_
  intro V hV hp hj
  refine wP I (wP I ?_)
  obtain⟨p,cap,junk⟩:=V
  cases p with
  |none=>exact absurd rfl hp
  |some g=>
  refine C5 (a:=some ⟨g,0,none⟩) (len:=m) (cap:=cap) 0 tH I I I I I I I I (Nat.zero_le _) ?_
  refine wP I (Aa (zE (zA (zB (wP I (wP I (Aa (zE (zO ?_)))))))))
  obtain⟨h1,h2,h3⟩:=hV.cap (by simp)
  refine Au tH rfl (.tmp rfl) (⟨some g,cap,BW [.string ⟨#[]⟩, .string ⟨#[]⟩] m++junk⟩:Vec) rfl ⟨⟨rfl,(fun h=>by cases h),fun _=>⟨Nat.zero_le _,h2, ?_⟩⟩,fun _=>by simp⟩ fun W hp=>As.of_hp1 hp 0 rfl
  show 0+(BW _ m++junk).length=cap*2
  rw[List.length_append,Nat.zero_add]
  exact h3
 ·have h:m=0:=by simp at h;omega
  subst h
  exact zI (zE (zA (zB (wP rfl (wP rfl (Aa (zE (zO (Au tH rfl (.tmp rfl) Vec.empty rfl ⟨Vec.OK.empty 2,fun h=>absurd h (Nat.lt_irrefl _)⟩ fun W hp=>Own.one (fun p hp=>by cases hp) List.nodup_nil)))))))))
theorem FA (W:World) (b cap:Nat) (p0 p1:Option Addr) (n0 n1 k0 k1:Nat) (c0 c1:List Value) (hrow:Ak W b 0 [.slice p0 n0 k0, .slice p1 n1 k1]) (h0:Mn W p0 c0) (h1:Mn W p1 c1) (l0:c0.length=n0*2) (l1:c1.length=n1*2)
  (o0: ∀u∈c0,u.oneCell'=true) (o1: ∀u∈c1,u.oneCell'=true) (b0:n0≤100000) (b1:n1≤100000):
  Aj Tryz.prog 77 #[.slice (some ⟨b,0,none⟩) 2 cap] W (fun V:Vec=>V.val (n0+n1)) (fun V=>V.OK 2 (n0+n1) (c0++c1)) (fun V=>[V.bx 35 (c0++c1)]):=by
 refine Ac (args:=[.slice (some ⟨b,0,none⟩) 2 cap]) Tryz.func77 I I I ?_
 refine zA (zB (wP I (Aa (zE (zA (zB (wP I (Aa (zE (zA (zA (zB (wP I (wP I (wP I ?_)))))))))))))))
 refine Aa (zE (zH ?_))
 refine AA (X:=Nat) (fun k=>[(0, .slice (some ⟨b,0,none⟩) 2 cap),(3, .int .i64 (T2p n0 n1 k:Nat)),(9, .slice (some ⟨b,0,none⟩) 2 cap),(10, .int .i64 2),(11, .int .i64 (k:Nat))]) (fun _=>[])
  (fun k=>k≤2) (fun k=>2-k) 0 (Nat.zero_le _) ⟨rfl,rfl,rfl,rfl,rfl,trivial⟩ [] rfl ?_
 intro i hi
 have hi:i=0∨i=1∨i=2:=by have:i≤2:=hi;omega
 rcases hi with rfl|rfl|rfl
 ·refine zA (zB (wP I (Aa (zE (zA (zR I (zI (zE (zA (zH (zA (zB ?_))))))))))))
  refine wJ ?_
  refine wL 0 I I (fun W hp=>hrow.hp hp) I (wP I (Aa (zE (zA (zB (wP I (wP I (wP I (wP I (wV 18 (T2p n0 n1 1:Nat) I (show w64 ((T2p n0 n1 0:Nat)+(n0:Nat))=(T2p n0 n1 1:Nat) by have hT0:T2p n0 n1 0=0:=I;have hT1:T2p n0 n1 1=n0:=I;rw[Ap (by omega) (by omega)];omega) (wP I (Aa (zE ?_)))))))))))))
  exact zA (zB (wP I (wP I (Aa (zE (zS I (zI (zN (zE (zB (wP I (wP I (Aa (A6 1 (by decide) (by decide) ⟨I,I,I,I,I,tO⟩ [] I))))))))))))))
 ·refine zA (zB (wP I (Aa (zE (zA (zR I (zI (zE (zA (zH (zA (zB ?_))))))))))))
  refine wJ ?_
  refine wL 1 I I (fun W hp=>hrow.hp hp) I (wP I (Aa (zE (zA (zB (wP I (wP I (wP I (wP I (wV 18 (T2p n0 n1 2:Nat) I (show w64 ((T2p n0 n1 1:Nat)+(n1:Nat))=(T2p n0 n1 2:Nat) by have hT0:T2p n0 n1 1=n0:=I;have hT1:T2p n0 n1 2=n0+n1:=I;rw[Ap (by omega) (by omega)];omega) (wP I (Aa (zE ?_)))))))))))))
  exact zA (zB (wP I (wP I (Aa (zE (zS I (zI (zN (zE (zB (wP I (wP I (Aa (A6 2 (by decide) (by decide) ⟨I,I,I,I,I,tO⟩ [] I))))))))))))))
 refine zA (zB (wP I (Aa (zE (zA (zS I (zJ (zK (zK (zL (zE (zA (zB ?_)))))))))))))
 refine wP I ?_
 refine wD (X:=Vec) I I (fun W _=>Og W (n0+n1) (by omega)) ?_
 rintro V0 ⟨hV0,hV0p⟩
 refine wP I (Aa (zE (zA (zA (zB (wP I (wP I (wP I (Aa (zE (zH ?_)))))))))))
 refine AA (X:=Nat×Vec) (fun x=>[(6,x.2.val (T2p n0 n1 x.1)),(25, .slice (some ⟨b,0,none⟩) 2 cap),(26, .int .i64 2),(27, .int .i64 (x.1:Nat))]) (fun x=>[x.2.bx 35 (C2p c0 c1 x.1)])
  (fun x=>x.1≤2∧x.2.OK 2 (T2p n0 n1 x.1) (C2p c0 c1 x.1)) (fun x=>2-x.1) (0,V0) ⟨Nat.zero_le _,hV0⟩ ⟨rfl,rfl,rfl,rfl,trivial⟩ [] rfl ?_
 rintro⟨i,V⟩ ⟨hi,hV⟩
 have hi:i=0∨i=1∨i=2:=by have:i≤2:=hi;omega
 rcases hi with rfl|rfl|rfl
 ·have hV:V.OK 2 (T2p n0 n1 0) (C2p c0 c1 0):=hV
  have hT0:T2p n0 n1 0=0:=rfl
  have hT1:T2p n0 n1 1=n0:=rfl
  refine zA (zB (wP I (Aa (zE (zA (zR I (zI (zE (zA (zH (zA (zB ?_))))))))))))
  refine wJ ?_
  refine wL 0 I I (fun W hp=>hrow.hp hp) I (wP I (Aa (zE (zB (wP I (wP I ?_))))))
  cases p0 with
  |none=>
   have hc:=h0.none
   have hn0:n0=0:=by rw[hc,List.length_nil] at l0;omega
   refine Af 31 (.slice (Xr V) (T2p n0 n1 0) (V8 V)) I (KT hV) ?_
   refine Af 32 (.slice none 0 k0) I (by rw[hn0]) ?_
   refine JC Tryz.vec22 I I I I I I I I (Vk hV) ?_
   refine Af 33 (V.val (T2p n0 n1 0)) I (KT hV).symm ?_
   have eT:T2p n0 n1 0=T2p n0 n1 1:=by omega
   have eC:C2p c0 c1 0=C2p c0 c1 1:=by show[]=c0;rw[hc]
   rw[eT,eC] at hV
   rw[eT,eC]
   exact wP I (Aa (zN (zE (zB (wP I (wP I (Aa (A6 (1,V) ⟨by show 1≤2;decide,hV⟩ (by show 2-1<2-0;decide) ⟨I,I,I,I,tO⟩ [] I))))))))
  |some a=>
   refine G2 (len:=T2p n0 n1 0) (V:=V) 0 Tryz.vec22 I I I I I I I I I hV l0 (fun W hp j u hj=> ?_) o0 (by simp only[maxLen];omega) (by omega) ?_
   ·obtain⟨ab,ao,asp⟩:=a
    rcases h0 with h|⟨b',off',e,h⟩
    ·rw[h] at hj;simp at hj
    ·cases e
     rw[Addr.add_none]
     exact(h.hp hp).get j u hj
   intro V' hV' _
   have eT:T2p n0 n1 0+n0=T2p n0 n1 1:=by omega
   have eC:C2p c0 c1 0++c0=C2p c0 c1 1:=rfl
   rw[eT,eC] at hV'
   rw[eT,eC]
   exact wP I (Aa (zN (zE (zB (wP I (wP I (Aa (A6 (1,V') ⟨by show 1≤2;decide,hV'⟩ (by show 2-1<2-0;decide) ⟨I,I,I,I,tO⟩ [] I))))))))
 ·have hV:V.OK 2 (T2p n0 n1 1) (C2p c0 c1 1):=hV
  have hT0:T2p n0 n1 1=n0:=rfl
  have hT1:T2p n0 n1 2=n0+n1:=rfl
  refine zA (zB (wP I (Aa (zE (zA (zR I (zI (zE (zA (zH (zA (zB ?_))))))))))))
  refine wJ ?_
  refine wL 1 I I (fun W hp=>hrow.hp hp) I (wP I (Aa (zE (zB (wP I (wP I ?_))))))
  cases p1 with
  |none=>
   have hc:=h1.none
   have hn0:n1=0:=by rw[hc,List.length_nil] at l1;omega
   refine Af 31 (.slice (Xr V) (T2p n0 n1 1) (V8 V)) I (KT hV) ?_
   refine Af 32 (.slice none 0 k1) I (by rw[hn0]) ?_
   refine JC Tryz.vec22 I I I I I I I I (Vk hV) ?_
   refine Af 33 (V.val (T2p n0 n1 1)) I (KT hV).symm ?_
   have eT:T2p n0 n1 1=T2p n0 n1 2:=by omega
   have eC:C2p c0 c1 1=C2p c0 c1 2:=by show c0=c0++c1;rw[hc];simp
   rw[eT,eC] at hV
   rw[eT,eC]
   exact wP I (Aa (zN (zE (zB (wP I (wP I (Aa (A6 (2,V) ⟨by show 2≤2;decide,hV⟩ (by show 2-2<2-1;decide) ⟨I,I,I,I,tO⟩ [] I))))))))
  |some a=>
   refine G2 (len:=T2p n0 n1 1) (V:=V) 0 Tryz.vec22 I I I I I I I I I hV l1 (fun W hp j u hj=> ?_) o1 (by simp only[maxLen];omega) (by omega) ?_
   ·obtain⟨ab,ao,asp⟩:=a
    rcases h1 with h|⟨b',off',e,h⟩
    ·rw[h] at hj;simp at hj
    ·cases e
     rw[Addr.add_none]
     exact(h.hp hp).get j u hj
   intro V' hV' _
   have eT:T2p n0 n1 1+n1=T2p n0 n1 2:=by omega
   have eC:C2p c0 c1 1++c1=C2p c0 c1 2:=rfl
   rw[eT,eC] at hV'
   rw[eT,eC]
   exact wP I (Aa (zN (zE (zB (wP I (wP I (Aa (A6 (2,V') ⟨by show 2≤2;decide,hV'⟩ (by show 2-2<2-1;decide) ⟨I,I,I,I,tO⟩ [] I))))))))
 refine zA (zB (wP I (Aa (zE (zA (zS I (zJ (zK (zK (zL (zE (zA (zB ?_)))))))))))))
 exact wP I (wP I (Aa (zE (zO (Au tH I (.tmp I) V I hV fun W hp=>As.of_hp1 hp 0 I)))))
-- BOXES 6
-- CODE2
structure WM (p q:Ah) (u v:Rat):Prop where
 s:Sz2 u v
 d:Sz2 u (u-v)
 nz:(u-v).num≠0
 x1:Sz2 q.1 p.1
 x2:Sz2 (u/(u-v)) (q.1-p.1)
 x3:Sz2 p.1 (u/(u-v)*(q.1-p.1))
 y1:Sz2 q.2 p.2
 y2:Sz2 (u/(u-v)) (q.2-p.2)
 y3:Sz2 p.2 (u/(u-v)*(q.2-p.2))
theorem L8 (c:Nat) (p q:Ah) (u v:Rat) (hz:WM p q u v) (W:World) (hc:C9 W c) (hv:BU W) (ht:AO W):
  Aj Tryz.prog 69 #[Ai c,cvV p,cvV q,str (Ad u),str (Ad v)] W (fun _:Unit=>cvV (Lr (u/(u-v)) p q)) (fun _=>True) (fun _=>[]):=by
 refine Ac (args:=[Ai c,cvV p,cvV q,str (Ad u),str (Ad v)]) Tryz.func69 I I I ?_
 refine zA (zB ?_)
 (refine A5 rfl rfl rfl rfl ?_;intro)
 (refine A5 rfl rfl rfl rfl ?_;intro)
 (refine Ag Tryz.hZ rfl rfl rfl rfl ?_;intro)
 refine Aa (zE (zA (zB ?_)))
 iterate 5 refine wP I ?_
 refine wC I I (fun W hp=>CC c u v hz.s W (hc.hp hp) (hv.hp hp) (ht.hp hp)) (wC I I (fun W hp=>GO c u (u-v) hz.d hz.nz W (hc.hp hp) (hv.hp hp) (ht.hp hp)) (wP I (Aa (zE (zA (zU (qP I (qP I (qB 0 I I I (qP I (qP I (qP I (qP I ?_)))))))))))))
 refine qB 1 I I I (qP I (qB 0 I I I (qC I I (fun W hp=>CC c q.1 p.1 hz.x1 W (hc.hp hp) (hv.hp hp) (ht.hp hp)) (qC I I (fun W hp=>Cj c (u/(u-v)) (q.1-p.1) hz.x2 W (hc.hp hp) (hv.hp hp) (ht.hp hp)) (qC I I (fun W hp=>CD c p.1 (u/(u-v)*(q.1-p.1)) hz.x3 W (hc.hp hp) (hv.hp hp) (ht.hp hp)) (qP I (AU (Aa (zE (zA (zU (qP I (qP I ?_)))))))))))))
 refine qB 0 I I I (qP I (qP I (qP I (qP I (qB 1 I I I (qP I (qB 0 I I I (qC I I (fun W hp=>CC c q.2 p.2 hz.y1 W (hc.hp hp) (hv.hp hp) (ht.hp hp)) (qC I I (fun W hp=>Cj c (u/(u-v)) (q.2-p.2) hz.y2 W (hc.hp hp) (hv.hp hp) (ht.hp hp)) (qC I I (fun W hp=>CD c p.2 (u/(u-v)*(q.2-p.2)) hz.y3 W (hc.hp hp) (hv.hp hp) (ht.hp hp)) (qP I (AU (Aa ?_)))))))))))))
 refine zE (zA (zB (wP I (wP I ?_))))
 refine Ay Tryz.hZ tH I I I I I I I I ?_
 exact wS 2 I I I (Aa (zE (zO (Au tH I (.cell 2 I I I I I) () I tO fun W _=>As.nil _ _))))
theorem NO (q:Rat):decide (EZ q<0)=decide (q<0):=by
 refine decide_eq_decide.2 ?_
 have h:q.num<0↔q<0:=by rw[←Rat.not_le, ←Rat.num_nonneg];omega
 rw[←h]
 unfold EZ
 split
 ·omega
 ·split<;>omega
theorem Of (q:Rat) (W:World):Aj Tryz.prog 98 #[str (Ad q)] W (fun _:Unit=> .bool (decide (q<0))) (fun _=>True) (fun _=>[]):=by
 refine Ac (args:=[str (Ad q)]) Tryz.func98 I I I ?_
 refine zA (zB (wP I (Aa (zE (zA (zB (wP I (wC I I (fun W hp=>ED q W) (wP I (wU 5 (decide (q<0)) I (NO q) (wP I (Aa (zE ?_)))))))))))))
 exact zO (wR1 I I I)
theorem Ts {α:Type} {p:α→Bool} {l:List α} {i:Nat} (hi:i<l.length):(l.drop i).any p=(p l[i]||(l.drop (i+1)).any p):=by
 rw[List.drop_eq_getElem_cons hi,List.any_cons]
theorem M8 (g:Nat) (hE:Bg Tryz.prog g=true) (F:Rat→Bool) (hg: ∀q W,Aj Tryz.prog g #[str (Ad q)] W (fun _:Unit=> .bool (F q)) (fun _=>True) (fun _=>[])) (l:List Rat) (hn:l.length≤100000) (p:Option Addr) (cap:Nat) (W:World) (hS:HO W p (l.map Ad)):
  Aj Tryz.prog 147 #[slv p l.length cap, .func (.func g) #[] #[]] W (fun z:Int=> .int .i64 z) (fun z=>0≤z↔l.any F=true) (fun _=>[]):=by
 refine Ac (args:=[slv p l.length cap, .func (.func g) #[] #[]]) Tryz.func147 I I I ?_
 refine zA (zB (wP I (Aa (zE (zA (zA (zB (wP I (wP I (wP I (Aa (zE (zH ?_)))))))))))))
 refine AA (X:=Nat) (fun i=>[(0,slv p l.length cap),(1, .func (.func g) #[] #[]),(6,slv p l.length cap),(7, .int .i64 (l.length:Nat)),(8, .int .i64 (i:Nat))]) (fun _=>[]) (fun i=>i≤l.length∧l.any F=(l.drop i).any F) (fun i=>l.length-i) 0 ⟨Nat.zero_le _,by rw[List.drop_zero]⟩ ⟨I,I,I,I,I,tO⟩ [] I ?_
 intro i hi
 obtain⟨hi,hA⟩:i≤l.length∧l.any F=(l.drop i).any F:=hi
 refine zA (zB (wP I ?_))
 by_cases hlt:i<l.length
 rotate_left
 ·refine wU 9 false I (dF (by omega)) (Aa (zE (zA (zS I (zJ (zK (zK (zL (zE (zA (zB (wP I (Aa ?_)))))))))))))
  refine zE (zO ?_)
  rw[List.drop_of_length_le (by omega)] at hA
  exact Au tH I (.tmp I) (-1:Int) I (by rw[hA];exact⟨fun h=>absurd h (by decide),fun h=>absurd (show false=true from h) (by decide)⟩) fun W _=>As.nil _ _
 refine wU 9 true I (dT (by omega)) (Aa (zE (zA (zR I (zI (zE (zA (zH (zA (zB ?_))))))))))
 obtain⟨b,off,rfl,hrow⟩:=hS.row (i:=i) (by rw[List.length_map];exact hlt)
 have hr:=hrow i (by rw[List.length_map];exact hlt)
 rw[List.getElem_map] at hr
 rw[Ts hlt] at hA
 obtain⟨q,hq⟩: ∃q,q=l[i]:=⟨_,rfl⟩
 rw[←hq] at hr hA
 refine wP I (wP I (Aa (zE (zA (zB (wP I (wP I (wP I ?_))))))))
 refine wJ ?_
 refine wL 0 I I (fun W1 hp=>hr.hp hp) I ?_
 refine Br (capt:=[]) I I I I I I hE (fun W1 _=>hg q W1) ?_
 refine Aa (zE ?_)
 refine Av I (fun hc=> ?_) (fun hc=> ?_)
 ·have hc:F q=true:=hc
  exact zA (zB (wP I (wP I (Aa (zE (zO (zQ (zP (zP (zQ (zP (Au tH I (.tmp I) ((i:Nat):Int) I ⟨fun _=>by rw[hA,hc];rfl,fun _=>by omega⟩ fun W _=>As.nil _ _))))))))))))
 ·have hc:F q=false:=hc
  rw[hc,Bool.false_or] at hA
  exact zI (zN (zE (zB (wP I (wV 18 ((i+1:Nat):Int) I (Az (by omega)) (wP I (Aa (A6 (i+1) ⟨hlt,hA⟩ (by show l.length-(i+1)<l.length-i;omega) ⟨I,I,I,I,I,tO⟩ [] I))))))))
theorem JM (g:Nat) (hE:Bg Tryz.prog g=true) (F:Rat→Bool) (hg: ∀q W,Aj Tryz.prog g #[str (Ad q)] W (fun _:Unit=> .bool (F q)) (fun _=>True) (fun _=>[])) (l:List Rat) (hn:l.length≤100000) (p:Option Addr) (cap:Nat) (W:World) (hS:HO W p (l.map Ad)):
  Aj Tryz.prog 97 #[slv p l.length cap, .func (.func g) #[] #[]] W (fun _:Unit=> .bool (l.any F)) (fun _=>True) (fun _=>[]):=by
 refine Ac (args:=[slv p l.length cap, .func (.func g) #[] #[]]) Tryz.func97 I I I ?_
 refine zA (zB (wP I (Aa (zE (zA (zB (wP I (wP I ?_))))))))
 refine wD (X:=Int) I I (fun W1 hp=>M8 g hE F hg l hn p cap W1 (hS.hp hp)) ?_
 intro z hz
 have hz:0≤z↔l.any F=true:=hz
 refine wP I ?_
 refine Af 8 (.bool (l.any F)) I (congrArg Value.bool (by
  cases h:l.any F with
  |true=>exact dT (hz.2 h)
  |false=>exact dF fun h2=>by rw[hz.1 h2] at h;cases h)) ?_
 exact wP I (Aa (zE (zO (wR1 I I I))))
theorem Sd (p q:Rat):(p<q∧Dv p q= -1)∨(p=q∧Dv p q=0)∨(q<p∧Dv p q=1):=by
 have h1:=Jp p q
 have h2:=HN p q
 rcases GW p q with e|e|e<;>rw[e] at h1 h2⊢
 ·exact .inl ⟨of_decide_eq_true h1.symm,I⟩
 ·refine .inr (.inl ⟨?_,I⟩)
  have a:=of_decide_eq_false h1.symm
  have b:=of_decide_eq_false h2.symm
  exact Rat.le_antisymm (Rat.not_lt.1 b) (Rat.not_lt.1 a)
 ·exact .inr (.inr ⟨of_decide_eq_true h2.symm,I⟩)
theorem O9 (p q:Ah):decide (MG p q<0)=Ca p q:=by
 unfold MG Ca
 have h1:=Sd p.1 q.1
 have h2:=Sd p.2 q.2
 rcases h1 with⟨a,e⟩|⟨a,e⟩|⟨a,e⟩
 ·rw[e,if_neg (by decide),dT a];rfl
 ·rw[e,if_pos rfl,Jp,dF (show¬p.1<q.1 by grind),dT a,Bool.false_or,Bool.true_and]
 ·rw[e,if_neg (by decide),dF (show¬p.1<q.1 by grind),dF (show¬p.1=q.1 by grind)];rfl
abbrev ptC (l:List Ah):List Value:=l.flatMap fun q=>[str (Ad q.1),str (Ad q.2)]
theorem BP (a b:List Ah):ptC (a++b)=ptC a++ptC b:=List.flatMap_append
theorem AQ (l:List Ah):(ptC l).length=l.length*2:=by
 induction l with
 |nil=>rfl
 |cons p l ih=>show(ptC l).length+1+1=(l.length+1)*2;rw[ih];omega
theorem GY (l:List Ah): ∀u∈ptC l,u.oneCell'=true:=fun u hu=>by
 obtain⟨q,_,h⟩:=List.mem_flatMap.1 hu
 rcases List.mem_cons.1 h with rfl|h
 ·rfl
 ·obtain rfl:=List.mem_singleton.1 h;rfl
theorem Cz {W:World} {g off:Nat} {a b:List Value} (h:Ak W g off (a++b)):Ak W g off a:=⟨h.lt,fun k u hu=>h.get k u (by rw[List.getElem?_append_left (List.getElem?_eq_some_iff.1 hu).1];exact hu)⟩
theorem HT {W:World} {g off:Nat} {a b:List Value} (h:Ak W g off (a++b)):Ak W g (off+a.length) b:=⟨h.lt,fun k u hu=>by
 have:=h.get (a.length+k) u (by rw[List.getElem?_append_right (by omega),Nat.add_sub_cancel_left];exact hu)
 rwa [←Nat.add_assoc] at this⟩
theorem Vn {l:List Ah} {i:Nat} (hi:i<l.length):ptC l=ptC (l.take i)++([str (Ad l[i].1),str (Ad l[i].2)]++ptC (l.drop (i+1))):=by
 conv=>lhs;rw[←List.take_append_drop i l,List.drop_eq_getElem_cons hi,BP]
 rfl
theorem Ch.of_row {W:World} {g off:Nat} {l:List Ah} {junk:List Value} (h:Ak W g off (ptC l++junk)):Ch W (some ⟨g,off,none⟩) l:= .inr ⟨g,off,rfl,fun i hi=>by
 have h1:=Cz h
 rw[Vn hi] at h1
 have h2:=Cz (HT h1)
 rwa [AQ,List.length_take,Nat.min_eq_left (Nat.le_of_lt hi)] at h2⟩
theorem N4 (c:Nat) (l:List Ah) (k:Nat) (hk:k≤149) (hs:Hi k l) (h0:0<l.length) (hn:l.length≤100000) (g cap:Nat) (hcap:l.length≤cap) (W:World) (hrow:Ak W g 0 (ptC l)) (hc:C9 W c) (hv:BU W) (ht:AO W):
  Aj Tryz.prog 99 #[Ai c,slv (some ⟨g,0,none⟩) l.length cap] W (fun V:Vec=>V.val l.length) (fun V=>V.OK 2 l.length (ptC (B3 l))) (fun V=>[V.bx 35 (ptC (B3 l))]):=by
 have hrow':Ak W g 0 (ptC l++[]):=by rw[List.append_nil];exact hrow
 have hA:=Ch.of_row hrow'
 have hr: ∀i,i<l.length→Ak W g (0+i*2) [str (Ad (Ae l i).1),str (Ad (Ae l i).2)]:=fun i hi=>by
  obtain⟨g',off',e,h⟩:=hA.at_ hi
  cases e
  rw[AG hi]
  exact h i hi
 have hlst: ∀i,i≤l.length→C3 l i<l.length:=fun i hi=>by
  rcases(Hr l i).1 with e|e<;>omega
 refine Ac (args:=[Ai c,slv (some ⟨g,0,none⟩) l.length cap]) Tryz.func99 I I I ?_
 refine zA (zB (wP I (Aa (zE (zA (zB (wP I (Aa (zE (zA (zA (zB (wP I ?_)))))))))))))
 refine Aa (zE (zH ?_))
 have e1:C3 l 1=0:=by show(if Ca (Ae l 0) (Ae l 0)=true then 0 else 0)=0;split<;>rfl
 refine AA (X:=Nat) (fun i=>[(0,Ai c),(1,slv (some ⟨g,0,none⟩) l.length cap),(5, .int .i64 (C3 l i:Nat)),(6, .int .i64 (i:Nat))]) (fun _=>[]) (fun i=>1≤i∧i≤l.length) (fun i=>l.length-i) 1 ⟨Nat.le_refl _,h0⟩ ⟨I,I,congrArg (fun n:Nat=>some (Value.int .i64 (n:Int))) e1.symm,I,tO⟩ [] I ?_
 intro i hi
 obtain⟨hi1,hi⟩:1≤i∧i≤l.length:=hi
 have hls:=hlst i hi
 refine zA (zA (zB (wP I (wP I (wP I (wP I ?_))))))
 by_cases hlt:i<l.length
 ·refine wU 10 true I (dT (by omega)) (Aa (zE (zR I (zI (zE (zA (zH (zA (zU ?_)))))))))
  have hsu:C3 l (i+1)=if Ca (Ae l i) (Ae l (C3 l i))=true then i else C3 l i:=rfl
  have zi:=hs.at_ h0 i
  have zj:=hs.at_ h0 (C3 l i)
  refine qP I (qP I (qP I ?_))
  refine qJ ?_
  refine qL 0 I I (fun W1 hp=>(hr i hlt).hp hp) I (qP I (qP I ?_))
  refine qJ ?_
  refine qL 0 I I (fun W1 hp=>(hr (C3 l i) hls).hp hp) I (qC I I (fun W1 hp=>Kv c (Ae l i) (Ae l (C3 l i)) (sz2 zi.1 zj.1 (by omega)) (sz2 zi.2 zj.2 (by omega)) W1 (hc.hp hp) (hv.hp hp) (ht.hp hp)) (qP I (qU 23 (Ca (Ae l i) (Ae l (C3 l i))) I (O9 _ _) (AU (Aa (zE ?_))))))
  refine Av I (fun hc2=> ?_) (fun hc2=> ?_)
  ·have hc2:Ca (Ae l i) (Ae l (C3 l i))=true:=hc2
   rw[if_pos hc2] at hsu
   exact zB (wP I (wP I (Aa (zN (zE (zB (wP I (wP I (wV 12 ((i+1:Nat):Int) I (Az (by omega)) (wP I (Aa (A6 (i+1) ⟨by omega,hlt⟩ (by show l.length-(i+1)<l.length-i;omega) ⟨I,I,congrArg (fun n:Nat=>some (Value.int .i64 (n:Int))) hsu.symm,I,tO⟩ [] I))))))))))))
  ·have hc2:Ca (Ae l i) (Ae l (C3 l i))=false:=hc2
   rw[hc2,if_neg (by decide)] at hsu
   exact zI (zN (zE (zB (wP I (wP I (wV 12 ((i+1:Nat):Int) I (Az (by omega)) (wP I (Aa (A6 (i+1) ⟨by omega,hlt⟩ (by show l.length-(i+1)<l.length-i;omega) ⟨I,I,congrArg (fun n:Nat=>some (Value.int .i64 (n:Int))) hsu.symm,I,tO⟩ [] I)))))))))
 have e:i=l.length:=by omega
 subst e
 obtain⟨m,hm⟩: ∃m,m=C3 l l.length:=⟨_,rfl⟩
 rw[←hm] at hls
 rw[←hm]
 have hB:B3 l=l.drop m++l.take m:=by rw[hm];rfl
 have hBC:ptC (B3 l)=ptC (l.drop m)++ptC (l.take m):=by rw[hB,BP]
 have hl1:(l.drop m).length=l.length-m:=List.length_drop
 have hl2:(l.take m).length=m:=by rw[List.length_take];omega
 have hsplit:ptC l=ptC (l.take m)++ptC (l.drop m):=by rw[←BP,List.take_append_drop]
 have ra:Ak W g 0 (ptC (l.take m)):=by rw[hsplit] at hrow;exact Cz hrow
 have rb:Ak W g (m*2) (ptC (l.drop m)):=by
  rw[hsplit] at hrow
  have:=HT hrow
  rwa [AQ,hl2,Nat.zero_add] at this
 refine wU 10 false I (dF (by omega)) (Aa (zE (zS I (zJ (zK (zK (zL (zE (A0 ?_)))))))))
 refine Bb (X:= { V:Vec//V.OK 2 l.length (ptC (B3 l)) }) [true,true,false,true,true,false,false,false,false] (fun V=>[(4,V.1.val l.length)]) (fun V=>[V.1.bx 35 (ptC (B3 l))])
  5 [] Tryz.mixed (by kernel_rfl) ?_ ?_
 ·refine qP I (qP I (qP I (qP I (Ck (wX ?_)))))
  refine RS.cons ?_ (RS.cons ?_ (RS.nil))
  ·refine DD m tH I I I I I I I I (by omega) (by omega) ?_;refine Af 27 (.slice (some ⟨g,m*2,none⟩) (l.length-m) (cap-m)) I (by rw[if_neg (by omega),Nat.zero_add]) ?_
   refine Aa (Ab (wX (wZ ?_)))
   refine C5 m tH I I I I I I I I (by omega) ?_
   refine Aa (Ab (wX (wZ ?_)))
   refine AD Tryz.hZ tH I I I I I I I I I I I fun bL1=> ?_
   refine Aa (Ab (wX (wZ ?_)))
   refine wD (X:=Vec) rfl rfl (fun W1 hp=>FA W1 bL1 2 (some ⟨g,m*2,none⟩) (some ⟨g,0,none⟩) (l.length-m) m (cap-m) cap (ptC (l.drop m)) (ptC (l.take m)) (Ak.of_bx hp 0 rfl rfl) (.inr ⟨g,m*2,rfl,rb.hp hp⟩) (.inr ⟨g,0,rfl,ra.hp hp⟩) (by rw[AQ,hl1]) (by rw[AQ,hl2]) (GY _) (GY _) (by omega) (by omega)) ?_;intro V1 hV1;refine Af 32 (V1.val l.length) rfl (by rw[show l.length-m+m=l.length by omega]) ?_
   refine Aa (Ab (wX (wZ (wP I (Aa (Ab ?_))))))
   rw[show l.length-m+m=l.length by omega, ←hBC] at hV1;rw[←hBC];first|refine A8 rfl (by((repeat (first|refine AC.same ?_|refine AC.off rfl ?_));exact trivial)) ?_|refine AN rfl (by kernel_rfl) ?_
   exact Ar ⟨V1,hV1⟩ ⟨I,tO⟩ [1] (by decide) I
  ·refine C5 m tH I I I I I I I I (by omega) ?_
   refine Aa (Ab (wX (wZ ?_)))
   refine DD m tH I I I I I I I I (by omega) (by omega) ?_;refine Af 27 (.slice (some ⟨g,m*2,none⟩) (l.length-m) (cap-m)) I (by rw[if_neg (by omega),Nat.zero_add]) ?_
   refine Aa (Ab (wX (wZ ?_)))
   refine AD Tryz.hZ tH I I I I I I I I I I I fun bL1=> ?_
   refine Aa (Ab (wX (wZ ?_)))
   refine wD (X:=Vec) rfl rfl (fun W1 hp=>FA W1 bL1 2 (some ⟨g,m*2,none⟩) (some ⟨g,0,none⟩) (l.length-m) m (cap-m) cap (ptC (l.drop m)) (ptC (l.take m)) (Ak.of_bx hp 0 rfl rfl) (.inr ⟨g,m*2,rfl,rb.hp hp⟩) (.inr ⟨g,0,rfl,ra.hp hp⟩) (by rw[AQ,hl1]) (by rw[AQ,hl2]) (GY _) (GY _) (by omega) (by omega)) ?_;intro V1 hV1;refine Af 32 (V1.val l.length) rfl (by rw[show l.length-m+m=l.length by omega]) ?_
   refine Aa (Ab (wX (wZ (wP I (Aa (Ab ?_))))))
   rw[show l.length-m+m=l.length by omega, ←hBC] at hV1;rw[←hBC];first|refine A8 rfl (by((repeat (first|refine AC.same ?_|refine AC.off rfl ?_));exact trivial)) ?_|refine AN rfl (by kernel_rfl) ?_
   exact Ar ⟨V1,hV1⟩ ⟨I,tO⟩ [1] (by decide) I
 rintro⟨V,hV⟩
 exact zE (zO (Au tH I (.tmp I) V I hV fun W1 hp=>As.of_hp hp))
-- BOXES 12
-- CODE2
theorem NF (q:Rat):decide (EZ q≤0)=decide (q≤0):=by
 refine decide_eq_decide.2 ?_
 have h:0<q.num↔0<q:=by
  have h1:0≤q.num↔0≤q:=Rat.num_nonneg
  have h2:q.num=0↔q=0:=Rat.num_eq_zero
  constructor
  ·intro h
   exact Rat.lt_of_le_of_ne (h1.1 (by omega)) (fun e=>by rw[←e] at h;exact absurd h (by decide))
  ·intro h
   have a:=h1.2 (Rat.le_of_lt h)
   have b:q.num≠0:=fun e=>by rw[h2.1 e] at h;exact Rat.lt_irrefl h
   omega
 rw[←Rat.not_lt, ←h]
 unfold EZ
 split
 ·omega
 ·split<;>omega
theorem Jg (q:Rat):EZ q= -1∨EZ q=0∨EZ q=1:=by
 unfold EZ
 split
 ·exact .inr (.inl I)
 ·split
  ·exact .inl I
  ·exact .inr (.inr I)
theorem S6 (u v:Rat):decide (w64 (EZ u*EZ v)<0)=decide (u*v<0):=by
 have hu:=NO u
 have hu2:=NF u
 have hv:=NO v
 have hv2:=NF v
 rw[decide_eq_decide] at hu hu2 hv hv2
 rw[decide_eq_decide,I0]
 have hw:w64 (EZ u*EZ v)=EZ u*EZ v:=by
  rcases Jg u with a|a|a<;>rcases Jg v with b|b|b<;>rw[a,b]<;>rfl
 rw[hw]
 rw[show 0<v↔ ¬v≤0 from Rat.not_le.symm,show 0<u↔ ¬u≤0 from Rat.not_le.symm, ←hu, ←hu2, ←hv, ←hv2]
 rcases Jg u with a|a|a<;>rcases Jg v with b|b|b<;>rw[a,b]<;>decide
theorem RT {W0 W:World} {bxs:List Bx} (hp:Hp W0 bxs W) (k:Nat) {g:Nat} {l:List Rat} {junk:List Value} {i:Nat} (hk:nth bxs k=some ⟨g,23,vsC l++junk,true,none⟩) (hi:i<l.length):Ak W g (0+i*1) [str (Ad l[i])]:=by
 have h:=Cz (Ak.of_bx hp k hk rfl)
 refine⟨h.lt,fun m u hu=> ?_⟩
 cases m with
 |zero=>
  obtain rfl:str (Ad l[i])=u:=by simpa using hu
  have:=h.get i (str (Ad l[i])) (by rw[List.getElem?_map,List.getElem?_eq_getElem hi];rfl)
  rw[Nat.zero_add,Nat.mul_one,Nat.add_zero]
  rwa [Nat.zero_add] at this
 |succ m=>simp at hu
structure ClZ (f:Bn) (l:List Ah):Prop where
 v: ∀q∈l,WW f q
 c: ∀i,i<l.length→f.at (Ae l i)*f.at (Ae l (i+1))<0→WM (Ae l i) (Ae l (i+1)) (f.at (Ae l i)) (f.at (Ae l (i+1)))
 o:Hi 149 (C6 f l)
def Eo (f:Bn) (l:List Ah) (k:Nat):List Ah:=(Dj (Ae l) k f).map (M2 (Ae l))
def Gf (f:Bn) (l:List Ah) (k:Nat):List Ah:=Eo f l k++(if f.at (Ae l k)≤0 then[Ae l k] else[])
theorem JG (f:Bn) (l:List Ah) (k:Nat):Eo f l (k+1)=Gf f l k++(if f.at (Ae l k)*f.at (Ae l (k+1))<0 then[Lr (f.at (Ae l k)/(f.at (Ae l k)-f.at (Ae l (k+1)))) (Ae l k) (Ae l (k+1))] else[]):=by
 unfold Eo Gf
 rw[Oy,O3,List.append_assoc]
 rfl
theorem H2 (f:Bn) (l:List Ah): ∀k,(Eo f l k).length≤2*k
 |0=>Nat.le_refl _
 |k+1=>by
  have ih:=H2 f l k
  rw[JG]
  unfold Gf
  rw[List.length_append,List.length_append]
  have a:(if f.at (Ae l k)≤0 then[Ae l k] else[]).length≤1:=by split<;>simp
  have b:(if f.at (Ae l k)*f.at (Ae l (k+1))<0 then[Lr (f.at (Ae l k)/(f.at (Ae l k)-f.at (Ae l (k+1)))) (Ae l k) (Ae l (k+1))] else[]).length≤1:=by split<;>simp
  omega
theorem Us (f:Bn) (l:List Ah) (k:Nat):(Gf f l k).length≤2*k+1:=by
 unfold Gf
 have:=H2 f l k
 rw[List.length_append]
 have a:(if f.at (Ae l k)≤0 then[Ae l k] else[]).length≤1:=by split<;>simp
 omega
theorem Wb (f:Bn) (l:List Ah):(l.map f.at).any (fun q=>decide (q<0))=Kc f l:=by
 unfold Kc
 rw[List.any_map];rfl
abbrev ckB (b c:Nat):Bx:=⟨b,59,[Ai c],true,none⟩
abbrev lsB (b:Nat) (v:Value):Bx:=⟨b,22,[v],true,none⟩
abbrev nmB (b:Nat) (v:Value):Bx:=⟨b,87,[v],true,none⟩
theorem Qp (c:Nat) (f:Bn) (l:List Ah) (hz:ClZ f l) (hP:Bh l) (h3:3≤l.length) (hn:l.length≤4096) (p:Option Addr) (cap:Nat) (W:World) (hA:Ch W p l) (hc:C9 W c) (hv:BU W) (ht:AO W):
  Aj Tryz.prog 42 #[Ai c,slv p l.length cap,str (Ad f.a),str (Ad f.b),str (Ad f.c)] W (fun V:Vec=>V.val (Dy f l).length) (fun V=>V.OK 2 (Dy f l).length (ptC (Dy f l))) (fun V=>[V.bx 35 (ptC (Dy f l))]):=by
 have hn0:0<l.length:=by omega
 have hzz:(l.length:Int)≠0:=by omega
 have hvl:(l.map f.at).length=l.length:=List.length_map _
 refine Ac (args:=[Ai c,slv p l.length cap,str (Ad f.a),str (Ad f.b),str (Ad f.c)]) Tryz.func42 I I I ?_
 refine zA (zB ?_)
 (refine A5 rfl rfl rfl rfl ?_;intro)
 (refine A5 rfl rfl rfl rfl ?_;intro)
 refine wP I (Aa ?_)
 rename_i b5 b6
 refine zE (A0 ?_)
 refine Bb (X:= { s:Nat×Vec//s.2.OK 1 l.length (vsC (l.map f.at)) }) [true,true,true,true,true,false,false,false,false] (fun s=>[(5,Ai b5),(6,Ai b6),(11,Ai s.1.1)]) (fun s=>[ckB b5 c,lsB b6 (slv p l.length cap),nmB s.1.1 (s.1.2.val l.length),s.1.2.bx 23 (vsC (l.map f.at))])
  4 [ckB b5 c,lsB b6 (slv p l.length cap)] Tryz.mixed (by kernel_rfl) ?_ ?_
 ·refine qB 1 I I I (qB 0 I I I (qP I (qP I (qP I (Ck (wX ?_))))))
  refine RS.cons ?_ (RS.cons ?_ (RS.nil))
  ·refine wD (X:=Nat×Nat×Nat×Nat) rfl rfl (fun W1 _=>Fe c f W1) ?_;rintro⟨v4,v5,v6,v7⟩ _
   refine Aa (Ab (wX ?_))
   refine RS.cons ?_ (RS.cons ?_ (RS.nil))
   ·refine wD (X:=Vec) rfl rfl (fun W1 hp=>CH l f.at 132 [Ai v4,Ai v5,Ai v6,Ai v7] (by kernel_rfl) hn p cap W1 (hA.hp hp) (fun q hq W2 hb=>CL v4 v5 v6 v7 c f q (hz.v q hq) W2 (Kb.below (by first|exact⟨Ak.of_bx hp 2 rfl rfl,Ak.of_bx hp 3 rfl rfl,Ak.of_bx hp 4 rfl rfl,Ak.of_bx hp 5 rfl rfl,hc.hp hp,hv.hp hp,ht.hp hp⟩|exact⟨Ak.of_bx hp 3 rfl rfl,Ak.of_bx hp 4 rfl rfl,Ak.of_bx hp 5 rfl rfl,Ak.of_bx hp 6 rfl rfl,hc.hp hp,hv.hp hp,ht.hp hp⟩) hb))) ?_;rintro⟨pV1,cV1,jV1⟩ hV1;obtain⟨gV1,rfl⟩: ∃g,pV1=some g:=Option.ne_none_iff_exists'.1 (fun e=>absurd (hV1.nil e) (by omega))
    refine Aa (Ab (wX (wZ ?_)))
    refine Ag Tryz.hZ rfl rfl rfl rfl ?_;intro b11
    refine Aa (Ab (wX (wZ (wS 7 I I I (Aa (Ab ?_))))))
    refine A8 I (by((repeat (first|refine AC.same ?_|refine AC.off I ?_));exact tO)) ?_
    exact Ar (⟨(b11,⟨some gV1,cV1,jV1⟩),hV1⟩: { s:Nat×Vec//s.2.OK 1 l.length (vsC (l.map f.at)) }) ⟨I,I,I,tO⟩ [0,1,7,6] (by decide) I
   ·refine Ag Tryz.hZ rfl rfl rfl rfl ?_;intro b11
    refine Aa (Ab (wX (wZ ?_)))
    refine wD (X:=Vec) rfl rfl (fun W1 hp=>CH l f.at 132 [Ai v4,Ai v5,Ai v6,Ai v7] (by kernel_rfl) hn p cap W1 (hA.hp hp) (fun q hq W2 hb=>CL v4 v5 v6 v7 c f q (hz.v q hq) W2 (Kb.below (by first|exact⟨Ak.of_bx hp 2 rfl rfl,Ak.of_bx hp 3 rfl rfl,Ak.of_bx hp 4 rfl rfl,Ak.of_bx hp 5 rfl rfl,hc.hp hp,hv.hp hp,ht.hp hp⟩|exact⟨Ak.of_bx hp 3 rfl rfl,Ak.of_bx hp 4 rfl rfl,Ak.of_bx hp 5 rfl rfl,Ak.of_bx hp 6 rfl rfl,hc.hp hp,hv.hp hp,ht.hp hp⟩) hb))) ?_;rintro⟨pV1,cV1,jV1⟩ hV1;obtain⟨gV1,rfl⟩: ∃g,pV1=some g:=Option.ne_none_iff_exists'.1 (fun e=>absurd (hV1.nil e) (by omega))
    refine Aa (Ab (wX (wZ (wS 6 I I I (Aa (Ab ?_))))))
    refine A8 I (by((repeat (first|refine AC.same ?_|refine AC.off I ?_));exact tO)) ?_
    exact Ar (⟨(b11,⟨some gV1,cV1,jV1⟩),hV1⟩: { s:Nat×Vec//s.2.OK 1 l.length (vsC (l.map f.at)) }) ⟨I,I,I,tO⟩ [0,1,6,7] (by decide) I
  ·refine Ag Tryz.hZ rfl rfl rfl rfl ?_;intro b11
   refine Aa (Ab (wX (wZ ?_)))
   refine wD (X:=Nat×Nat×Nat×Nat) rfl rfl (fun W1 _=>Fe c f W1) ?_;rintro⟨v4,v5,v6,v7⟩ _
   refine Aa (Ab (wX (wZ ?_)))
   refine wD (X:=Vec) rfl rfl (fun W1 hp=>CH l f.at 132 [Ai v4,Ai v5,Ai v6,Ai v7] (by kernel_rfl) hn p cap W1 (hA.hp hp) (fun q hq W2 hb=>CL v4 v5 v6 v7 c f q (hz.v q hq) W2 (Kb.below (by first|exact⟨Ak.of_bx hp 2 rfl rfl,Ak.of_bx hp 3 rfl rfl,Ak.of_bx hp 4 rfl rfl,Ak.of_bx hp 5 rfl rfl,hc.hp hp,hv.hp hp,ht.hp hp⟩|exact⟨Ak.of_bx hp 3 rfl rfl,Ak.of_bx hp 4 rfl rfl,Ak.of_bx hp 5 rfl rfl,Ak.of_bx hp 6 rfl rfl,hc.hp hp,hv.hp hp,ht.hp hp⟩) hb))) ?_;rintro⟨pV1,cV1,jV1⟩ hV1;obtain⟨gV1,rfl⟩: ∃g,pV1=some g:=Option.ne_none_iff_exists'.1 (fun e=>absurd (hV1.nil e) (by omega))
   refine Aa (Ab (wX (wZ (wS 2 I I I (Aa (Ab ?_))))))
   refine A8 I (by((repeat (first|refine AC.same ?_|refine AC.off I ?_));exact tO)) ?_
   exact Ar (⟨(b11,⟨some gV1,cV1,jV1⟩),hV1⟩: { s:Nat×Vec//s.2.OK 1 l.length (vsC (l.map f.at)) }) ⟨I,I,I,tO⟩ [0,1,2,7] (by decide) I
 rintro⟨⟨b11,⟨pV,cV,jV⟩⟩,hV⟩
 obtain⟨gV,rfl⟩: ∃g,pV=some g:=by
  cases pV with
  |none=>have:=hV.nil rfl;omega
  |some g=>exact⟨g,rfl⟩
 have hcapV:=(hV.cap (by simp)).1
 refine zE (zA (zA (zB (wB 0 I I I ?_))))
 refine AL I I I I ?_
 refine wP I (wL 0 I I (fun W1 hp=>(hc.hp hp).row) I (wP I (Aa (zE (zS I (zI (zE (zA (zB ?_)))))))))
 (refine Ag Tryz.hZ rfl rfl rfl rfl ?_;intro)
 refine Aa ?_
 rename_i b12
 refine zE (zA (zA (zB (wB 1 I I I ?_))))
 refine wD (X:=Nat) I I (fun W1 _=>DW p l.length cap W1) ?_
 intro bp _
 refine Aa (zE (zH ?_))
 refine Ey ?_
 refine Fp (X:=Nat×Vec) (fun x=>[ckB b5 c,lsB b6 (slv p l.length cap),nmB b11 (.slice (some ⟨gV,0,none⟩) l.length cV),⟨gV,23,vsC (l.map f.at)++jV,true,none⟩,lsB b12 (x.2.val (Eo f l x.1).length),lsB bp (slv p l.length cap),x.2.bx 35 (ptC (Eo f l x.1))])
  (fun j x=>x.1=j∧x.2.OK 2 (Eo f l x.1).length (ptC (Eo f l x.1))) (fun _ _=>False) (0,Vec.empty) rfl (by kernel_rfl) (EK l bp p cap (by omega)) (fun _=>rfl)
  ⟨rfl,Vec.OK.empty 2⟩ [] rfl (fun k x W1 _ hp=>⟨Ak.of_bx hp 5 rfl rfl,hA.hp hp⟩) ?_ ?_ (fun _ _ _ _ _ h=>h.elim)
 ·rintro k ⟨k',O⟩ d l' rec L hk ⟨e1,hO⟩ hrec
  obtain rfl:k'=k:=e1
  have hk:k'<l.length:=hk
  have hO:O.OK 2 (Eo f l k').length (ptC (Eo f l k')):=hO
  have hol:=H2 f l k'
  have hml:=Us f l k'
  have hsl:=H2 f l (k'+1)
  have hk2:(k'+1)%l.length<l.length:=Nat.mod_lt _ hn0
  have ev: ∀i (hi:i<l.length),(l.map f.at)[i]'(by rw[hvl];exact hi)=f.at (Ae l i):=fun i hi=>by rw[List.getElem_map,AG hi]
  have hr1: ∀ {W0 W1:World} {bxs:List Bx} (hp:Hp W0 bxs W1) (m:Nat) (hm:nth bxs m=some ⟨gV,23,vsC (l.map f.at)++jV,true,none⟩),Ak W1 gV (0+k'*1) [str (Ad (f.at (Ae l k')))]:=fun hp m hm=>by
   have:=RT hp m hm (i:=k') (by rw[hvl];exact hk)
   rwa [ev k' hk] at this
  have hr2: ∀ {W0 W1:World} {bxs:List Bx} (hp:Hp W0 bxs W1) (m:Nat) (hm:nth bxs m=some ⟨gV,23,vsC (l.map f.at)++jV,true,none⟩),Ak W1 gV (0+((k'+1)%l.length)*1) [str (Ad (f.at (Ae l (k'+1))))]:=fun hp m hm=>by
   have:=RT hp m hm (i:=(k'+1)%l.length) (by rw[hvl];exact hk2)
   rwa [ev _ hk2,BH] at this
  obtain⟨u,hu⟩: ∃u,u=f.at (Ae l k'):=⟨_,rfl⟩
  obtain⟨v,hvv⟩: ∃v,v=f.at (Ae l (k'+1)):=⟨_,rfl⟩
  have hsu:=JG f l k'
  have hmu:Gf f l k'=Eo f l k'++(if u≤0 then[Ae l k'] else[]):=by rw[hu];rfl
  have hcz:=hz.c k' hk
  rw[←hu, ←hvv] at hsu hcz
  rw[←hu] at hr1
  rw[←hvv] at hr2
  refine zA (zB (wP I (Aa (zE (zB ?_)))))
  (refine Ag Tryz.hZ rfl rfl rfl rfl ?_;intro)
  refine wS 10 I I I (Aa ?_)
  rename_i b14
  refine Dc 9 hrec I ?_
  refine CF (zA (zU (qB 3 I I I (qP I ?_))))
  refine qJ ?_
  refine qL 0 I I (fun W1 hp=>hr1 hp 4 I) I (qC I I (fun W1 _=>ED u W1) (qB 3 I I I (qP I (qP I (qV 40 ((k'+1:Nat):Int) I (Az (by omega)) (qB 2 I I I (qP I ?_)))))))
  refine Ez I I I I I hzz ?_
  refine D9 43 (.int .i64 (((k'+1)%l.length:Nat):Int)) I I ?_
  refine qJ ?_
  refine qL 0 I I (fun W1 hp=>hr2 hp 4 I) I (qC I I (fun W1 _=>ED v W1) (qP I (qP I (AU (Aa (zE (zA (zA (zB (wP I (wP I (wU 48 (decide (u≤0)) I (NF u) (Aa ?_)))))))))))))
  refine AH ?_
  refine AF (X:=Vec) (fun _=>[(5,Ai b5),(6,Ai b6),(11,Ai b11),(12,Ai b12),(13, .int .i64 (k':Nat)),(14,Ai b14),(15, .int .i64 (EZ u)),(16, .int .i64 (EZ v))])
   (fun O=>[AP L,ckB b5 c,lsB b6 (slv p l.length cap),nmB b11 (.slice (some ⟨gV,0,none⟩) l.length cV),⟨gV,23,vsC (l.map f.at)++jV,true,none⟩,lsB b12 (O.val (Gf f l k').length),lsB bp (slv p l.length cap),O.bx 35 (ptC (Gf f l k')),BD d,Bm l' rec .busy none,⟨b14,66,(sdV (Ae l k') (Ae l (k'+1))).cells.toList,true,none⟩])
   (fun O=>O.OK 2 (Gf f l k').length (ptC (Gf f l k'))) ?_ ?_
  ·refine Av I (fun hc1=> ?_) (fun hc1=> ?_)
   ·rw[if_pos (of_decide_eq_true hc1)] at hmu
    have hlm:(Eo f l k').length+1=(Gf f l k').length:=by rw[hmu,List.length_append];rfl
    refine zB (wB 5 I I I ?_)
    refine EX Tryz.underlying66 Tryz.sizeOf35 I I I I I ⟨by decide,by decide⟩ ?_
    refine wB 10 I I I ?_
    refine AD Tryz.hZ tH I I I I I I I I I I I fun bS=> ?_
    refine Bo (V:=O) (len:=(Eo f l k').length) (xs:=ptC (Eo f l k')) 7 11 Tryz.vec22 (Gf f l k').length (ptC (Gf f l k')) I I I I I I I I I I I hO I I hlm (by rw[hmu,BP];rfl) (by simp only[maxLen];omega) (by omega) I ?_
    intro gO cO jO hO1
    exact wS 5 I I I (Aa (Al ⟨some gO,cO,jO⟩ hO1 ⟨I,I,I,I,I,I,I,I,tO⟩ [_] I))
   ·rw[if_neg (of_decide_eq_false hc1),List.append_nil] at hmu
    exact zI (Al O (by rw[hmu];exact hO) ⟨I,I,I,I,I,I,I,I,tO⟩ [] (by rw[hmu];rfl))
  intro O1 hO1
  have hO1:O1.OK 2 (Gf f l k').length (ptC (Gf f l k')):=hO1
  refine zA (zB (wP I (wP I (wP I (wP I (wU 57 (decide (u*v<0)) I (S6 u v) (Aa (zE ?_))))))))
  refine Av I (fun hc2=> ?_) (fun hc2=> ?_)
  ·have hc2':u*v<0:=of_decide_eq_true hc2
   rw[if_pos hc2'] at hsu
   have hlm:(Gf f l k').length+1=(Eo f l (k'+1)).length:=by rw[hsu,List.length_append];rfl
   refine Bb (X:= { O:Vec//O.OK 2 (Eo f l (k'+1)).length (ptC (Eo f l (k'+1))) }) [true,true,true,true,true,true,true,true,true,true,true,true,true,true,true,true,true,true,true,false,false,false] (fun _=>[(5,Ai b5)])
    (fun O=>[AP L,ckB b5 c,lsB b6 (slv p l.length cap),nmB b11 (.slice (some ⟨gV,0,none⟩) l.length cV),⟨gV,23,vsC (l.map f.at)++jV,true,none⟩,lsB b12 (O.1.val (Eo f l (k'+1)).length),lsB bp (slv p l.length cap),O.1.bx 35 (ptC (Eo f l (k'+1))),BD d,Bm l' rec .busy none])
    3 [AP L,ckB b5 c,lsB b6 (slv p l.length cap),nmB b11 (.slice (some ⟨gV,0,none⟩) l.length cV),⟨gV,23,vsC (l.map f.at)++jV,true,none⟩,lsB b12 (O1.val (Gf f l k').length),lsB bp (slv p l.length cap),O1.bx 35 (ptC (Gf f l k')),BD d,Bm l' rec .busy none,⟨b14,66,(sdV (Ae l k') (Ae l (k'+1))).cells.toList,true,none⟩] Tryz.mixed (by kernel_rfl) ?_ ?_
   ·refine qB 5 I I I (qB 1 I I I ?_)
    refine B5 Tryz.underlying66 Tryz.sizeOf35 I I I I I ⟨by decide,by decide⟩ ?_
    refine qB 10 I I I ?_
    refine B5 Tryz.underlying66 Tryz.sizeOf35 I I I I I ⟨by decide,by decide⟩ ?_
    refine qB 10 I I I (qB 3 I I I (qP I ?_))
    refine qJ ?_
    refine qL 0 I I (fun W1 hp=>hr1 hp 4 I) I (qB 3 I I I (qP I (qP I (qV 70 ((k'+1:Nat):Int) I (Az (by omega)) (qB 2 I I I (qP I ?_))))))
    refine Ez I I I I I hzz ?_
    refine D9 73 (.int .i64 (((k'+1)%l.length:Nat):Int)) I I ?_
    refine qJ ?_
    refine qL 0 I I (fun W1 hp=>hr2 hp 4 I) I (qC I I (fun W1 hp=>L8 c (Ae l k') (Ae l (k'+1)) u v (hcz hc2') W1 (hc.hp hp) (hv.hp hp) (ht.hp hp)) (Ck (wX (wZ ?_))))
    refine AD Tryz.hZ tH I I I I I I I I I I I fun bS=> ?_
    refine Aa (Ab (wX (wZ ?_)))
    refine Bo (V:=O1) (len:=(Gf f l k').length) (xs:=ptC (Gf f l k')) 7 11 Tryz.vec22 (Eo f l (k'+1)).length (ptC (Eo f l (k'+1))) rfl rfl rfl rfl rfl rfl rfl rfl rfl rfl rfl hO1 rfl rfl hlm (by rw[hsu,BP];rfl) (by simp only[maxLen];omega) (by omega) rfl ?_;intro gO cO jO hO2
    refine Aa (Ab (wY (wZ (wS 5 I I I (Aa (Ab ?_))))))
    refine AN I (by kernel_rfl) ?_
    exact Ar (⟨⟨some gO,cO,jO⟩,hO2⟩: { O:Vec//O.OK 2 (Eo f l (k'+1)).length (ptC (Eo f l (k'+1))) }) ⟨I,tO⟩ [0,1,2,3,4,5,6,7,8,9] (by decide) I
   rintro⟨O2,hO2⟩
   exact zN (Ct 9 (k'+1,O2) hrec I ⟨I,hO2⟩ [] I)
  ·rw[if_neg (of_decide_eq_false hc2),List.append_nil] at hsu
   exact zI (zN (Ct 9 (k'+1,O1) hrec I ⟨I,by show O1.OK 2 (Eo f l (k'+1)).length (ptC (Eo f l (k'+1)));rw[hsu];exact hO1⟩ [_] (by rw[hsu];rfl)))
 ·rintro⟨k',O⟩ d l' rec ⟨e1,hO⟩
  obtain rfl:k'=l.length:=e1
  have hO:O.OK 2 (C6 f l).length (ptC (C6 f l)):=hO
  have hoe:Eo f l l.length=C6 f l:=rfl
  have hol:=H2 f l l.length
  rw[hoe] at hol
  rw[hoe]
  refine zN (zE (zA (zA (zB (wB 0 I I I ?_)))))
  refine AL I I I I ?_
  refine wP I (wL 0 I I (fun W1 hp=>(hc.hp hp).row) I (wP I (wP I (wB 2 I I I ?_))))
  refine wC I I (fun W1 hp=>(by
   have h:=JM 98 (by kernel_rfl) (fun q=>decide (q<0)) Of (l.map f.at) (by rw[hvl];omega) (some ⟨gV,0,none⟩) cV W1 (.inr ⟨gV,0,rfl,by
    have:=Cz (Ak.of_bx hp 3 rfl rfl:Ak W1 gV 0 (vsC (l.map f.at)++jV))
    rw[List.map_map];exact this⟩)
   rwa [hvl,Wb] at h)) ?_
  cases hneg:Kc f l with
  |false=>
   refine wP I (wP I (Aa (zE (zR I (zA (zB (wP I (Aa (zE (zO (zP ?_)))))))))))
   refine CN 7 I ?_
   have e0:Dy f l=[]:=by unfold Dy;rw[hneg];rfl
   exact Au tH I (.tmp I) Vec.empty (by rw[e0];rfl) (by rw[e0];exact Vec.OK.empty 2) fun W1 hp=>by
    rw[e0]
    exact Own.one (fun p hp=>by cases hp) List.nodup_nil
  |true=>
   have e0:Dy f l=B3 (C6 f l):=by unfold Dy;rw[hneg];rfl
   have hlb:(B3 (C6 f l)).length=(C6 f l).length:=DF (G1 _)
   obtain⟨q,hq,hqn⟩:=Q6.1 hneg
   have hpos:0<(C6 f l).length:=by
    obtain⟨i,hi,e⟩:=Cs hq
    have:=VR hP hi (by rw[e];exact hqn)
    rw[OM]
    omega
   obtain⟨pO,cO,jO⟩:=O
   obtain⟨gO,rfl⟩: ∃g,pO=some g:=Option.ne_none_iff_exists'.1 (fun e=>absurd (hO.nil e) (by omega))
   have hcO:=(hO.cap (by simp)).1
   refine wP I (wP I (Aa (zE (zS I (zI (zE (zA (zB (wB 0 I I I (wB 4 I I I ?_))))))))))
   refine wD (X:=Vec) I I (fun W1 hp=>N4 c (C6 f l) 149 (by decide) hz.o hpos (by omega) gO cO hcO W1 (Cz (Ak.of_bx hp 6 I I:Ak W1 gO 0 (ptC (C6 f l)++jO))) (hc.hp hp) (hv.hp hp) (ht.hp hp)) ?_
   intro V2 hV2
   have hV2:V2.OK 2 (C6 f l).length (ptC (B3 (C6 f l))):=hV2
   refine wP I (Aa (zE (zO ?_)))
   refine CN 7 I ?_
   exact Au tH I (.tmp I) V2 (by rw[e0,hlb]) (by rw[e0,hlb];exact hV2) fun W1 hp=>by
    rw[e0]
    exact As.of_hp (hp.pick (l:=[V2.bx 35 (ptC (B3 (C6 f l)))]) [9] (by decide) I)
-- BOXES 12
-- CODE2
structure TK (f:Bn):Prop where
 a:okQ f.a
 b:okQ f.b
 c:okQ f.c
 n:f.a≠0∨f.b≠0
theorem PP (f:Bn) (hf:TK f) (l:List Ah) (hz:ClZ f l) (p:Option Addr) (cap:Nat) (W:World) (h:Gi W p l):
  Aj Tryz.prog 12 #[slv p l.length cap,str (Ad f.a),str (Ad f.b),str (Ad f.c)] W (fun V:Vec=> .tuple #[V.val (Dy f l).length, .int .i64 0]) (fun V=>V.OK 2 (Dy f l).length (ptC (Dy f l))) (fun V=>[V.bx 35 (ptC (Dy f l))]):=by
 refine Ac (args:=[slv p l.length cap,str (Ad f.a),str (Ad f.b),str (Ad f.c)]) Tryz.func12 I I I ?_
 refine zA (zB (wP I (wP I (Aa (zE (zA (zA (zB (wP I (wP I (wP I (wP I ?_))))))))))))
 refine AD Tryz.hZ tH I I I I I I I I I I I fun bS=> ?_
 refine wC I I (fun W1 hp=>Iy l p cap f.a f.b f.c hf.a hf.b hf.c hf.n bS 3 W1 (h.hp hp) (Ak.of_bx hp 0 I I)) (wP I (Aa (zE (zA (zB (wP I (wP I (Aa (zE (zS I (zI (zE (zA ?_)))))))))))))
 refine zB ?_
 refine Ay Tryz.hZ tH I I I I I I I I ?_
 (refine A5 rfl rfl rfl rfl ?_;intro)
 refine wP I (Aa ?_)
 rename_i bC
 refine zE (zA (zB ?_))
 iterate 5 refine wP I ?_
 refine wD (X:=Vec) I I (fun W1 hp=>Qp bC f l hz h.poly h.n3 h.n p cap W1 (h.hp hp).m (Bu hp 1 I) (h.hp hp).v (h.hp hp).t) ?_
 intro V hV
 have hV:V.OK 2 (Dy f l).length (ptC (Dy f l)):=hV
 refine wP I (Aa (zE (zA (zA (zB (wP I ?_))))))
 refine AL I I I I ?_
 refine wP I (wB 1 I I I (wP I (Aa (zE (zS I (zI (zE (zA (zB (wP I (wP I (wP I (Aa ?_)))))))))))))
 exact zE (zO (AI tH I (.tmp I) (.tmp I) V I hV fun W1 hp=>As.of_hp (hp.pick (l:=[V.bx 35 (ptC (Dy f l))]) [2] (by decide) I)))
theorem N0 : ∃ f1 f2 : Field, (Tryz.prog.fieldsOf 35).toList = [f1, f2] ∧ (f1.name ≠ "_" ∧ f1.type = 23 ∧ f1.offset = 0) ∧ (f2.name ≠ "_" ∧ f2.type = 23 ∧ f2.offset = 1) := by
 unfold Program.fieldsOf;rw[Tryz.underlying35]
 exact⟨_,_,I,⟨by decide,I,I⟩,⟨by decide,I,I⟩⟩
theorem Vp (W:World) (a b c d:List UInt8):(binOp .eql 35 (.agg #[str a,str b]) (.agg #[str c,str d])).run Tryz.prog W= .ok (.bool (decide (a=c∧b=d))) W:=by
 rw[run_eql_struct,run_equalIn_agg W 9999 35 _ _ (by kernel_rfl) (by kernel_rfl)]
 obtain⟨f1,f2,hf,⟨n1,t1,o1⟩,⟨n2,t2,o2⟩⟩:=N0
 rw[hf]
 have e: ∀(x y:List UInt8) W,(Op.equalIn 9999 23 (str x) (str y)).run Tryz.prog W= .ok (decide (x=y)) W:=fun x y W=>by
  rw[run_equalIn_string W 9998 23 _ _ Tryz.underlying23,Be]
 by_cases h1:a=c<;>by_cases h2:b=d<;>simp[Op.eqFields,part,Tryz.isAgg23,e,h1,h2,n1,n2,t1,t2,o1,o2]
theorem Xt (W:World) (a b c d:List UInt8):(binOp .neq 35 (.agg #[str a,str b]) (.agg #[str c,str d])).run Tryz.prog W= .ok (.bool (!decide (a=c∧b=d))) W:=by
 rw[run_neq_struct,run_equalIn_agg W 9999 35 _ _ (by kernel_rfl) (by kernel_rfl)]
 obtain⟨f1,f2,hf,⟨n1,t1,o1⟩,⟨n2,t2,o2⟩⟩:=N0
 rw[hf]
 have e: ∀(x y:List UInt8) W,(Op.equalIn 9999 23 (str x) (str y)).run Tryz.prog W= .ok (decide (x=y)) W:=fun x y W=>by
  rw[run_equalIn_string W 9998 23 _ _ Tryz.underlying23,Be]
 by_cases h1:a=c<;>by_cases h2:b=d<;>simp[Op.eqFields,part,Tryz.isAgg23,e,h1,h2,n1,n2,t1,t2,o1,o2]
section
variable {r:Option Nat} {n:Nat} {N:Nat} {D:List Deferred} {ops:List Oper} {Q:Exit→Act→World→Prop} {o:Oper} {rest:List Oper} {env:Env} {A A2:World→Prop} {R:Act→World→Prop}
theorem AT (a b c d:List UInt8) {t:Nat} {u:TypeId} {x y:Operand} (hg:A7 ops N env o=some true) (hd:o.dst=some t) (ho:o.op= .binOp .eql 35 x y u)
  (hx:evO N env x=some (.agg #[str a,str b])) (hy:evO N env y=some (.agg #[str c,str d]))
  (h:WL r n Tryz.prog N D ops Q rest ((t, .bool (decide (a=c∧b=d)))::env) A):WL r n Tryz.prog N D ops Q (o::rest) env A:=
 CV hg hd (fun c e=>by rw[ho] at e;cases e) (fun _ W hρ _=>by
  have hm:Tryz.prog.eqGuardType Tryz.prog.depth 35=false:=by kernel_rfl
  simp[execOp,ho,hρ _ _ hx,hρ _ _ hy,run_eqGuard_agg W .eql 35 x y _ _ hm,Vp]) h
theorem V9 (a b c d:List UInt8) {t:Nat} {u:TypeId} {x y:Operand} (hg:A7 ops N env o=some true) (hd:o.dst=some t) (ho:o.op= .binOp .eql 35 x y u)
  (hx:evO N env x=some (.agg #[str a,str b])) (hy:evO N env y=some (.agg #[str c,str d]))
  (h:WQ Tryz.prog N D ops A2 R rest ((t, .bool (decide (a=c∧b=d)))::env) A):WQ Tryz.prog N D ops A2 R (o::rest) env A:=
 D6 hg hd (fun c e=>by rw[ho] at e;cases e) (fun _ W hρ _=>by
  have hm:Tryz.prog.eqGuardType Tryz.prog.depth 35=false:=by kernel_rfl
  simp[execOp,ho,hρ _ _ hx,hρ _ _ hy,run_eqGuard_agg W .eql 35 x y _ _ hm,Vp]) h
theorem RX (a b c d:List UInt8) {t:Nat} {u:TypeId} {x y:Operand} (hg:A7 ops N env o=some true) (hd:o.dst=some t) (ho:o.op= .binOp .neq 35 x y u)
  (hx:evO N env x=some (.agg #[str a,str b])) (hy:evO N env y=some (.agg #[str c,str d]))
  (h:WQ Tryz.prog N D ops A2 R rest ((t, .bool (!decide (a=c∧b=d)))::env) A):WQ Tryz.prog N D ops A2 R (o::rest) env A:=
 D6 hg hd (fun c e=>by rw[ho] at e;cases e) (fun _ W hρ _=>by
  have hm:Tryz.prog.eqGuardType Tryz.prog.depth 35=false:=by kernel_rfl
  simp[execOp,ho,hρ _ _ hx,hρ _ _ hy,run_eqGuard_agg W .neq 35 x y _ _ hm,Xt]) h
end
theorem IU (l:List Ah) (hn:l.length≤100000) (p q:Option Addr) (cap cap2:Nat) (W:World) (hA:Ch W p l) (hB:Ch W q l):
  Aj Tryz.prog 23 #[slv p l.length cap,slv q l.length cap2] W (fun _:Unit=> .bool true) (fun _=>True) (fun _=>[]):=by
 refine Ac (args:=[slv p l.length cap,slv q l.length cap2]) Tryz.func23 I I I ?_
 refine zA (zB (wP I (Aa (zE (zA (zA (zB ?_)))))))
 iterate 5 refine wP I ?_
 refine wU 10 false I (bne_eq_false_iff_eq.2 I) (Aa (zE (zS I (zI (zE (zA (zA (zB (wP I (wP I (wP I (Aa (zE ?_)))))))))))))
 refine zH ?_
 refine AA (X:=Nat) (fun i=>[(0,slv p l.length cap),(1,slv q l.length cap2),(12, .int .i64 (l.length:Nat)),(13, .int .i64 (i:Nat))]) (fun _=>[]) (fun i=>i≤l.length) (fun i=>l.length-i) 0 (Nat.zero_le _) ⟨I,I,I,I,tO⟩ [] I ?_
 intro i hi
 have hi:i≤l.length:=hi
 refine zA (zB (wP I ?_))
 by_cases hlt:i<l.length
 ·refine wU 14 true I (dT (by omega)) (Aa (zE (zA (zR I (zI (zE (zA (zH (zA (zB ?_))))))))))
  obtain⟨g,off,e1,h1⟩:=hA.at_ hlt
  obtain⟨g2,off2,e2,h2⟩:=hB.at_ hlt
  have h1:=h1 i hlt
  have h2:=h2 i hlt
  obtain⟨x,hx⟩: ∃x,x=l[i]:=⟨_,rfl⟩
  rw[←hx] at h1 h2
  subst e1 e2
  refine wP I (wP I (Aa (zE (zA (zU (qP I (qP I ?_)))))))
  refine qJ ?_
  refine qL 0 I I (fun W1 hp=>h1.hp hp) I (qP I (qP I ?_))
  refine qJ ?_
  refine qL 0 I I (fun W1 hp=>h2.hp hp) I ?_
  refine RX (Ad x.1) (Ad x.2) (Ad x.1) (Ad x.2) I I I I I ?_
  exact qU 24 false I (by rw[dT ⟨I,I⟩];rfl) (AU (Aa (zE (zS I (zI (zN (zE (zB (wP I (wV 25 ((i+1:Nat):Int) I (Az (by omega)) (wP I (Aa (A6 (i+1) hlt (by show l.length-(i+1)<l.length-i;omega) ⟨I,I,I,I,tO⟩ [] I)))))))))))))
 refine wU 14 false I (dF (by omega)) (Aa (zE (zA (zS I (zJ (zK (zK (zL (zE (zA (zB (wP I (Aa ?_)))))))))))))
 exact zE (zO (wR1 I I I))
end
end Go.Proofs.YthndmdimmgkpgaaGreatDoor
