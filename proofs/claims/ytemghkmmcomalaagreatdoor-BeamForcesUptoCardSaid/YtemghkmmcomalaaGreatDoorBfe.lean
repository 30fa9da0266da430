/-
  Lemmas that the theorem beamForces_upto_card needs (part 5 of 6).
-/
import Derived.Test.YtemghkmmcomalaaGreatDoorBfd
set_option maxHeartbeats 64000000
namespace Go.Proofs.YtemghkmmcomalaaGreatDoor
section
open Go Go.RowKit Go.Am Go.Lib
set_option maxRecDepth 10000
-- BOXES 4
-- CODE2
theorem TZ {W m:Nat} (h:W<br^(m+3)):((W/br^(m+2)%br)*br+W/br^(m+1)%br)*br+W/br^m%br=W/br^m:=by
 have h1:W/br^(m+1)=W/br^m/br:=by rw[Nat.pow_succ,Nat.div_div_eq_div_mul]
 have h2:W/br^(m+2)=W/br^m/br/br:=by rw[Nat.pow_succ, ←Nat.div_div_eq_div_mul,h1]
 have h3:W/br^m<br*br*br:=by
  apply Nat.div_lt_of_lt_mul
  have:br^(m+3)=br^m*(br*br*br):=by rw[Nat.pow_succ,Nat.pow_succ,Nat.pow_succ];simp[Nat.mul_assoc]
  rw[←this];exact h
 rw[h2,h1]
 generalize W/br^m=x at h3⊢
 have h3:x<1000000*1000000*1000000:=h3
 show((x/1000000/1000000%1000000)*1000000+x/1000000%1000000)*1000000+x%1000000=x
 omega
theorem Ul {b m:Nat} (h:b<br^(m+2)):(b/br^(m+1)%br)*br+b/br^m%br=b/br^m:=by
 have h1:b/br^(m+1)=b/br^m/br:=by rw[Nat.pow_succ,Nat.div_div_eq_div_mul]
 have h3:b/br^m<br*br:=by
  apply Nat.div_lt_of_lt_mul
  have:br^(m+2)=br^m*(br*br):=by rw[Nat.pow_succ,Nat.pow_succ];simp[Nat.mul_assoc]
  rw[←this];exact h
 rw[h1]
 generalize b/br^m=x at h3⊢
 have h3:x<1000000*1000000:=h3
 show(x/1000000%1000000)*1000000+x%1000000=x
 omega
theorem T7 {W b m g:Nat} (hg:g=W/m/(b/m+1)) (hm:0<m):g*b≤W:=by
 have h1:b<(b/m+1)*m:=Nat.lt_mul_of_div_lt (Nat.lt_succ_self _) hm
 have h2:g*(b/m+1)≤W/m:=by rw[hg];exact Nat.div_mul_le_self ..
 have h3:g*(b/m+1)*m≤W/m*m:=Nat.mul_le_mul_right _ h2
 have h4:W/m*m≤W:=Nat.div_mul_le_self ..
 have h5:g*b≤g*((b/m+1)*m):=Nat.mul_le_mul_left _ (by omega)
 rw[←Nat.mul_assoc] at h5
 omega
theorem R4 {x r:Nat} (_hx:x<br):lv br (x::lbs br r)=r*br+x:=by
 show x+br*lv br (lbs br r)=_
 rw[Io br2,Nat.mul_comm,Nat.add_comm]
theorem Ld {w b g r:Nat} (h:w=g*b+r) (hr:r<b):w/b=g∧w%b=r:=by
 have hb:0<b:=by omega
 subst h
 rw[Nat.mul_comm]
 exact⟨by rw[Nat.mul_add_div hb,Nat.div_eq_of_lt hr,Nat.add_zero],by rw[Nat.mul_add_mod,Nat.mod_eq_of_lt hr]⟩
theorem GG (W:World) (p q:Option Addr) (cap cap2:Nat) (a b:Nat) (hb0:0<b) (hA:Ar W p (lbs br a)) (hB:Ar W q (lbs br b)) (hna:(lbs br a).length≤1000) (hnb:(lbs br b).length≤1000):
  Ad Tryz.prog 172 #[slv p (lbs br a).length cap,slv q (lbs br b).length cap2] W (fun x:NV×NV=> .tuple #[Bb x.1 (lbs br (a/b)).length,Bb x.2 (lbs br (a%b)).length]) (fun x=>B9 x.1 (lbs br (a/b))∧B9 x.2 (lbs br (a%b))) (fun x=>[Bn x.1 (lbs br (a/b)),Bn x.2 (lbs br (a%b))]):=by
 have hla:=AS br2 a
 have hlb:=AS br2 b
 have hal:=A6 br2 a
 have hbl:=A6 br2 b
 obtain⟨K,hK⟩: ∃n,(lbs br a).length=n:=⟨_,rfl⟩
 obtain⟨n,hn⟩: ∃n,(lbs br b).length=n:=⟨_,rfl⟩
 have hn0:n≠0:=fun e=>by
  have:=(Ct br2).1 (List.length_eq_zero_iff.1 (hn.trans e));omega
 rw[hK] at hna hal
 rw[hn] at hnb hbl
 refine Ab (args:=[slv p (lbs br a).length cap,slv q (lbs br b).length cap2]) Tryz.func172 I I I ?_
 rw[hK,hn]
 refine zA (zB (wP I (wP I (Aa (zE (zA (zA (zB (wP I (wP I (wP I ?_)))))))))))
 by_cases hn1:n=1
 ·subst hn1
  obtain⟨b1,o1,rfl,r1⟩:=hB.row (show 0<(lbs br b).length by omega)
  have r1:=r1 0 (by omega)
  obtain⟨v,hv⟩: ∃v,lim (lbs br b) 0=v:=⟨_,rfl⟩
  rw[hv] at r1
  have hvb:v<br:=by rw[←hv];exact AN br2 hlb _
  rw[AP br2,Nat.pow_zero,Nat.div_one,Nat.mod_eq_of_lt (by rw[Nat.pow_one] at hbl;exact hbl)] at hv
  subst hv
  refine wU 14 true I (by simp) (Aa (zE (zR I (zA (zB (wP I (wP I ?_)))))))
  refine wJ ?_
  refine wL 0 I I (fun W hp=>r1.hp hp) I ?_
  refine wD (X:=NV×NV) I I (fun W' hp=>by have h:=LB W' p cap a b (hA.hp hp) (by omega) hb0 hvb;rw[hK] at h;exact h) ?_
  rintro⟨x,y⟩ ⟨h1,h2⟩
  exact wP I (wP I (wP I (wP I (Aa (zE (zO (zP (AH tH I (.tmp I) (.tmp I) (x,y) I ⟨h1,h2⟩ fun W hp=>A0.of_hp hp))))))))
 obtain⟨m,rfl⟩: ∃m,n=m+2:=⟨n-2,by omega⟩
 refine wU 14 false I (by rw[beq_eq_false_iff_ne];omega) (Aa ?_)
 obtain⟨bq,oq,rfl,rq⟩:=hB.row (show 0<(lbs br b).length by omega)
 obtain⟨u1,hu1⟩: ∃v,lim (lbs br b) (m+1)=v:=⟨_,rfl⟩
 obtain⟨u0,hu0⟩: ∃v,lim (lbs br b) m=v:=⟨_,rfl⟩
 have rq1:=rq (m+1) (by omega)
 have rq0:=rq m (by omega)
 rw[hu1] at rq1
 rw[hu0] at rq0
 have hu1b:u1<1000000:=by rw[←hu1];exact AN br2 hlb _
 have hu0b:u0<1000000:=by rw[←hu0];exact AN br2 hlb _
 rw[AP br2] at hu1 hu0
 have ht2:=Ul hbl
 rw[hu1,hu0] at ht2
 have ht2:u1*1000000+u0=b/br^m:=ht2
 obtain⟨tp,htp⟩: ∃tp,tp=b/br^m:=⟨_,rfl⟩
 have hpm:0<br^m:=Nat.pow_pos (by decide)
 refine zE (zS I (zI (zE (zA (zB (wP I (wP I (wP I (Aa (zE (zA (zU (qP I (qP I (qP I ?_)))))))))))))))
 refine qV 26 ((m+1:Nat):Int) I (by show w64 (((m+2:Nat):Int)-1)=_;rw[Aj (by omega) (by omega)];omega) ?_
 refine qJ ?_
 refine qL 0 I I (fun W hp=>rq1.hp hp) I (qP I (qP I (qP I (qP I (qV 32 (m:Nat) I (by show w64 (((m+2:Nat):Int)-2)=_;rw[Aj (by omega) (by omega)];omega) ?_)))))
 refine qJ ?_
 refine qL 0 I I (fun W hp=>rq0.hp hp) I (qP I (qV 35 (tp:Nat) I (by show w64 (w64 ((u1:Int)*((1000000:Nat):Int))+u0)=_;rw[BB (by omega),AA (by omega),htp,ht2]) (qP I (AM (Aa (zE (zA (zB (wP I (wP I ?_))))))))))
 refine B4 Tryz.vec170 K I I I I I I I (by simp only[maxLen];omega) (by omega) ?_
 intro g
 have ez:Ck (Value.cells (.int .i64 0)).toList K=nI (List.replicate K 0)++[]:=by rw[List.append_nil];exact DQ K
 rw[ez]
 refine wP I (Aa (zE (zA (zB ?_))))
 refine E5 tH I I I I I ?_
 intro gr
 refine wP I (Aa (zE (zA (zA (zB (wP I (wP I (wP I (wV 42 ((K:Int)-1) I (Aj (by omega) (by omega)) (wP I (Aa (zE (zH ?_)))))))))))))
 have e0:lbs br 0=[]:=AF
 refine Aw (X:=Nat×List Nat×Nat×Nat×NV) (fun x=>[(0,slv p K cap),(1,slv (some ⟨bq,oq,none⟩) (m+2) cap2),(6, .int .i64 ((m+2:Nat):Int)),(7, .int .i64 (tp:Nat)),(8,slv (some ⟨g,0,none⟩) K K),(9,Bb x.2.2.2.2 (lbs br x.2.2.2.1).length),(10, .int .i64 ((x.1:Nat)-1:Int))]) (fun x=>[⟨g,3,nI x.2.1++[],true,none⟩,Bn x.2.2.2.2 (lbs br x.2.2.2.1)])
  (fun x=>(x.1≤K∧x.2.1.length=K∧(∀y∈x.2.1,y<br)∧lv br x.2.1=br^x.1*x.2.2.1∧a/br^x.1=x.2.2.1*b+x.2.2.2.1∧x.2.2.2.1<b)∧B9 x.2.2.2.2 (lbs br x.2.2.2.1)) (fun x=>x.1) (K,List.replicate K 0,0,0,(gr,0,[])) ⟨⟨Nat.le_refl _,List.length_replicate,Ga (by decide) K,by rw[Dx];show 0=br^K*0;rw[Nat.mul_zero],by show a/br^K=0*b+0;rw[Nat.div_eq_of_lt hal];omega,hb0⟩,by show B9 _ (lbs br 0);rw[e0];exact⟨rfl,(fun h=>by cases h),fun _=>⟨Nat.le_refl _,Nat.zero_le _,rfl⟩⟩⟩ ⟨rfl,rfl,rfl,rfl,rfl,by show _=some (slv _ (lbs br 0).length 0);rw[e0];rfl,rfl,trivial⟩ [] (by show _=[_,Bn _ (lbs br 0)]++[];rw[e0];rfl) ?_
 rintro⟨k,l,qh,rs,x⟩ ⟨⟨hk,hl,hllt,hlv,hq,hr⟩,hx⟩
 have hk:k≤K:=hk
 have hl:l.length=K:=hl
 have hlv:lv br l=br^k*qh:=hlv
 have hq:a/br^k=qh*b+rs:=hq
 have hr:rs<b:=hr
 have hx:B9 x (lbs br rs):=hx
 refine zA (zA (zB (wP I (wP I ?_))))
 cases k with
 |zero=>
  have hq:a=qh*b+rs:=by simpa using hq
  have hlv:lv br l=qh:=by rw[hlv];simp
  obtain⟨eq1,eq2⟩:=Ld hq hr
  refine wU 44 false I (dF (by show¬(((0:Nat):Int)-1≥0);omega)) (Aa (zE (zS I (zJ (zK (zK (zL (zE (zA (zB ?_))))))))))
  have hV0:(⟨some g,K,[]⟩:Vec).OK 1 l.length (nI l):=⟨Dm _,(fun h=>by cases h),fun _=>⟨by show _≤K;omega,by show K≤maxLen;simp only[maxLen];omega,by show(nI l).length+0=K*1;rw[Bk];omega⟩⟩
  obtain⟨j1,hV1,he1⟩:=CL hV0 hllt
  refine wP I ?_
  refine Ag 92 (slv (some ⟨g,0,none⟩) l.length K) I (by rw[hl]) ?_
  refine wC I I (fun W hp=>Ca W _ K _ (Ar.of_bx hp 0 I) hllt (by omega) (by omega)) (wP I (wP I (wP I (Aa (zE (zO ?_))))))
  rw[hlv, ←eq1] at hV1 he1
  rw[←eq2] at hx
  exact AH tH I (.tmp I) (.tmp I) (((g,K,j1):NV),x) (by rw[hlv, ←eq1, ←eq2]) ⟨hV1,hx⟩ fun W hp=>A0.of_hp (hp.pick (l:=[Bn (g,K,j1) (lbs br (a/b)),Bn x (lbs br (a%b))]) [0,1] (by decide) (by
   show some [(⟨g,3,nI l++[],true,none⟩:Bx),Bn x (lbs br rs)]=some [⟨g,3,nI (lbs br (a/b))++j1,true,none⟩,Bn x (lbs br (a%b))]
   rw[he1,eq2]))
 |succ k=>
  have hq:a/br^(k+1)=qh*b+rs:=hq
  have hi:k<l.length:=by rw[hl];omega
  obtain⟨b1,o1,rfl,r1⟩:=hA.row (show k<(lbs br a).length by omega)
  have r1:=r1 k (by omega)
  obtain⟨v,hv⟩: ∃v,lim (lbs br a) k=v:=⟨_,rfl⟩
  rw[hv] at r1
  have hvb:v<br:=by rw[←hv];exact AN br2 hla _
  have hvb':v<1000000:=hvb
  have hve:v=a/br^k%br:=by rw[←hv];exact AP br2 a _
  obtain⟨w,hw⟩: ∃w,w=v+rs*br:=⟨_,rfl⟩
  have hlw:lv br (v::lbs br rs)=w:=by rw[R4 hvb,hw,Nat.add_comm]
  have hrsb:=hr
  have hwlt:w<br*b:=by
   have:(rs+1)*br≤b*br:=Nat.mul_le_mul_right _ hr
   rw[Nat.add_mul,Nat.one_mul] at this
   rw[hw,Nat.mul_comm br b];omega
  have hwlt3:w<br^(m+3):=by
   have h1:br*b<br*br^(m+2):=Nat.mul_lt_mul_of_pos_left hbl (by decide)
   rw[show br^(m+3)=br*br^(m+2) by rw[Nat.pow_succ,Nat.mul_comm]];omega
  have hwb:w/b<br:=Nat.div_lt_of_lt_mul (by rw[Nat.mul_comm];exact hwlt)
  have hs:=GY (B:=br) (d:=b) (q:=qh) (r:=rs) (i:=k) hq (n:=w) (by rw[hw,hve])
  have hzero:l[k]? =some 0:=by
   rw[Cy hi,BK br2 _ hllt,hlv,Nat.pow_succ,Nat.mul_assoc,Nat.mul_div_cancel_left _ (Nat.pow_pos (by decide)),Nat.mul_mod_right]
  have hset:=FJ (B:=br) (w/b) hzero
  rw[Nat.mul_zero,Nat.add_zero,hlv,Nat.pow_succ,Nat.mul_assoc, ←Nat.mul_add] at hset
  have hrl:(lbs br rs).length≤m+2:=(Bt br2).2 (by omega)
  have hwl:(lbs br w).length≤m+3:=(Bt br2).2 hwlt3
  refine wU 44 true I (dT (by show(((k+1:Nat):Int)-1≥0);omega)) (Aa (zE (zR I (zI (zE (zA (zH (zA (zB (wP I (wP I (wV 48 (k:Nat) I (by show((k+1:Nat):Int)-1=_;omega) ?_))))))))))))
  refine wJ ?_
  refine wL 0 I I (fun W hp=>r1.hp hp) I ?_
  refine Ap Tryz.hZ tH I I I I I I I I I I I fun bN=> ?_
  refine wP I ?_
  refine Gr (len:=1) (V:=⟨some bN,1,[]⟩) (xs:=nI [v]) (news:=nI (lbs br rs)) 2 Tryz.vec170 rfl rfl rfl rfl rfl rfl rfl rfl rfl ⟨rfl,(fun h=>by cases h),fun _=>⟨Nat.le_refl _,(by show 1≤maxLen;decide),rfl⟩⟩ (Dm _) (fun W' hp j u hj=> ?_) (fun u hu=> ?_) (by dsimp only;simp only[maxLen];omega) (by dsimp only;omega) ?_
  ·have hrow:=Ao.of_bx hp 1 rfl rfl
   have:=hrow.get j u (by show(nI (lbs br rs)++x.2.2)[j]? =_;rw[List.getElem?_append_left (List.getElem?_eq_some_iff.1 hj).1];exact hj)
   rw[Addr.add_none]
   exact this
  ·obtain⟨z,_,rfl⟩:=List.mem_map.1 hu;rfl
  intro V' hV' hV0
  obtain⟨pv,cv,jv⟩:=V'
  cases pv with
  |none=>have:=hV'.nil rfl;omega
  |some gv=>
  have ecat:nI [v]++nI (lbs br rs)=nI (v::lbs br rs):=rfl
  rw[ecat] at hV'⊢
  have hV':(⟨some gv,cv,jv⟩:Vec).OK 1 (v::lbs br rs).length (nI (v::lbs br rs)):=by rw[List.length_cons,Nat.add_comm];exact hV'
  have hclt: ∀y∈v::lbs br rs,y<br:=fun y hy=>by
   rcases List.mem_cons.1 hy with rfl|hy
   ·exact hvb
   ·exact AS br2 rs y hy
  obtain⟨jw,hVw,hew⟩:=CL hV' hclt
  rw[hlw] at hVw hew
  refine Ag 53 (slv (some ⟨gv,0,none⟩) (v::lbs br rs).length cv) I (by show slv _ (1+_) _=_;rw[List.length_cons,Nat.add_comm]) ?_
  refine wC I I (fun W hp=>(Ca W (some ⟨gv,0,none⟩) cv _ (Ar.of_bx hp 2 I) hclt (by have:=(hV'.cap (by simp)).1;exact this) (by rw[List.length_cons];omega)).cast (v':=slv (some ⟨gv,0,none⟩) (lbs br w).length cv) (by rw[hlw])) (wP I (Aa ?_))
  obtain⟨l2,hl2⟩: ∃v,lim (lbs br w) (m+2)=v:=⟨_,rfl⟩
  obtain⟨l1,hl1⟩: ∃v,lim (lbs br w) (m+1)=v:=⟨_,rfl⟩
  obtain⟨l0,hl0⟩: ∃v,lim (lbs br w) m=v:=⟨_,rfl⟩
  have hl2b:l2<1000000:=by rw[←hl2];exact AN br2 (AS br2 w) _
  have hl1b:l1<1000000:=by rw[←hl1];exact AN br2 (AS br2 w) _
  have hl0b:l0<1000000:=by rw[←hl0];exact AN br2 (AS br2 w) _
  have ht3:=TZ hwlt3
  rw[←AP br2, ←AP br2, ←AP br2,hl2,hl1,hl0] at ht3
  have ht3:(l2*1000000+l1)*1000000+l0=w/br^m:=ht3
  obtain⟨e,he⟩: ∃e,e=w/br^m/(b/br^m+1):=⟨_,rfl⟩
  have hest:=T7 he hpm
  have heb:e≤w/b:=(Nat.le_div_iff_mul_le hb0).2 hest
  have hebr:e<1000000:=Nat.lt_of_le_of_lt heb hwb
  have htpb:tp<1000000000000:=by rw[htp, ←ht2];omega
  have hlW: ∀ {W1:World} {bxs:List Bx},Hp W bxs W1→nth bxs 2=some (⟨gv,3,nI (v::lbs br rs)++jv,true,none⟩:Bx)→Ar W1 (some ⟨gv,0,none⟩) (lbs br w):=fun hp h2=>by rw[hew] at h2;exact Ar.of_bx hp 2 h2
  refine zE (zA (zB (wP I (wP I (wC I I (fun W' hp=>Cm W' (some ⟨gv,0,none⟩) cv _ (lbs br w) (m+2) l2 (hlW hp I) I (by omega) hl2) (wP I (wP I (wP I (wP I (wV 61 ((m+1:Nat):Int) I (by show w64 (((m+2:Nat):Int)-1)=_;rw[Aj (by omega) (by omega)];omega) (wC I I (fun W' hp=>Cm W' (some ⟨gv,0,none⟩) cv _ (lbs br w) (m+1) l1 (hlW hp I) I (by omega) hl1) ?_)))))))))))
  iterate 5 refine wP I ?_
  refine wV 67 (m:Nat) I (by show w64 (((m+2:Nat):Int)-2)=_;rw[Aj (by omega) (by omega)];omega) (wC I I (fun W' hp=>Cm W' (some ⟨gv,0,none⟩) cv _ (lbs br w) m l0 (hlW hp I) I (by omega) hl0) (wP I (wV 69 ((w/br^m:Nat):Int) I (by show w64 (w64 (w64 (w64 ((l2:Int)*((1000000:Nat):Int))+l1)*((1000000:Nat):Int))+l0)=_;rw[BB (by omega),AA (by omega),BB (by omega),AA (by omega),ht3]) (wP I (wP I (wV 71 ((tp+1:Nat):Int) I (An (by omega)) ?_))))))
  refine CG I I I I I (by omega) ?_
  refine wV 72 (e:Nat) I (by rw[he, ←htp];exact Bl (by rw[←htp] at he;rw[←he];omega)) (wP I (Aa (zE (zA (zB (wP I (wP I (wP I ?_))))))))
  refine Ap Tryz.hZ tH I I I I I I I I I I I fun bE=> ?_
  refine wD (X:=NV) I I (fun W' hp=>by
   have h:=G8 W' (some ⟨bq,oq,none⟩) (some ⟨bE,0,none⟩) cap2 1 b [e] (fun y hy=>by obtain rfl:=List.mem_singleton.1 hy;exact hebr) (hB.hp hp) (Ar.of_bx (junk:=[]) hp 3 rfl) (by omega) (by show 1≤1000000;decide)
   rw[hn,LM] at h
   exact h) ?_
  intro xt hxt
  refine wD (X:=NV) I I (fun W' hp=>DG W' (some ⟨gv,0,none⟩) (some ⟨xt.1,0,none⟩) cv xt.2.1 w (b*e) (by rw[Nat.mul_comm];exact hest) (hlW hp I) (Ar.of_bx hp 4 I) (by omega)) ?_
  intro x1 hx1
  refine wP I (Aa (A4 ?_))
  try refine Ax ?_
  refine A3 (X:=NV) (fun x2=>[(0,slv (some ⟨b1,o1,none⟩) K cap),(1,slv (some ⟨bq,oq,none⟩) (m+2) cap2),(6, .int .i64 ((m+2:Nat):Int)),(7, .int .i64 (tp:Nat)),(8,slv (some ⟨g,0,none⟩) K K),(9,Bb x2 (lbs br (w%b)).length),(10, .int .i64 (k:Nat)),(11, .int .i64 ((w/b:Nat):Int))]) (fun x2=>[⟨g,3,nI l++[],true,none⟩,Bn x2 (lbs br (w%b))]) (fun x2=>B9 x2 (lbs br (w%b))) ?_ ?_
  ·refine zH ?_
   refine EO (X:=Nat×Nat×NV) (fun y=>[(0,slv (some ⟨b1,o1,none⟩) K cap),(1,slv (some ⟨bq,oq,none⟩) (m+2) cap2),(6, .int .i64 ((m+2:Nat):Int)),(7, .int .i64 (tp:Nat)),(8,slv (some ⟨g,0,none⟩) K K),(9,Bb y.2.2 (lbs br y.2.1).length),(10, .int .i64 (k:Nat)),(11, .int .i64 (y.1:Nat))]) (fun y=>Hp W [⟨g,3,nI l++[],true,none⟩,Bn y.2.2 (lbs br y.2.1)]) (fun y=>w=y.1*b+y.2.1∧B9 y.2.2 (lbs br y.2.1)) (fun y=>y.2.1) (e,w-b*e,x1) ⟨by show w=e*b+(w-b*e);rw[Nat.mul_comm b e];omega,hx1⟩ ⟨I,I,I,I,I,I,congrArg (fun z=>some (Value.int .i64 z)) (by show((k+1:Nat):Int)-1=(k:Nat);omega),I,O⟩ (fun W hp=>hp.pick [0,5] (by decide) I) ?_
   rintro⟨e1,w1,x2⟩ ⟨hw1,hx2⟩
   have hw1:w=e1*b+w1:=hw1
   have hx2:B9 x2 (lbs br w1):=hx2
   have hw1l:(lbs br w1).length≤m+3:=(Bt br2).2 (by omega)
   refine zA (zA (zB (wP I (wP I ?_))))
   refine wC I I (fun W' hp=>by
    have h:=I7 W' (some ⟨x2.1,0,none⟩) (some ⟨bq,oq,none⟩) x2.2.1 cap2 w1 b (Ar.of_bx hp 1 rfl) (hB.hp hp) (by omega) (by omega)
    rw[hn] at h
    exact h) ?_
   refine wP I ?_
   by_cases hge:b≤w1
   ·have hc:0≤JJ w1 b:=by unfold JJ;rw[if_neg (by omega)];split<;>decide
    have he1:e1<w/b:=by
     have h1:(e1+1)*b≤w:=by rw[Nat.add_mul,Nat.one_mul];omega
     have:=(Nat.le_div_iff_mul_le hb0).2 h1
     omega
    have he1b:e1<1000000:=Nat.lt_trans he1 hwb
    refine wU 82 true I (dT hc) (Aa (zE (zR I (zI (zE (zH (zA (zB (wP I (wP I ?_))))))))))
    refine wD (X:=NV) I I (fun W' hp=>by
     have h:=DG W' (some ⟨x2.1,0,none⟩) (some ⟨bq,oq,none⟩) x2.2.1 cap2 w1 b hge (Ar.of_bx hp 1 rfl) (hB.hp hp) (by omega)
     rw[hn] at h
     exact h) ?_
    intro x3 hx3
    exact wP I (Aa (zE (zB (wP I (wP I (wV 87 ((e1+1:Nat):Int) I (An (by omega)) (wP I (Aa (zN (Fb (e1+1,w1-b,x3) ⟨by show w=(e1+1)*b+(w1-b);rw[Nat.add_mul,Nat.one_mul];omega,hx3⟩ (by show w1-b<w1;omega) ⟨I,I,I,I,I,I,I,I,O⟩ (fun W hp=>hp.pick [0,2] (by decide) I)))))))))))
   ·have hc: ¬(0:Int)≤JJ w1 b:=by unfold JJ;rw[if_pos (by omega)];decide
    obtain⟨d1,d2⟩:=Ld hw1 (show w1<b by omega)
    exact wU 82 false I (dF hc) (Aa (zE (zS I (zJ (zK (zK (zL (Ah x2 (by show B9 x2 (lbs br (w%b));rw[d2];exact hx2) ⟨I,I,I,I,I,by rw[d2];rfl,I,by rw[d1];rfl,O⟩ [] (by rw[d2];rfl)))))))))
  intro x2 hx2
  have hx2:B9 x2 (lbs br (w%b)):=hx2
  refine zB (wP I (wP I (wP I ?_)))
  refine wJ ?_
  refine A5 0 (nI (l.set k (w/b))++[]) tH I I I I I I I I I I (by show 0+k*1+1≤(nI l++[]).length;rw[List.append_nil,Bk];omega) (BP hi (w/b)) ?_
  exact Aa (zN (zE (zB (wP I (wP I (wV 46 ((k:Nat)-1:Int) I (Aj (by omega) (by omega)) (wP I (Aa (Ak (k,l.set k (w/b),qh*br+w/b,w%b,x2) ⟨⟨by show k≤K;omega,by rw[List.length_set];exact hl,Cf hllt hwb,by show lv br (l.set k (w/b))=br^k*(qh*br+w/b);rw[hset,Nat.mul_comm qh],by show a/br^k=_;exact hs,Nat.mod_lt _ hb0⟩,hx2⟩ (by show k<k+1;omega) ⟨I,I,I,I,I,I,I,O⟩ [] I)))))))))
-- BOXES 6
-- CODE2
theorem Qz (x y:Int):Nat.gcd y.natAbs (x.tmod y).natAbs=Nat.gcd x.natAbs y.natAbs:=by
 rw[Int.natAbs_tmod,Nat.gcd_comm, ←Nat.gcd_rec,Nat.gcd_comm]
theorem K1 (a b:Int) (ha:(decDigits a.natAbs).length≤300) (hb:(decDigits b.natAbs).length≤300) (W:World) (ht:AB W):
  Ad Tryz.prog 122 #[str (itoa a),str (itoa b)] W (fun _:Unit=> .tuple #[str (itoa ((Nat.gcd a.natAbs b.natAbs:Nat):Int)), .int .i64 0]) (fun _=>True) (fun _=>[]):=by
 have la:=Cn (m:=a.natAbs) (by omega)
 have lb:=Cn (m:=b.natAbs) (by omega)
 refine Ab (args:=[str (itoa a),str (itoa b)]) Tryz.func122 I I I ?_
 refine zA (zB (wP I (wP I (Aa (zE (zA (zA (zB (wP I (wP I (wC I I (fun W _=>D4 a b ha hb W) (wP I (Aa ?_)))))))))))))
 refine zE (zA (zB (wP I (wP I (Aa (zE (zS I (zI (zE (zA (zA (zB ?_))))))))))))
 cases hs:smI a&&smI b with
 |true=>
  obtain⟨h1,h2⟩:=Bool.and_eq_true_iff.1 hs
  have b1:=Ih h1
  have b2:=Ih h2
  refine wP I (wP I (wC I I (fun W _=>HQ hs W) ?_))
  iterate 7 refine wP I ?_
  refine Aa (zE (zA (zB (wP I (Aa (zE (zR I (zA (zH ?_)))))))))
  refine Aw (X:=Int×Int) (fun x=>[(7, .int .i64 x.1),(8, .int .i64 x.2)]) (fun _=>[]) (fun x=>x.1.natAbs<100000000000000000∧x.2.natAbs<100000000000000000∧Nat.gcd x.1.natAbs x.2.natAbs=Nat.gcd a.natAbs b.natAbs) (fun x=>x.2.natAbs) (a,b) ⟨b1,b2,I⟩ ⟨I,I,O⟩ [] I ?_
  rintro⟨x,y⟩ ⟨hx,hy,hg⟩
  have hx:x.natAbs<100000000000000000:=hx
  have hy:y.natAbs<100000000000000000:=hy
  have hg:Nat.gcd x.natAbs y.natAbs=Nat.gcd a.natAbs b.natAbs:=hg
  refine zA (zA (zB (wP I (wP I ?_))))
  by_cases h0:y=0
  ·refine wU 29 false I (by rw[bne_eq_false_iff_eq];exact h0) (Aa (zE (zS I (zJ (zK (zK (zL (zE (zA (zB (wP I (wP I (wP I ?_)))))))))))))
   refine wV 36 (-x) I (show w64 (0-x)=_ by rw[Aj (by omega) (by omega)];omega) (wP I ?_)
   refine Ag 37 (.int .i64 ((Nat.gcd a.natAbs b.natAbs:Nat):Int)) I (congrArg (Value.int .i64) (by
    rw[←hg,h0,Int.natAbs_zero,Nat.gcd_zero_right]
    show(if -x>x then -x else x)=_;split<;>omega)) ?_
   have hgl:Nat.gcd a.natAbs b.natAbs<100000000000000000:=by rw[←hg,h0,Int.natAbs_zero,Nat.gcd_zero_right];exact hx
   exact wC I I (fun W hp=>Bh ((Nat.gcd a.natAbs b.natAbs:Nat):Int) (by omega) (by omega) W (ht.hp hp)) (wP I (wP I (Aa (zE (zO (zP (wR2 I I I)))))))
  ·refine wU 29 true I (by rw[bne_iff_ne];exact h0) (Aa (zE (zR I (zI (zE (zH (zU (qP I (qP I (qP I ?_))))))))))
   refine Gj I I I I I h0 ?_
   refine qP I (qP I (AM (Aa (zN ?_))))
   have hr:(x.tmod y).natAbs<y.natAbs:=by rw[Int.natAbs_tmod];exact Nat.mod_lt _ (by omega)
   exact Ak (y,x.tmod y) ⟨hy,Nat.lt_trans hr hy,by show Nat.gcd y.natAbs (x.tmod y).natAbs=_;rw[Qz];exact hg⟩ hr ⟨I,I,O⟩ [] I
 |false=>
  obtain⟨x0,y0,h2⟩:=H6 hs ha hb
  refine wP I (wP I (wC I I (fun W _=>h2 W) ?_))
  iterate 7 refine wP I ?_
  refine Aa (zE (zA (zB (wP I (Aa (zE (zS I (zI (zE (zA (zB (wP I ?_))))))))))))
  refine wD (X:=NV) I I (fun W' _=>Bo a (by omega) W') ?_
  intro x hx
  refine wP I (wP I ?_)
  refine wD (X:=NV) I I (fun W' _=>Bo b (by omega) W') ?_
  intro y hy
  refine wP I (wP I (wP I (Aa (zE (zA (zH ?_))))))
  refine EO (X:=(Nat×NV)×(Nat×NV)) (fun s=>[(10,Bb s.1.2 (lbs br s.1.1).length),(11,Bb s.2.2 (lbs br s.2.1).length)]) (fun s=>Hp W [Bn s.1.2 (lbs br s.1.1),Bn s.2.2 (lbs br s.2.1)]) (fun s=>Nat.gcd s.1.1 s.2.1=Nat.gcd a.natAbs b.natAbs∧(lbs br s.1.1).length≤101∧(lbs br s.2.1).length≤101) (fun s=>s.2.1) ((a.natAbs,x),(b.natAbs,y)) ⟨I,la,lb⟩ ⟨I,I,O⟩ (fun W hp=>hp) ?_
  rintro⟨⟨u,x⟩,⟨v,y⟩⟩ ⟨hg,hu,hv⟩
  have hg:Nat.gcd u v=Nat.gcd a.natAbs b.natAbs:=hg
  have hu:(lbs br u).length≤101:=hu
  have hv:(lbs br v).length≤101:=hv
  refine zA (zA (zB (wP I (wP I (wP I ?_)))))
  by_cases h0:v=0
  ·have e1:Nat.gcd a.natAbs b.natAbs=u:=by rw[←hg,h0,Nat.gcd_zero_right]
   have key: ∀e k,e=6*k→0<e→(lbs br u).length≤k→(decDigits u).length≤e:=fun e k he h0e hk=>by
    refine BE e u (by omega) ?_
    have:=A6 br2 u
    refine Nat.lt_of_lt_of_le this ?_
    rw[Ic];exact Nat.pow_le_pow_right (by decide) (by omega)
   have hul:=key 606 101 rfl (by decide) hu
   refine wU 47 false I (dF (by rw[h0,AF];decide)) (Aa (zE (zS I (zJ (zK (zK (zL (zE (zA (zB (wP I ?_)))))))))))
   refine Au Tryz.hZ tH I I I I I I I I ?_
   refine Ag 57 (HA ((u:Nat):Int) (some ⟨x.1,0,none⟩) x.2.1) I (by unfold HA;rw[dF (show¬((u:Nat):Int)<0 by omega),Int.natAbs_natCast];rfl) ?_
   exact wC I I (fun W' hp=>Fp ((u:Nat):Int) (by rw[Int.natAbs_natCast];exact hul) W' (some ⟨x.1,0,none⟩) x.2.1 (by rw[Int.natAbs_natCast];exact Ar.of_bx hp 0 I)) (wP I (wP I (Aa (zE (zO (wR2 I I (by rw[e1])))))))
  ·have hL:(lbs br v).length≠0:=fun e=>h0 ((Ct br2).1 (List.length_eq_zero_iff.1 e))
   have hr:u%v<v:=Nat.mod_lt _ (by omega)
   refine wU 47 true I (dT (by show(((lbs br v).length:Nat):Int)>0;omega)) (Aa (zE (zR I (zI (zE (zH (zA (zB (wP I (wP I ?_))))))))))
   refine wD (X:=NV×NV) I I (fun W' hp=>GG W' (some ⟨x.1,0,none⟩) (some ⟨y.1,0,none⟩) x.2.1 y.2.1 u v (by omega) (Ar.of_bx hp 0 I) (Ar.of_bx hp 1 I) (by omega) (by omega)) ?_
   rintro⟨q,w⟩ ⟨hq,hw⟩
   iterate 5 refine wP I ?_
   exact Aa (zE (zB (wP I (wP I (wP I (wP I (Aa (zN (Fb ((v,y),(u%v,w)) ⟨by show Nat.gcd v (u%v)=_;rw[Nat.gcd_comm, ←Nat.gcd_rec,Nat.gcd_comm];exact hg,hv,by show(lbs br (u%v)).length≤101;exact Nat.le_trans ((Bt br2).2 (Nat.lt_trans hr (A6 br2 v))) hv⟩ hr ⟨I,I,O⟩ (fun W hp=>hp.pick [1,3] (by decide) I))))))))))
-- BOXES 2
-- CODE2
theorem R7 (a:List UInt8):cut a [47]=(if hasPrefix a [45]=true then 45::(cut (trimPrefix a [45]) [47]).1 else(cut (trimPrefix a [45]) [47]).1,(cut (trimPrefix a [45]) [47]).2):=by
 rw[AY,AD]
 by_cases h:a[0]? =some 45
 ·rw[if_pos h,if_pos (dT h)]
  obtain⟨t,rfl⟩: ∃t,a=45::t:=by
   cases a with
   |nil=>cases h
   |cons b t=>
    have e:b=45:=by simpa using h
    exact⟨t,by rw[e]⟩
  show cut (45::t) [47]=(45::(cut t [47]).1,(cut t [47]).2)
  rcases ER 47 t with h1|⟨x,y,rfl,h1⟩
  ·rw[D3 h1,D3 (show(47:UInt8)∉45::t from fun h=>by
    rcases List.mem_cons.1 h with h|h
    ·cases h
    ·exact h1 h)]
  ·rw[EC y h1,show 45::(x++47::y)=(45::x)++47::y from rfl,EC y (show(47:UInt8)∉45::x from fun h=>by
    rcases List.mem_cons.1 h with h|h
    ·cases h
    ·exact h1 h)]
 ·rw[if_neg h,if_neg (by rw[dF h];decide)]
theorem St {a:List UInt8} {c:UInt8} (h:(cut a [47]).1[0]? =some c):a[0]? =some c:=by
 rcases ER 47 a with h1|⟨x,y,rfl,h1⟩
 ·rwa [D3 h1] at h
 ·rw[EC y h1] at h
  cases x with
  |nil=>cases h
  |cons b t=>exact h
theorem Ro {m:Bool} {n:List UInt8} (h:m=false→n[0]? ≠some 45):Fa (if m=true then 45::n else n)=if dgB n=true∧ ¬(m=true∧n=[48]) then some (if m=true then -(A9 n:Int) else A9 n) else none:=by
 have hd:dgB n=true↔(ldn n=n.length∧n≠[]∧(1<n.length→n[0]? ≠some 48)):=by
  rw[Fx];exact⟨IW,HE⟩
 have key: ∀(x:List UInt8),hasPrefix x [45]=m→trimPrefix x [45]=n→Fa x=if dgB n=true∧ ¬(m=true∧n=[48]) then some (if m=true then -(A9 n:Int) else A9 n) else none:=fun x h1 h2=>by
  unfold Fa
  rw[h1,h2]
  by_cases hc:dgB n=true∧ ¬(m=true∧n=[48])
  ·rw[if_pos hc]
   obtain⟨c1,c2,c3⟩:=hd.1 hc.1
   rw[if_pos ⟨c1,c2,c3,hc.2⟩]
  ·rw[if_neg hc,if_neg fun h4=>hc ⟨hd.2 ⟨h4.1,h4.2.1,h4.2.2.1⟩,h4.2.2.2⟩]
 cases m with
 |true=>
  refine key _ ?_ ?_
  ·rw[if_pos rfl,AY];rfl
  ·rw[if_pos rfl,AD];rfl
 |false=>
  have h0:=h rfl
  refine key _ ?_ ?_
  ·rw[if_neg (by decide),AY,dF h0]
  ·rw[if_neg (by decide),AD,if_neg h0]
def KJ (m:Bool) (n d:List UInt8) (sl:Bool):Bool:= !dgB n||(sl&&(!dgB d||decide (d=[48])||decide (d=[49])))||(m&&decide (n=[48]))
theorem SD (a:List UInt8):frm a=if KJ (hasPrefix a [45]) (cut (trimPrefix a [45]) [47]).1 (cut (trimPrefix a [45]) [47]).2.1 (cut (trimPrefix a [45]) [47]).2.2=true then none
  else some (if hasPrefix a [45]=true then -(A9 (cut (trimPrefix a [45]) [47]).1:Int) else A9 (cut (trimPrefix a [45]) [47]).1,if (cut (trimPrefix a [45]) [47]).2.2=true then A9 (cut (trimPrefix a [45]) [47]).2.1 else 1):=by
 have h1:=R7 a
 have h2:hasPrefix a [45]=false→(cut (trimPrefix a [45]) [47]).1[0]? ≠some 45:=fun hm hc=>by
  have h3:=St hc
  rw[AY] at hm
  have hm:=of_decide_eq_false hm
  rw[AD,if_neg hm] at h3
  exact hm h3
 have h3:=Ro h2
 unfold frm
 generalize hasPrefix a [45]=m at*
 generalize cut (trimPrefix a [45]) [47]=c at*
 obtain⟨n,d,sl⟩:=c
 rw[h1]
 simp only at h3⊢
 rw[h3]
 have hd:dgB d=true↔(ldn d=d.length∧d≠[]∧(1<d.length→d[0]? ≠some 48)):=by
  rw[Fx];exact⟨IW,HE⟩
 by_cases hc:dgB n=true∧ ¬(m=true∧n=[48])
 ·rw[if_pos hc]
  have e1:KJ m n d sl=(sl&&(!dgB d||decide (d=[48])||decide (d=[49]))):=by
   unfold KJ
   rw[hc.1]
   have:(m&&decide (n=[48]))=false:=by
    by_cases hm:m=true
    ·rw[hm,dF fun h=>hc.2 ⟨hm,h⟩];rfl
    ·rw[show m=false by simpa using hm];rfl
   rw[this,Bool.or_false];rfl
  rw[e1]
  simp only
  cases sl with
  |false=>rfl
  |true=>
   simp only[Bool.true_eq_false,if_false,Bool.true_and,if_true]
   by_cases hk:dgB d=true∧d≠[48]∧d≠[49]
   ·obtain⟨k1,k2,k3⟩:=hd.1 hk.1
    have e0:(!dgB d||decide (d=[48])||decide (d=[49]))=false:=by rw[hk.1,dF hk.2.1,dF hk.2.2];rfl
    rw[if_pos ⟨k1,k2,k3,hk.2⟩,e0,if_neg (show¬(false=true) by decide)]
   ·rw[if_neg fun h4=>hk ⟨hd.2 ⟨h4.1,h4.2.1,h4.2.2.1⟩,h4.2.2.2⟩,if_pos]
    by_cases k1:dgB d=true
    ·by_cases k2:d=[48]
     ·rw[dT k2];simp
     ·by_cases k3:d=[49]
      ·rw[dT k3];simp
      ·exact absurd ⟨k1,k2,k3⟩ hk
    ·rw[show dgB d=false by simpa using k1];rfl
 ·rw[if_neg hc,if_pos]
  unfold KJ
  by_cases k1:dgB n=true
  ·by_cases k2:m=true
   ·by_cases k3:n=[48]
    ·rw[k2,dT k3];simp
    ·exact absurd ⟨k1,fun h=>k3 h.2⟩ hc
   ·exact absurd ⟨k1,fun h=>k2 h.1⟩ hc
  ·rw[show dgB n=false by simpa using k1];rfl
theorem Jc {n:List UInt8} (h:dgB n=true):n=decDigits (A9 n):=MC.1 (Fx.1 h)
theorem MM {n:List UInt8} (h:dgB n=true) (hl:n.length≤9):A9 n<1000000000:=by
 have e:=Jc h
 rw[e] at hl
 exact Kx hl
theorem Fs (a:List UInt8) (ha:a.length<4611686018427387904) (W:World) (ht:AB W):
  Ad Tryz.prog 58 #[str a] W (fun _:Unit=> .int .i64 (rdR a).2) (fun _=>True) (fun _=>[]):=by
 have hfr:=SD a
 have hsv:MD a=MD a:=rfl
 have hcl:=PT (trimPrefix a [45])
 have htl:(trimPrefix a [45]).length≤a.length:=by rw[AD];split<;>simp
 have hmiss:(cut (trimPrefix a [45]) [47]).2.2=false→(cut (trimPrefix a [45]) [47]).2.1=[]:=fun h=>by
  rcases ER 47 (trimPrefix a [45]) with h1|⟨x,y,e,h1⟩
  ·rw[D3 h1]
  ·rw[e,EC y h1] at h;cases h
 conv at hsv=>rhs;unfold MD
 generalize hasPrefix a [45]=m at*
 generalize cut (trimPrefix a [45]) [47]=c at*
 obtain⟨n,d,sl⟩:=c
 simp only at hfr hsv hcl hmiss
 refine Ab (args:=[str a]) Tryz.func58 I I I ?_
 refine zA (zB (wP I (Aa (zE (zA (zB (wP I (wC I I (fun W _=>(Ez a ha W).cast hsv) ?_))))))))
 iterate 9 refine wP I ?_
 refine Aa ?_
 obtain⟨P1,e1⟩: ∃b,dgB n=b:=⟨_,rfl⟩
 obtain⟨P2,e2⟩: ∃b,dgB d=b:=⟨_,rfl⟩
 obtain⟨P3,e3⟩: ∃b,decide (d=[48])=b:=⟨_,rfl⟩
 obtain⟨P4,e4⟩: ∃b,decide (d=[49])=b:=⟨_,rfl⟩
 obtain⟨P5,e5⟩: ∃b,decide (n=[48])=b:=⟨_,rfl⟩
 have hB:KJ m n d sl=(!P1||(sl&&(!P2||P3||P4))||(m&&P5)):=by unfold KJ;rw[e1,e2,e3,e4,e5]
 refine A4 (Ax (Ax ?_))
 refine A3 (X:=Unit) (fun _=>[(4,str n),(5,str d),(6, .bool sl),(41, .bool (KJ m n d sl))]) (fun _=>[]) (fun _=>True) ?_ ?_
 ·refine zB (wP I (wC I I (fun W _=>(Gm n (by omega) W).cast (v':= .bool P1) (by rw[e1])) (wP I (wP I ?_))))
  refine C7 19 I (fun h19=> ?_) (fun h19=> ?_)
  ·refine Af I I ?_
   iterate 13 refine Af I I ?_
   refine wP I (wP I ?_)
   iterate 5 refine Af I I ?_
   exact wP I (Aa (Ah () O ⟨I,I,I,congrArg (fun b=>some (Value.bool b)) (by rw[hB];simp_all),O⟩ [] I))
  ·refine wP I (wP I ?_)
   refine C7 21 I (fun h21=> ?_) (fun h21=> ?_)
   ·refine wP I (wC I I (fun W _=>(Gm d (by omega) W).cast (v':= .bool P2) (by rw[e2])) (wP I (wP I ?_)))
    refine C7 25 I (fun h25=> ?_) (fun h25=> ?_)
    ·refine Af I I ?_
     refine Af I I ?_
     refine wP I (wP I ?_)
     iterate 2 refine Af I I ?_
     refine wP I (wP I (wP I (wP I ?_)))
     iterate 5 refine Af I I ?_
     exact wP I (Aa (Ah () O ⟨I,I,I,congrArg (fun b=>some (Value.bool b)) (by rw[hB];simp_all),O⟩ [] I))
    ·refine wP I (wP I (wU 27 P3 I ((AQ _ _).trans e3) (wP I (wP I ?_))))
     refine C7 29 I (fun h29=> ?_) (fun h29=> ?_)
     ·refine Af I I ?_
      refine Af I I ?_
      refine wP I (wP I (wP I (wP I ?_)))
      iterate 5 refine Af I I ?_
      exact wP I (Aa (Ah () O ⟨I,I,I,congrArg (fun b=>some (Value.bool b)) (by rw[hB];simp_all),O⟩ [] I))
     ·refine wP I (wP I (wU 31 P4 I ((AQ _ _).trans e4) (wP I (wP I (wP I (wP I ?_))))))
      refine C7 35 I (fun h35=> ?_) (fun h35=> ?_)
      ·refine Af I I ?_
       iterate 4 refine Af I I ?_
       exact wP I (Aa (Ah () O ⟨I,I,I,congrArg (fun b=>some (Value.bool b)) (by rw[hB];simp_all),O⟩ [] I))
      ·refine wP I (wP I ?_)
       refine C7 37 I (fun h37=> ?_) (fun h37=> ?_)
       ·exact wP I (wP I (wU 39 P5 I ((AQ _ _).trans e5) (wP I (wP I (Aa (Ah () O ⟨I,I,I,congrArg (fun b=>some (Value.bool b)) (by rw[hB];simp_all),O⟩ [] I))))))
       ·refine Af I I ?_
        refine Af I I ?_
        exact wP I (wP I (Aa (Ah () O ⟨I,I,I,congrArg (fun b=>some (Value.bool b)) (by rw[hB];simp_all),O⟩ [] I)))
   ·refine Af I I ?_
    iterate 10 refine Af I I ?_
    iterate 5 refine wP I ?_
    refine C7 37 I (fun h37=> ?_) (fun h37=> ?_)
    ·exact wP I (wP I (wU 39 P5 I ((AQ _ _).trans e5) (wP I (wP I (Aa (Ah () O ⟨I,I,I,congrArg (fun b=>some (Value.bool b)) (by rw[hB];simp_all),O⟩ [] I))))))
    ·refine Af I I ?_
     refine Af I I ?_
     exact wP I (wP I (Aa (Ah () O ⟨I,I,I,congrArg (fun b=>some (Value.bool b)) (by rw[hB];simp_all),O⟩ [] I)))
 intro _ _
 refine Ai I (fun hbad=> ?_) (fun hbad=> ?_)
 ·rw[if_pos hbad] at hfr
  exact zA (zB (wP I (Aa (zE (zO (zP (wR1 I I (by unfold rdR;rw[hfr]))))))))
 have hbad:KJ m n d sl=false:=hbad
 rw[if_neg (by rw[hbad];decide)] at hfr
 have hn:dgB n=true:=by
  cases h:dgB n with
  |true=>rfl
  |false=>unfold KJ at hbad;rw[h] at hbad;cases hbad
 have hdl:sl=true→dgB d=true:=fun hs=>by
  cases h:dgB d with
  |true=>rfl
  |false=>unfold KJ at hbad;rw[h,hs,hn] at hbad;cases hbad
 have hna:(if m=true then -(A9 n:Int) else A9 n).natAbs=A9 n:=by split<;>omega
 have hne:=Jc hn
 have hlen1:n.length≤300↔A9 n<AU:=by
  conv=>lhs;rw[hne]
  exact F9
 have hlen2:d.length≤300↔(if sl=true then A9 d else 1)<AU:=by
  cases hs:sl with
  |true=>
   rw[if_pos rfl]
   conv=>lhs;rw[Jc (hdl hs)]
   exact F9
  |false=>
   rw[hmiss hs,if_neg (by decide)]
   exact⟨fun _=>F9.1 (by rw[DU];decide),fun _=>by decide⟩
 have hcode:(rdR a).2=if A9 n<AU∧(if sl=true then A9 d else 1)<AU then(if Nat.gcd (A9 n) (if sl=true then A9 d else 1)=1 then 0 else 11) else 4:=by
  unfold rdR
  rw[hfr]
  simp only[hna]
  generalize (if sl=true then A9 d else 1)=k
  by_cases c1:A9 n<AU∧k<AU
  ·rw[if_pos c1,if_pos c1]
   by_cases c2:Nat.gcd (A9 n) k=1
   ·rw[if_pos c2,if_pos c2]
   ·rw[if_neg c2,if_neg c2]
  ·rw[if_neg c1,if_neg c1]
 refine zI (zE (Ax (Ax ?_)))
 refine A3 (X:=Unit) (fun _=>[(4,str n),(5,str d),(6, .bool sl),(49, .bool (decide (¬(n.length≤300∧d.length≤300))))]) (fun _=>[]) (fun _=>True) ?_ ?_
 ·refine zB (wP I (wP I ?_))
  refine Ag 43 (.int .i64 (n.length:Nat)) I (congrArg (fun n:Nat=>Value.int .i64 (n:Int)) (As n)) ?_
  refine wP I ?_
  by_cases h1:n.length≤300
  ·refine wU 44 false I (dF (by omega)) (wP I (wP I (wP I ?_)))
   refine Ag 47 (.int .i64 (d.length:Nat)) I (congrArg (fun n:Nat=>Value.int .i64 (n:Int)) (As d)) ?_
   exact wP I (wU 48 (decide (¬(n.length≤300∧d.length≤300))) I (decide_eq_decide.2 (by show((d.length:Nat):Int)>300↔_;omega)) (wP I (Aa (Ah () O ⟨I,I,I,I,O⟩ [] I))))
  ·refine wU 44 true I (dT (by show((n.length:Nat):Int)>300;omega)) (wP I ?_)
   iterate 3 refine Af I I ?_
   exact wP I (Aa (Ah () O ⟨I,I,I,by rw[dT (show¬(n.length≤300∧d.length≤300) by omega)];rfl,O⟩ [] I))
 intro _ _
 refine Ai I (fun hlong=> ?_) (fun hlong=> ?_)
 ·have hlong:=of_decide_eq_true hlong
  exact zA (zB (wP I (Aa (zE (zO (zP (wR1 I I (by rw[hcode,if_neg fun h=>hlong ⟨hlen1.2 h.1,hlen2.2 h.2⟩]))))))))
 have hlong:n.length≤300∧d.length≤300:=Decidable.byContradiction fun h=>of_decide_eq_false hlong h
 rw[if_pos ⟨hlen1.1 hlong.1,hlen2.1 hlong.2⟩] at hcode
 refine zI (zE (zA (zA (zB (wP I (wP I (Aa ?_)))))))
 cases hs:sl with
 |false=>
  have hcode:(rdR a).2=0:=by rw[hcode,hs];exact if_pos (show Nat.gcd (A9 n) 1=1 from Nat.gcd_one_right _)
  exact zE (zR I (zA (zB (wP I (Aa (zE (zO (zP (wR1 I I (by rw[hcode]))))))))))
 |true=>
  have hd:=hdl hs
  have hde:=Jc hd
  rw[hs,if_pos rfl] at hcode
  refine zE (zS I (zI (zE (Ax (Ax ?_)))))
  refine A3 (X:=Unit) (fun _=>[(4,str n),(5,str d),(59, .bool (decide (n.length≤9∧d.length≤9)))]) (fun _=>[]) (fun _=>True) ?_ ?_
  ·refine zB (wP I (wP I ?_))
   refine Ag 53 (.int .i64 (n.length:Nat)) I (congrArg (fun n:Nat=>Value.int .i64 (n:Int)) (As n)) ?_
   refine wP I ?_
   by_cases h1:n.length≤9
   ·refine wU 54 true I (dT (by omega)) (wP I (wP I (wP I ?_)))
    refine Ag 57 (.int .i64 (d.length:Nat)) I (congrArg (fun n:Nat=>Value.int .i64 (n:Int)) (As d)) ?_
    exact wP I (wU 58 (decide (n.length≤9∧d.length≤9)) I (decide_eq_decide.2 (by omega)) (wP I (Aa (Ah () O ⟨I,I,I,O⟩ [] I))))
   ·refine wU 54 false I (dF (by omega)) (wP I ?_)
    iterate 3 refine Af I I ?_
    exact wP I (Aa (Ah () O ⟨I,I,by rw[dF (fun h:n.length≤9∧d.length≤9=>h1 h.1)];rfl,O⟩ [] I))
  intro _ _
  refine Ai I (fun h9=> ?_) (fun h9=> ?_)
  ·obtain⟨h9,h9'⟩:=of_decide_eq_true h9
   have l1:A9 n<1000000000:=MM hn h9
   have l2:A9 d<1000000000:=MM hd h9'
   refine zA (zA (zB (wP I (wC I I (fun W _=>B6 n (by omega) (Fx.1 hn).all W) (wP I (wC I I (fun W _=>B6 d (by omega) (Fx.1 hd).all W) (wC I I (fun W _=>Ix (A9 n) (A9 d) (by omega) (by omega) W) (wP I ?_))))))))
   by_cases hg:Nat.gcd (A9 n) (A9 d)=1
   ·exact wU 65 false I (by rw[bne_eq_false_iff_eq];omega) (Aa (zE (zS I (zI (zE (zA (zB (wP I (Aa (zE (zO (zP (wR1 I I (by rw[hcode,if_pos hg]))))))))))))))
   ·exact wU 65 true I (by rw[bne_iff_ne];omega) (Aa (zE (zR I (zA (zB (wP I (Aa (zE (zO (zP (zP (wR1 I I (by rw[hcode,if_neg hg])))))))))))))
  ·have e1:n=itoa ((A9 n:Nat):Int):=by rw[Ch];exact hne
   have e2:d=itoa ((A9 d:Nat):Int):=by rw[Ch];exact hde
   refine zI (zE (zA (zA (zB (wP I (wP I ?_))))))
   refine wC I I (fun W1 hp=>by
    have h:=K1 ((A9 n:Nat):Int) ((A9 d:Nat):Int) (by rw[Int.natAbs_natCast, ←hne];exact hlong.1) (by rw[Int.natAbs_natCast, ←hde];exact hlong.2) W1 (ht.hp hp)
    rw[←e1, ←e2,Int.natAbs_natCast,Int.natAbs_natCast,Ch] at h
    exact h) ?_
   iterate 5 refine wP I ?_
   refine Aa (zE (zA (zB (wP I (wP I ?_)))))
   by_cases hg:Nat.gcd (A9 n) (A9 d)=1
   ·exact wU 73 false I (by show(!_)=false;rw[AQ,hg,DU];rfl) (Aa (zE (zS I (zI (zE (zA (zB (wP I (Aa (zE (zO (wR1 I I (by rw[hcode,if_pos hg])))))))))))))
   ·refine Ag 73 (.bool true) I (congrArg Value.bool (by
     show(!_)=true
     rw[AQ,dF fun h=>hg (by have:=congrArg A9 h;rw[Bs] at this;exact this)];rfl)) ?_
    exact Aa (zE (zR I (zA (zB (wP I (Aa (zE (zO (zP (wR1 I I (by rw[hcode,if_neg hg])))))))))))
-- BOXES 1
-- CODE2
theorem DD (a b c d:Int) (ha:okN a) (hb:okN b) (hc:okN c) (hd:okN d) (hab:okN (a*b)) (hcd:okN (c*d)) (W:World) (ht:AB W):
  Ad Tryz.prog 156 #[str (itoa a),str (itoa b),str (itoa c),str (itoa d)] W (fun _:Unit=> .tuple #[str (itoa (a*b)),str (itoa (c*d)), .int .i64 0]) (fun _=>True) (fun _=>[]):=by
 refine Ab (args:=[str (itoa a),str (itoa b),str (itoa c),str (itoa d)]) Tryz.func156 I I I ?_
 refine zA (zB (wP I (wP I (wP I (Aa (zE (zA (zB (wP I (wP I (wC I I (fun W1 hp=>Kq a b ha.dd hb.dd hab.dd W1 (ht.hp hp)) ?_)))))))))))
 iterate 5 refine wP I ?_
 refine Aa (zE (zA (zA (zB (wP I (wP I (Aa (zE (zS I (zI (zE (zA (zB ?_)))))))))))))
 refine wP I (wP I (wC I I (fun W1 hp=>Kq c d hc.dd hd.dd hcd.dd W1 (ht.hp hp)) ?_))
 iterate 5 refine wP I ?_
 refine Aa (zE (zA (zB ?_)))
 iterate 6 refine wP I ?_
 exact Aa (zE (zO (wR3 I I I)))
-- BOXES 1
-- CODE2
theorem FQ (m:Nat) (hm:m<9223372036854775808):AZ Tryz.prog 163 [.int .i64 (m:Nat)] (str (decDigits m)):=by
 intro W
 have hlen:(decDigits m).length≤19:=BE 19 m (by omega) (by omega)
 refine Ab Tryz.func163 I I I ?_
 refine zA (zB (wP I (Aa (zE (zA (zB ?_))))))
 refine B4 Tryz.vec233 20 I I I I I I I (by decide) (by decide) ?_
 intro b
 refine wP I (Aa (zE (zA (zB (wP I (wP I (wP I (Aa (zE (zH ?_))))))))))
 refine Aw (X:=Nat×List UInt8) (fun x=>[(0, .int .i64 (x.1:Nat)),(3, .slice (some ⟨b,0,none⟩) 20 20),(4, .int .i64 ((20-x.2.length:Nat):Int))]) (fun x=>[⟨b,5,zrV (20-x.2.length)++byV x.2,true,none⟩])
  (fun x=>x.1<9223372036854775808∧decDigits m=decDigits x.1++x.2) (fun x=>x.1) (m,[]) ⟨hm,by simp⟩ ⟨rfl,rfl,rfl,trivial⟩ [] rfl ?_
 rintro⟨u,suf⟩ ⟨hu0,hd0⟩
 have hu:u<9223372036854775808:=hu0
 have hd:decDigits m=decDigits u++suf:=hd0
 have hs:suf.length≤18:=by
  have h1:=congrArg List.length hd
  rw[List.length_append] at h1
  have h2:(decDigits u).length≠0:=fun e=>EV u (List.length_eq_zero_iff.1 e)
  omega
 refine zH (zA (zB (wP I (wP I (wV 9 ((19-suf.length:Nat):Int) I (show w64 (((20-suf.length:Nat):Int)-1)=_ by rw[Aj (by omega) (by omega)];omega) (wP I (Aa (zE (zA (zB (wP I (wP I (wP I ?_)))))))))))))
 refine Fh I I I I I (by decide) ?_
 refine wV 13 ((u%10:Nat):Int) I (show Int.tmod (u:Nat) ((10:Nat):Int)=_ from(Int.ofNat_tmod _ _).symm) (wP I (wV 14 ((48+u%10:Nat):Int) I (show w64 (48+((u%10:Nat):Int))=_ by rw[Aj (by omega) (by omega)];omega) ?_))
 refine R3 Tryz.underlying3 Tryz.underlying5 I I I I ?_
 refine Ag 15 (.int .u8 ((UInt8.ofNat (48+u%10)).toNat:Int)) I (congrArg (Value.int .u8) (Rf u)) ?_
 refine wJ ?_
 refine A5 0 (zrV (20-(UInt8.ofNat (48+u%10)::suf).length)++byV (UInt8.ofNat (48+u%10)::suf)) tH I I I I I I I I I I (by show 0+(19-suf.length)*1+1≤(zrV (20-suf.length)++byV suf).length;rw[List.length_append,Hz];omega) (by
  rw[List.length_cons,show 20-(suf.length+1)=19-suf.length by omega]
  show BD (zrV (20-suf.length)++byV suf) _ _=_
  rw[show 20-suf.length=19-suf.length+1 by omega]
  exact Pj) ?_
 refine Aa (zE (zA (zB (wP I ?_))))
 refine CG I I I I I (by decide) ?_
 refine wV 18 ((u/10:Nat):Int) I (show w64 (Int.tdiv (u:Nat) ((10:Nat):Int))=_ by rw[←Int.ofNat_tdiv,Aj (by omega) (by omega)]) (wP I (Aa (zE (zA (zB (wP I (wP I (Aa (zE ?_)))))))))
 generalize hc:UInt8.ofNat (48+u%10)=c at*
 refine Ai I (fun h=> ?_) (fun h=> ?_)
 ·have h0:u<10:=by have h':(((u/10:Nat):Int)==0)=true:=h;rw[beq_iff_eq] at h';omega
  have he:decDigits m=c::suf:=by rw[hd,decDigits_one h0, ←hc,Nat.mod_eq_of_lt h0];rfl
  refine zA (zB (wP I (wP I ?_)))
  refine GM (19-suf.length) tH I I I I I I I I (by omega) (by omega) ?_
  refine Ag 23 (.slice (some ⟨b,19-suf.length,none⟩) (c::suf).length (20-(19-suf.length))) I (by
   rw[if_neg (by omega),List.length_cons,show 20-(19-suf.length)=suf.length+1 by omega,show 0+(19-suf.length)*1=19-suf.length by omega]) ?_
  refine Gh 0 (c::suf) (e:=5) (by kernel_rfl) Tryz.underlying5 (by kernel_rfl) I I I I I I I (fun j hj=>by
   show(zrV (20-(c::suf).length)++byV (c::suf))[19-suf.length+j]? =_
   rw[show 20-(c::suf).length=19-suf.length by rw[List.length_cons];omega]
   exact Pm hj) ?_
  exact wP I (Aa (zE (zO (zQ (zP (zQ (wR1 I I (by rw[he]))))))))
 ·have h0: ¬u<10:=by have h':(((u/10:Nat):Int)==0)=false:=h;rw[beq_eq_false_iff_ne] at h';omega
  refine zI (zN ?_)
  refine Ak (u/10,c::suf) ⟨by show u/10<9223372036854775808;omega, ?_⟩ (by show u/10<u;omega) ⟨I,I,congrArg (fun z=>some (Value.int .i64 z)) (by rw[List.length_cons,show 20-(suf.length+1)=19-suf.length by omega]),O⟩ [] I
  show decDigits m=decDigits (u/10)++c::suf
  rw[hd,decDigits,dif_neg h0,hc,List.append_assoc];rfl
theorem QE {z:Int} {g:Nat} (hg:0<g) (h:g∣z.natAbs):itoa (z/(g:Int))=(if z<0 then[45] else[])++decDigits (z.natAbs/g):=by
 obtain⟨k,hk⟩:=h
 by_cases hz:z<0
 ·have e:z= -((g*k:Nat):Int):=by omega
  have hk0:k≠0:=fun e=>by rw[e] at hk;omega
  have e2:z/(g:Int)= -(k:Int):=by
   rw[e,Int.natCast_mul, ←Int.mul_neg]
   exact Int.mul_ediv_cancel_left _ (by omega)
  rw[if_pos hz,e2,Jl hk0,hk,Nat.mul_div_cancel_left _ hg];rfl
 ·have e:z=((g*k:Nat):Int):=by omega
  have e2:z/(g:Int)=(k:Int):=by
   rw[e,Int.natCast_mul]
   exact Int.mul_ediv_cancel_left _ (by omega)
  rw[if_neg hz,e2,hk,Nat.mul_div_cancel_left _ hg]
  unfold itoa
  rw[if_neg (by omega)];rfl
theorem Db (z:Int) (d:Nat) (hz:z.natAbs<9223372036854775808) (hd0:0<d) (hd:d<9223372036854775808):AZ Tryz.prog 98 [.int .i64 z, .int .i64 (d:Nat)] (str (Ac (mkRat z d))):=by
 intro W
 obtain⟨n,hn⟩: ∃n,z.natAbs=n:=⟨_,rfl⟩
 obtain⟨g,hg⟩: ∃g,Nat.gcd n d=g:=⟨_,rfl⟩
 have hg0:0<g:=by rw[←hg];exact Nat.gcd_pos_of_pos_right _ hd0
 have hgn:g∣n:=by rw[←hg];exact Nat.gcd_dvd_left ..
 have hgd:g∣d:=by rw[←hg];exact Nat.gcd_dvd_right ..
 have hgle:g≤d:=Nat.le_of_dvd hd0 hgd
 rw[hn] at hz
 have hnq:n/g≤n:=Nat.div_le_self ..
 have hdq:d/g≤d:=Nat.div_le_self ..
 have hnl:(decDigits (n/g)).length≤19:=BE 19 _ (by decide) (by omega)
 have hdl:(decDigits (d/g)).length≤19:=BE 19 _ (by decide) (by omega)
 obtain⟨s,hs⟩: ∃s:List UInt8,s=if z<0 then[45] else[]:=⟨_,rfl⟩
 have hsl:s.length≤1:=by rw[hs];split<;>decide
 have hq:itoa (z/(g:Int))=s++decDigits (n/g):=by rw[hs, ←hn];exact QE hg0 (by rw[hn];exact hgn)
 refine Ab Tryz.func98 I I I ?_
 refine zA (zB (wP I (Aa (zE (zA (zB (wP I (Aa (zE (zA (zA (zB (wP I (wP I ?_))))))))))))))
 refine Aa (A4 ?_)
 try refine Ax ?_
 refine A3 (X:=Unit) (fun _=>[(0, .int .i64 (n:Nat)),(1, .int .i64 (d:Nat)),(5,str s)]) (fun _=>[]) (fun _=>True) ?_ ?_
 ·refine Ai I (fun h=> ?_) (fun h=> ?_)
  ·have h:z<0:=by simpa using h
   exact zB (wP I (wP I (wV 10 (n:Nat) I (show w64 (0-z)=_ by rw[Aj (by omega) (by omega)];omega) (wP I (wP I (Aa (Ah () O ⟨I,I,by rw[hs,if_pos h];rfl,O⟩ [] I)))))))
  ·have h: ¬z<0:=by simpa using h
   exact zI (Ah () O ⟨congrArg (fun z=>some (Value.int .i64 z)) (by omega),I,by rw[hs,if_neg h];rfl,O⟩ [] I)
 intro _ _
 refine zA (zB (wP I (wP I (wC I I (fun W hp=>(Ix n d hz hd W).cast (v':= .int .i64 (g:Nat)) (by rw[hg])) (wP I (Aa (zE (zA (zB (wP I (wP I (wP I ?_))))))))))))
 refine CG I I I I I (by omega) ?_
 refine wV 17 ((n/g:Nat):Int) I (by rw[C4];exact Bl (by omega)) (wC I I (fun W hp=>FQ (n/g) (by omega) W) ?_)
 refine By I I I I I (a:=s) (b:=decDigits (n/g)) (by omega) (by omega) ?_
 refine Ag 19 (str (itoa (z/(g:Int)))) I (by rw[hq]) ?_
 refine wP I (Aa (zE (zA (zA (zB (wP I (wP I ?_)))))))
 refine CG I I I I I (by omega) ?_
 refine wV 22 ((d/g:Nat):Int) I (by rw[C4];exact Bl (by omega)) (wP I ?_)
 have hql:(itoa (z/(g:Int))).length≤20:=by rw[hq,List.length_append];omega
 by_cases h1:d/g=1
 ·exact wU 23 true I (by rw[beq_iff_eq];omega) (Aa (zE (zR I (zA (zB (wP I (wP I (Aa (zE (zO (zP (wR1 I I (by rw[HG (by omega) (by rw[hn,hg];exact h1),hn,hg])))))))))))))
 ·refine wU 23 false I (by rw[beq_eq_false_iff_ne];omega) (Aa (zE (zS I (zI (zE (zA (zB (wP I ?_))))))))
  refine By I I I I I (a:=itoa (z/(g:Int))) (b:=[47]) (by omega) (by decide) ?_
  refine wP I (wP I ?_)
  refine CG I I I I I (by omega) ?_
  refine wV 29 ((d/g:Nat):Int) I (by rw[C4];exact Bl (by omega)) (wC I I (fun W hp=>FQ (d/g) (by omega) W) ?_)
  refine By I I I I I (by rw[List.length_append];show _+1≤_;omega) (by omega) ?_
  exact wP I (Aa (zE (zO (wR1 I I (by rw[HO (by omega) (by rw[hn,hg];exact h1),hn,hg,Bw])))))
theorem Ny {z:Int} {d:Nat} (hz:z<0):CS z d=45::CS (-z) d:=by
 have e:itoa z=45::itoa (-z):=by
  unfold itoa
  rw[if_pos hz,if_neg (by omega),show(-z).toNat=z.natAbs by omega]
 unfold CS
 rw[e]
 split<;>rfl
theorem Ow (q:Rat) (hl:(Ac q).length≤1000):AZ Tryz.prog 102 [str (Ac q)] (str (Ac (-q))):=by
 intro W
 have en:(-q).num= -q.num:=rfl
 have ed:(-q).den=q.den:=rfl
 refine Ab Tryz.func102 I I I ?_
 refine zA (zB (wP I (Aa (zE (zA (zH (zA (zB (wP I (wP I (wU 5 (decide (Ac q=[48])) I (AQ _ _) (wP I (Aa ?_)))))))))))))
 refine zE ?_
 refine Ai I (fun h=> ?_) (fun h=> ?_)
 ·have h:q.num=0:=Gd.1 (of_decide_eq_true h)
  have e0:Ac (-q)=Ac q:=by rw[Gd.2 h,Gd.2 (by rw[en,h];rfl)]
  exact zA (zB (wP I (wP I (Aa (zE (zO (zQ (zP (wR1 I I (by rw[e0]))))))))))
 have h: ¬q.num=0:=fun e=>of_decide_eq_false h (Gd.2 e)
 have hpre:=(Pz (z:=q.num) q.den_pos).1
 rw[AY] at hpre
 obtain⟨c,hc⟩: ∃c,(Ac q)[0]? =some c:=by
  cases e:Ac q with
  |nil=>
   have:=congrArg List.length e
   unfold Ac CS at this
   have h2:itoa q.num≠[]:=by unfold itoa;split;simp;exact EV _
   split at this
   ·exact absurd (List.length_eq_zero_iff.1 this) h2
   ·rw[List.length_append] at this;simp at this
  |cons c t=>exact⟨c,rfl⟩
 have hc45:decide (c=45)=decide (q.num<0):=by
  rw[←hpre]
  show _=decide ((Ac q)[0]? =some 45)
  exact decide_eq_decide.2 (by rw[hc];simp)
 refine zA (zB (wP I ?_))
 refine AJ 0 tH I I I I I I I I hc ?_
 refine wP I (wU 10 (decide (q.num<0)) I ((CR c 45).trans hc45) (wP I (Aa (zE ?_))))
 refine Ai I (fun hn=> ?_) (fun hn=> ?_)
 ·have hn:q.num<0:=of_decide_eq_true hn
  have e1:Ac q=45::Ac (-q):=by unfold Ac;rw[en,ed];exact Ny hn
  have hlen:=congrArg List.length e1
  rw[List.length_cons] at hlen
  refine zA (zB (wP I ?_))
  refine DI 1 tH I I I I I I I I (by omega) ?_
  exact wP I (Aa (zE (zO (zQ (zP (wR1 I I (by rw[e1];rfl)))))))
 ·have hn: ¬q.num<0:=of_decide_eq_false hn
  have e1:Ac (-q)=45::Ac q:=by
   unfold Ac
   rw[en,ed,Ny (show -q.num<0 by omega),Int.neg_neg]
  refine zI (zN (zE (zA (zB (wP I ?_)))))
  refine By I I I I I (a:=[45]) (b:=Ac q) (by decide) (by omega) ?_
  exact wP I (Aa (zE (zO (wR1 I I (by rw[e1];rfl)))))
-- BOXES 6
-- CODE2
theorem OM (a b:Int) (ha:(decDigits a.natAbs).length≤300) (hb:(decDigits b.natAbs).length≤300) (hab:(decDigits (a+b).natAbs).length≤300) (W:World) (ht:AB W):
  Ad Tryz.prog 165 #[str (itoa a),str (itoa b)] W (fun _:Unit=> .tuple #[str (itoa (a+b)), .int .i64 0]) (fun _=>True) (fun _=>[]):=by
 have la:=Cn (m:=a.natAbs) (by omega)
 have lb:=Cn (m:=b.natAbs) (by omega)
 refine Ab (args:=[str (itoa a),str (itoa b)]) Tryz.func165 I I I ?_
 refine zA (zB (wP I (wP I (Aa (zE (zA (zA (zB (wP I (wP I (wC I I (fun W _=>D4 a b ha hb W) (wP I (Aa ?_)))))))))))))
 refine zE (zA (zB (wP I (wP I (Aa (zE (zS I (zI (zE (zA (zA (zB ?_))))))))))))
 cases hs:smI a&&smI b with
 |true=>
  obtain⟨h1,h2⟩:=Bool.and_eq_true_iff.1 hs
  have b1:=Ih h1
  have b2:=Ih h2
  refine wP I (wP I (wC I I (fun W _=>HQ hs W) ?_))
  iterate 7 refine wP I ?_
  refine Aa (zE (zA (zB (wP I (Aa (zE (zR I (zA (zB (wP I (wP I (wP I (wV 26 (a+b) I (Aj (by omega) (by omega)) ?_)))))))))))))
  exact wC I I (fun W hp=>Bh (a+b) (by omega) (by omega) W (ht.hp hp)) (wP I (wP I (Aa (zE (zO (zP (wR2 I I I)))))))
 |false=>
  obtain⟨x0,y0,h2⟩:=H6 hs ha hb
  refine wP I (wP I (wC I I (fun W _=>h2 W) ?_))
  iterate 7 refine wP I ?_
  refine Aa (zE (zA (zB (wP I (Aa (zE (zS I (zI (zE (zA (zB (wP I ?_))))))))))))
  refine wD (X:=NV) I I (fun W' _=>Bo a (by omega) W') ?_
  intro x hx
  refine wP I ?_
  refine wD (X:=NV) I I (fun W' _=>Bo b (by omega) W') ?_
  intro y hy
  refine wD (X:=NV) I I (fun W' hp=>JB a b W' (some ⟨x.1,0,none⟩) (some ⟨y.1,0,none⟩) x.2.1 y.2.1 (Ar.of_bx hp 0 I) (Ar.of_bx hp 1 I) (by omega) (by omega)) ?_
  intro w hw
  exact wC I I (fun W' hp=>Dn (a+b) hab W' (some ⟨w.1,0,none⟩) w.2.1 (Ar.of_bx hp 2 I)) (wP I (wP I (wP I (wP I (Aa (zE (zO (wR2 I I I))))))))
-- BOXES 8
-- CODE2
theorem Lh {a:Int} {g:Nat} (hg:0<g) (h:(g:Int)∣a):(a/(g:Int)).natAbs=a.natAbs/g∧a.natAbs%g=0∧(a/(g:Int)<0↔a<0)∧a.tdiv (g:Int)=a/(g:Int)∧a.tmod (g:Int)=0:=by
 obtain⟨k,rfl⟩:=h
 have e1:(g:Int)*k/(g:Int)=k:=Int.mul_ediv_cancel_left _ (by omega)
 refine⟨?_, ?_, ?_, ?_, ?_⟩
 ·rw[e1,Int.natAbs_mul,Int.natAbs_natCast,Nat.mul_div_cancel_left _ hg]
 ·rw[Int.natAbs_mul,Int.natAbs_natCast,Nat.mul_mod_right]
 ·rw[e1]
  constructor
  ·intro h;exact Int.mul_neg_of_pos_of_neg (by omega) h
  ·intro h
   by_cases h1:k<0
   ·exact h1
   ·have:=Int.mul_nonneg (show(0:Int)≤(g:Int) by omega) (show 0≤k by omega);omega
 ·rw[e1];exact Int.mul_tdiv_cancel_left _ (by omega)
 ·exact Int.mul_tmod_right _ _
theorem Kb (a:Int) (g:Nat) (hg:0<g) (h:(g:Int)∣a) (ha:(decDigits a.natAbs).length≤300) (hgl:(decDigits g).length≤300) (W:World) (ht:AB W):
  Ad Tryz.prog 218 #[str (itoa a),str (itoa (g:Int))] W (fun _:Unit=> .tuple #[str (itoa (a/(g:Int))),str [48], .int .i64 0]) (fun _=>True) (fun _=>[]):=by
 obtain⟨q1,q2,q3,q4,q5⟩:=Lh hg h
 have la:=Cn (m:=a.natAbs) (by omega)
 have lg:=Cn (m:=g) (by omega)
 have hgn:((g:Int)).natAbs=g:=Int.natAbs_natCast g
 have hgl2:(decDigits ((g:Int)).natAbs).length≤300:=by rw[hgn];exact hgl
 have hql:(decDigits (a/(g:Int)).natAbs).length≤300:=by
  rw[q1]
  have key: ∀e,0<e→(decDigits a.natAbs).length≤e→(decDigits (a.natAbs/g)).length≤e:=fun e he h=>BE e _ (by omega) (Nat.lt_of_le_of_lt (Nat.div_le_self ..) (Nat.lt_of_lt_of_le (Dc _) (Nat.pow_le_pow_right (by decide) h)))
  exact key 300 (by decide) ha
 have hneg:decide ((g:Int)<0)=false:=dF (by omega)
 have hg48:itoa (g:Int)≠[48]:=fun e=>by
  have:=Hc.1 e
  omega
 refine Ab (args:=[str (itoa a),str (itoa (g:Int))]) Tryz.func218 I I I ?_
 refine zA (zB (wP I (wP I (wP I (Aa (zE (zA (zA (zB (wP I (wP I (wC I I (fun W _=>D4 a (g:Int) ha hgl2 W) (wP I ?_)))))))))))))
 refine Aa (zE (zA (zB (wP I (wP I (Aa (zE (zS I (zI (zE (zA (zA (zB ?_)))))))))))))
 refine wP I (wP I (wU 28 false I ((AQ _ _).trans (dF hg48)) (Aa (zE (zS I (zI (zE (zA (zA (zB ?_))))))))))
 cases hs:smI a&&smI (g:Int) with
 |true=>
  obtain⟨h1,h2⟩:=Bool.and_eq_true_iff.1 hs
  have b1:=Ih h1
  have b2:=Ih h2
  have b3:(a/(g:Int)).natAbs≤a.natAbs:=by rw[q1];exact Nat.div_le_self ..
  refine wP I (wP I (wC I I (fun W _=>HQ hs W) ?_))
  iterate 7 refine wP I ?_
  refine Aa (zE (zA (zB (wP I (Aa (zE (zR I (zA (zU (qP I (qP I ?_)))))))))))
  refine Ha I I I I I (by omega) ?_
  refine qV 39 (a/(g:Int)) I (by rw[q4];exact Aj (by omega) (by omega)) (qP I (qP I ?_))
  refine Gj I I I I I (by omega) ?_
  refine qV 42 0 I q5 (qP I (qP I (AM (Aa (zE (zA (zA (zB (wP I (wP I ?_))))))))))
  refine Ag 44 (.bool false) I I ?_
  refine wP I ?_
  iterate 5 refine Af I I ?_
  refine wP I (Aa (zE (zS I (zI (zE (zA (zB (wP I (wC I I (fun W hp=>Bh (a/(g:Int)) (by omega) (by omega) W (ht.hp hp)) (wP I (wC I I (fun W hp=>(Bh 0 (by decide) (by decide) W (ht.hp hp)).cast (v':=str [48]) (by rw[BI])) (wP I (wP I (wP I ?_))))))))))))))
  exact Aa (zE (zO (zP (wR3 I I I))))
 |false=>
  obtain⟨x0,y0,h2⟩:=H6 hs ha hgl2
  refine wP I (wP I (wC I I (fun W _=>h2 W) ?_))
  iterate 7 refine wP I ?_
  refine Aa (zE (zA (zB (wP I (Aa (zE (zS I (zI (zE (zA (zB (wP I ?_))))))))))))
  refine wD (X:=NV) I I (fun W' _=>Bo a (by omega) W') ?_
  intro x hx
  refine wP I ?_
  refine wD (X:=NV) I I (fun W' _=>Bo (g:Int) (by omega) W') ?_
  intro y hy
  refine Ag 64 (.agg #[.bool false,Bb y (lbs br g).length]) I (by unfold Sp;rw[hneg,hgn]) ?_
  rw[hgn] at hy⊢
  (refine Ae Tryz.hZ rfl rfl rfl rfl ?_;intro)
  (refine Ae Tryz.hZ rfl rfl rfl rfl ?_;intro)
  refine wS 2 I I I (wS 3 I I I (Aa ?_))
  rename_i b13 b14
  refine zE (zA (zB (wP I (wB 2 I I I (wP I (wB 3 I I I ?_))))))
  refine wD (X:=NV×NV) I I (fun W' hp=>GG W' (some ⟨x.1,0,none⟩) (some ⟨y.1,0,none⟩) x.2.1 y.2.1 a.natAbs g hg (Ar.of_bx hp 0 I) (Ar.of_bx hp 1 I) (by omega) (by omega)) ?_
  rintro⟨q,w⟩ ⟨hq,hw⟩
  have e0:lbs br (a.natAbs%g)=[]:=by rw[q2];exact AF
  have hq:B9 q (lbs br (a.natAbs/g)):=hq
  simp only[e0]
  iterate 5 refine wP I ?_
  refine Aa (A4 ?_)
  try refine Ax ?_
  refine A3 (X:=Nat×Nat) (fun s=>[(13,Al b13),(14,Al b14),(15,Bb q (lbs br (a.natAbs/g)).length),(16,Bb w 0),(17,Al s.1),(18,Al s.2)]) (fun s=>[Bn q (lbs br (a.natAbs/g)),Bn w [],⟨s.1,187,[.bool (decide (a/(g:Int)<0)),Bb q (lbs br (a.natAbs/g)).length],true,none⟩,⟨s.2,187,[.bool false,Bb w 0],true,none⟩]) (fun _=>True) ?_ ?_
  ·by_cases hn:a<0
   ·have hqn:a/(g:Int)<0:=q3.2 hn
    have hqL:0<(lbs br (a.natAbs/g)).length:=List.length_pos_iff.2 fun e=>by have:=(Ct br2).1 e;omega
    have e1:decide (a<0)=true:=dT hn
    have e2:decide (a/(g:Int)<0)=true:=dT hqn
    simp only[e2]
    refine zB (wP I (wB 2 I I I (wU 74 true I e1 (wP I (wB 3 I I I ?_)))))
    refine FG Tryz.underlying4 I I I I I I ?_
    refine wP I (wP I (wP I (wP I (wU 81 true I (dT (by omega)) (wP I (wP I ?_))))))
    refine Au Tryz.hZ tH I I I I I I I I ?_
    refine wP I (wB 2 I I I (wU 86 true I e1 (wP I (wP I (wP I (wP I ?_))))))
    refine Ag 90 (.bool false) I I ?_
    refine wP I (wP I ?_)
    refine Au Tryz.hZ tH I I I I I I I I ?_
    (refine Ae Tryz.hZ rfl rfl rfl rfl ?_;intro)
    (refine Ae Tryz.hZ rfl rfl rfl rfl ?_;intro)
    refine wS 6 I I I (wS 7 I I I (Aa ?_))
    rename_i b17 b18
    exact PM (b17,b18) O ⟨I,I,I,I,I,I,O⟩ [4,5,6,7] (by decide) I
   ·have hqn: ¬a/(g:Int)<0:=fun h=>hn (q3.1 h)
    have e1:decide (a<0)=false:=dF hn
    have e2:decide (a/(g:Int)<0)=false:=dF hqn
    simp only[e2]
    refine zB (wP I (wB 2 I I I (wU 74 false I e1 (wP I (wB 3 I I I ?_)))))
    refine FG Tryz.underlying4 I I I I I I ?_
    refine wP I ?_
    iterate 3 refine Af I I ?_
    refine wP I (wP I ?_)
    refine Au Tryz.hZ tH I I I I I I I I ?_
    refine wP I (wB 2 I I I (wU 86 false I e1 (wP I ?_)))
    iterate 3 refine Af I I ?_
    refine wP I (wP I ?_)
    refine Au Tryz.hZ tH I I I I I I I I ?_
    (refine Ae Tryz.hZ rfl rfl rfl rfl ?_;intro)
    (refine Ae Tryz.hZ rfl rfl rfl rfl ?_;intro)
    refine wS 6 I I I (wS 7 I I I (Aa ?_))
    rename_i b17 b18
    exact PM (b17,b18) O ⟨I,I,I,I,I,I,O⟩ [4,5,6,7] (by decide) I
  rintro⟨b17,b18⟩ _
  refine zA (zA (zB (wP I (wP I (wP I ?_)))))
  refine Ag 96 (.bool false) I I ?_
  refine wP I ?_
  iterate 5 refine Af I I ?_
  refine wP I (Aa (zE (zS I (zI (zE (zA (zB (wB 2 I I I ?_))))))))
  refine wC I I (fun W' hp=>by
   have h:=Dn (a/(g:Int)) hql W' (some ⟨q.1,0,none⟩) q.2.1
   rw[q1] at h
   exact h (Ar.of_bx hp 0 I)) ?_
  iterate 5 refine wP I ?_
  refine Aa (zE (zA (zA (zB (wP I (wP I (Aa (zE (zS I (zI (zE (zA (zB ?_)))))))))))))
  refine wP I (wB 3 I I I ?_)
  refine wC I I (fun W' hp=>by
   have h:=Fp 0 (by decide+kernel) W' (some ⟨w.1,0,none⟩) w.2.1 (.inl AF)
   rw[BI,show(0:Int).natAbs=0 from rfl,AF] at h
   exact h) ?_
  exact wP I (wP I (wP I (Aa (zE (zO (wR3 I I I))))))
-- BOXES 1
-- CODE2
theorem OD {n m k:Nat} (h:n≤m) (hk:0<k) (hm:(decDigits m).length≤k):(decDigits n).length≤k:=
 BE k n (by omega) (Nat.lt_of_le_of_lt h (Nat.lt_of_lt_of_le (Dc m) (Nat.pow_le_pow_right (by decide) hm)))
theorem Gw {z:Int} (h:z<0):itoa z=45::itoa (-z):=by
 unfold itoa
 rw[if_pos h,if_neg (by omega),show(-z).toNat=z.natAbs by omega]
theorem IY {z:Int} (h: ¬z<0):itoa z=decDigits z.natAbs:=by rw[B3];unfold FC;rw[if_neg h];rfl
theorem PB {z:Int} (h:(itoa z).length≤18):z.natAbs<1000000000000000000:=by
 rw[B3,List.length_append] at h
 exact Nat.lt_of_lt_of_le (Dc _) (show _≤10^18 from Nat.pow_le_pow_right (by decide) (by omega))
theorem Ir (z d:Int) (hd:d≠0) (hz:okN z) (hdk:okN d) (W:World) (ht:AB W):
  Ad Tryz.prog 164 #[str (itoa z),str (itoa d)] W (fun _:Unit=> .tuple #[str (Ac (nrm z d)), .int .i64 0]) (fun _=>True) (fun _=>[]):=by
 have lz:=Fu hz.dd
 have ld:=Fu hdk.dd
 obtain⟨c0,hc0,hc45⟩:=Du d
 obtain⟨u,hu⟩: ∃u,u=if d<0 then -z else z:=⟨_,rfl⟩
 obtain⟨e,he⟩: ∃e,e=d.natAbs:=⟨_,rfl⟩
 have he0:0<e:=by omega
 have hnr:nrm z d=mkRat u e:=by unfold nrm;rw[hu,he]
 have hua:u.natAbs=z.natAbs:=by rw[hu];split<;>omega
 have huk:okN u:=by unfold okN;rw[hua];exact hz
 have hek:okN (e:Int):=by unfold okN;rw[Int.natAbs_natCast,he];exact hdk
 have hel:(decDigits e).length≤300:=by have:=hek.dd;rwa [Int.natAbs_natCast] at this
 have hie:itoa (e:Int)=decDigits e:=Ch e
 rw[hnr]
 refine Ab (args:=[str (itoa z),str (itoa d)]) Tryz.func164 I I I ?_
 refine zA (zB (wP I (wP I (Aa (zE (zA (zA (zB (wP I ?_)))))))))
 refine AJ 0 tH I I I I I I I I hc0 ?_
 refine wP I (wU 11 (decide (d<0)) I ((CR c0 45).trans hc45) (Aa (A4 ?_)))
 try refine Ax ?_
 refine A3 (X:=Unit) (fun _=>[(0,str (itoa u)),(1,str (itoa (e:Int)))]) (fun _=>[]) (fun _=>True) ?_ ?_
 ·refine Ai I (fun h=> ?_) (fun h=> ?_)
  ·have h:d<0:=of_decide_eq_true h
   have ed:itoa d=45::itoa (e:Int):=by rw[Gw h,show -d=(e:Int) by omega]
   have eu:u= -z:=by rw[hu,if_pos h]
   obtain⟨c1,hc1,hc2⟩:=Du z
   refine zA (zB (wP I ?_))
   refine DI 1 tH I I I I I I I I (by rw[ed,List.length_cons];omega) ?_
   refine Ag 13 (str (itoa (e:Int))) I (by rw[ed];rfl) ?_
   refine wP I (Aa (zE (zA (zB (wP I ?_)))))
   refine AJ 0 tH I I I I I I I I hc1 ?_
   refine wP I (wU 16 (decide (z<0)) I ((CR c1 45).trans hc2) (Aa (zE ?_)))
   refine Ai I (fun hzn=> ?_) (fun hzn=> ?_)
   ·have hzn:z<0:=of_decide_eq_true hzn
    refine zB (wP I ?_)
    refine DI 1 tH I I I I I I I I (by rw[Gw hzn,List.length_cons];omega) ?_
    exact wP I (Aa (Ah () O ⟨by rw[Gw hzn,eu];rfl,I,O⟩ [] I))
   ·have hzn: ¬z<0:=of_decide_eq_false hzn
    refine zA (zB (wP I (wP I ?_)))
    by_cases hz0:z=0
    ·exact wU 20 false I (by show(!_)=false;rw[AQ,hz0,BI];rfl) (Aa (zE (zS I (zI (Ah () O ⟨by rw[eu,hz0];rfl,I,O⟩ [] I)))))
    ·refine wU 20 true I (by show(!_)=true;rw[AQ,dF fun h=>hz0 (Hc.1 h)];rfl) (Aa (zE (zR I (zB (wP I ?_)))))
     refine By I I I I I (a:=[45]) (b:=itoa z) (by decide) (by omega) ?_
     exact wP I (Aa (Ah () O ⟨by rw[eu,Gw (show -z<0 by omega),Int.neg_neg];rfl,I,O⟩ [] I))
  ·have h: ¬d<0:=of_decide_eq_false h
   exact zI (Ah () O ⟨by rw[hu,if_neg h];rfl,by rw[show(e:Int)=d by omega];rfl,O⟩ [] I)
 intro _ _
 have lu:=Fu huk.dd
 have le:=Fu hek.dd
 obtain⟨c1,hc1,hc2⟩:=Du u
 refine Ax (Ax ?_)
 refine A3 (X:=Unit) (fun _=>[(0,str (itoa u)),(1,str (itoa (e:Int))),(30, .bool (decide ((itoa u).length≤18∧(itoa (e:Int)).length≤18)))]) (fun _=>[]) (fun _=>True) ?_ ?_
 ·refine zB (wP I (wP I ?_))
  refine Ag 24 (.int .i64 ((itoa u).length:Nat)) I (congrArg (fun n:Nat=>Value.int .i64 (n:Int)) (As _)) ?_
  refine wP I ?_
  by_cases h1:(itoa u).length≤18
  ·refine wU 25 true I (dT (by omega)) (wP I (wP I (wP I ?_)))
   refine Ag 28 (.int .i64 ((itoa (e:Int)).length:Nat)) I (congrArg (fun n:Nat=>Value.int .i64 (n:Int)) (As _)) ?_
   exact wP I (wU 29 (decide ((itoa u).length≤18∧(itoa (e:Int)).length≤18)) I (decide_eq_decide.2 (by omega)) (wP I (Aa (Ah () O ⟨I,I,I,O⟩ [] I))))
  ·refine wU 25 false I (dF (by omega)) (wP I ?_)
   iterate 3 refine Af I I ?_
   exact wP I (Aa (Ah () O ⟨I,I,by rw[dF (fun h:(itoa u).length≤18∧(itoa (e:Int)).length≤18=>h1 h.1)];rfl,O⟩ [] I))
 intro _ _
 refine Ai I (fun h18=> ?_) (fun h18=> ?_)
 ·obtain⟨h1,h2⟩:=of_decide_eq_true h18
  have u18:=PB h1
  have e18:=PB h2
  rw[Int.natAbs_natCast] at e18
  rw[hie] at h2
  refine zA (zA (zB (wP I ?_)))
  refine AJ 0 tH I I I I I I I I hc1 ?_
  refine wP I (wU 33 (decide (u<0)) I ((CR c1 45).trans hc2) (Aa (zE ?_)))
  refine Ai I (fun hn=> ?_) (fun hn=> ?_)
  ·have hn:u<0:=of_decide_eq_true hn
   have eu:itoa u=45::decDigits u.natAbs:=by rw[Gw hn,IY (by omega),Int.natAbs_neg]
   have hdl:(decDigits u.natAbs).length≤18:=by rw[eu,List.length_cons] at h1;omega
   refine zA (zB (wP I ?_))
   refine DI 1 tH I I I I I I I I (by rw[eu,List.length_cons];omega) ?_
   refine Ag 35 (str (decDigits u.natAbs)) I (by rw[eu];rfl) ?_
   refine wC I I (fun W _=>(B6 (decDigits u.natAbs) hdl (DZ _).all W).cast (v':= .int .i64 (u.natAbs:Nat)) (by rw[Bs])) (wP I (wV 37 u I (by show w64 (0-((u.natAbs:Nat):Int))=_;rw[Aj (by omega) (by omega)];omega) (wP I ?_)))
   refine Ag 38 (str (decDigits e)) I (by rw[hie]) ?_
   exact wC I I (fun W _=>(B6 (decDigits e) h2 (DZ _).all W).cast (v':= .int .i64 (e:Nat)) (by rw[Bs])) (wC I I (fun W _=>Db u e (by omega) he0 (by omega) W) (wP I (wP I (Aa (zE (zO (zP (zP (wR2 I I I)))))))))
  ·have hn: ¬u<0:=of_decide_eq_false hn
   have eu:itoa u=decDigits u.natAbs:=IY hn
   rw[eu] at h1
   refine zI (zE (zA (zB (wP I ?_))))
   refine Ag 41 (str (decDigits u.natAbs)) I (by rw[eu]) ?_
   refine wC I I (fun W _=>(B6 (decDigits u.natAbs) h1 (DZ _).all W).cast (v':= .int .i64 u) (by rw[Bs];exact congrArg (Value.int .i64) (by omega))) (wP I ?_)
   refine Ag 43 (str (decDigits e)) I (by rw[hie]) ?_
   exact wC I I (fun W _=>(B6 (decDigits e) h2 (DZ _).all W).cast (v':= .int .i64 (e:Nat)) (by rw[Bs])) (wC I I (fun W _=>Db u e (by omega) he0 (by omega) W) (wP I (wP I (Aa (zE (zO (zP (wR2 I I I))))))))
 obtain⟨g,hg⟩: ∃g,Nat.gcd u.natAbs e=g:=⟨_,rfl⟩
 have hg0:0<g:=by rw[←hg];exact Nat.gcd_pos_of_pos_right _ he0
 have hgu:(g:Int)∣u:=Int.natAbs_dvd_natAbs.1 (by rw[Int.natAbs_natCast, ←hg];exact Nat.gcd_dvd_left ..)
 have hge:g∣e:=by rw[←hg];exact Nat.gcd_dvd_right ..
 have hgle:g≤e:=Nat.le_of_dvd he0 hge
 have hgl:(decDigits g).length≤300:=OD hgle (by decide) hel
 obtain⟨x,hx⟩: ∃x,x=u/(g:Int):=⟨_,rfl⟩
 have hxe:=Lh hg0 hgu
 have hxl:(decDigits x.natAbs).length≤300:=by
  rw[hx,hxe.1]
  exact OD (Nat.div_le_self ..) (by decide) huk.dd
 obtain⟨y,hy⟩: ∃y,y=e/g:=⟨_,rfl⟩
 have hyl:(decDigits y).length≤300:=by
  rw[hy]
  exact OD (Nat.div_le_self ..) (by decide) hel
 have hyI:(e:Int)/(g:Int)=(y:Int):=by rw[hy];exact(Int.natCast_ediv _ _).symm
 have hnum:Ac (mkRat u e)=if y=1 then itoa x else itoa x++[47]++decDigits y:=by
  by_cases h1:y=1
  ·rw[if_pos h1,HG (by omega) (by rw[hg, ←hy];exact h1),hg, ←hx]
  ·rw[if_neg h1,HO (by omega) (by rw[hg, ←hy];exact h1),hg, ←hx, ←hy,Ch]
 have lx:=Fu hxl
 obtain⟨c3,hc3,hc4⟩:=Du x
 refine zI (zE (zA (zB (wP I (wP I (wC I I (fun W1 hp=>(K1 u (e:Int) huk.dd hek.dd W1 (ht.hp hp)).cast (v':= .tuple #[str (itoa (g:Int)), .int .i64 0]) (by rw[Int.natAbs_natCast,hg])) ?_))))))
 iterate 5 refine wP I ?_
 refine Aa (zE (zA (zA (zB (wP I (wP I (Aa (zE (zS I (zI (zE (zA (zB ?_)))))))))))))
 refine wP I (wP I (wC I I (fun W1 hp=>(Kb u g hg0 hgu huk.dd hgl W1 (ht.hp hp)).cast (v':= .tuple #[str (itoa x),str [48], .int .i64 0]) (by rw[hx])) ?_))
 iterate 6 refine wP I ?_
 refine Aa (zE (zA (zA (zB (wP I (wP I (Aa (zE (zS I (zI (zE (zA (zB ?_)))))))))))))
 refine wP I (wP I (wC I I (fun W1 hp=>(Kb (e:Int) g hg0 (Int.natCast_dvd_natCast.2 hge) hek.dd hgl W1 (ht.hp hp)).cast (v':= .tuple #[str (decDigits y),str [48], .int .i64 0]) (by rw[hyI,Ch])) ?_))
 iterate 6 refine wP I ?_
 refine Aa (zE (zA (zA (zB (wP I (wP I (Aa (zE (zS I (zI (zE (zA (zB ?_)))))))))))))
 refine wP I (wP I (Aa (zE (zA (zA (zB (wP I ?_)))))))
 refine AJ 0 tH I I I I I I I I hc3 ?_
 refine wP I (wU 78 (decide (x<0)) I ((CR c3 45).trans hc4) (Aa (A4 ?_)))
 try refine Ax ?_
 refine A3 (X:=Unit) (fun _=>[(0,str (itoa x)),(1,str (decDigits y)),(8,str (decDigits x.natAbs))]) (fun _=>[]) (fun _=>True) ?_ ?_
 ·refine Ai I (fun hn=> ?_) (fun hn=> ?_)
  ·have hn:x<0:=of_decide_eq_true hn
   have ex:itoa x=45::decDigits x.natAbs:=by rw[Gw hn,IY (by omega),Int.natAbs_neg]
   refine zB (wP I ?_)
   refine DI 1 tH I I I I I I I I (by rw[ex,List.length_cons];omega) ?_
   refine Ag 80 (str (decDigits x.natAbs)) I (by rw[ex];rfl) ?_
   exact wP I (Aa (Ah () O ⟨I,I,I,O⟩ [] I))
  ·have hn: ¬x<0:=of_decide_eq_false hn
   exact zI (Ah () O ⟨I,I,by rw[←IY hn];rfl,O⟩ [] I)
 intro _ _
 refine zA (zA (zB (wP I (wP I ?_))))
 refine Ag 82 (.int .i64 ((decDigits x.natAbs).length:Nat)) I (congrArg (fun n:Nat=>Value.int .i64 (n:Int)) (As _)) ?_
 refine wP I (wU 83 false I (dF (by omega)) (wP I (wP I (wP I ?_))))
 refine Ag 86 (.int .i64 ((decDigits y).length:Nat)) I (congrArg (fun n:Nat=>Value.int .i64 (n:Int)) (As _)) ?_
 refine wP I (wU 87 false I (dF (by omega)) (wP I (Aa (zE (zS I (zI (zE (zA (zA (zB (wP I (wP I ?_))))))))))))
 by_cases h1:y=1
 ·exact wU 90 true I (by rw[AQ,h1,DU];rfl) (Aa (zE (zR I (zA (zB (wP I (wP I (wP I (Aa (zE (zO (zP (wR2 I I (by rw[hnum,if_pos h1]))))))))))))))
 ·refine wU 90 false I (by rw[AQ];exact dF fun h=>h1 (by have:=congrArg A9 h;rw[Bs] at this;exact this)) (Aa (zE (zS I (zI (zE (zA (zB (wP I ?_))))))))
  refine By I I I I I (a:=itoa x) (b:=[47]) (by omega) (by decide) ?_
  refine wP I ?_
  refine By I I I I I (by rw[List.length_append];show _+1≤_;omega) (by omega) ?_
  exact wP I (wP I (Aa (zE (zO (wR2 I I (by rw[hnum,if_neg h1]))))))
theorem JF (n d m c:Int) (hn:okN n) (hd:okN d) (hm:okN m) (hc:okN c) (hnm:okN (n*m)) (hdc:okN (d*c)) (h0:d*c≠0) (W:World) (ht:AB W):
  Ad Tryz.prog 100 #[str (itoa n),str (itoa d),str (itoa m),str (itoa c)] W (fun _:Unit=> .tuple #[str (Ac (nrm (n*m) (d*c))), .int .i64 0]) (fun _=>True) (fun _=>[]):=by
 refine Ab (args:=[str (itoa n),str (itoa d),str (itoa m),str (itoa c)]) Tryz.func100 I I I ?_
 refine zA (zB (wP I (wP I (Aa (zE (zA (zB (wP I (wP I (wP I (wP I (wC I I (fun W1 hp=>DD n m d c hn hm hd hc hnm hdc W1 (ht.hp hp)) ?_))))))))))))
 iterate 7 refine wP I ?_
 refine Aa (zE (zA (zA (zB (wP I (wP I (Aa (zE (zS I (zI (zE (zA (zB ?_)))))))))))))
 exact wP I (wP I (wC I I (fun W1 hp=>Ir (n*m) (d*c) h0 hnm hdc W1 (ht.hp hp)) (wP I (wP I (wP I (wP I (Aa (zE (zO (wR2 I I I))))))))))
-- BOXES 1
-- CODE2
theorem EW {q:Rat} (h:okQ q):(Ac q).length≤1000:=by
 have:=B2 h
 omega
theorem Ib {q:Rat} (h:okQ q) (W:World) (ht:AB W):Ad Tryz.prog 58 #[str (Ac q)] W (fun _:Unit=> .int .i64 0) (fun _=>True) (fun _=>[]):=
 (Fs (Ac q) (by have:=EW h;omega) W ht).cast (by rw[OW h])
theorem C1 {p q:Rat} (hp':okQ p) (hq:okQ q) (W:World) (ht:AB W):Ad Tryz.prog 96 #[str (Ac p),str (Ac q)] W (fun _:Unit=> .int .i64 0) (fun _=>True) (fun _=>[]):=by
 refine Ab (args:=[str (Ac p),str (Ac q)]) Tryz.func96 I I I ?_
 refine zA (zB (wP I (Aa (zE (zA (zA (zB (wP I (wC I I (fun W1 hp=>Ib hp' W1 (ht.hp hp)) (wP I (Aa (zE (zA ?_)))))))))))))
 refine zB (wP I (wP I (Aa (zE (zS I (zI (zE (zA (zB (wP I (wC I I (fun W1 hp=>Ib hq W1 (ht.hp hp)) (wP I (Aa ?_)))))))))))))
 exact zE (zO (wR1 I I I))
def iN (q:Rat):Int:=if D5 q=true then q.num else 0
def iD (q:Rat):Int:=if D5 q=true then((q.den:Nat):Int) else 0
theorem Cb {q:Rat} (h:okQ q):AZ Tryz.prog 97 [str (Ac q)] (.tuple #[.int .i64 (iN q), .int .i64 (iD q), .bool (D5 q)]):=fun W=>
 (OG q (by have:=EW h;omega) W).cast (by
  unfold iN iD
  cases D5 q<;>rfl)
theorem Nz {x y:Int} (hx:x.natAbs<1000000000) (hy:y.natAbs<1000000000):(x*y).natAbs<1000000000000000000:=by
 rw[Int.natAbs_mul]
 have:=Nat.mul_lt_mul'' hx hy
 omega
theorem CX {x y:Int} (hx:x.natAbs<1000000000) (hy:y.natAbs<1000000000):w64 (x*y)=x*y:=by
 have:=Nz hx hy
 exact Aj (by omega) (by omega)
theorem FE {n:Nat} (h:n<1000000000):((n:Nat):Int).natAbs<1000000000:=by rw[Int.natAbs_natCast];exact h
def sh2 (p q:Rat):Bool:=D5 p&&D5 q
theorem G1 {p q:Rat} (h:sh2 p q=true):iN p=p.num∧iD p=(p.den:Nat)∧iN q=q.num∧iD q=(q.den:Nat)∧p.num.natAbs<1000000000∧p.den<1000000000∧q.num.natAbs<1000000000∧q.den<1000000000:=by
 obtain⟨h1,h2⟩:=Bool.and_eq_true_iff.1 h
 obtain⟨a1,a2⟩:=Ij h1
 obtain⟨b1,b2⟩:=Ij h2
 exact⟨if_pos h1,if_pos h1,if_pos h2,if_pos h2,a1,a2,b1,b2⟩
theorem PH (z:Int) {d:Nat} (hd:0<d):nrm z (d:Int)=mkRat z d:=by
 unfold nrm
 rw[if_neg (by omega),Int.natAbs_natCast]
theorem BN {q:Rat} (h:okQ q):AZ Tryz.prog 99 [str (Ac q)] (.tuple #[str (itoa q.num),str (itoa ((q.den:Nat):Int))]):=fun W=>
 (I8 q (EW h) W).cast (by rw[Ch])
theorem J2 (p q:Rat) (h:Sz2 p q) (W:World) (ht:AB W):
  Ad Tryz.prog 84 #[str (Ac p),str (Ac q)] W (fun _:Unit=> .tuple #[.int .i64 (G6 p q), .int .i64 0]) (fun _=>True) (fun _=>[]):=by
 have hpn:=p.den_pos
 have hqn:=q.den_pos
 rw[←QL]
 obtain⟨x,hx⟩: ∃x,p.num*((q.den:Nat):Int)=x:=⟨_,rfl⟩
 obtain⟨y,hy⟩: ∃y,q.num*((p.den:Nat):Int)=y:=⟨_,rfl⟩
 rw[hx,hy]
 refine Ab (args:=[str (Ac p),str (Ac q)]) Tryz.func84 I I I ?_
 refine zA (zB (wP I (wP I (Aa (zE (zA (zA (zB (wP I (wP I (wC I I (fun W1 hp=>C1 h.okp h.okq W1 (ht.hp hp)) (wP I (Aa ?_)))))))))))))
 refine zE (zA (zB (wP I (wP I (Aa (zE (zS I (zI (zE (zA (zB (wP I (wC I I (fun W _=>Cb h.okp W) ?_)))))))))))))
 iterate 7 refine wP I ?_
 refine Aa (zE (zA (zB (wP I (wC I I (fun W _=>Cb h.okq W) ?_)))))
 iterate 7 refine wP I ?_
 refine Aa (A4 (Ax (Ax ?_)))
 refine A3 (X:=Unit) (fun _=>[(0,str (Ac p)),(1,str (Ac q)),(7, .int .i64 (iN p)),(8, .int .i64 (iD p)),(10, .int .i64 (iN q)),(11, .int .i64 (iD q)),(41, .bool (sh2 p q))]) (fun _=>[]) (fun _=>True) ?_ ?_
 ·refine zB (wP I (wP I ?_))
  refine C7 39 I (fun h39=> ?_) (fun h39=> ?_)
  ·exact wP I (wP I (Aa (Ah () O ⟨I,I,I,I,I,I,congrArg (fun b=>some (Value.bool b)) (by unfold sh2;simp_all),O⟩ [] I)))
  ·refine Af I I ?_
   exact wP I (Aa (Ah () O ⟨I,I,I,I,I,I,congrArg (fun b=>some (Value.bool b)) (by unfold sh2;simp_all),O⟩ [] I))
 intro _ _
 refine Ai I (fun hs=> ?_) (fun hs=> ?_)
 ·obtain⟨e1,e2,e3,e4,l1,l2,l3,l4⟩:=G1 hs
  have w1:w64 (iN p*iD q)=x:=by rw[e1,e4, ←hx];exact CX l1 (FE l4)
  have w2:w64 (iN q*iD p)=y:=by rw[e3,e2, ←hy];exact CX l3 (FE l2)
  refine zA (zH (zA (zB (wP I (wP I (wP I (wV 45 x I w1 (wP I (wP I (wP I (wV 48 y I w2 (wP I ?_))))))))))))
  by_cases h1:x<y
  ·exact wU 49 true I (dT h1) (wP I (Aa (zE (zR I (zA (zB (wP I (wP I (Aa (zE (zO (zQ (zP (zP (wR2 I I (by rw[EI,if_pos h1]))))))))))))))))
  refine wU 49 false I (dF h1) (wP I (Aa (zE (zS I (zA (zB (wP I (wP I (wP I (wV 53 x I w1 (wP I (wP I (wP I ?_)))))))))))))
  refine wV 56 y I w2 (wP I ?_)
  by_cases h2:y<x
  ·exact wU 57 true I (dT h2) (wP I (Aa (zE (zR I (zA (zB (wP I (wP I (Aa (zE (zO (zQ (zP (zP (wR2 I I (by rw[EI,if_neg h1,if_neg (by omega)]))))))))))))))))
  refine wU 57 false I (dF h2) (wP I (Aa (zE (zS I (zI (zN (zE (zA (zB (wP I (wP I (Aa (zE ?_)))))))))))))
  exact zO (zP (wR2 I I (by rw[EI,if_neg h1,if_pos (by omega)])))
 ·refine zI (zE (zA (zB (wP I (wC I I (fun W _=>BN h.okp W) ?_)))))
  iterate 5 refine wP I ?_
  refine Aa (zE (zA (zB (wP I (wC I I (fun W _=>BN h.okq W) ?_)))))
  iterate 5 refine wP I ?_
  refine Aa (zE (zA (zB (wP I (wP I (wP I (wP I (wC I I (fun W1 hp=>(DD p.num (q.den:Nat) q.num (p.den:Nat) h.okp.1 h.okq.2 h.okq.1 h.okp.2 h.c1 h.c2 W1 (ht.hp hp)).cast (v':= .tuple #[str (itoa x),str (itoa y), .int .i64 0]) (by rw[hx,hy])) ?_))))))))
  iterate 7 refine wP I ?_
  refine Aa (zE (zA (zA (zB (wP I (wP I (Aa (zE (zS I (zI (zE (zA (zB ?_)))))))))))))
  exact wP I (wP I (wC I I (fun W1 hp=>Ov x y (by rw[←hx];exact h.c1.dd) (by rw[←hy];exact h.c2.dd) W1) (wP I (wP I (wP I (wP I (Aa (zE (zO (wR2 I I I))))))))))
-- BOXES 1
-- CODE2
theorem Jo (p q:Rat) (h:Sz2 p q) (W:World) (ht:AB W):
  Ad Tryz.prog 101 #[str (Ac p),str (Ac q)] W (fun _:Unit=> .tuple #[str (Ac (p+q)), .int .i64 0]) (fun _=>True) (fun _=>[]):=by
 have hpn:=p.den_pos
 have hqn:=q.den_pos
 have ra:=Jb p q
 refine Ab (args:=[str (Ac p),str (Ac q)]) Tryz.func101 I I I ?_
 refine zA (zB (wP I (wP I (Aa (zE (zA (zB (wP I (wC I I (fun W _=>Cb h.okp W) ?_)))))))))
 iterate 7 refine wP I ?_
 refine Aa (zE (zA (zB (wP I (wC I I (fun W _=>Cb h.okq W) ?_)))))
 iterate 7 refine wP I ?_
 refine Aa (A4 (Ax (Ax ?_)))
 refine A3 (X:=Unit) (fun _=>[(0,str (Ac p)),(1,str (Ac q)),(6, .int .i64 (iN p)),(7, .int .i64 (iD p)),(9, .int .i64 (iN q)),(10, .int .i64 (iD q)),(37, .bool (sh2 p q))]) (fun _=>[]) (fun _=>True) ?_ ?_
 ·refine zB (wP I (wP I ?_))
  refine C7 35 I (fun h35=> ?_) (fun h35=> ?_)
  ·exact wP I (wP I (Aa (Ah () O ⟨I,I,I,I,I,I,congrArg (fun b=>some (Value.bool b)) (by unfold sh2;simp_all),O⟩ [] I)))
  ·refine Af I I ?_
   exact wP I (Aa (Ah () O ⟨I,I,I,I,I,I,congrArg (fun b=>some (Value.bool b)) (by unfold sh2;simp_all),O⟩ [] I))
 intro _ _
 refine Ai I (fun hs=> ?_) (fun hs=> ?_)
 ·obtain⟨e1,e2,e3,e4,l1,l2,l3,l4⟩:=G1 hs
  have m1:=Nz l1 (FE l4)
  have m2:=Nz l3 (FE l2)
  have m3:=Nz (FE l2) (FE l4)
  have hdd:((p.den:Nat):Int)*((q.den:Nat):Int)=((p.den*q.den:Nat):Int):=(Int.natCast_mul _ _).symm
  rw[hdd,Int.natAbs_natCast] at m3
  have hpq:=Nat.mul_pos hpn hqn
  rw[hdd,PH _ hpq] at ra
  refine zA (zB (wP I (wP I (wP I (wV 40 (p.num*(q.den:Nat)) I (by rw[e1,e4];exact CX l1 (FE l4)) (wP I (wP I (wP I (wV 43 (q.num*(p.den:Nat)) I (by rw[e3,e2];exact CX l3 (FE l2)) (wP I (wV 44 (p.num*(q.den:Nat)+q.num*(p.den:Nat)) I (Aj (by omega) (by omega)) (wP I (wP I (wP I ?_))))))))))))))
  exact wV 47 ((p.den*q.den:Nat):Int) I (by rw[e2,e4, ←hdd];exact CX (FE l2) (FE l4)) (wC I I (fun W _=>(Db (p.num*(q.den:Nat)+q.num*(p.den:Nat)) (p.den*q.den) (by omega) hpq (by omega) W).cast (v':=str (Ac (p+q))) (by rw[ra])) (wP I (wP I (Aa (zE (zO (zP (wR2 I I I))))))))
 ·have hd0:((p.den:Nat):Int)*((q.den:Nat):Int)≠0:=Int.mul_ne_zero (by omega) (by omega)
  refine zI (zE (zA (zB (wP I (wC I I (fun W _=>BN h.okp W) ?_)))))
  iterate 5 refine wP I ?_
  refine Aa (zE (zA (zB (wP I (wC I I (fun W _=>BN h.okq W) ?_)))))
  iterate 5 refine wP I ?_
  refine Aa (zE (zA (zB (wP I (wP I (wP I (wP I (wC I I (fun W1 hp=>DD p.num (q.den:Nat) q.num (p.den:Nat) h.okp.1 h.okq.2 h.okq.1 h.okp.2 h.c1 h.c2 W1 (ht.hp hp)) ?_))))))))
  iterate 7 refine wP I ?_
  refine Aa (zE (zA (zA (zB (wP I (wP I (Aa (zE (zS I (zI (zE (zA (zB ?_)))))))))))))
  refine wP I (wP I ?_)
  refine wC I I (fun W1 hp=>by
   have h1:=DD (p.den:Nat) (q.den:Nat) 1 1 h.okp.2 h.okq.2 (HU (by decide)) (HU (by decide)) h.d (HU (by decide)) W1 (ht.hp hp)
   rw[show(1:Int)*1=1 from rfl,RI] at h1
   exact h1) ?_
  iterate 7 refine wP I ?_
  refine Aa (zE (zA (zA (zB ?_))))
  iterate 5 refine wP I ?_
  refine wU 82 false I (by show(!_)=false;rw[AQ,dT I];rfl) (wP I (Aa (zE (zS I (zI (zE (zA (zB (wP I (wP I (wC I I (fun W1 hp=>OM (p.num*(q.den:Nat)) (q.num*(p.den:Nat)) h.c1.dd h.c2.dd h.add.dd W1 (ht.hp hp)) ?_)))))))))))
  iterate 5 refine wP I ?_
  refine Aa (zE (zA (zA (zB (wP I (wP I (Aa (zE (zS I (zI (zE (zA (zB ?_)))))))))))))
  exact wP I (wP I (wC I I (fun W1 hp=>(Ir _ _ hd0 h.add h.d W1 (ht.hp hp)).cast (v':= .tuple #[str (Ac (p+q)), .int .i64 0]) (by rw[ra])) (wP I (wP I (wP I (wP I (Aa (zE (zO (wR2 I I I))))))))))
theorem JL (p q:Rat) (h:Sz2 p q) (W:World) (ht:AB W):
  Ad Tryz.prog 95 #[str (Ac p),str (Ac q)] W (fun _:Unit=> .tuple #[str (Ac (p+q)), .int .i64 0]) (fun _=>True) (fun _=>[]):=by
 refine Ab (args:=[str (Ac p),str (Ac q)]) Tryz.func95 I I I ?_
 refine zA (zB (wP I (wP I (Aa (zE (zA (zA (zB (wP I (wP I (wC I I (fun W1 hp=>C1 h.okp h.okq W1 (ht.hp hp)) (wP I (Aa ?_)))))))))))))
 refine zE (zA (zB (wP I (wP I (Aa (zE (zS I (zI (zE (zA (zB (wP I (wP I ?_)))))))))))))
 exact wC I I (fun W1 hp=>Jo p q h W1 (ht.hp hp)) (wP I (wP I (wP I (wP I (Aa (zE (zO (wR2 I I I))))))))
theorem Sz2.neg {p q:Rat} (h:Sz2 p q):Sz2 p (-q):=by
 have e:(-q).num= -q.num:=rfl
 have d:(-q).den=q.den:=rfl
 refine⟨h.okp,⟨by rw[e];exact Jd h.okq.1,h.okq.2⟩,h.c1,by rw[e,Int.neg_mul];exact Jd h.c2,h.d,by rw[e,Int.mul_neg];exact Jd h.n, ?_, ?_⟩
 ·rw[e,d,Int.neg_mul, ←Int.sub_eq_add_neg];exact h.sub
 ·rw[e,d,Int.neg_mul,Int.sub_neg];exact h.add
theorem GL (p q:Rat) (h:Sz2 p q) (W:World) (ht:AB W):
  Ad Tryz.prog 41 #[str (Ac p),str (Ac q)] W (fun _:Unit=> .tuple #[str (Ac (p-q)), .int .i64 0]) (fun _=>True) (fun _=>[]):=by
 refine Ab (args:=[str (Ac p),str (Ac q)]) Tryz.func41 I I I ?_
 refine zA (zB (wP I (wP I (Aa (zE (zA (zA (zB (wP I (wP I (wC I I (fun W1 hp=>C1 h.okp h.okq W1 (ht.hp hp)) (wP I (Aa ?_)))))))))))))
 refine zE (zA (zB (wP I (wP I (Aa (zE (zS I (zI (zE (zA (zB (wP I (wP I ?_)))))))))))))
 exact wC I I (fun W _=>Ow q (EW h.okq) W) (wC I I (fun W1 hp=>(Jo p (-q) h.neg W1 (ht.hp hp)).cast (v':= .tuple #[str (Ac (p-q)), .int .i64 0]) (by rw[Rat.sub_eq_add_neg])) (wP I (wP I (wP I (wP I (Aa (zE (zO (wR2 I I I)))))))))
theorem Ku (p q:Rat) (h:Sz2 p q) (W:World) (ht:AB W):
  Ad Tryz.prog 94 #[str (Ac p),str (Ac q)] W (fun _:Unit=> .tuple #[str (Ac (p*q)), .int .i64 0]) (fun _=>True) (fun _=>[]):=by
 have hpn:=p.den_pos
 have hqn:=q.den_pos
 have ra:=IZ p q
 refine Ab (args:=[str (Ac p),str (Ac q)]) Tryz.func94 I I I ?_
 refine zA (zB (wP I (wP I (Aa (zE (zA (zA (zB (wP I (wP I (wC I I (fun W1 hp=>C1 h.okp h.okq W1 (ht.hp hp)) (wP I (Aa ?_)))))))))))))
 refine zE (zA (zB (wP I (wP I (Aa (zE (zS I (zI (zE (zA (zB (wP I (wC I I (fun W _=>Cb h.okp W) ?_)))))))))))))
 iterate 7 refine wP I ?_
 refine Aa (zE (zA (zB (wP I (wC I I (fun W _=>Cb h.okq W) ?_)))))
 iterate 7 refine wP I ?_
 refine Aa (A4 (Ax (Ax ?_)))
 refine A3 (X:=Unit) (fun _=>[(0,str (Ac p)),(1,str (Ac q)),(7, .int .i64 (iN p)),(8, .int .i64 (iD p)),(10, .int .i64 (iN q)),(11, .int .i64 (iD q)),(38, .bool (sh2 p q))]) (fun _=>[]) (fun _=>True) ?_ ?_
 ·refine zB (wP I (wP I ?_))
  refine C7 36 I (fun h36=> ?_) (fun h36=> ?_)
  ·exact wP I (wP I (Aa (Ah () O ⟨I,I,I,I,I,I,congrArg (fun b=>some (Value.bool b)) (by unfold sh2;simp_all),O⟩ [] I)))
  ·refine Af I I ?_
   exact wP I (Aa (Ah () O ⟨I,I,I,I,I,I,congrArg (fun b=>some (Value.bool b)) (by unfold sh2;simp_all),O⟩ [] I))
 intro _ _
 refine Ai I (fun hs=> ?_) (fun hs=> ?_)
 ·obtain⟨e1,e2,e3,e4,l1,l2,l3,l4⟩:=G1 hs
  have m1:=Nz l1 l3
  have m3:=Nz (FE l2) (FE l4)
  have hdd:((p.den:Nat):Int)*((q.den:Nat):Int)=((p.den*q.den:Nat):Int):=(Int.natCast_mul _ _).symm
  rw[hdd,Int.natAbs_natCast] at m3
  have hpq:=Nat.mul_pos hpn hqn
  rw[hdd,PH _ hpq] at ra
  refine zA (zB (wP I (wP I (wP I (wV 41 (p.num*q.num) I (by rw[e1,e3];exact CX l1 l3) (wP I (wP I (wP I (wV 44 ((p.den*q.den:Nat):Int) I (by rw[e2,e4, ←hdd];exact CX (FE l2) (FE l4)) (wC I I (fun W _=>(Db (p.num*q.num) (p.den*q.den) (by omega) hpq (by omega) W).cast (v':=str (Ac (p*q))) (by rw[ra])) (wP I (wP I (Aa ?_)))))))))))))
  exact zE (zO (zP (wR2 I I I)))
 ·have hd0:((p.den:Nat):Int)*((q.den:Nat):Int)≠0:=Int.mul_ne_zero (by omega) (by omega)
  refine zI (zE (zA (zB (wP I (wC I I (fun W _=>BN h.okp W) ?_)))))
  iterate 5 refine wP I ?_
  refine Aa (zE (zA (zB (wP I (wC I I (fun W _=>BN h.okq W) ?_)))))
  iterate 5 refine wP I ?_
  refine Aa (zE (zA (zB (wP I (wP I (wP I (wP I (wC I I (fun W1 hp=>(JF p.num (p.den:Nat) q.num (q.den:Nat) h.okp.1 h.okp.2 h.okq.1 h.okq.2 h.n h.d hd0 W1 (ht.hp hp)).cast (v':= .tuple #[str (Ac (p*q)), .int .i64 0]) (by rw[ra])) (wP I (wP I (wP I (wP I (Aa ?_)))))))))))))
  exact zE (zO (wR2 I I I))
theorem Oy (p q:Rat) (h:Sz2 p q) (h0:q.num≠0) (W:World) (ht:AB W):
  Ad Tryz.prog 40 #[str (Ac p),str (Ac q)] W (fun _:Unit=> .tuple #[str (Ac (p/q)), .int .i64 0]) (fun _=>True) (fun _=>[]):=by
 have hpn:=p.den_pos
 have hqn:=q.den_pos
 have ra:=IS p q h0
 refine Ab (args:=[str (Ac p),str (Ac q)]) Tryz.func40 I I I ?_
 refine zA (zB (wP I (wP I (Aa (zE (zA (zA (zB (wP I (wP I (wC I I (fun W1 hp=>C1 h.okp h.okq W1 (ht.hp hp)) (wP I (Aa ?_)))))))))))))
 refine zE (zA (zB (wP I (wP I (Aa (zE (zS I (zI (zE (zA (zA (zB (wP I (wP I ?_))))))))))))))
 refine wU 24 false I ((AQ _ _).trans (dF fun e=>h0 (Gd.1 e))) (Aa (zE (zS I (zI (zE (zA (zB (wP I (wC I I (fun W _=>Cb h.okp W) ?_)))))))))
 iterate 7 refine wP I ?_
 refine Aa (zE (zA (zB (wP I (wC I I (fun W _=>Cb h.okq W) ?_)))))
 iterate 7 refine wP I ?_
 refine Aa (A4 (Ax (Ax ?_)))
 refine A3 (X:=Unit) (fun _=>[(0,str (Ac p)),(1,str (Ac q)),(7, .int .i64 (iN p)),(8, .int .i64 (iD p)),(10, .int .i64 (iN q)),(11, .int .i64 (iD q)),(40, .bool (sh2 p q))]) (fun _=>[]) (fun _=>True) ?_ ?_
 ·refine zB (wP I (wP I ?_))
  refine C7 38 I (fun h38=> ?_) (fun h38=> ?_)
  ·exact wP I (wP I (Aa (Ah () O ⟨I,I,I,I,I,I,congrArg (fun b=>some (Value.bool b)) (by unfold sh2;simp_all),O⟩ [] I)))
  ·refine Af I I ?_
   exact wP I (Aa (Ah () O ⟨I,I,I,I,I,I,congrArg (fun b=>some (Value.bool b)) (by unfold sh2;simp_all),O⟩ [] I))
 intro _ _
 refine Ai I (fun hs=> ?_) (fun hs=> ?_)
 ·obtain⟨e1,e2,e3,e4,l1,l2,l3,l4⟩:=G1 hs
  obtain⟨m,hm⟩: ∃m,m=q.num.natAbs:=⟨_,rfl⟩
  obtain⟨c,hc⟩: ∃c:Int,c=if q.num<0 then -((q.den:Nat):Int) else((q.den:Nat):Int):=⟨_,rfl⟩
  have hca:c.natAbs<1000000000:=by rw[hc];split<;>omega
  have hm9:m<1000000000:=by omega
  have m1:=Nz l1 hca
  have m3:=Nz (FE l2) (FE hm9)
  have hdd:((p.den:Nat):Int)*((m:Nat):Int)=((p.den*m:Nat):Int):=(Int.natCast_mul _ _).symm
  rw[hdd,Int.natAbs_natCast] at m3
  have hpq:0<p.den*m:=Nat.mul_pos hpn (by omega)
  have hr:mkRat (p.num*c) (p.den*m)=p/q:=by
   rw[←ra]
   unfold nrm
   have hn1:(((p.den:Nat):Int)*q.num).natAbs=p.den*m:=by rw[Int.natAbs_mul,Int.natAbs_natCast,hm]
   rw[hn1]
   by_cases hq:q.num<0
   ·rw[if_pos (Int.mul_neg_of_pos_of_neg (by omega) hq),hc,if_pos hq,Int.mul_neg]
   ·rw[if_neg (by have:=Int.mul_nonneg (show(0:Int)≤(p.den:Nat) by omega) (show 0≤q.num by omega);omega),hc,if_neg hq]
  refine zA (zA (zB (wP I (wP I (wU 42 (decide (q.num<0)) I (by rw[e3]) (Aa (A4 ?_)))))))
  try refine Ax ?_
  refine A3 (X:=Unit) (fun _=>[(7, .int .i64 (iN p)),(8, .int .i64 (iD p)),(10, .int .i64 (m:Nat)),(11, .int .i64 c)]) (fun _=>[]) (fun _=>True) ?_ ?_
  ·refine Ai I (fun hq=> ?_) (fun hq=> ?_)
   ·have hq:q.num<0:=of_decide_eq_true hq
    exact zB (wP I (wP I (wV 44 (m:Nat) I (by rw[e3];show w64 (0-q.num)=_;rw[Aj (by omega) (by omega)];omega) (wP I (wP I (wV 46 c I (by rw[e4];show w64 (0-((q.den:Nat):Int))=_;rw[Aj (by omega) (by omega),hc,if_pos hq];omega) (wP I (wP I (Aa (Ah () O ⟨I,I,I,I,O⟩ [] I))))))))))
   ·have hq: ¬q.num<0:=of_decide_eq_false hq
    exact zI (Ah () O ⟨I,I,congrArg (fun z=>some (Value.int .i64 z)) (by rw[e3];omega),congrArg (fun z=>some (Value.int .i64 z)) (by rw[e4,hc,if_neg hq]),O⟩ [] I)
  intro _ _
  refine zA (zB (wP I (wP I (wP I (wV 49 (p.num*c) I (by rw[e1];exact CX l1 hca) (wP I (wP I (wP I (wV 52 ((p.den*m:Nat):Int) I (by rw[e2, ←hdd];exact CX (FE l2) (FE hm9)) (wC I I (fun W _=>(Db (p.num*c) (p.den*m) (by omega) hpq (by omega) W).cast (v':=str (Ac (p/q))) (by rw[hr])) (wP I (wP I (Aa ?_)))))))))))))
  exact zE (zO (zP (wR2 I I I)))
 ·have hd0:((p.den:Nat):Int)*q.num≠0:=Int.mul_ne_zero (by omega) h0
  have hc2:okN (((p.den:Nat):Int)*q.num):=by rw[Int.mul_comm];exact h.c2
  refine zI (zE (zA (zB (wP I (wC I I (fun W _=>BN h.okp W) ?_)))))
  iterate 5 refine wP I ?_
  refine Aa (zE (zA (zB (wP I (wC I I (fun W _=>BN h.okq W) ?_)))))
  iterate 5 refine wP I ?_
  refine Aa (zE (zA (zB (wP I (wP I (wP I (wP I (wC I I (fun W1 hp=>(JF p.num (p.den:Nat) (q.den:Nat) q.num h.okp.1 h.okp.2 h.okq.2 h.okq.1 h.c1 hc2 hd0 W1 (ht.hp hp)).cast (v':= .tuple #[str (Ac (p/q)), .int .i64 0]) (by rw[ra])) (wP I (wP I (wP I (wP I (Aa ?_)))))))))))))
  exact zE (zO (wR2 I I I))
theorem Hn {q:Rat} (h:okQ q) (W:World) (ht:AB W):
  Ad Tryz.prog 108 #[str (Ac q)] W (fun _:Unit=> .tuple #[str (itoa q.num),str (decDigits q.den), .int .i64 0]) (fun _=>True) (fun _=>[]):=by
 refine Ab (args:=[str (Ac q)]) Tryz.func108 I I I ?_
 refine zA (zB (wP I (wP I (wP I (Aa (zE (zA (zA (zB (wP I (wC I I (fun W1 hp=>Ib h W1 (ht.hp hp)) (wP I (Aa ?_)))))))))))))
 refine zE (zA (zB (wP I (wP I (Aa (zE (zS I (zI (zE (zA (zB (wP I (wC I I (fun W _=>I8 q (EW h) W) ?_)))))))))))))
 iterate 5 refine wP I ?_
 refine Aa (zE (zA (zB ?_)))
 iterate 5 refine wP I ?_
 exact Aa (zE (zO (wR3 I I I)))
-- BOXES 4
-- CODE2
theorem Gz {a:List UInt8} (h:(rdR a).2=0): ∃q,okQ q∧a=Ac q:=by
 unfold rdR at h
 cases hf:frm a with
 |none=>rw[hf] at h;exact absurd h (by decide)
 |some x=>
  obtain⟨z,d⟩:=x
  rw[hf] at h
  simp only at h
  by_cases h1:z.natAbs<AU∧d<AU
  ·rw[if_pos h1] at h
   by_cases h2:Nat.gcd z.natAbs d=1
   ·obtain⟨h3,h4⟩:=Jn hf
    exact⟨⟨z,d,by omega,h2⟩,⟨h1.1,by unfold okN;rw[Int.natAbs_natCast];exact h1.2⟩,h4⟩
   ·rw[if_neg h2] at h;exact absurd h (by decide)
  ·rw[if_neg h1] at h;exact absurd h (by decide)
def LR (a:List UInt8):Bool:=match frm a with
 |none=>false
 |some (z,d)=>decide (12<(decDigits z.natAbs).length)||decide (12<d)
theorem JG (q:Rat):LR (Ac q)=(decide (12<(decDigits q.num.natAbs).length)||decide (12<q.den)):=by
 unfold LR Ac
 rw[Dy q.num q.den_pos]
theorem SC {q:Rat}:LR (Ac q)=false↔BnQ q:=by
 rw[JG,Bool.or_eq_false_iff,decide_eq_false_iff_not,decide_eq_false_iff_not]
 constructor
 ·rintro⟨h1,h2⟩
  exact⟨Nat.lt_of_lt_of_le (Dc _) (Nat.pow_le_pow_right (by decide) (by omega)),by omega⟩
 ·rintro⟨h1,h2⟩
  have l1:=BE 12 _ (by decide) h1
  exact⟨by omega,by omega⟩
def bnE (a:List UInt8):Int:=if (rdR a).2≠0 then(rdR a).2 else if LR a=true then 4 else 0
theorem Bi {a:List UInt8} (h:bnE a=0): ∃q,BnQ q∧a=Ac q:=by
 unfold bnE at h
 by_cases h1:(rdR a).2=0
 ·obtain⟨q,_,rfl⟩:=Gz h1
  rw[if_neg (fun h=>h h1)] at h
  cases h2:LR (Ac q) with
  |true=>rw[h2,if_pos rfl] at h;exact absurd h (by decide)
  |false=>exact⟨q,SC.1 h2,rfl⟩
 ·rw[if_pos h1] at h;exact absurd h h1
def Bp:List (List UInt8)→Int
 |[]=>0
 |a::l=>if bnE a≠0 then bnE a else Bp l
theorem AG: ∀ {l:List (List UInt8)},Bp l=0→ ∀a∈l,bnE a=0
 |[],_,a,ha=>absurd ha List.not_mem_nil
 |b::l,h,a,ha=>by
  unfold Bp at h
  by_cases h1:bnE b=0
  ·rw[if_neg (fun h=>h h1)] at h
   rcases List.mem_cons.1 ha with rfl|ha
   ·exact h1
   ·exact AG h a ha
  ·rw[if_pos h1] at h;exact absurd h h1
def GR (a:List UInt8):Rat:=match frm a with
 |none=>0
 |some (z,d)=>(z:Rat)/(d:Rat)
theorem Bv (q:Rat):GR (Ac q)=q:=by
 unfold GR Ac
 rw[Dy q.num q.den_pos]
 show(q.num:Rat)/((q.den:Int):Rat)=q
 rw[←Rat.divInt_eq_div]
 exact Rat.num_divInt_den q
def Cl (len x:List UInt8):Bool:=decide (GR x<0)||decide (GR len<GR x)
structure BmW where
 len:List UInt8
 l:List UInt8
 r:List UInt8
 fs:List (List UInt8×List UInt8)
 ss:List (List UInt8×List UInt8×List UInt8)
def Il (w:BmW):Int:=if Bp [w.len,w.l,w.r]≠0 then Bp [w.len,w.l,w.r] else if GR w.len≤0 then 12 else if (Cl w.len w.l||Cl w.len w.r)=true then 2 else if GR w.r≤GR w.l then 10 else 0
def fsE (len:List UInt8):List (List UInt8×List UInt8)→Int
 |[]=>0
 |f::t=>if Bp [f.1,f.2]≠0 then Bp [f.1,f.2] else if Cl len f.1=true then 2 else fsE len t
def ssE (len:List UInt8):List (List UInt8×List UInt8×List UInt8)→Int
 |[]=>0
 |s::t=>if Bp [s.1,s.2.1,s.2.2]≠0 then Bp [s.1,s.2.1,s.2.2] else if (Cl len s.1||Cl len s.2.1)=true then 2 else if GR s.2.1≤GR s.1 then 10 else ssE len t
def CC (w:BmW):Int:=if 64<w.fs.length∨64<w.ss.length then 4 else if Il w≠0 then Il w else if fsE w.len w.fs≠0 then fsE w.len w.fs else ssE w.len w.ss
def BmP.w (b:BmP):BmW:=⟨Ac b.len,Ac b.l,Ac b.r,b.fs.map fun f=>(Ac f.1,Ac f.2),b.ss.map fun s=>(Ac s.1,Ac s.2.1,Ac s.2.2)⟩
theorem JW (L x:Rat):Cl (Ac L) (Ac x)=(decide (x<0)||decide (L<x)):=by
 unfold Cl
 rw[Bv,Bv]
theorem Gs {L x:Rat} (h:Cl (Ac L) (Ac x)=false):0≤x∧x≤L:=by
 rw[JW,Bool.or_eq_false_iff,decide_eq_false_iff_not,decide_eq_false_iff_not] at h
 exact⟨Rat.not_lt.1 h.1,Rat.not_lt.1 h.2⟩
theorem NA (L:Rat): ∀ {l:List (List UInt8×List UInt8)},fsE (Ac L) l=0→ ∃m:List (Rat×Rat),l=m.map (fun f=>(Ac f.1,Ac f.2))∧ ∀f∈m,(BnQ f.1∧BnQ f.2)∧0≤f.1∧f.1≤L
 |[],_=>⟨[],rfl,fun f hf=>absurd hf List.not_mem_nil⟩
 |(a,c)::l,h=>by
  unfold fsE at h
  by_cases h1:Bp [a,c]=0
  ·rw[if_neg (fun h=>h h1)] at h
   cases h2:Cl (Ac L) a with
   |true=>rw[if_pos h2] at h;exact absurd h (by decide)
   |false=>
    rw[if_neg (by rw[h2];decide)] at h
    obtain⟨m,e,hm⟩:=NA L h
    obtain⟨x,hx,rfl⟩:=Bi (AG h1 a (List.mem_cons_self ..))
    obtain⟨y,hy,rfl⟩:=Bi (AG h1 c (List.mem_cons_of_mem _ (List.mem_cons_self ..)))
    refine⟨(x,y)::m,by rw[e];rfl,fun f hf=> ?_⟩
    rcases List.mem_cons.1 hf with rfl|hf
    ·exact⟨⟨hx,hy⟩,Gs h2⟩
    ·exact hm f hf
  ·rw[if_pos h1] at h;exact absurd h h1
theorem MN (L:Rat): ∀ {l:List (List UInt8×List UInt8×List UInt8)},ssE (Ac L) l=0→ ∃m:List (Rat×Rat×Rat),l=m.map (fun s=>(Ac s.1,Ac s.2.1,Ac s.2.2))∧ ∀s∈m,(BnQ s.1∧BnQ s.2.1∧BnQ s.2.2)∧0≤s.1∧s.1<s.2.1∧s.2.1≤L
 |[],_=>⟨[],rfl,fun f hf=>absurd hf List.not_mem_nil⟩
 |(a,c,d)::l,h=>by
  unfold ssE at h
  by_cases h1:Bp [a,c,d]=0
  ·rw[if_neg (fun h=>h h1)] at h
   cases h2:(Cl (Ac L) a||Cl (Ac L) c) with
   |true=>rw[if_pos h2] at h;exact absurd h (by decide)
   |false=>
    rw[if_neg (by rw[h2];decide)] at h
    obtain⟨x,hx,rfl⟩:=Bi (AG h1 a (List.mem_cons_self ..))
    obtain⟨y,hy,rfl⟩:=Bi (AG h1 c (List.mem_cons_of_mem _ (List.mem_cons_self ..)))
    obtain⟨z,hz,rfl⟩:=Bi (AG h1 d (List.mem_cons_of_mem _ (List.mem_cons_of_mem _ (List.mem_cons_self ..))))
    rw[Bv,Bv] at h
    by_cases h3:y≤x
    ·rw[if_pos h3] at h;exact absurd h (by decide)
    rw[if_neg h3] at h
    obtain⟨m,e,hm⟩:=MN L h
    obtain⟨o1,o2⟩:=Bool.or_eq_false_iff.1 h2
    refine⟨(x,y,z)::m,by rw[e];rfl,fun f hf=> ?_⟩
    rcases List.mem_cons.1 hf with rfl|hf
    ·exact⟨⟨hx,hy,hz⟩,(Gs o1).1,Rat.not_le.1 h3,(Gs o2).2⟩
    ·exact hm f hf
  ·rw[if_pos h1] at h;exact absurd h h1
theorem Lk {w:BmW} (h:Il w=0): ∃L l r:Rat,w.len=Ac L∧w.l=Ac l∧w.r=Ac r∧BnQ L∧BnQ l∧BnQ r∧0<L∧0≤l∧l<r∧r≤L:=by
 obtain⟨a,b,c,fs,ss⟩:=w
 unfold Il at h
 show∃L l r:Rat,a=Ac L∧b=Ac l∧c=Ac r∧BnQ L∧BnQ l∧BnQ r∧0<L∧0≤l∧l<r∧r≤L
 simp only at h
 by_cases h1:Bp [a,b,c]=0
 ·rw[if_neg (fun h=>h h1)] at h
  obtain⟨x,hx,rfl⟩:=Bi (AG h1 a (List.mem_cons_self ..))
  obtain⟨y,hy,rfl⟩:=Bi (AG h1 b (List.mem_cons_of_mem _ (List.mem_cons_self ..)))
  obtain⟨z,hz,rfl⟩:=Bi (AG h1 c (List.mem_cons_of_mem _ (List.mem_cons_of_mem _ (List.mem_cons_self ..))))
  rw[Bv,Bv,Bv] at h
  by_cases h2:x≤0
  ·rw[if_pos h2] at h;exact absurd h (by decide)
  rw[if_neg h2] at h
  cases h3:(Cl (Ac x) (Ac y)||Cl (Ac x) (Ac z)) with
  |true=>rw[if_pos h3] at h;exact absurd h (by decide)
  |false=>
   rw[if_neg (by rw[h3];decide)] at h
   by_cases h4:z≤y
   ·rw[if_pos h4] at h;exact absurd h (by decide)
   obtain⟨o1,o2⟩:=Bool.or_eq_false_iff.1 h3
   exact⟨x,y,z,I,I,I,hx,hy,hz,Rat.not_le.1 h2,(Gs o1).1,Rat.not_le.1 h4,(Gs o2).2⟩
 ·rw[if_pos h1] at h;exact absurd h h1
theorem Ii {w:BmW} (h:CC w=0): ∃b,BmC b∧w=b.w:=by
 unfold CC at h
 by_cases h0:64<w.fs.length∨64<w.ss.length
 ·rw[if_pos h0] at h;exact absurd h (by decide)
 rw[if_neg h0] at h
 by_cases h1:Il w=0
 rotate_left
 ·rw[if_pos h1] at h;exact absurd h h1
 rw[if_neg (fun h=>h h1)] at h
 obtain⟨L,l,r,e1,e2,e3,n1,n2,n3,p1,p2,p3,p4⟩:=Lk h1
 rw[e1] at h
 by_cases h2:fsE (Ac L) w.fs=0
 rotate_left
 ·rw[if_pos h2] at h;exact absurd h h2
 rw[if_neg (fun h=>h h2)] at h
 obtain⟨fs,e4,hf⟩:=NA L h2
 obtain⟨ss,e5,hs⟩:=MN L h
 refine⟨⟨L,l,r,fs,ss⟩,⟨⟨p1,p2,p3,p4,fun f hm=>(hf f hm).2.1,fun f hm=>(hf f hm).2.2,fun s hm=>(hs s hm).2.1,fun s hm=>(hs s hm).2.2.1,fun s hm=>(hs s hm).2.2.2⟩,n1,n2,n3,fun f hm=>(hf f hm).1,fun s hm=>(hs s hm).1, ?_, ?_⟩, ?_⟩
 ·have:w.fs.length=fs.length:=by rw[e4,List.length_map]
  show fs.length≤64;omega
 ·have:w.ss.length=ss.length:=by rw[e5,List.length_map]
  show ss.length≤64;omega
 ·obtain⟨a,b,c,d,e⟩:=w
  simp only at e1 e2 e3 e4 e5
  subst e1 e2 e3 e4 e5
  rfl
abbrev bwV (w:BmW) (p:Option Addr) (m:Nat) (q:Option Addr) (n:Nat):Value:= .agg #[str w.len,str w.l,str w.r, .slice p w.fs.length m, .slice q w.ss.length n]
theorem GD (b:BmP) (p:Option Addr) (m:Nat) (q:Option Addr) (n:Nat):bwV b.w p m q n=bmV b p m q n:=by
 show Value.agg #[_,_,_, .slice p (b.fs.map _).length m, .slice q (b.ss.map _).length n]=_
 rw[List.length_map,List.length_map]
 rfl
def Mq (W:World) (p:Option Addr) (l:List (List UInt8×List UInt8)):Prop:=l=[]∨ ∃b off,p=some ⟨b,off,none⟩∧ ∀i (hi:i<l.length),Ao W b (off+i*2) [str l[i].1,str l[i].2]
def M2 (W:World) (p:Option Addr) (l:List (List UInt8×List UInt8×List UInt8)):Prop:=l=[]∨ ∃b off,p=some ⟨b,off,none⟩∧ ∀i (hi:i<l.length),Ao W b (off+i*3) [str l[i].1,str l[i].2.1,str l[i].2.2]
structure BwM (W:World) (w:BmW) (p q:Option Addr):Prop where
 f:Mq W p w.fs
 s:M2 W q w.ss
 v:Br W
 t:AB W
theorem Mq.hp {W0 W:World} {bxs:List Bx} {p:Option Addr} {l:List (List UInt8×List UInt8)} (h:Mq W0 p l) (hp:Hp W0 bxs W):Mq W p l:=by
 rcases h with h|⟨b,off,h1,h2⟩
 ·exact .inl h
 ·exact .inr ⟨b,off,h1,fun i hi=>(h2 i hi).hp hp⟩
theorem M2.hp {W0 W:World} {bxs:List Bx} {p:Option Addr} {l:List (List UInt8×List UInt8×List UInt8)} (h:M2 W0 p l) (hp:Hp W0 bxs W):M2 W p l:=by
 rcases h with h|⟨b,off,h1,h2⟩
 ·exact .inl h
 ·exact .inr ⟨b,off,h1,fun i hi=>(h2 i hi).hp hp⟩
theorem BwM.hp {W0 W:World} {bxs:List Bx} {w:BmW} {p q:Option Addr} (h:BwM W0 w p q) (hp:Hp W0 bxs W):BwM W w p q:=⟨h.f.hp hp,h.s.hp hp,h.v.hp hp,h.t.hp hp⟩
theorem BwM.m {W:World} {b:BmP} {p q:Option Addr} (h:BwM W b.w p q):BmM W b p q:=by
 refine⟨?_, ?_,h.v,h.t⟩
 ·rcases h.f with e|⟨g,off,e,hr⟩
  ·exact .inl (List.map_eq_nil_iff.1 e)
  ·refine .inr ⟨g,off,e,fun i hi=> ?_⟩
   have:=hr i (by show i<(b.fs.map _).length;rw[List.length_map];exact hi)
   have e2:b.w.fs[i]'(by show i<(b.fs.map _).length;rw[List.length_map];exact hi)=(Ac b.fs[i].1,Ac b.fs[i].2):=by show(b.fs.map _)[i]'_=_;rw[List.getElem_map]
   rwa [e2] at this
 ·rcases h.s with e|⟨g,off,e,hr⟩
  ·exact .inl (List.map_eq_nil_iff.1 e)
  ·refine .inr ⟨g,off,e,fun i hi=> ?_⟩
   have:=hr i (by show i<(b.ss.map _).length;rw[List.length_map];exact hi)
   have e2:b.w.ss[i]'(by show i<(b.ss.map _).length;rw[List.length_map];exact hi)=(Ac b.ss[i].1,Ac b.ss[i].2.1,Ac b.ss[i].2.2):=by show(b.ss.map _)[i]'_=_;rw[List.getElem_map]
   rwa [e2] at this
theorem Mq.at_ {W:World} {p:Option Addr} {l:List (List UInt8×List UInt8)} (h:Mq W p l) {i:Nat} (hi:i<l.length): ∃g off,p=some ⟨g,off,none⟩∧ ∀k (hk:k<l.length),Ao W g (off+k*2) [str l[k].1,str l[k].2]:=by
 rcases h with h|⟨g,off,e,h⟩
 ·rw[h] at hi;exact absurd hi (Nat.not_lt_zero _)
 ·exact⟨g,off,e,h⟩
theorem M2.at_ {W:World} {p:Option Addr} {l:List (List UInt8×List UInt8×List UInt8)} (h:M2 W p l) {i:Nat} (hi:i<l.length): ∃g off,p=some ⟨g,off,none⟩∧ ∀k (hk:k<l.length),Ao W g (off+k*3) [str l[k].1,str l[k].2.1,str l[k].2.2]:=by
 rcases h with h|⟨g,off,e,h⟩
 ·rw[h] at hi;exact absurd hi (Nat.not_lt_zero _)
 ·exact⟨g,off,e,h⟩
structure BmW.Short (w:BmW):Prop where
 len:w.len.length≤24
 l:w.l.length≤24
 r:w.r.length≤24
 f: ∀f∈w.fs,f.1.length≤24∧f.2.length≤24
 s: ∀s∈w.ss,s.1.length≤24∧s.2.1.length≤24∧s.2.2.length≤24
 nf:w.fs.length≤70
 ns:w.ss.length≤70
theorem NI {len:List UInt8} {l:List (List UInt8×List UInt8)} {i:Nat} (hi:i<l.length):fsE len (l.drop i)=if Bp [l[i].1,l[i].2]≠0 then Bp [l[i].1,l[i].2] else if Cl len l[i].1=true then 2 else fsE len (l.drop (i+1)):=by
 rw[List.drop_eq_getElem_cons hi,fsE]
theorem N8 {len:List UInt8} {l:List (List UInt8×List UInt8×List UInt8)} {i:Nat} (hi:i<l.length):ssE len (l.drop i)=if Bp [l[i].1,l[i].2.1,l[i].2.2]≠0 then Bp [l[i].1,l[i].2.1,l[i].2.2] else if (Cl len l[i].1||Cl len l[i].2.1)=true then 2 else if GR l[i].2.1≤GR l[i].1 then 10 else ssE len (l.drop (i+1)):=by
 rw[List.drop_eq_getElem_cons hi,ssE]
theorem Kr {l:List (List UInt8)} {i:Nat} (hi:i<l.length):Bp (l.drop i)=if bnE l[i]≠0 then bnE l[i] else Bp (l.drop (i+1)):=by
 rw[List.drop_eq_getElem_cons hi,Bp]
-- BOXES 3
theorem Gk {N:Nat} {D:List Deferred} {Q:Exit→Act→World→Prop} {ex:Exit} {env:Env} {W0:World} {bxs bxs':List Bx} (e:bxs=bxs') (h:NE N D Q ex env (Hp W0 bxs')):NE N D Q ex env (Hp W0 bxs):=e▸h
theorem BmM.keep {W0 W W':World} {bxs:List Bx} {b:BmP} {p q:Option Addr} {c:Nat} (h:BmM W0 b p q) (hp:Hp W0 bxs W) (hk:E8 W W' c) (hc:W0.heap.size≤c):BmM W' b p q:=h.below (hk.below hp.below hc)
abbrev bmB (g:Nat) (b:BmP) (p:Option Addr) (m:Nat) (q:Option Addr) (n:Nat):Bx:=⟨g,26,(bmV b p m q n).cells.toList,true,none⟩
theorem Iy (b:BmP) (p q:Option Addr) (m n:Nat) (W:World) (hM:BmM W b p q) (hz:RcZ b):
  Ad Tryz.prog 48 #[bmV b p m q n] W (fun _:Unit=>str (Ac b.total)) (fun _=>True) (fun _=>[]):=by
 refine Ab (args:=[bmV b p m q n]) Tryz.func48 I I I ?_
 refine zA (zB ?_)
 (refine Az rfl rfl rfl rfl ?_;intro)
 refine wP I (Aa ?_)
 rename_i b1
 refine zE (zA (zB ?_))
 (refine Ae Tryz.hZ rfl rfl rfl rfl ?_;intro)
 refine wS 1 I I I (Aa ?_)
 rename_i b3
 refine Gk (bxs':=[bmB b1 b p m q n,BC b3 0]) (by show _=[bmB b1 b p m q n,(⟨b3,22,[str (Ac 0)],true,none⟩:Bx)];rw[B0];rfl) ?_
 refine zE (zA (zB (wB 0 I I I (wP I (wB 0 I I I (wP I ?_))))))
 refine AT (X:=Unit) (val:=fun _=> .tuple #[]) (Φ:=fun _=>True) (capt:=[]) 1 (B:=BC b3 0) (L1:=[]) (L2:=[]) (b:=b3) (ob:=CW 0) (fun _=>BC b3 b.total) (g':=fun _=>b3) (o':=fun _=>CW b.total)
  rfl rfl rfl rfl rfl rfl (by kernel_rfl) rfl rfl (fun _ _=>rfl) (fun W1 hp=> ?_) (fun _ _=> ?_)
 ·have hcell:=hp.own.cell 1 _ rfl (b3,CW 0) (List.mem_cons_self ..)
  have h1:=Fk (Od b3) b b.len p q m n 0 W1 hcell.1 (fun W2 hk=>⟨⟨(hM.keep hp hk hcell.2).v,(hM.keep hp hk hcell.2).t⟩,hM.keep hp hk hcell.2⟩) hz.z hz.lf hz.ls hz.w
  rw[←G3] at h1
  exact h1
 exact Aa (zE (zA (zB (wB 1 I I I (wP I (Aa (zE (zO (wR1 I I I)))))))))
theorem F6 (b:BmP) (p q:Option Addr) (m n:Nat) (W:World) (hM:BmM W b p q) (hz:RcZ b):
  Ad Tryz.prog 35 #[bmV b p m q n] W (fun _:Unit=> .tuple #[str (Ac b.left),str (Ac b.right)]) (fun _=>True) (fun _=>[]):=by
 refine Ab (args:=[bmV b p m q n]) Tryz.func35 I I I ?_
 refine zA (zB ?_)
 (refine Az rfl rfl rfl rfl ?_;intro)
 refine wP I (wP I (Aa ?_))
 rename_i b1
 refine zE (zA (zB ?_))
 (refine Ae Tryz.hZ rfl rfl rfl rfl ?_;intro)
 refine wS 1 I I I (Aa ?_)
 rename_i b4
 refine Gk (bxs':=[bmB b1 b p m q n,BC b4 0]) (by show _=[bmB b1 b p m q n,(⟨b4,22,[str (Ac 0)],true,none⟩:Bx)];rw[B0];rfl) ?_
 refine zE (zA (zB (wB 0 I I I (wP I (wB 0 I I I (wP I ?_))))))
 refine AT (X:=Unit) (val:=fun _=> .tuple #[]) (Φ:=fun _=>True) (capt:=[]) 1 (B:=BC b4 0) (L1:=[]) (L2:=[]) (b:=b4) (ob:=CW 0) (fun _=>BC b4 b.turn) (g':=fun _=>b4) (o':=fun _=>CW b.turn)
  rfl rfl rfl rfl rfl rfl (by kernel_rfl) rfl rfl (fun _ _=>rfl) (fun W1 hp=> ?_) (fun _ _=> ?_)
 ·have hcell:=hp.own.cell 1 _ rfl (b4,CW 0) (List.mem_cons_self ..)
  have hne:b1≠b4:=hp.own.apart 0 1 _ _ rfl rfl (by decide) (b1, .cells (bmV b p m q n).cells.toList.toArray 26 (0,0)) (List.mem_cons_self ..) (b4,CW 0) (List.mem_cons_self ..)
  have hrow:Ao W1 b1 0 [str (Ac b.len),str (Ac b.l),str (Ac b.r), .slice p b.fs.length m, .slice q b.ss.length n]:=Ao.of_bx hp 0 rfl rfl
  have h1:=Fk (Qa b4 b1 b.len b.l [str (Ac b.r), .slice p b.fs.length m, .slice q b.ss.length n]) b b.len p q m n 0 W1 hcell.1 (fun W2 hk=>⟨⟨Ao.keep hrow hne hk,(hM.keep hp hk hcell.2).v,(hM.keep hp hk hcell.2).t⟩,hM.keep hp hk hcell.2⟩) hz.z hz.lf hz.ls hz.t
  rw[←HJ] at h1
  exact h1
 refine Aa (zE (zA (zU (qB 1 I I I (qP I (qB 0 I I I (qP I (qB 0 I I I (qC I I (fun W1 hp=>Ci b.r b.l hz.d1 W1 (hM.v.hp hp) (hM.t.hp hp)) (qC I I (fun W1 hp=>GW b.turn (b.r-b.l) hz.d2 hz.nz W1 (hM.v.hp hp) (hM.t.hp hp)) (qP I (AM (Aa ?_)))))))))))))
 exact zE (zA (zB (wB 0 I I I (wC I I (fun W1 hp=>Iy b p q m n W1 (hM.hp hp) hz) (wP I (wC I I (fun W1 hp=>Ci b.total b.right hz.s W1 (hM.v.hp hp) (hM.t.hp hp)) (wP I (wP I (wP I (Aa (zE (zO (wR2 I I I)))))))))))))
abbrev Sh (g:Nat) (b:BmP):Bx:=⟨g,116,[str (Ac b.l),str (Ac b.left),str (Ac b.r),str (Ac b.right)],true,none⟩
theorem Gb (b:BmP) (p q:Option Addr) (m n:Nat) (W:World) (hM:BmM W b p q) (hz:RcZ b):
  Ad Tryz.prog 106 #[bmV b p m q n] W (fun g:Nat=> .slice (some ⟨g,0,none⟩) 2 2) (fun _=>True) (fun g=>[Sh g b]):=by
 refine Ab (args:=[bmV b p m q n]) Tryz.func106 I I I ?_
 refine zA (zB ?_)
 (refine Az rfl rfl rfl rfl ?_;intro)
 refine wP I (Aa (zE (zA (zB (wB 0 I I I (wC I I (fun W1 hp=>F6 b p q m n W1 (hM.hp hp) hz) ?_))))))
 iterate 5 refine wP I ?_
 refine Aa (zE (zA (zB (wP I (wB 0 I I I (wP I ?_))))))
 refine Au Tryz.hZ tH I I I I I I I I ?_
 refine wP I (wB 0 I I I (wP I ?_))
 refine Au Tryz.hZ tH I I I I I I I I ?_
 refine Ap Tryz.hZ tH I I I I I I I I I I I fun bS=> ?_
 exact wP I (Aa (zE (zO (AE tH I (.tmp I) bS I O fun W1 hp=>A0.of_hp (hp.pick (l:=[Sh bS b]) [1] (by decide) I)))))
-- BOXES 5
theorem Iw (b:BmP) (x:Rat) (p q:Option Addr) (m n:Nat) (W:World) (hM:BmM W b p q) (hz:ShZ b x):
  Ad Tryz.prog 43 #[bmV b p m q n,str (Ac x)] W (fun _:Unit=>str (Ac (b.shear x))) (fun _=>True) (fun _=>[]):=by
 refine Ab (args:=[bmV b p m q n,str (Ac x)]) Tryz.func43 I I I ?_
 refine zA (zB ?_)
 (refine Az rfl rfl rfl rfl ?_;intro)
 refine wP I (Aa ?_)
 rename_i b2
 refine zE (zA (zB ?_))
 (refine Ae Tryz.hZ rfl rfl rfl rfl ?_;intro)
 refine wS 1 I I I (Aa ?_)
 rename_i b5
 refine Gk (bxs':=[bmB b2 b p m q n,BC b5 0]) (by show _=[bmB b2 b p m q n,(⟨b5,22,[str (Ac 0)],true,none⟩:Bx)];rw[B0];rfl) ?_
 refine zE (zA (zA (zB (wB 0 I I I ?_))))
 refine wD (X:=Nat) I I (fun W1 hp=>Gb b p q m n W1 (hM.hp hp) hz.rc) ?_
 intro bS _
 refine wP I (wP I (Aa (zE (zH ?_))))
 refine Aw (X:=Nat) (fun i=>[(1,str (Ac x)),(2,Al b2),(5,Al b5),(9, .slice (some ⟨bS,0,none⟩) 2 2),(10, .int .i64 2),(11, .int .i64 (i:Nat))]) (fun i=>[bmB b2 b p m q n,BC b5 (b.supS x i),Sh bS b])
  (fun i=>i≤2) (fun i=>2-i) 0 (Nat.zero_le _) ⟨rfl,rfl,rfl,rfl,rfl,rfl,trivial⟩ [] rfl ?_
 intro i hi
 have hi:i=0∨i=1∨i=2:=by have:i≤2:=hi;omega
 rcases hi with rfl|rfl|rfl
 ·refine zA (zB (wP I (Aa (zE (zA (zR I (zI (zE (zA (zH (zA (zB ?_))))))))))))
  refine wJ ?_
  refine wL 0 I I (fun W hp=>Ao.of_bx hp 2 I I) I ?_
  (refine Ae Tryz.hZ rfl rfl rfl rfl ?_;intro)
  refine wS 3 I I I (Aa (zE (zA (zB (wP I (wB 3 I I I (wP I (wC I I (fun W1 hp=>A7 b.l x hz.c1 W1 (hM.v.hp hp) (hM.t.hp hp)) (wP I (wU 19 (decide (b.l≤x)) I (D2 b.l x) (Aa (zE ?_))))))))))))
  refine Ai I (fun h=> ?_) (fun h=> ?_)
  ·have hle:b.l≤x:=of_decide_eq_true h
   exact zB (wB 1 I I I (wP I (wB 3 I I I (wC I I (fun W1 hp=>Cg 0 b.left hz.a1 W1 (hM.v.hp hp) (hM.t.hp hp)) (wS 1 I I I (Aa (zN (zE (zB (wP I (wP I (Aa (Ak 1 (by decide) (by decide) ⟨I,I,I,I,I,I,O⟩ [_] (by rw[show b.supS x 1=0+b.left by rw[Rat.zero_add];exact if_pos hle];rfl))))))))))))))
  ·have hle: ¬b.l≤x:=of_decide_eq_false h
   exact zI (zN (zE (zB (wP I (wP I (Aa (Ak 1 (by decide) (by decide) ⟨I,I,I,I,I,I,O⟩ [_] (by rw[show b.supS x 1=0 from if_neg hle];rfl))))))))
 ·refine zA (zB (wP I (Aa (zE (zA (zR I (zI (zE (zA (zH (zA (zB ?_))))))))))))
  refine wJ ?_
  refine wL 2 I I (fun W hp=>Ao.of_bx hp 2 I I) I ?_
  (refine Ae Tryz.hZ rfl rfl rfl rfl ?_;intro)
  refine wS 3 I I I (Aa (zE (zA (zB (wP I (wB 3 I I I (wP I (wC I I (fun W1 hp=>A7 b.r x hz.c2 W1 (hM.v.hp hp) (hM.t.hp hp)) (wP I (wU 19 (decide (b.r≤x)) I (D2 b.r x) (Aa (zE ?_))))))))))))
  refine Ai I (fun h=> ?_) (fun h=> ?_)
  ·have hle:b.r≤x:=of_decide_eq_true h
   exact zB (wB 1 I I I (wP I (wB 3 I I I (wC I I (fun W1 hp=>Cg (b.supS x 1) b.right hz.a2 W1 (hM.v.hp hp) (hM.t.hp hp)) (wS 1 I I I (Aa (zN (zE (zB (wP I (wP I (Aa (Ak 2 (by decide) (by decide) ⟨I,I,I,I,I,I,O⟩ [_] (by rw[show b.supS x 2=b.supS x 1+b.right by show(if b.l≤x then b.left else 0)+(if b.r≤x then b.right else 0)=_;rw[if_pos hle];rfl];rfl))))))))))))))
  ·have hle: ¬b.r≤x:=of_decide_eq_false h
   exact zI (zN (zE (zB (wP I (wP I (Aa (Ak 2 (by decide) (by decide) ⟨I,I,I,I,I,I,O⟩ [_] (by rw[show b.supS x 2=b.supS x 1 by show(if b.l≤x then b.left else 0)+(if b.r≤x then b.right else 0)=_;rw[if_neg hle,Rat.add_zero];rfl];rfl))))))))
 refine zA (zB (wP I (Aa (zE (zA (zS I (zJ (zK (zK (zL (zE (zA (zB ?_)))))))))))))
 refine wB 0 I I I (wP I (wP I ?_))
 refine AT (X:=Unit) (val:=fun _=> .tuple #[]) (Φ:=fun _=>True) (capt:=[]) 1 (B:=BC b5 (b.sup x)) (L1:=[]) (L2:=[]) (b:=b5) (ob:=CW (b.sup x)) (fun _=>BC b5 (b.shear x)) (g':=fun _=>b5) (o':=fun _=>CW (b.shear x))
  rfl rfl rfl rfl rfl rfl (by kernel_rfl) rfl rfl (fun _ _=>rfl) (fun W1 hp=> ?_) (fun _ _=> ?_)
 ·have hcell:=hp.own.cell 1 _ rfl (b5,CW (b.sup x)) (List.mem_cons_self ..)
  have h1:=Fk (NY b5) b x p q m n (b.sup x) W1 hcell.1 (fun W2 hk=>⟨⟨(hM.keep hp hk hcell.2).v,(hM.keep hp hk hcell.2).t⟩,hM.keep hp hk hcell.2⟩) hz.z hz.rc.lf hz.rc.ls hz.t
  rw[show AC tS (b.sup x) (b.pts x)=b.shear x from(G2 b x).symm] at h1
  exact h1
 exact Aa (zE (zA (zB (wB 1 I I I (wP I (Aa (zE (zO (wR1 I I I)))))))))
theorem Fv (b:BmP) (x:Rat) (p q:Option Addr) (m n:Nat) (W:World) (hM:BmM W b p q) (hz:MoZ b x):
  Ad Tryz.prog 47 #[bmV b p m q n,str (Ac x)] W (fun _:Unit=>str (Ac (b.moment x))) (fun _=>True) (fun _=>[]):=by
 refine Ab (args:=[bmV b p m q n,str (Ac x)]) Tryz.func47 I I I ?_
 refine zA (zB ?_)
 (refine Az rfl rfl rfl rfl ?_;intro)
 (refine Az rfl rfl rfl rfl ?_;intro)
 refine wP I (Aa ?_)
 rename_i b2 b3
 refine zE (zA (zB ?_))
 (refine Ae Tryz.hZ rfl rfl rfl rfl ?_;intro)
 refine wS 2 I I I (Aa ?_)
 rename_i b5
 refine Gk (bxs':=[bmB b2 b p m q n,⟨b3,22,[str (Ac x)],true,none⟩,BC b5 0]) (by show _=[bmB b2 b p m q n,(⟨b3,22,[str (Ac x)],true,none⟩:Bx),(⟨b5,22,[str (Ac 0)],true,none⟩:Bx)];rw[B0];rfl) ?_
 refine zE (zA (zA (zB (wB 0 I I I ?_))))
 refine wD (X:=Nat) I I (fun W1 hp=>Gb b p q m n W1 (hM.hp hp) hz.rc) ?_
 intro bS _
 refine wP I (wP I (Aa (zE (zH ?_))))
 refine Aw (X:=Nat) (fun i=>[(2,Al b2),(3,Al b3),(5,Al b5),(9, .slice (some ⟨bS,0,none⟩) 2 2),(10, .int .i64 2),(11, .int .i64 (i:Nat))]) (fun i=>[bmB b2 b p m q n,⟨b3,22,[str (Ac x)],true,none⟩,BC b5 (b.supT x i),Sh bS b])
  (fun i=>i≤2) (fun i=>2-i) 0 (Nat.zero_le _) ⟨rfl,rfl,rfl,rfl,rfl,rfl,trivial⟩ [] rfl ?_
 intro i hi
 have hi:i=0∨i=1∨i=2:=by have:i≤2:=hi;omega
 rcases hi with rfl|rfl|rfl
 ·refine zA (zB (wP I (Aa (zE (zA (zR I (zI (zE (zA (zH (zA (zB ?_))))))))))))
  refine wJ ?_
  refine wL 0 I I (fun W hp=>Ao.of_bx hp 3 I I) I ?_
  (refine Ae Tryz.hZ rfl rfl rfl rfl ?_;intro)
  refine wS 4 I I I (Aa (zE (zA (zB (wP I (wB 4 I I I (wB 1 I I I (wC I I (fun W1 hp=>A7 b.l x hz.c1 W1 (hM.v.hp hp) (hM.t.hp hp)) (wP I (wU 19 (decide (b.l<x)) I (C3 b.l x) (Aa (zE ?_))))))))))))
  refine Ai I (fun h=> ?_) (fun h=> ?_)
  ·have hle:b.l<x:=of_decide_eq_true h
   refine zU (qB 2 I I I (qP I (qB 4 I I I (qB 1 I I I (qP I (qB 4 I I I (qC I I (fun W1 hp=>Ci x b.l hz.s1 W1 (hM.v.hp hp) (hM.t.hp hp)) (qC I I (fun W1 hp=>Eg b.left (x-b.l) hz.m1 W1 (hM.v.hp hp) (hM.t.hp hp)) (qC I I (fun W1 hp=>Cg 0 (b.left*(x-b.l)) hz.a1 W1 (hM.v.hp hp) (hM.t.hp hp)) (AM (wS 2 I I I (Aa (zN ?_)))))))))))))
   exact zE (zB (wP I (wP I (Aa (Ak 1 (by decide) (by decide) ⟨I,I,I,I,I,I,O⟩ [_] (by rw[show b.supT x 1=0+b.left*(x-b.l) by rw[Rat.zero_add];exact if_pos hle];rfl))))))
  ·have hle: ¬b.l<x:=of_decide_eq_false h
   exact zI (zN (zE (zB (wP I (wP I (Aa (Ak 1 (by decide) (by decide) ⟨I,I,I,I,I,I,O⟩ [_] (by rw[show b.supT x 1=0 from if_neg hle];rfl))))))))
 ·refine zA (zB (wP I (Aa (zE (zA (zR I (zI (zE (zA (zH (zA (zB ?_))))))))))))
  refine wJ ?_
  refine wL 2 I I (fun W hp=>Ao.of_bx hp 3 I I) I ?_
  (refine Ae Tryz.hZ rfl rfl rfl rfl ?_;intro)
  refine wS 4 I I I (Aa (zE (zA (zB (wP I (wB 4 I I I (wB 1 I I I (wC I I (fun W1 hp=>A7 b.r x hz.c2 W1 (hM.v.hp hp) (hM.t.hp hp)) (wP I (wU 19 (decide (b.r<x)) I (C3 b.r x) (Aa (zE ?_))))))))))))
  refine Ai I (fun h=> ?_) (fun h=> ?_)
  ·have hle:b.r<x:=of_decide_eq_true h
   refine zU (qB 2 I I I (qP I (qB 4 I I I (qB 1 I I I (qP I (qB 4 I I I (qC I I (fun W1 hp=>Ci x b.r hz.s2 W1 (hM.v.hp hp) (hM.t.hp hp)) (qC I I (fun W1 hp=>Eg b.right (x-b.r) hz.m2 W1 (hM.v.hp hp) (hM.t.hp hp)) (qC I I (fun W1 hp=>Cg (b.supT x 1) (b.right*(x-b.r)) hz.a2 W1 (hM.v.hp hp) (hM.t.hp hp)) (AM (wS 2 I I I (Aa (zN ?_)))))))))))))
   exact zE (zB (wP I (wP I (Aa (Ak 2 (by decide) (by decide) ⟨I,I,I,I,I,I,O⟩ [_] (by rw[show b.supT x 2=b.supT x 1+b.right*(x-b.r) by show(if b.l<x then b.left*(x-b.l) else 0)+(if b.r<x then b.right*(x-b.r) else 0)=_;rw[if_pos hle];rfl];rfl))))))
  ·have hle: ¬b.r<x:=of_decide_eq_false h
   exact zI (zN (zE (zB (wP I (wP I (Aa (Ak 2 (by decide) (by decide) ⟨I,I,I,I,I,I,O⟩ [_] (by rw[show b.supT x 2=b.supT x 1 by show(if b.l<x then b.left*(x-b.l) else 0)+(if b.r<x then b.right*(x-b.r) else 0)=_;rw[if_neg hle,Rat.add_zero];rfl];rfl))))))))
 refine zA (zB (wP I (Aa (zE (zA (zS I (zJ (zK (zK (zL (zE (zA (zB ?_)))))))))))))
 refine wB 0 I I I (wB 1 I I I (wP I ?_))
 refine AT (X:=Unit) (val:=fun _=> .tuple #[]) (Φ:=fun _=>True) (capt:=[]) 2 (B:=BC b5 (b.supM x)) (L1:=[]) (L2:=[]) (b:=b5) (ob:=CW (b.supM x)) (fun _=>BC b5 (b.moment x)) (g':=fun _=>b5) (o':=fun _=>CW (b.moment x))
  rfl rfl rfl rfl rfl rfl (by kernel_rfl) rfl rfl (fun _ _=>rfl) (fun W1 hp=> ?_) (fun _ _=> ?_)
 ·have hcell:=hp.own.cell 2 _ rfl (b5,CW (b.supM x)) (List.mem_cons_self ..)
  have hne:b3≠b5:=hp.own.apart 1 2 _ _ rfl rfl (by decide) (b3, .cells [str (Ac x)].toArray 22 (0,0)) (List.mem_cons_self ..) (b5,CW (b.supM x)) (List.mem_cons_self ..)
  have hrow:Ao W1 b3 0 [str (Ac x)]:=Ao.of_bx hp 1 rfl rfl
  have h1:=Fk (Nj b5 b3 x) b x p q m n (b.supM x) W1 hcell.1 (fun W2 hk=>⟨⟨Ao.keep hrow hne hk,(hM.keep hp hk hcell.2).v,(hM.keep hp hk hcell.2).t⟩,hM.keep hp hk hcell.2⟩) hz.z hz.rc.lf hz.rc.ls hz.t
  rw[show AC (tM x) (b.supM x) (b.pts x)=b.moment x from(GP b x).symm] at h1
  exact h1
 exact Aa (zE (zA (zB (wB 2 I I I (wP I (Aa (zE (zO (wR1 I I I)))))))))
-- BOXES 4
theorem B5 (z:Int):AZ Tryz.prog 105 [str (itoa z)] (.int .i64 ((decDigits z.natAbs).length:Nat)):=by
 intro W
 refine Ab Tryz.func105 I I I ?_
 refine zA (zB (wP I (Aa (zE (zA (zB (wP I (wC I I (fun W _=>(Cu (itoa z) [45] W).cast (by rw[Bd])) (wP I ?_)))))))))
 refine Ag 5 (.int .i64 ((decDigits z.natAbs).length:Nat)) I (congrArg (fun n:Nat=>Value.int .i64 (n:Int)) (As _)) ?_
 exact wP I (Aa (zE (zO (wR1 I I I))))
section
variable {r:Option Nat} {n:Nat} {P:Program} {N:Nat} {D:List Deferred} {ops:List Oper} {Q:Exit→Act→World→Prop} {o:Oper} {rest:List Oper} {env:Env} {A:World→Prop}
theorem KY {d:Nat} {t u:TypeId} {x y:Operand} {a b:List UInt8} (hg:Ay ops N env o=some true) (hd:o.dst=some d) (ho:o.op= .binOp .gtr t x y u) (hx:evO N env x=some (str a)) (hy:evO N env y=some (str b))
  (h:WL r n P N D ops Q rest ((d, .bool (!(Op.bytesLess a b||decide (a=b))))::env) A):WL r n P N D ops Q (o::rest) env A:=
 CE hg hd (fun c e=>by rw[ho] at e;cases e) (fun ρ W hρ _=>by
  have e:=AQ a b
  rw[Df,Df] at e
  simp[execOp,ho,hρ _ _ hx,hρ _ _ hy,eqGuard,binOp,Op.stringOp,ByteArray.toList_mk, ←e]) h
end
theorem Pi {n:Nat} (h:n≤12):(decDigits n).length=if n<10 then 1 else 2:=by
 by_cases h1:n<10
 ·rw[if_pos h1,dd1 n h1];rfl
 ·rw[if_neg h1,dd2 n h1 (by omega)];rfl
theorem KU (q:Rat) (h:BnQ q) (W:World) (hv:Br W) (ht:AB W):
  Ad Tryz.prog 112 #[str (Ac q)] W (fun _:Unit=> .int .i64 0) (fun _=>True) (fun _=>[]):=by
 have hk:=h.sz.ok (by decide)
 have hl:=B2 hk
 have l1:=BE 12 q.num.natAbs (by decide) h.n
 have l2:=Pi h.d
 have hd:=h.d
 refine Ab (args:=[str (Ac q)]) Tryz.func112 I I I ?_
 refine zA (zB (wP I (Aa (zE (zA (zA (zB (wP I (wC I I (fun W hp=>(DA (Ac q) (by omega) W (hv.hp hp) (ht.hp hp)).cast (by rw[OW hk])) (wP I (Aa (zE (zA ?_)))))))))))))
 refine zB (wP I (wP I (Aa (zE (zS I (zI (zE (zA (zB (wP I (wC I I (fun W hp=>DH q hk W (hv.hp hp) (ht.hp hp)) ?_)))))))))))
 iterate 7 refine wP I ?_
 refine Aa (A4 ?_)
 try refine Ax ?_
 refine A3 (X:=Unit) (fun _=>[(2, .int .i64 0),(34, .bool false)]) (fun _=>[]) (fun _=>True) ?_ ?_
 ·refine zA (zB (wP I (wC I I (fun W _=>B5 q.num W) (wP I (wU 20 false I (dF (by omega)) (wP I (wP I (wC I I (fun W _=>B5 (q.den:Nat) W) (wP I ?_)))))))))
  refine Ag 24 (.bool false) I (congrArg Value.bool (dF (by
   rw[Int.natAbs_natCast,l2]
   split<;>omega))) ?_
  refine wP I (wP I (wP I (wP I ?_)))
  refine Ag 28 (.int .i64 ((decDigits q.den).length:Nat)) I (congrArg (fun n:Nat=>Value.int .i64 (n:Int)) ((As _).trans (by rw[Ch]))) ?_
  refine wP I ?_
  by_cases h1:q.den<10
  ·refine wU 29 false I (dF (by rw[l2,if_pos h1];decide)) (wP I ?_)
   iterate 2 refine Af I I ?_
   exact wP I (wP I (Aa (zE (zS I (zI (Ah () O ⟨I,I,O⟩ [] I))))))
  ·refine wU 29 true I (dT (by rw[l2,if_neg h1];rfl)) (wP I (wP I ?_))
   have e:itoa ((q.den:Nat):Int)=[49,UInt8.ofNat (48+q.den%10)]:=by
    rw[Ch,dd2 q.den h1 (by omega),show q.den/10=1 by omega];rfl
   refine Ag 31 (str [49,UInt8.ofNat (48+q.den%10)]) I (by rw[e]) ?_
   refine KY I I I I I ?_
   refine Ag 32 (.bool false) I (by
    rcases(show q.den%10=0∨q.den%10=1∨q.den%10=2 by omega) with e|e|e<;>rw[e]<;>rfl) ?_
   exact wP I (wP I (Aa (zE (zS I (zI (Ah () O ⟨I,I,O⟩ [] I))))))
 ·intro _ _
  exact zA (zB (wP I (Aa (zE (zO (wR1 I I I))))))
theorem DY (l:List Rat) (p:Option Addr) (cap:Nat) (hn:l.length≤4096) (hk: ∀q∈l,BnQ q) (W:World) (hS:HF W p (l.map Ac)) (hv:Br W) (ht:AB W):
  Ad Tryz.prog 50 #[slv p l.length cap] W (fun _:Unit=> .int .i64 0) (fun _=>True) (fun _=>[]):=by
 refine Ab (args:=[slv p l.length cap]) Tryz.func50 I I I ?_
 refine zA (zB (wP I (Aa (zE (zA (zA (zB (wP I (wP I (wP I (Aa (zE (zH ?_)))))))))))))
 refine Aw (X:=Nat) (fun i=>[(2, .int .i64 0),(6,slv p l.length cap),(7, .int .i64 (l.length:Nat)),(8, .int .i64 (i:Nat))]) (fun _=>[]) (fun i=>i≤l.length) (fun i=>l.length-i) 0 (Nat.zero_le _) ⟨I,I,I,I,O⟩ [] I ?_
 intro i hi
 have hi:i≤l.length:=hi
 refine zA (zB (wP I ?_))
 by_cases hlt:i<l.length
 ·refine wU 9 true I (dT (by omega)) (Aa (zE (zA (zR I (zI (zE (zA (zH (zA (zB ?_))))))))))
  obtain⟨g,off,rfl,hrow⟩:=hS.row (i:=i) (by rw[List.length_map];exact hlt)
  have hrow1:Ao W g (off+i*1) [str (Ac l[i])]:=by have:=hrow i (by rw[List.length_map];exact hlt);rwa [List.getElem_map] at this
  refine wJ ?_
  refine wL 0 I I (fun W hp=>hrow1.hp hp) I (wP I (Aa (zE (zA (zB (wP I (wC I I (fun W hp=>KU l[i] (hk l[i] (List.getElem_mem hlt)) W (hv.hp hp) (ht.hp hp)) (wP I (Aa (zE (zA (zB (wP I (wP I ?_))))))))))))))
  exact Aa (zE (zS I (zI (zN (zE (zB (wP I (wV 17 ((i+1:Nat):Int) I (An (by omega)) (wP I (Aa (Ak (i+1) hlt (by show l.length-(i+1)<l.length-i;omega) ⟨I,I,I,I,O⟩ [] I)))))))))))
 ·refine wU 9 false I (dF (by omega)) (Aa (zE (zA (zS I (zJ (zK (zK (zL (zE (zA (zB (wP I (Aa ?_)))))))))))))
  exact zE (zO (wR1 I I I))
theorem C8 (p:Rat) (h:Sz2 p 0) (W:World) (hv:Br W) (ht:AB W):Ad Tryz.prog 52 #[str (Ac p),str [48]] W (fun _:Unit=> .int .i64 (G6 p 0)) (fun _=>True) (fun _=>[]):=by
 have:=A7 p 0 h W hv ht
 rwa [B0] at this
theorem BW (b:BmP) (p q:Option Addr) (m n:Nat) (x:Rat) (h0:0≤x) (h1:x≤b.len) (z0:Sz2 x 0) (z1:Sz2 x b.len) (W:World) (hv:Br W) (ht:AB W):
  Ad Tryz.prog 51 #[bmV b p m q n,str (Ac x)] W (fun _:Unit=> .bool false) (fun _=>True) (fun _=>[]):=by
 refine Ab (args:=[bmV b p m q n,str (Ac x)]) Tryz.func51 I I I ?_
 refine zA (zB ?_)
 (refine Az rfl rfl rfl rfl ?_;intro)
 refine wP I (Aa (zE (zA (zB (wP I (wC I I (fun W hp=>C8 x z0 W (hv.hp hp) (ht.hp hp)) (wP I (wU 7 false I ((C3 x 0).trans (dF (Rat.not_lt.2 h0))) (wP I (wP I (wP I (wB 0 I I I (wC I I (fun W hp=>A7 x b.len z1 W (hv.hp hp) (ht.hp hp)) ?_)))))))))))))
 exact wP I (wU 13 false I ((EP x b.len).trans (dF (Rat.not_lt.2 h1))) (wP I (wP I (Aa (zE (zO (wR1 I I I)))))))
theorem Tg {W:World} {b:Nat} (x y z:Rat) (h:Ao W b 0 [str (Ac x),str (Ac y),str (Ac z)]):HF W (some ⟨b,0,none⟩) ([x,y,z].map Ac):= .inr ⟨b,0,rfl,h⟩
theorem TS {W:World} {b:Nat} (x y:Rat) (h:Ao W b 0 [str (Ac x),str (Ac y)]):HF W (some ⟨b,0,none⟩) ([x,y].map Ac):= .inr ⟨b,0,rfl,h⟩
theorem bn3 {x y z:Rat} (hx:BnQ x) (hy:BnQ y) (hz:BnQ z): ∀q∈[x,y,z],BnQ q:=fun q hq=>by
 rcases List.mem_cons.1 hq with rfl|hq
 ·exact hx
 ·rcases List.mem_cons.1 hq with rfl|hq
  ·exact hy
  ·obtain rfl:=List.mem_singleton.1 hq;exact hz
theorem bn2 {x y:Rat} (hx:BnQ x) (hy:BnQ y): ∀q∈[x,y],BnQ q:=fun q hq=>by
 rcases List.mem_cons.1 hq with rfl|hq
 ·exact hx
 ·obtain rfl:=List.mem_singleton.1 hq;exact hy
theorem Mu (b:BmP) (h:BmC b) (p q:Option Addr) (m n:Nat) (W:World) (hv:Br W) (ht:AB W):
  Ad Tryz.prog 49 #[bmV b p m q n] W (fun _:Unit=> .int .i64 0) (fun _=>True) (fun _=>[]):=by
 have hL:=h.lies
 have lr:=Rat.le_of_lt hL.lr
 refine Ab (args:=[bmV b p m q n]) Tryz.func49 I I I ?_
 refine zA (zB ?_)
 (refine Az rfl rfl rfl rfl ?_;intro)
 refine wP I (Aa ?_)
 rename_i b1
 refine zE (zA (zA (zB (wP I (wB 0 I I I (wP I (wB 0 I I I (wP I (wB 0 I I I ?_)))))))))
 refine Ap Tryz.hZ tH I I I I I I I I I I I fun bS=> ?_
 refine wC I I (fun W hp=>DY [b.len,b.l,b.r] (some ⟨bS,0,none⟩) 3 (show 3≤4096 by decide) (bn3 h.len h.l h.r) W (Tg _ _ _ (Ao.of_bx hp 1 I I)) (hv.hp hp) (ht.hp hp)) (wP I (Aa (zE (zA (zB (wP I (wP I (Aa (zE (zS I (zI (zE (zA ?_)))))))))))))
 refine zH (zA (zB (wP I (wB 0 I I I (wC I I (fun W hp=>C8 b.len (h.len.z2 bn0) W (hv.hp hp) (ht.hp hp)) (wP I (wU 19 false I ((D2 b.len 0).trans (dF (Rat.not_le.2 hL.len))) (wP I (Aa (zE (zS I (zA (zB ?_)))))))))))))
 refine wB 0 I I I (wP I (wB 0 I I I (wC I I (fun W hp=>BW b p q m n b.l hL.l0 (Rat.le_trans lr hL.r1) (h.l.z2 bn0) (h.l.z2 h.len) W (hv.hp hp) (ht.hp hp)) (wP I (wB 0 I I I (wP I (wB 0 I I I (wC I I (fun W hp=>BW b p q m n b.r (Rat.le_trans hL.l0 lr) hL.r1 (h.r.z2 bn0) (h.r.z2 h.len) W (hv.hp hp) (ht.hp hp)) (wP I (wP I (Aa (zE (zS I ?_)))))))))))))
 refine zA (zB (wP I (wB 0 I I I (wP I (wB 0 I I I (wC I I (fun W hp=>A7 b.l b.r (h.l.z2 h.r) W (hv.hp hp) (ht.hp hp)) (wP I (wU 37 false I ((DR b.l b.r).trans (dF (Rat.not_le.2 hL.lr))) (wP I (Aa (zE (zS I (zI ?_)))))))))))))
 exact zN (zE (zA (zB (wP I (Aa (zE (zO (wR1 I I I))))))))
-- BOXES 4
theorem Qf.at_ {W:World} {p:Option Addr} {l:List (Rat×Rat)} (h:Qf W p l) {i:Nat} (hi:i<l.length): ∃g off,p=some ⟨g,off,none⟩∧ ∀k (hk:k<l.length),Ao W g (off+k*2) [str (Ac l[k].1),str (Ac l[k].2)]:=by
 rcases h with h|⟨g,off,e,h⟩
 ·rw[h] at hi;exact absurd hi (Nat.not_lt_zero _)
 ·exact⟨g,off,e,h⟩
theorem Qu.at_ {W:World} {p:Option Addr} {l:List (Rat×Rat×Rat)} (h:Qu W p l) {i:Nat} (hi:i<l.length): ∃g off,p=some ⟨g,off,none⟩∧ ∀k (hk:k<l.length),Ao W g (off+k*3) [str (Ac l[k].1),str (Ac l[k].2.1),str (Ac l[k].2.2)]:=by
 rcases h with h|⟨g,off,e,h⟩
 ·rw[h] at hi;exact absurd hi (Nat.not_lt_zero _)
 ·exact⟨g,off,e,h⟩
theorem DC (b:BmP) (h:BmC b) (p q:Option Addr) (m n:Nat) (W:World) (hM:BmM W b p q):
  Ad Tryz.prog 17 #[bmV b p m q n] W (fun _:Unit=> .int .i64 0) (fun _=>True) (fun _=>[]):=by
 have hL:=h.lies
 have hlf:=h.lf
 have hls:=h.ls
 have hv:=hM.v
 have ht:=hM.t
 refine Ab (args:=[bmV b p m q n]) Tryz.func17 I I I ?_
 refine zA (zB ?_)
 (refine Az rfl rfl rfl rfl ?_;intro)
 refine wP I (Aa ?_)
 rename_i b1
 refine zE (zA (zA (zB (wP I (wB 0 I I I (wP I (wP I (wU 13 false I (dF (by omega)) (wP I (wP I (wB 0 I I I (wP I (wP I ?_)))))))))))))
 refine wU 18 false I (dF (by omega)) (wP I (Aa (zE (zS I (zI (zE (zA (zA (zB (wB 0 I I I (wC I I (fun W hp=>Mu b h p q m n W (hv.hp hp) (ht.hp hp)) (wP I (Aa ?_)))))))))))))
 refine zE (zA (zB (wP I (wP I (Aa (zE (zS I (zI (zE (zA (zA (zB (wP I ?_)))))))))))))
 refine wB 0 I I I (wP I (wP I (Aa (zE (zH ?_)))))
 refine Aw (X:=Nat) (fun i=>[(1,Al b1),(2, .int .i64 0),(26, .slice p b.fs.length m),(27, .int .i64 (b.fs.length:Nat)),(28, .int .i64 (i:Nat))]) (fun _=>[bmB b1 b p m q n]) (fun i=>i≤b.fs.length) (fun i=>b.fs.length-i) 0 (Nat.zero_le _) ⟨I,I,I,I,I,O⟩ [] I ?_
 intro i hi
 have hi:i≤b.fs.length:=hi
 refine zA (zB (wP I ?_))
 by_cases hlt:i<b.fs.length
 ·refine wU 29 true I (dT (by omega)) (Aa (zE (zA (zR I (zI (zE (zA (zH (zA (zB ?_))))))))))
  obtain⟨f,hfe⟩: ∃f,f=b.fs[i]:=⟨_,rfl⟩
  have hfm:f∈b.fs:=hfe▸List.getElem_mem hlt
  obtain⟨n1,n2⟩:=h.f f hfm
  obtain⟨g,off,hpe,hrow⟩:=hM.f.at_ hlt
  have hrow:=hrow i hlt
  rw[←hfe] at hrow
  subst hpe
  refine wJ ?_
  refine wL 0 I I (fun W1 hp=>hrow.hp hp) I ?_
  (refine Ae Tryz.hZ rfl rfl rfl rfl ?_;intro)
  refine wS 1 I I I (Aa (zE (zA (zA (zB (wP I (wB 1 I I I (wP I (wB 1 I I I ?_)))))))))
  refine Ap Tryz.hZ tH I I I I I I I I I I I fun bS=> ?_
  refine wC I I (fun W hp=>DY [f.1,f.2] (some ⟨bS,0,none⟩) 2 (show 2≤4096 by decide) (bn2 n1 n2) W (TS _ _ (Ao.of_bx hp 2 I I)) (hv.hp hp) (ht.hp hp)) (wP I (Aa (zE (zA (zB (wP I (wP I (Aa (zE (zS I (zI (zE (zA ?_)))))))))))))
  refine zB (wB 0 I I I (wP I (wB 1 I I I (wC I I (fun W hp=>BW b (some ⟨g,off,none⟩) q m n f.1 (hL.f0 f hfm) (hL.f1 f hfm) (n1.z2 bn0) (n1.z2 h.len) W (hv.hp hp) (ht.hp hp)) (Aa (zE (zS I (zI (zN (zE (zB (wP I (wV 45 ((i+1:Nat):Int) I (An (by omega)) ?_)))))))))))))
  exact wP I (Aa (Ak (i+1) hlt (by show b.fs.length-(i+1)<b.fs.length-i;omega) ⟨I,I,I,I,I,O⟩ [_,_] I))
 refine wU 29 false I (dF (by omega)) (Aa (zE (zA (zS I (zJ (zK (zK (zL (zE (zA (zA (zB (wP I ?_)))))))))))))
 refine wB 0 I I I (wP I (wP I (Aa (zE (zH ?_)))))
 refine Aw (X:=Nat) (fun i=>[(1,Al b1),(2, .int .i64 0),(47, .slice q b.ss.length n),(48, .int .i64 (b.ss.length:Nat)),(49, .int .i64 (i:Nat))]) (fun _=>[bmB b1 b p m q n]) (fun i=>i≤b.ss.length) (fun i=>b.ss.length-i) 0 (Nat.zero_le _) ⟨I,I,I,I,I,O⟩ [] I ?_
 intro i hi
 have hi:i≤b.ss.length:=hi
 refine zA (zB (wP I ?_))
 by_cases hlt:i<b.ss.length
 ·refine wU 50 true I (dT (by omega)) (Aa (zE (zA (zR I (zI (zE (zA (zH (zA (zB ?_))))))))))
  obtain⟨f,hfe⟩: ∃f,f=b.ss[i]:=⟨_,rfl⟩
  have hfm:f∈b.ss:=hfe▸List.getElem_mem hlt
  obtain⟨n1,n2,n3⟩:=h.s f hfm
  have s0:=hL.s0 f hfm
  have s1:=hL.s1 f hfm
  have s2:=hL.s2 f hfm
  have s1':=Rat.le_of_lt s1
  obtain⟨g,off,hpe,hrow⟩:=hM.s.at_ hlt
  have hrow:=hrow i hlt
  rw[←hfe] at hrow
  subst hpe
  refine wJ ?_
  refine wL 0 I I (fun W1 hp=>hrow.hp hp) I ?_
  (refine Ae Tryz.hZ rfl rfl rfl rfl ?_;intro)
  refine wS 1 I I I (Aa (zE (zA (zA (zB (wP I (wB 1 I I I (wP I (wB 1 I I I (wP I (wB 1 I I I ?_)))))))))))
  refine Ap Tryz.hZ tH I I I I I I I I I I I fun bS=> ?_
  refine wC I I (fun W hp=>DY [f.1,f.2.1,f.2.2] (some ⟨bS,0,none⟩) 3 (show 3≤4096 by decide) (bn3 n1 n2 n3) W (Tg _ _ _ (Ao.of_bx hp 2 I I)) (hv.hp hp) (ht.hp hp)) (wP I (Aa (zE (zA (zB (wP I (wP I (Aa (zE (zS I (zI (zE (zH ?_)))))))))))))
  refine zA (zB (wB 0 I I I (wP I (wB 1 I I I (wC I I (fun W hp=>BW b p (some ⟨g,off,none⟩) m n f.1 s0 (Rat.le_trans s1' s2) (n1.z2 bn0) (n1.z2 h.len) W (hv.hp hp) (ht.hp hp)) (wP I (wB 0 I I I (wP I (wB 1 I I I (wC I I (fun W hp=>BW b p (some ⟨g,off,none⟩) m n f.2.1 (Rat.le_trans s0 s1') s2 (n2.z2 bn0) (n2.z2 h.len) W (hv.hp hp) (ht.hp hp)) (wP I (wP I (Aa ?_)))))))))))))
  refine zE (zS I (zA (zB (wP I (wB 1 I I I (wP I (wB 1 I I I (wC I I (fun W hp=>A7 f.1 f.2.1 (n1.z2 n2) W (hv.hp hp) (ht.hp hp)) (wP I (wU 81 false I ((DR f.1 f.2.1).trans (dF (Rat.not_le.2 s1))) (wP I (Aa (zE ?_)))))))))))))
  exact zS I (zI (zN (zN (zE (zB (wP I (wV 82 ((i+1:Nat):Int) I (An (by omega)) (wP I (Aa (Ak (i+1) hlt (by show b.ss.length-(i+1)<b.ss.length-i;omega) ⟨I,I,I,I,I,O⟩ [_,_] I))))))))))
 refine wU 50 false I (dF (by omega)) (Aa (zE (zA (zS I (zJ (zK (zK (zL (zE (zA (zB (wP I (Aa ?_)))))))))))))
 exact zE (zO (wR1 I I I))
theorem Hd (b:BmP) (h:BmC b) (x:Rat) (hx:PlQ b x) (p q:Option Addr) (m n:Nat) (W:World) (hM:BmM W b p q):
  Ad Tryz.prog 42 #[bmV b p m q n,str (Ac x)] W (fun _:Unit=> .int .i64 0) (fun _=>True) (fun _=>[]):=by
 have hv:=hM.v
 have ht:=hM.t
 have hk:=hx.z.ok (by decide)
 have hl:=B2 hk
 have l1:=BE 56 x.num.natAbs (by decide) hx.z.1
 have l2:=BE 56 ((x.den:Nat):Int).natAbs (by decide) (by rw[Int.natAbs_natCast];exact hx.z.2)
 refine Ab (args:=[bmV b p m q n,str (Ac x)]) Tryz.func42 I I I ?_
 refine zA (zB ?_)
 (refine Az rfl rfl rfl rfl ?_;intro)
 refine wP I (Aa (zE (zA (zA (zB (wB 0 I I I (wC I I (fun W hp=>DC b h p q m n W (hM.hp hp)) (wP I (Aa (zE (zS I (zI (zE ?_)))))))))))))
 refine zA (zA (zB (wP I (wC I I (fun W hp=>(DA (Ac x) (by omega) W (hv.hp hp) (ht.hp hp)).cast (by rw[OW hk])) (wP I (Aa (zE (zA (zB (wP I (wP I (Aa (zE ?_)))))))))))))
 refine zS I (zI (zE (zA (zB (wP I (wC I I (fun W hp=>DH x hk W (hv.hp hp) (ht.hp hp)) ?_))))))
 iterate 7 refine wP I ?_
 refine Aa (zE (zA (zA (zB (wP I (wC I I (fun W _=>B5 x.num W) (wP I (wC I I (fun W _=>B5 (x.den:Nat) W) (wP I (wP I ?_))))))))))
 refine Ag 28 (.bool false) I (congrArg Value.bool (dF (by
  show¬((if _>_ then _ else _)>_)
  split<;>omega))) ?_
 refine Aa (zE (zS I (zI (zE (zA (zA (zB (wB 0 I I I (wP I (wC I I (fun W hp=>BW b p q m n x hx.h0 hx.h1 (sz2 hx.z bn0.sz (by decide)) (sz2 hx.z h.len.sz (by decide)) W (hv.hp hp) (ht.hp hp)) (Aa (zE (zS I ?_)))))))))))))
 exact zI (zE (zA (zB (wP I (Aa (zE (zO (wR1 I I I))))))))
theorem ED (b:BmP) (h:BmC b) (hz:RcZ b) (p q:Option Addr) (m n:Nat) (W:World) (hM:BmM W b p q):
  Ad Tryz.prog 9 #[bmV b p m q n] W (fun _:Unit=> .tuple #[str (Ac b.left),str (Ac b.right), .int .i64 0]) (fun _=>True) (fun _=>[]):=by
 refine Ab (args:=[bmV b p m q n]) Tryz.func9 I I I ?_
 refine zA (zB ?_)
 (refine Az rfl rfl rfl rfl ?_;intro)
 refine wP I (wP I (wP I (Aa (zE (zA (zA (zB (wB 0 I I I (wC I I (fun W hp=>DC b h p q m n W (hM.hp hp)) (wP I (Aa (zE (zS I ?_)))))))))))))
 refine zI (zE (zA (zB (wB 0 I I I (wC I I (fun W hp=>F6 b p q m n W (hM.hp hp) hz) ?_)))))
 iterate 5 refine wP I ?_
 refine Aa (zE (zA (zB ?_)))
 iterate 5 refine wP I ?_
 exact Aa (zE (zO (wR3 I I I)))
theorem LU (b:BmP) (h:BmC b) (hz:RcZ b) (p q:Option Addr) (m n:Nat) (W:World) (hM:BmM W b p q):
  Ad Tryz.prog 15 #[bmV b p m q n] W (fun _:Unit=> .tuple #[str (Ac b.total), .int .i64 0]) (fun _=>True) (fun _=>[]):=by
 refine Ab (args:=[bmV b p m q n]) Tryz.func15 I I I ?_
 refine zA (zB ?_)
 (refine Az rfl rfl rfl rfl ?_;intro)
 refine wP I (wP I (Aa (zE (zA (zA (zB (wB 0 I I I (wC I I (fun W hp=>DC b h p q m n W (hM.hp hp)) (wP I (Aa (zE (zS I (zI ?_)))))))))))))
 exact zE (zA (zB (wB 0 I I I (wC I I (fun W hp=>Iy b p q m n W (hM.hp hp) hz) (wP I (wP I (Aa (zE (zO (wR2 I I I))))))))))
theorem LK (b:BmP) (h:BmC b) (x:Rat) (hx:PlQ b x) (hz:ShZ b x) (p q:Option Addr) (m n:Nat) (W:World) (hM:BmM W b p q):
  Ad Tryz.prog 11 #[bmV b p m q n,str (Ac x)] W (fun _:Unit=> .tuple #[str (Ac (b.shear x)), .int .i64 0]) (fun _=>True) (fun _=>[]):=by
 refine Ab (args:=[bmV b p m q n,str (Ac x)]) Tryz.func11 I I I ?_
 refine zA (zB ?_)
 (refine Az rfl rfl rfl rfl ?_;intro)
 refine wP I (wP I (Aa (zE (zA (zA (zB (wB 0 I I I (wP I (wC I I (fun W hp=>Hd b h x hx p q m n W (hM.hp hp)) (wP I (Aa (zE (zA ?_)))))))))))))
 refine zB (wP I (wP I (Aa (zE (zS I (zI (zE (zA (zB (wB 0 I I I (wP I (wC I I (fun W hp=>Iw b x p q m n W (hM.hp hp) hz) (wP I (wP I ?_))))))))))))))
 exact Aa (zE (zO (wR2 I I I)))
theorem KN (b:BmP) (h:BmC b) (x:Rat) (hx:PlQ b x) (hz:MoZ b x) (p q:Option Addr) (m n:Nat) (W:World) (hM:BmM W b p q):
  Ad Tryz.prog 13 #[bmV b p m q n,str (Ac x)] W (fun _:Unit=> .tuple #[str (Ac (b.moment x)), .int .i64 0]) (fun _=>True) (fun _=>[]):=by
 refine Ab (args:=[bmV b p m q n,str (Ac x)]) Tryz.func13 I I I ?_
 refine zA (zB ?_)
 (refine Az rfl rfl rfl rfl ?_;intro)
 refine wP I (wP I (Aa (zE (zA (zA (zB (wB 0 I I I (wP I (wC I I (fun W hp=>Hd b h x hx p q m n W (hM.hp hp)) (wP I (Aa (zE (zA ?_)))))))))))))
 refine zB (wP I (wP I (Aa (zE (zS I (zI (zE (zA (zB (wB 0 I I I (wP I (wC I I (fun W hp=>Fv b x p q m n W (hM.hp hp) hz) (wP I (wP I ?_))))))))))))))
 exact Aa (zE (zO (wR2 I I I)))
-- BOXES 4
theorem SG (n:Nat) (h1:10≤n) (h2:n<100):(!(Op.bytesLess [UInt8.ofNat (48+n/10),UInt8.ofNat (48+n%10)] [49,50]||decide ([UInt8.ofNat (48+n/10),UInt8.ofNat (48+n%10)]=[49,50])))=decide (12<n):=by
 have h: ∀k:Fin 100,10≤k.val→(!(Op.bytesLess [UInt8.ofNat (48+k.val/10),UInt8.ofNat (48+k.val%10)] [49,50]||decide ([UInt8.ofNat (48+k.val/10),UInt8.ofNat (48+k.val%10)]=[49,50])))=decide (12<k.val):=by decide+kernel
 exact h ⟨n,h2⟩ h1
theorem S6 {n:Nat} (h:(decDigits n).length≤2):n<100:=Nat.lt_of_lt_of_le (Dc n) (Nat.pow_le_pow_right (by decide) h:10^(decDigits n).length≤10^2)
theorem Sc {n:Nat} (h:2<(decDigits n).length):12<n:=by
 refine Nat.lt_of_not_le fun hn=> ?_
 have:=Pi hn
 split at this<;>omega
theorem Ji (a:List UInt8) (hl:a.length≤4000000000) (W:World) (hv:Br W) (ht:AB W):
  Ad Tryz.prog 112 #[str a] W (fun _:Unit=> .int .i64 (bnE a)) (fun _=>True) (fun _=>[]):=by
 refine Ab (args:=[str a]) Tryz.func112 I I I ?_
 refine zA (zB (wP I (Aa (zE (zA (zA (zB (wP I (wC I I (fun W hp=>DA a hl W (hv.hp hp) (ht.hp hp)) (wP I (Aa (zE (zA ?_)))))))))))))
 refine zB (wP I (wP I ?_))
 by_cases he:(rdR a).2=0
 rotate_left
 ·exact wU 10 true I (bne_iff_ne.2 he) (Aa (zE (zR I (zA (zB (wP I (wP I (Aa (zE (zO (zP (wR1 I I (by unfold bnE;rw[if_pos he])))))))))))))
 obtain⟨q,hk,rfl⟩:=Gz he
 have hE:bnE (Ac q)=if LR (Ac q)=true then 4 else 0:=by unfold bnE;rw[if_neg (fun h=>h he)]
 rw[hE,JG]
 refine wU 10 false I (bne_eq_false_iff_eq.2 he) (Aa (zE (zS I (zI (zE (zA (zB (wP I (wC I I (fun W hp=>DH q hk W (hv.hp hp) (ht.hp hp)) ?_)))))))))
 iterate 7 refine wP I ?_
 refine Aa (zE (zA (zA (zB (wP I (wC I I (fun W _=>B5 q.num W) (wP I ?_)))))))
 by_cases h1:12<(decDigits q.num.natAbs).length
 ·refine wU 20 true I (dT (by omega)) (wP I ?_)
  iterate 3 refine Af I I ?_
  refine wP I (wP I ?_)
  iterate 7 refine Af I I ?_
  exact wP I (Aa (zE (zR I (zA (zB (wP I (Aa (zE (zO (zP (wR1 I I (by rw[dT h1];rfl))))))))))))
 refine wU 20 false I (dF (by omega)) (wP I (wP I (wC I I (fun W _=>B5 (q.den:Nat) W) ?_)))
 rw[Int.natAbs_natCast]
 refine wP I ?_
 by_cases h2:2<(decDigits q.den).length
 ·refine wU 24 true I (dT (by omega)) (wP I (wP I ?_))
  iterate 7 refine Af I I ?_
  exact wP I (Aa (zE (zR I (zA (zB (wP I (Aa (zE (zO (zP (wR1 I I (by rw[dT (Sc h2),Bool.or_true];rfl))))))))))))
 have hd:=S6 (Nat.le_of_not_lt h2)
 refine wU 24 false I (dF (by omega)) (wP I (wP I (wP I (wP I ?_))))
 refine Ag 28 (.int .i64 ((decDigits q.den).length:Nat)) I (congrArg (fun n:Nat=>Value.int .i64 (n:Int)) ((As _).trans (by rw[Ch]))) ?_
 refine wP I ?_
 by_cases h3:q.den<10
 ·refine wU 29 false I (dF (by rw[dd1 q.den h3];show¬((1:Nat):Int)=2;decide)) (wP I ?_)
  iterate 2 refine Af I I ?_
  exact wP I (wP I (Aa (zE (zS I (zI (zE (zA (zB (wP I (Aa (zE (zO (wR1 I I (by rw[dF h1,dF (show¬12<q.den by omega)];rfl))))))))))))))
 refine wU 29 true I (dT (by rw[dd2 q.den h3 (by omega)];rfl)) (wP I (wP I ?_))
 have e:itoa ((q.den:Nat):Int)=[UInt8.ofNat (48+q.den/10),UInt8.ofNat (48+q.den%10)]:=by
  rw[Ch,dd2 q.den h3 (by omega)]
 refine Ag 31 (str [UInt8.ofNat (48+q.den/10),UInt8.ofNat (48+q.den%10)]) I (by rw[e]) ?_
 refine KY I I I I I ?_
 refine wU 32 (decide (12<q.den)) I (SG q.den (by omega) hd) (wP I (wP I (Aa (zE ?_))))
 refine Ai I (fun hL=> ?_) (fun hL=> ?_)
 ·exact zA (zB (wP I (Aa (zE (zO (zP (wR1 I I (by rw[hL,Bool.or_true];rfl))))))))
 ·exact zI (zE (zA (zB (wP I (Aa (zE (zO (wR1 I I (by rw[dF h1,hL];rfl)))))))))
theorem D7 (l:List (List UInt8)) (p:Option Addr) (cap:Nat) (hn:l.length≤4096) (hk: ∀a∈l,a.length≤24) (W:World) (hS:HF W p l) (hv:Br W) (ht:AB W):
  Ad Tryz.prog 50 #[slv p l.length cap] W (fun _:Unit=> .int .i64 (Bp l)) (fun _=>True) (fun _=>[]):=by
 refine Ab (args:=[slv p l.length cap]) Tryz.func50 I I I ?_
 refine zA (zB (wP I (Aa (zE (zA (zA (zB (wP I (wP I (wP I (Aa (zE (zH ?_)))))))))))))
 refine Aw (X:=Nat) (fun i=>[(2, .int .i64 0),(6,slv p l.length cap),(7, .int .i64 (l.length:Nat)),(8, .int .i64 (i:Nat))]) (fun _=>[]) (fun i=>i≤l.length∧Bp l=Bp (l.drop i)) (fun i=>l.length-i) 0 ⟨Nat.zero_le _,by rw[List.drop_zero]⟩ ⟨I,I,I,I,O⟩ [] I ?_
 intro i hi
 obtain⟨hi,hE⟩:i≤l.length∧Bp l=Bp (l.drop i):=hi
 refine zA (zB (wP I ?_))
 by_cases hlt:i<l.length
 ·refine wU 9 true I (dT (by omega)) (Aa (zE (zA (zR I (zI (zE (zA (zH (zA (zB ?_))))))))))
  obtain⟨g,off,rfl,hrow⟩:=hS.row (i:=i) hlt
  have hrow1:Ao W g (off+i*1) [str l[i]]:=hrow i hlt
  have hli:=hk l[i] (List.getElem_mem hlt)
  have hli2:l[i].length≤4000000000:=by omega
  rw[Kr hlt] at hE
  obtain⟨a,ha⟩: ∃a,a=l[i]:=⟨_,rfl⟩
  rw[←ha] at hE hrow1 hli hli2
  refine wJ ?_
  refine wL 0 I I (fun W hp=>hrow1.hp hp) I (wP I (Aa (zE (zA (zB (wP I (wC I I (fun W hp=>Ji a hli2 W (hv.hp hp) (ht.hp hp)) (wP I (Aa (zE (zA (zB (wP I (wP I ?_))))))))))))))
  by_cases he:bnE a=0
  rotate_left
  ·refine wU 15 true I (bne_iff_ne.2 he) (Aa (zE (zR I (zA (zB (wP I (wP I (Aa (zE (zO (zQ (zP (zP ?_)))))))))))))
   exact zQ (zP (wR1 I I (by rw[hE,if_pos he])))
  rw[if_neg (fun h=>h he)] at hE
  exact wU 15 false I (bne_eq_false_iff_eq.2 he) (Aa (zE (zS I (zI (zN (zE (zB (wP I (wV 17 ((i+1:Nat):Int) I (An (by omega)) (wP I (Aa (Ak (i+1) ⟨hlt,hE⟩ (by show l.length-(i+1)<l.length-i;omega) ⟨I,I,I,I,O⟩ [] I))))))))))))
 ·refine wU 9 false I (dF (by omega)) (Aa (zE (zA (zS I (zJ (zK (zK (zL (zE (zA (zB (wP I (Aa ?_)))))))))))))
  exact zE (zO (wR1 I I (by rw[hE,List.drop_of_length_le (by omega)];rfl)))
theorem BH (w:BmW) (L x:Rat) (hL:w.len=Ac L) (z0:Sz2 x 0) (z1:Sz2 x L) (p q:Option Addr) (m n:Nat) (W:World) (hv:Br W) (ht:AB W):
  Ad Tryz.prog 51 #[bwV w p m q n,str (Ac x)] W (fun _:Unit=> .bool (Cl (Ac L) (Ac x))) (fun _=>True) (fun _=>[]):=by
 obtain⟨a,b,c,fs,ss⟩:=w
 obtain rfl:a=Ac L:=hL
 rw[JW]
 refine Ab (args:=[bwV ⟨Ac L,b,c,fs,ss⟩ p m q n,str (Ac x)]) Tryz.func51 I I I ?_
 refine zA (zB ?_)
 (refine Az rfl rfl rfl rfl ?_;intro)
 refine wP I (Aa (zE (zA (zB (wP I (wC I I (fun W hp=>C8 x z0 W (hv.hp hp) (ht.hp hp)) (wP I ?_)))))))
 by_cases h0:x<0
 ·refine wU 7 true I ((C3 x 0).trans (dT h0)) (wP I ?_)
  iterate 5 refine Af I I ?_
  exact wP I (wP I (Aa (zE (zO (wR1 I I (by rw[dT h0];rfl))))))
 exact wU 7 false I ((C3 x 0).trans (dF h0)) (wP I (wP I (wP I (wB 0 I I I (wC I I (fun W hp=>A7 x L z1 W (hv.hp hp) (ht.hp hp)) (wP I (wU 13 (decide (L<x)) I (EP x L) (wP I (wP I (Aa (zE (zO (wR1 I I (by rw[dF h0];rfl))))))))))))))
theorem l24 {a b c:List UInt8} (h1:a.length≤24) (h2:b.length≤24) (h3:c.length≤24): ∀x∈[a,b,c],x.length≤24:=fun x hx=>by
 rcases List.mem_cons.1 hx with rfl|hx
 ·exact h1
 ·rcases List.mem_cons.1 hx with rfl|hx
  ·exact h2
  ·obtain rfl:=List.mem_singleton.1 hx;exact h3
theorem Ug {a b:List UInt8} (h1:a.length≤24) (h2:b.length≤24): ∀x∈[a,b],x.length≤24:=fun x hx=>by
 rcases List.mem_cons.1 hx with rfl|hx
 ·exact h1
 ·obtain rfl:=List.mem_singleton.1 hx;exact h2
theorem KL (w:BmW) (h:w.Short) (p q:Option Addr) (m n:Nat) (W:World) (hv:Br W) (ht:AB W):
  Ad Tryz.prog 49 #[bwV w p m q n] W (fun _:Unit=> .int .i64 (Il w)) (fun _=>True) (fun _=>[]):=by
 obtain⟨a,b,c,fs,ss⟩:=w
 have s1:a.length≤24:=h.len
 have s2:b.length≤24:=h.l
 have s3:c.length≤24:=h.r
 unfold Il
 simp only
 refine Ab (args:=[bwV ⟨a,b,c,fs,ss⟩ p m q n]) Tryz.func49 I I I ?_
 refine zA (zB ?_)
 (refine Az rfl rfl rfl rfl ?_;intro)
 refine wP I (Aa ?_)
 rename_i b1
 refine zE (zA (zA (zB (wP I (wB 0 I I I (wP I (wB 0 I I I (wP I (wB 0 I I I ?_)))))))))
 refine Ap Tryz.hZ tH I I I I I I I I I I I fun bS=> ?_
 refine wC I I (fun W hp=>D7 [a,b,c] (some ⟨bS,0,none⟩) 3 (show 3≤4096 by decide) (l24 s1 s2 s3) W (.inr ⟨bS,0,I,Ao.of_bx hp 1 I I⟩) (hv.hp hp) (ht.hp hp)) (wP I (Aa (zE (zA (zB (wP I (wP I ?_)))))))
 by_cases he:Bp [a,b,c]=0
 rotate_left
 ·exact wU 13 true I (bne_iff_ne.2 he) (Aa (zE (zR I (zA (zB (wP I (wP I (Aa (zE (zO (zP (wR1 I I (by rw[if_pos he])))))))))))))
 refine wU 13 false I (bne_eq_false_iff_eq.2 he) (Aa ?_)
 obtain⟨x,hx,rfl⟩:=Bi (AG he a (List.mem_cons_self ..))
 obtain⟨y,hy,rfl⟩:=Bi (AG he b (List.mem_cons_of_mem _ (List.mem_cons_self ..)))
 obtain⟨z,hz,rfl⟩:=Bi (AG he c (List.mem_cons_of_mem _ (List.mem_cons_of_mem _ (List.mem_cons_self ..))))
 rw[if_neg (fun h=>h he),Bv,Bv,Bv]
 refine zE (zS I (zI (zE (zA (zH (zA (zB (wP I (wB 0 I I I (wC I I (fun W hp=>C8 x (hx.z2 bn0) W (hv.hp hp) (ht.hp hp)) (wP I ?_)))))))))))
 by_cases h2:x≤0
 ·exact wU 19 true I ((D2 x 0).trans (dT h2)) (wP I (Aa (zE (zR I (zA (zB (wP I (Aa (zE (zO (zQ (zP (wR1 I I (by rw[if_pos h2]))))))))))))))
 rw[if_neg h2]
 refine wU 19 false I ((D2 x 0).trans (dF h2)) (wP I (Aa (zE (zS I (zA (zB (wB 0 I I I (wP I (wB 0 I I I (wC I I (fun W hp=>BH ⟨Ac x,Ac y,Ac z,fs,ss⟩ x y I (hy.z2 bn0) (hy.z2 hx) p q m n W (hv.hp hp) (ht.hp hp)) ?_))))))))))
 cases o1:Cl (Ac x) (Ac y) with
 |true=>
  refine wP I ?_
  iterate 4 refine Af I I ?_
  exact wP I (wP I (Aa (zE (zR I (zA (zB (wP I (Aa (zE (zO (zQ (zP (wR1 I I I)))))))))))))
 |false=>
  refine wP I (wB 0 I I I (wP I (wB 0 I I I (wC I I (fun W hp=>BH ⟨Ac x,Ac y,Ac z,fs,ss⟩ x z I (hz.z2 bn0) (hz.z2 hx) p q m n W (hv.hp hp) (ht.hp hp)) ?_))))
  cases o2:Cl (Ac x) (Ac z) with
  |true=>
   exact wP I (wP I (Aa (zE (zR I (zA (zB (wP I (Aa (zE (zO (zQ (zP (wR1 I I I)))))))))))))
  |false=>
   refine wP I (wP I (Aa (zE (zS I (zA (zB (wP I (wB 0 I I I (wP I (wB 0 I I I (wC I I (fun W hp=>A7 y z (hy.z2 hz) W (hv.hp hp) (ht.hp hp)) (wP I ?_))))))))))))
   by_cases h4:z≤y
   ·exact wU 37 true I ((DR y z).trans (dT h4)) (wP I (Aa (zE (zR I (zA (zB (wP I (Aa (zE (zO (zQ (zP (wR1 I I (by rw[if_pos h4];rfl))))))))))))))
   exact wU 37 false I ((DR y z).trans (dF h4)) (wP I (Aa (zE (zS I (zI (zN (zE (zA (zB (wP I (Aa (zE (zO (wR1 I I (by rw[if_neg h4];rfl)))))))))))))))
-- BOXES 4
abbrev bwB (g:Nat) (w:BmW) (p:Option Addr) (m:Nat) (q:Option Addr) (n:Nat):Bx:=⟨g,26,(bwV w p m q n).cells.toList,true,none⟩
theorem Dp (w:BmW) (h:w.Short) (p q:Option Addr) (m n:Nat) (W:World) (hM:BwM W w p q):
  Ad Tryz.prog 17 #[bwV w p m q n] W (fun _:Unit=> .int .i64 (CC w)) (fun _=>True) (fun _=>[]):=by
 have hlf:=h.nf
 have hls:=h.ns
 have hv:=hM.v
 have ht:=hM.t
 refine Ab (args:=[bwV w p m q n]) Tryz.func17 I I I ?_
 refine zA (zB ?_)
 (refine Az rfl rfl rfl rfl ?_;intro)
 refine wP I (Aa ?_)
 rename_i b1
 refine zE (zA (zA (zB (wP I (wB 0 I I I (wP I (wP I ?_)))))))
 by_cases h1:64<w.fs.length
 ·refine wU 13 true I (dT (by omega)) (wP I ?_)
  iterate 4 refine Af I I ?_
  exact wP I (Aa (zE (zR I (zA (zB (wP I (Aa (zE (zO (zP (wR1 I I (by unfold CC;rw[if_pos (Or.inl h1)]))))))))))))
 refine wU 13 false I (dF (by omega)) (wP I (wP I (wB 0 I I I (wP I (wP I ?_)))))
 by_cases h2:64<w.ss.length
 ·exact wU 18 true I (dT (by omega)) (wP I (Aa (zE (zR I (zA (zB (wP I (Aa (zE (zO (zP (wR1 I I (by unfold CC;rw[if_pos (Or.inr h2)])))))))))))))
 have hC:CC w=if Il w≠0 then Il w else if fsE w.len w.fs≠0 then fsE w.len w.fs else ssE w.len w.ss:=by unfold CC;rw[if_neg (by omega)]
 refine wU 18 false I (dF (by omega)) (wP I (Aa (zE (zS I (zI (zE (zA (zA (zB (wB 0 I I I (wC I I (fun W hp=>KL w h p q m n W (hv.hp hp) (ht.hp hp)) (wP I (Aa ?_)))))))))))))
 refine zE (zA (zB (wP I (wP I ?_))))
 by_cases he:Il w=0
 rotate_left
 ·exact wU 23 true I (bne_iff_ne.2 he) (Aa (zE (zR I (zA (zB (wP I (wP I (Aa (zE (zO (zP (wR1 I I (by rw[hC,if_pos he])))))))))))))
 rw[if_neg (fun h=>h he)] at hC
 obtain⟨L,l0,r0,eL,el,er,nL,_,_,_⟩:=Lk he
 refine wU 23 false I (bne_eq_false_iff_eq.2 he) (Aa (zE (zS I (zI (zE (zA (zA (zB (wP I (wB 0 I I I (wP I (wP I (Aa ?_)))))))))))))
 refine zE (zH ?_)
 refine Aw (X:=Nat) (fun i=>[(1,Al b1),(2, .int .i64 0),(26, .slice p w.fs.length m),(27, .int .i64 (w.fs.length:Nat)),(28, .int .i64 (i:Nat))]) (fun _=>[bwB b1 w p m q n]) (fun i=>i≤w.fs.length∧fsE w.len w.fs=fsE w.len (w.fs.drop i)) (fun i=>w.fs.length-i) 0 ⟨Nat.zero_le _,by rw[List.drop_zero]⟩ ⟨I,I,I,I,I,O⟩ [] I ?_
 intro i hi
 obtain⟨hi,hE⟩:i≤w.fs.length∧fsE w.len w.fs=fsE w.len (w.fs.drop i):=hi
 refine zA (zB (wP I ?_))
 by_cases hlt:i<w.fs.length
 ·refine wU 29 true I (dT (by omega)) (Aa (zE (zA (zR I (zI (zE (zA (zH (zA (zB ?_))))))))))
  rw[NI hlt] at hE
  have hs24:=h.f w.fs[i] (List.getElem_mem hlt)
  obtain⟨g,off,hpe,hrow⟩:=hM.f.at_ hlt
  have hrow:=hrow i hlt
  obtain⟨⟨f1,f2⟩,hfe⟩: ∃f,f=w.fs[i]:=⟨_,rfl⟩
  rw[←hfe] at hrow hE hs24
  subst hpe
  simp only at hrow hE hs24
  refine wJ ?_
  refine wL 0 I I (fun W1 hp=>hrow.hp hp) I ?_
  (refine Ae Tryz.hZ rfl rfl rfl rfl ?_;intro)
  refine wS 1 I I I (Aa (zE (zA (zA (zB (wP I (wB 1 I I I (wP I (wB 1 I I I ?_)))))))))
  refine Ap Tryz.hZ tH I I I I I I I I I I I fun bS=> ?_
  refine wC I I (fun W hp=>D7 [f1,f2] (some ⟨bS,0,none⟩) 2 (show 2≤4096 by decide) (Ug hs24.1 hs24.2) W (.inr ⟨bS,0,I,Ao.of_bx hp 2 I I⟩) (hv.hp hp) (ht.hp hp)) (wP I (Aa (zE (zA (zB (wP I (wP I ?_)))))))
  by_cases hn:Bp [f1,f2]=0
  rotate_left
  ·refine wU 39 true I (bne_iff_ne.2 hn) (Aa (zE (zR I (zA (zB (wP I (wP I (Aa (zE (zO (zP (zQ (zP (zP ?_))))))))))))))
   refine zQ (zP ?_)
   rw[if_pos hn] at hE
   exact wR1 I I (by rw[hC,hE,if_pos hn])
  rw[if_neg (fun h=>h hn)] at hE
  obtain⟨x,hx,rfl⟩:=Bi (AG hn f1 (List.mem_cons_self ..))
  refine wU 39 false I (bne_eq_false_iff_eq.2 hn) (Aa (zE (zS I (zI (zE (zA (zB (wB 0 I I I (wP I (wB 1 I I I (wC I I (fun W hp=>BH w L x eL (hx.z2 bn0) (hx.z2 nL) (some ⟨g,off,none⟩) q m n W (hv.hp hp) (ht.hp hp)) ?_)))))))))))
  rw[eL] at hE
  cases ho:Cl (Ac L) (Ac x) with
  |true=>
   refine Aa (zE (zR I (zA (zB (wP I (Aa (zE (zO (zQ (zP (zP (zQ (zP ?_)))))))))))))
   rw[if_pos ho, ←eL] at hE
   exact wR1 I I (by rw[hC,hE];rfl)
  |false=>
   refine Aa (zE (zS I (zI (zN (zE (zB ?_))))))
   rw[if_neg (by rw[ho];decide), ←eL] at hE
   exact wP I (wV 45 ((i+1:Nat):Int) I (An (by omega)) (wP I (Aa (Ak (i+1) ⟨hlt,hE⟩ (by show w.fs.length-(i+1)<w.fs.length-i;omega) ⟨I,I,I,I,I,O⟩ [_,_] I))))
 rw[hE,List.drop_of_length_le (by omega)] at hC
 have hC:CC w=ssE w.len w.ss:=hC
 refine wU 29 false I (dF (by omega)) (Aa (zE (zA (zS I (zJ (zK (zK (zL (zE (zA (zA (zB (wP I ?_)))))))))))))
 refine wB 0 I I I (wP I (wP I (Aa (zE (zH ?_)))))
 refine Aw (X:=Nat) (fun i=>[(1,Al b1),(2, .int .i64 0),(47, .slice q w.ss.length n),(48, .int .i64 (w.ss.length:Nat)),(49, .int .i64 (i:Nat))]) (fun _=>[bwB b1 w p m q n]) (fun i=>i≤w.ss.length∧CC w=ssE w.len (w.ss.drop i)) (fun i=>w.ss.length-i) 0 ⟨Nat.zero_le _,by rw[List.drop_zero];exact hC⟩ ⟨I,I,I,I,I,O⟩ [] I ?_
 clear hC hE
 intro i hi
 obtain⟨hi,hE⟩:i≤w.ss.length∧CC w=ssE w.len (w.ss.drop i):=hi
 refine zA (zB (wP I ?_))
 by_cases hlt:i<w.ss.length
 ·refine wU 50 true I (dT (by omega)) (Aa (zE (zA (zR I (zI (zE (zA (zH (zA (zB ?_))))))))))
  rw[N8 hlt] at hE
  have hs24:=h.s w.ss[i] (List.getElem_mem hlt)
  obtain⟨g,off,hpe,hrow⟩:=hM.s.at_ hlt
  have hrow:=hrow i hlt
  obtain⟨⟨f1,f2,f3⟩,hfe⟩: ∃f,f=w.ss[i]:=⟨_,rfl⟩
  rw[←hfe] at hrow hE hs24
  subst hpe
  simp only at hrow hE hs24
  refine wJ ?_
  refine wL 0 I I (fun W1 hp=>hrow.hp hp) I ?_
  (refine Ae Tryz.hZ rfl rfl rfl rfl ?_;intro)
  refine wS 1 I I I (Aa (zE (zA (zA (zB (wP I (wB 1 I I I (wP I (wB 1 I I I (wP I (wB 1 I I I ?_)))))))))))
  refine Ap Tryz.hZ tH I I I I I I I I I I I fun bS=> ?_
  refine wC I I (fun W hp=>D7 [f1,f2,f3] (some ⟨bS,0,none⟩) 3 (show 3≤4096 by decide) (l24 hs24.1 hs24.2.1 hs24.2.2) W (.inr ⟨bS,0,I,Ao.of_bx hp 2 I I⟩) (hv.hp hp) (ht.hp hp)) (wP I (Aa (zE (zA (zB (wP I (wP I ?_)))))))
  by_cases hn:Bp [f1,f2,f3]=0
  rotate_left
  ·refine wU 62 true I (bne_iff_ne.2 hn) (Aa (zE (zR I (zA (zB (wP I (wP I (Aa (zE (zO (zP (zQ (zP (zP ?_))))))))))))))
   refine zQ (zP ?_)
   rw[if_pos hn] at hE
   exact wR1 I I (by rw[hE])
  rw[if_neg (fun h=>h hn)] at hE
  obtain⟨x,hx,rfl⟩:=Bi (AG hn f1 (List.mem_cons_self ..))
  obtain⟨y,hy,rfl⟩:=Bi (AG hn f2 (List.mem_cons_of_mem _ (List.mem_cons_self ..)))
  refine wU 62 false I (bne_eq_false_iff_eq.2 hn) (Aa (zE (zS I (zI (zE (zH (zA (zB (wB 0 I I I (wP I (wB 1 I I I (wC I I (fun W hp=>BH w L x eL (hx.z2 bn0) (hx.z2 nL) p (some ⟨g,off,none⟩) m n W (hv.hp hp) (ht.hp hp)) ?_))))))))))))
  rw[eL] at hE
  cases o1:Cl (Ac L) (Ac x) with
  |true=>
   refine wP I ?_
   iterate 4 refine Af I I ?_
   refine wP I (wP I (Aa (zE (zR I (zA (zB (wP I (Aa (zE (zO (zQ (zQ (zP (zP ?_))))))))))))))
   refine zQ (zP ?_)
   rw[o1] at hE
   exact wR1 I I (by rw[hE];rfl)
  |false=>
   refine wP I (wB 0 I I I (wP I (wB 1 I I I (wC I I (fun W hp=>BH w L y eL (hy.z2 bn0) (hy.z2 nL) p (some ⟨g,off,none⟩) m n W (hv.hp hp) (ht.hp hp)) ?_))))
   cases o2:Cl (Ac L) (Ac y) with
   |true=>
    refine wP I (wP I (Aa (zE (zR I (zA (zB (wP I (Aa (zE (zO (zQ (zQ (zP (zP ?_))))))))))))))
    refine zQ (zP ?_)
    rw[o1,o2] at hE
    exact wR1 I I (by rw[hE];rfl)
   |false=>
    refine wP I (wP I (Aa (zE (zS I (zA (zB ?_))))))
    rw[o1,o2,if_neg (by decide),Bv,Bv, ←eL] at hE
    refine wP I (wB 1 I I I (wP I (wB 1 I I I (wC I I (fun W hp=>A7 x y (hx.z2 hy) W (hv.hp hp) (ht.hp hp)) (wP I ?_)))))
    by_cases h4:y≤x
    ·refine wU 81 true I ((DR x y).trans (dT h4)) (wP I (Aa (zE (zR I (zA (zB (wP I (Aa (zE (zO (zQ (zQ (zP (zP ?_))))))))))))))
     refine zQ (zP ?_)
     rw[if_pos h4] at hE
     exact wR1 I I (by rw[hE])
    rw[if_neg h4] at hE
    exact wU 81 false I ((DR x y).trans (dF h4)) (wP I (Aa (zE (zS I (zI (zN (zN (zE (zB (wP I (wV 82 ((i+1:Nat):Int) I (An (by omega)) (wP I (Aa (Ak (i+1) ⟨hlt,hE⟩ (by show w.ss.length-(i+1)<w.ss.length-i;omega) ⟨I,I,I,I,I,O⟩ [_,_] I))))))))))))))
 rw[List.drop_of_length_le (by omega)] at hE
 refine wU 50 false I (dF (by omega)) (Aa (zE (zA (zS I (zJ (zK (zK (zL (zE (zA (zB (wP I (Aa ?_)))))))))))))
 exact zE (zO (wR1 I I (by rw[hE];rfl)))
-- BOXES 4
-- CODE2
theorem NL (n:Nat):Ac ((n:Int):Rat)=decDigits n:=by
 rw[Ac,CS,if_pos (show(((n:Int):Rat)).den=1 from rfl)];exact Ch n
theorem Uj:decDigits 12=[49,50]:=dd2 12 (by decide) (by decide)
theorem F5 (z:Int) (hl:(itoa z).length≤1000):AZ Tryz.prog 109 [str (itoa z)] (.int .i64 ((decDigits z.natAbs).length:Nat)):=by
 intro W
 obtain⟨c,hc,hc45⟩:=Du z
 have hl0:0<(itoa z).length:=(List.getElem?_eq_some_iff.1 hc).1
 refine Ab Tryz.func109 I I I ?_
 refine zA (zB (wP I (Aa (zE (zA (zA (zB (wP I (wP I ?_)))))))))
 refine Ag 4 (.int .i64 ((itoa z).length:Nat)) I (congrArg (fun n:Nat=>Value.int .i64 (n:Int)) (As _)) ?_
 refine wP I (wU 5 true I (dT (by omega)) (wP I (wP I ?_)))
 refine AJ 0 tH I I I I I I I I hc ?_
 refine wP I (wU 9 (decide (z<0)) I ((CR c 45).trans hc45) (wP I (Aa (zE ?_))))
 refine Ai I (fun hn=> ?_) (fun hn=> ?_)
 ·have hn:z<0:=of_decide_eq_true hn
  have e:(itoa z).length=1+(decDigits z.natAbs).length:=by rw[B3,FC,if_pos hn,List.length_append];rfl
  refine zA (zB (wP I (wP I ?_)))
  refine Ag 12 (.int .i64 ((itoa z).length:Nat)) I (congrArg (fun n:Nat=>Value.int .i64 (n:Int)) (As _)) ?_
  exact wP I (wV 13 ((decDigits z.natAbs).length:Nat) I ((Aj (by omega) (by omega)).trans (by omega)) (wP I (Aa (zE (zO (zP (wR1 I I I)))))))
 ·have hn: ¬z<0:=of_decide_eq_false hn
  have e:itoa z=decDigits z.natAbs:=by rw[B3,FC,if_neg hn];rfl
  refine zI (zE (zA (zB (wP I (wP I ?_)))))
  refine Ag 15 (.int .i64 ((decDigits z.natAbs).length:Nat)) I (congrArg (fun n:Nat=>Value.int .i64 (n:Int)) ((As _).trans (by rw[e]))) ?_
  exact wP I (Aa (zE (zO (wR1 I I I))))
theorem Lp {q:Rat} (h:okQ q):(itoa q.num).length≤1000:=by
 have:=h.1.dd
 rw[B3,List.length_append]
 have:=IR q.num
 omega
theorem KQ (q:Rat) (h:szQ q 24) (W:World) (ht:AB W):
  Ad Tryz.prog 114 #[str (Ac q)] W (fun _:Unit=> .bool (LR (Ac q))) (fun _=>True) (fun _=>[]):=by
 have hk:okQ q:=h.ok (by decide)
 have hc:szQ (((q.den:Nat):Int):Rat) 24:=⟨by show((q.den:Nat):Int).natAbs<_;rw[Int.natAbs_natCast];exact h.2,by show 1<_;decide⟩
 have h12:szQ (((12:Nat):Int):Rat) 2:=⟨by decide,by decide⟩
 have hcc:(decide (G6 (((q.den:Nat):Int):Rat) (((12:Nat):Int):Rat)>0))=decide (12<q.den):=(EP _ _).trans (decide_eq_decide.2 (by rw[Rat.intCast_lt_intCast];omega))
 rw[JG]
 refine Ab (args:=[str (Ac q)]) Tryz.func114 I I I ?_
 refine zA (zB (wP I (Aa (zE (zA (zB (wP I (wC I I (fun W1 hp=>Hn hk W1 (ht.hp hp)) ?_))))))))
 iterate 7 refine wP I ?_
 refine Aa (zE (zA (zB (wP I ?_))))
 refine wC I I (fun W1 hp=>(by
  have:=J2 (((q.den:Nat):Int):Rat) (((12:Nat):Int):Rat) (sz2 hc h12 (by decide)) W1 (ht.hp hp)
  rwa [NL,NL,Uj] at this)) ?_
 iterate 5 refine wP I ?_
 refine Aa (zE (zA (zB (wP I (wC I I (fun W1 _=>F5 q.num (Lp hk) W1) (wP I ?_))))))
 by_cases h1:12<(decDigits q.num.natAbs).length
 ·refine wU 21 true I (dT (by omega)) (wP I ?_)
  iterate 2 refine Af I I ?_
  exact wP I (wP I (Aa (zE (zO (wR1 I I (by rw[dT h1];rfl))))))
 ·exact wU 21 false I (dF (by omega)) (wP I (wP I (wP I (wU 24 (decide (12<q.den)) I hcc (wP I (wP I (Aa (zE (zO (wR1 I I (by rw[dF h1];rfl)))))))))))
theorem Rq {q:Rat} {n:Nat} (h:(Ac q).length≤n) (hn:1≤n):szQ q n:=by
 have hi:(itoa q.num).length≤n∧(decDigits q.den).length≤n:=by
  unfold Ac CS at h
  split at h
  ·rename_i e
   exact⟨h,by rw[e];exact Nat.le_trans (BE 1 1 (by decide) (by decide)) hn⟩
  ·rw[List.length_append,List.length_cons] at h
   omega
 have h2:(decDigits q.num.natAbs).length≤n:=by
  have h1:=hi.1
  rw[B3,List.length_append] at h1
  omega
 exact⟨Nat.lt_of_lt_of_le (Dc _) (Nat.pow_le_pow_right (by decide) h2),Nat.lt_of_lt_of_le (Dc _) (Nat.pow_le_pow_right (by decide) hi.2)⟩
theorem IU {q:Rat} (h:(Ac q).length≤24):szQ q 24:=Rq h (by decide)
theorem Di (l:List (List UInt8)) (p:Option Addr) (cap:Nat) (hn:l.length≤4096) (hk: ∀a∈l,a.length≤24) (W:World) (hS:HF W p l) (ht:AB W):
  Ad Tryz.prog 53 #[slv p l.length cap] W (fun _:Unit=> .int .i64 (Bp l)) (fun _=>True) (fun _=>[]):=by
 refine Ab (args:=[slv p l.length cap]) Tryz.func53 I I I ?_
 refine zA (zB (wP I (Aa (zE (zA (zA (zB (wP I (Aa (zE (zH ?_)))))))))))
 refine Aw (X:=Nat) (fun i=>[(0,slv p l.length cap),(2, .int .i64 0),(3, .int .i64 (i:Nat))]) (fun _=>[]) (fun i=>i≤l.length∧Bp l=Bp (l.drop i)) (fun i=>l.length-i) 0 ⟨Nat.zero_le _,by rw[List.drop_zero]⟩ ⟨I,I,I,O⟩ [] I ?_
 intro i hi
 obtain⟨hi,hE⟩:i≤l.length∧Bp l=Bp (l.drop i):=hi
 refine zA (zA (zB (wP I (wP I (wP I (wP I ?_))))))
 by_cases hlt:i<l.length
 ·refine wU 8 true I (dT (by omega)) (Aa (zE (zR I (zI (zE (zA (zH (zA (zA (zB ?_))))))))))
  obtain⟨g,off,rfl,hrow⟩:=hS.row (i:=i) hlt
  have hrow1:Ao W g (off+i*1) [str l[i]]:=hrow i hlt
  have hli:=hk l[i] (List.getElem_mem hlt)
  have hli2:l[i].length<4611686018427387904:=by omega
  rw[Kr hlt] at hE
  obtain⟨a,ha⟩: ∃a,a=l[i]:=⟨_,rfl⟩
  rw[←ha] at hE hrow1 hli hli2
  refine wP I (wP I ?_)
  refine wJ ?_
  refine wL 0 I I (fun W hp=>hrow1.hp hp) I (wC I I (fun W1 hp=>Fs a hli2 W1 (ht.hp hp)) (wP I (Aa (zE (zA (zB (wP I (wP I ?_))))))))
  by_cases he:(rdR a).2=0
  rotate_left
  ·refine wU 17 true I (bne_iff_ne.2 he) (Aa (zE (zR I (zA (zB (wP I (wP I (Aa (zE (zO (zP (zQ (zP (zP ?_))))))))))))))
   refine zQ (zP ?_)
   have hb:bnE a=(rdR a).2:=by unfold bnE;rw[if_pos he]
   rw[hb,if_pos he] at hE
   exact wR1 I I (by rw[hE])
  refine wU 17 false I (bne_eq_false_iff_eq.2 he) (Aa ?_)
  obtain⟨q,hq,hqe⟩:=Gz he
  have hb:bnE a=if LR a=true then 4 else 0:=by unfold bnE;rw[if_neg (fun h=>h he)]
  refine zE (zS I (zI (zE (zA (zB (wP I (wP I ?_)))))))
  refine wJ ?_
  refine wL 0 I I (fun W hp=>hrow1.hp hp) I (wC I I (fun W1 hp=>(by have:=KQ q (IU (hqe▸hli)) W1 (ht.hp hp);rwa [←hqe] at this)) ?_)
  cases hL:LR a with
  |true=>
   refine Aa (zE (zR I (zA (zB (wP I (Aa (zE (zO (zQ (zP (zP (zQ (zP ?_)))))))))))))
   rw[hb,hL,if_pos rfl,if_pos (by decide)] at hE
   exact wR1 I I (by rw[hE])
  |false=>
   refine Aa (zE (zS I (zI (zN (zE (zB ?_))))))
   rw[hb,hL,if_neg (by decide)] at hE
   exact wP I (wP I (wV 10 ((i+1:Nat):Int) I (An (by omega)) (wP I (Aa (Ak (i+1) ⟨hlt,hE⟩ (by show l.length-(i+1)<l.length-i;omega) ⟨I,I,I,O⟩ [] I)))))
 ·refine wU 8 false I (dF (by omega)) (Aa (zE (zS I (zJ (zK (zK (zL (zE (zA (zB (wP I (Aa (zE ?_)))))))))))))
  exact zO (wR1 I I (by rw[hE,List.drop_of_length_le (by omega)];rfl))
theorem AL (p q:Rat) (h:Sz2 p q) (W:World) (ht:AB W):
  Ad Tryz.prog 45 #[str (Ac p),str (Ac q)] W (fun _:Unit=> .bool (decide (p<q))) (fun _=>True) (fun _=>[]):=by
 refine Ab (args:=[str (Ac p),str (Ac q)]) Tryz.func45 I I I ?_
 refine zA (zB (wP I (Aa (zE (zA (zB (wP I (wP I (wC I I (fun W1 hp=>J2 p q h W1 (ht.hp hp)) ?_)))))))))
 iterate 5 refine wP I ?_
 exact Aa (zE (zA (zB (wP I (wP I (wU 14 (decide (p<q)) I (C3 p q) (wP I (Aa (zE (zO (wR1 I I I)))))))))))
theorem Kz (p:Rat) (h:Sz2 p 0) (W:World) (ht:AB W):
  Ad Tryz.prog 45 #[str (Ac p),str [48]] W (fun _:Unit=> .bool (decide (p<0))) (fun _=>True) (fun _=>[]):=by
 have:=AL p 0 h W ht
 rwa [B0] at this
theorem Jv (p:Rat) (h:Sz2 0 p) (W:World) (ht:AB W):
  Ad Tryz.prog 45 #[str [48],str (Ac p)] W (fun _:Unit=> .bool (decide (0<p))) (fun _=>True) (fun _=>[]):=by
 have:=AL 0 p h W ht
 rwa [B0] at this
theorem BJ (w:BmW) (L x:Rat) (hL:w.len=Ac L) (z0:Sz2 x 0) (z1:Sz2 L x) (p q:Option Addr) (m n:Nat) (W:World) (ht:AB W):
  Ad Tryz.prog 54 #[bwV w p m q n,str (Ac x)] W (fun _:Unit=> .bool (Cl (Ac L) (Ac x))) (fun _=>True) (fun _=>[]):=by
 obtain⟨a,b,c,fs,ss⟩:=w
 obtain rfl:a=Ac L:=hL
 rw[JW]
 refine Ab (args:=[bwV ⟨Ac L,b,c,fs,ss⟩ p m q n,str (Ac x)]) Tryz.func54 I I I ?_
 refine zA (zB ?_)
 (refine Az rfl rfl rfl rfl ?_;intro)
 refine wP I (Aa (zE (zA (zB (wP I (wC I I (fun W hp=>Kz x z0 W (ht.hp hp)) ?_))))))
 cases h0:decide (x<0) with
 |true=>
  refine wP I ?_
  iterate 4 refine Af I I ?_
  exact wP I (wP I (Aa (zE (zO (wR1 I I I)))))
 |false=>
  exact wP I (wP I (wB 0 I I I (wP I (wC I I (fun W hp=>AL L x z1 W (ht.hp hp)) (wP I (wP I (Aa (zE (zO (wR1 I I I))))))))))
theorem FI (p q:Rat) (h:Sz2 q p) (W:World) (ht:AB W):
  Ad Tryz.prog 46 #[str (Ac p),str (Ac q)] W (fun _:Unit=>str (Ac (if q<p then q else p))) (fun _=>True) (fun _=>[]):=by
 refine Ab (args:=[str (Ac p),str (Ac q)]) Tryz.func46 I I I ?_
 refine zA (zB (wP I (Aa (zE (zA (zA (zB (wP I (wP I (wC I I (fun W1 hp=>AL q p h W1 (ht.hp hp)) (Aa (zE ?_))))))))))))
 refine Ai I (fun hc=> ?_) (fun hc=> ?_)
 ·exact zA (zB (wP I (wP I (Aa (zE (zO (zP (wR1 I I (by rw[if_pos (of_decide_eq_true hc)])))))))))
 ·exact zI (zE (zA (zB (wP I (wP I (Aa (zE (zO (wR1 I I (by rw[if_neg (of_decide_eq_false hc)]))))))))))
theorem AV (p q:Rat) (h:Sz2 p q) (W:World) (ht:AB W):
  Ad Tryz.prog 37 #[str (Ac p),str (Ac q)] W (fun _:Unit=>str (Ac (p-q))) (fun _=>True) (fun _=>[]):=by
 refine Ab (args:=[str (Ac p),str (Ac q)]) Tryz.func37 I I I ?_
 refine zA (zB (wP I (Aa (zE (zA (zB (wP I (wP I (wC I I (fun W1 hp=>GL p q h W1 (ht.hp hp)) ?_)))))))))
 iterate 5 refine wP I ?_
 refine Aa (zE (zA (zA (zB (wP I (wP I (Aa (zE (zS I (zI (zE (zA (zB ?_)))))))))))))
 exact wP I (wP I (Aa (zE (zO (wR1 I I I)))))
theorem Qi:Ac ((1:Rat)/2)=[49,47,50]:=(congrArg Ac (show(1:Rat)/2=q2 1 2 by decide+kernel)).trans Uf
theorem PS:szQ ((1:Rat)/2) 1:=by
 rw[show(1:Rat)/2=q2 1 2 by decide+kernel]
 exact⟨by decide,by decide⟩
theorem GF (p q:Rat) (h:Sz2 p q) (h2:Sz2 (p+q) (1/2)) (W:World) (ht:AB W):
  Ad Tryz.prog 38 #[str (Ac p),str (Ac q)] W (fun _:Unit=>str (Ac ((p+q)/2))) (fun _=>True) (fun _=>[]):=by
 have e:(p+q)*(1/2)=(p+q)/2:=by grind
 rw[←e]
 refine Ab (args:=[str (Ac p),str (Ac q)]) Tryz.func38 I I I ?_
 refine zA (zB (wP I (Aa (zE (zA (zB (wP I (wP I (wC I I (fun W1 hp=>JL p q h W1 (ht.hp hp)) ?_)))))))))
 iterate 5 refine wP I ?_
 refine Aa (zE (zA (zA (zB (wP I (wP I (Aa (zE (zS I (zI (zE (zA (zB ?_)))))))))))))
 refine wP I (wC I I (fun W1 hp=>(by have:=Ku (p+q) (1/2) h2 W1 (ht.hp hp);rwa [Qi] at this)) ?_)
 iterate 5 refine wP I ?_
 refine Aa (zE (zA (zA (zB (wP I (wP I (Aa (zE (zS I (zI (zE (zA (zB ?_)))))))))))))
 exact wP I (wP I (Aa (zE (zO (wR1 I I I)))))
-- BOXES 4
-- CODE2
abbrev bwX (g:Nat) (w:BmW) (p:Option Addr) (m:Nat) (q:Option Addr) (n:Nat):Bx:=⟨g,26,(bwV w p m q n).cells.toList,true,none⟩
theorem m24 {a b c:List UInt8} (h1:a.length≤24) (h2:b.length≤24) (h3:c.length≤24): ∀x∈[a,b,c],x.length≤24:=fun x hx=>by
 rcases List.mem_cons.1 hx with rfl|hx
 ·exact h1
 ·rcases List.mem_cons.1 hx with rfl|hx
  ·exact h2
  ·obtain rfl:=List.mem_singleton.1 hx;exact h3
theorem TY {a b:List UInt8} (h1:a.length≤24) (h2:b.length≤24): ∀x∈[a,b],x.length≤24:=fun x hx=>by
 rcases List.mem_cons.1 hx with rfl|hx
 ·exact h1
 ·obtain rfl:=List.mem_singleton.1 hx;exact h2
theorem Gx (p q:Rat):(!decide (p<q))=decide (q≤p):=by
 by_cases h:p<q
 ·rw[dT h,dF (Rat.not_le.2 h)];rfl
 ·rw[dF h,dT (Rat.not_lt.1 h)];rfl
theorem CU (w:BmW) (h:w.Short) (p q:Option Addr) (m n:Nat) (W:World) (hM:BwM W w p q):
  Ad Tryz.prog 18 #[bwV w p m q n] W (fun _:Unit=> .int .i64 (CC w)) (fun _=>True) (fun _=>[]):=by
 have hlf:=h.nf
 have hls:=h.ns
 have ht:=hM.t
 refine Ab (args:=[bwV w p m q n]) Tryz.func18 I I I ?_
 refine zA (zB ?_)
 (refine Az rfl rfl rfl rfl ?_;intro)
 refine wP I (Aa ?_)
 rename_i b1
 refine zE (zA (zA (zB (wP I (wB 0 I I I (wP I (wP I ?_)))))))
 by_cases h1:64<w.fs.length
 ·refine wU 13 true I (dT (by omega)) (wP I ?_)
  iterate 4 refine Af I I ?_
  exact wP I (Aa (zE (zR I (zA (zB (wP I (Aa (zE (zO (zP (wR1 I I (by unfold CC;rw[if_pos (Or.inl h1)]))))))))))))
 refine wU 13 false I (dF (by omega)) (wP I (wP I (wB 0 I I I (wP I (wP I ?_)))))
 by_cases h2:64<w.ss.length
 ·exact wU 18 true I (dT (by omega)) (wP I (Aa (zE (zR I (zA (zB (wP I (Aa (zE (zO (zP (wR1 I I (by unfold CC;rw[if_pos (Or.inr h2)])))))))))))))
 have hC:CC w=if Il w≠0 then Il w else if fsE w.len w.fs≠0 then fsE w.len w.fs else ssE w.len w.ss:=by unfold CC;rw[if_neg (by omega)]
 refine wU 18 false I (dF (by omega)) (wP I (Aa (zE (zS I (zI (zE (zA (zA (zB (wP I (wB 0 I I I (wP I (wB 0 I I I ?_)))))))))))))
 refine wP I (wB 0 I I I ?_)
 refine Ap Tryz.hZ tH I I I I I I I I I I I fun bS=> ?_
 refine wC I I (fun W hp=>Di [w.len,w.l,w.r] (some ⟨bS,0,none⟩) 3 (show 3≤4096 by decide) (m24 h.len h.l h.r) W (.inr ⟨bS,0,I,Ao.of_bx hp 1 I I⟩) (ht.hp hp)) (wP I (Aa (zE (zA (zB (wP I (wP I ?_)))))))
 have hF:Il w=if Bp [w.len,w.l,w.r]≠0 then Bp [w.len,w.l,w.r] else if GR w.len≤0 then 12 else if (Cl w.len w.l||Cl w.len w.r)=true then 2 else if GR w.r≤GR w.l then 10 else 0:=rfl
 by_cases he:Bp [w.len,w.l,w.r]=0
 rotate_left
 ·refine wU 29 true I (bne_iff_ne.2 he) (Aa (zE (zR I (zA (zB (wP I (wP I (Aa (zE (zO (zP ?_)))))))))))
  rw[if_pos he] at hF
  exact wR1 I I (by rw[hC,hF,if_pos he])
 rw[if_neg (fun h=>h he)] at hF
 obtain⟨L,nL,eL⟩:=Bi (AG he w.len (List.mem_cons_self ..))
 obtain⟨y,hy,ey⟩:=Bi (AG he w.l (List.mem_cons_of_mem _ (List.mem_cons_self ..)))
 obtain⟨z,hz,ez⟩:=Bi (AG he w.r (List.mem_cons_of_mem _ (List.mem_cons_of_mem _ (List.mem_cons_self ..))))
 rw[eL,ey,ez,Bv,Bv,Bv] at hF
 refine wU 29 false I (bne_eq_false_iff_eq.2 he) (Aa (zE (zS I (zI (zE (zA (zA (zB (wP I (wB 0 I I I (wC I I (fun W hp=>(by have:=Jv L (bn0.z2 nL) W (ht.hp hp);rwa [←eL] at this)) (wP I (wU 34 (decide (L≤0)) I (Gx 0 L) ?_)))))))))))))
 refine Aa (zE ?_)
 refine Ai I (fun hL0=> ?_) (fun hL0=> ?_)
 ·refine zA (zB (wP I (Aa (zE (zO (zP ?_))))))
  rw[if_pos (of_decide_eq_true hL0)] at hF
  exact wR1 I I (by rw[hC,hF];rfl)
 rw[if_neg (of_decide_eq_false hL0)] at hF
 refine zI (zE (zA (zA (zB (wB 0 I I I (wP I (wB 0 I I I (wC I I (fun W hp=>(by have:=BJ w L y eL (hy.z2 bn0) (nL.z2 hy) p q m n W (ht.hp hp);rwa [←ey] at this)) ?_))))))))
 rw[ey]
 cases o1:Cl (Ac L) (Ac y) with
 |true=>
  refine wP I ?_
  iterate 4 refine Af I I ?_
  refine wP I (Aa (zE (zR I (zA (zB (wP I (Aa (zE (zO (zP ?_))))))))))
  rw[o1] at hF
  exact wR1 I I (by rw[hC,hF];rfl)
 |false=>
 refine wP I (wB 0 I I I (wP I (wB 0 I I I (wC I I (fun W hp=>(by have:=BJ w L z eL (hz.z2 bn0) (nL.z2 hz) p q m n W (ht.hp hp);rwa [←ez] at this)) ?_))))
 rw[ez]
 cases o2:Cl (Ac L) (Ac z) with
 |true=>
  refine wP I (Aa (zE (zR I (zA (zB (wP I (Aa (zE (zO (zP ?_))))))))))
  rw[o1,o2] at hF
  exact wR1 I I (by rw[hC,hF];rfl)
 |false=>
 refine wP I (Aa (zE (zS I (zI (zE (zA (zA (zB ?_))))))))
 rw[o1,o2,if_neg (by decide)] at hF
 refine wP I (wB 0 I I I (wP I (wB 0 I I I (wC I I (fun W hp=>(by have:=AL y z (hy.z2 hz) W (ht.hp hp);rwa [←ey, ←ez] at this)) (wP I (wU 50 (decide (z≤y)) I (Gx y z) (Aa (zE ?_))))))))
 refine Ai I (fun hzy=> ?_) (fun hzy=> ?_)
 ·refine zA (zB (wP I (Aa (zE (zO (zP ?_))))))
  rw[if_pos (of_decide_eq_true hzy)] at hF
  exact wR1 I I (by rw[hC,hF];rfl)
 rw[if_neg (of_decide_eq_false hzy)] at hF
 rw[hF,if_neg (by decide)] at hC
 refine zI (zE (zA (zA (zB (wP I (Aa (zE (zH ?_))))))))
 refine Aw (X:=Nat) (fun i=>[(1,Al b1),(2, .int .i64 0),(4, .int .i64 (i:Nat))]) (fun _=>[bwX b1 w p m q n]) (fun i=>i≤w.fs.length∧fsE w.len w.fs=fsE w.len (w.fs.drop i)) (fun i=>w.fs.length-i) 0 ⟨Nat.zero_le _,by rw[List.drop_zero]⟩ ⟨I,I,I,O⟩ [_] I ?_
 intro i hi
 obtain⟨hi,hE⟩:i≤w.fs.length∧fsE w.len w.fs=fsE w.len (w.fs.drop i):=hi
 refine zA (zA (zB (wP I (wP I (wB 0 I I I (wP I (wP I ?_)))))))
 by_cases hlt:i<w.fs.length
 ·refine wU 55 true I (dT (by omega)) (Aa (zE (zR I (zI (zE (zA (zH (zA (zB ?_)))))))))
  rw[NI hlt] at hE
  have hs24:=h.f w.fs[i] (List.getElem_mem hlt)
  obtain⟨g,off,hpe,hrow⟩:=hM.f.at_ hlt
  have hrow:=hrow i hlt
  obtain⟨⟨f1,f2⟩,hfe⟩: ∃f,f=w.fs[i]:=⟨_,rfl⟩
  rw[←hfe] at hrow hE hs24
  subst hpe
  simp only at hrow hE hs24
  refine wP I (wB 0 I I I (wP I ?_))
  refine wJ ?_
  refine wL 0 I I (fun W1 hp=>hrow.hp hp) I ?_
  (refine Ae Tryz.hZ rfl rfl rfl rfl ?_;intro)
  refine wS 1 I I I (Aa (zE (zA (zA (zB (wP I (wB 1 I I I (wP I (wB 1 I I I ?_)))))))))
  refine Ap Tryz.hZ tH I I I I I I I I I I I fun bS=> ?_
  refine wC I I (fun W hp=>Di [f1,f2] (some ⟨bS,0,none⟩) 2 (show 2≤4096 by decide) (TY hs24.1 hs24.2) W (.inr ⟨bS,0,I,Ao.of_bx hp 2 I I⟩) (ht.hp hp)) (wP I (Aa (zE (zA (zB (wP I (wP I ?_)))))))
  by_cases hn:Bp [f1,f2]=0
  rotate_left
  ·refine wU 70 true I (bne_iff_ne.2 hn) (Aa (zE (zR I (zA (zB (wP I (wP I (Aa (zE (zO (zP (zQ (zP (zP ?_))))))))))))))
   refine zQ (zP ?_)
   rw[if_pos hn] at hE
   exact wR1 I I (by rw[hC,hE,if_pos hn])
  rw[if_neg (fun h=>h hn)] at hE
  obtain⟨x,hx,rfl⟩:=Bi (AG hn f1 (List.mem_cons_self ..))
  refine wU 70 false I (bne_eq_false_iff_eq.2 hn) (Aa (zE (zS I (zI (zE (zA (zB (wB 0 I I I (wP I (wB 1 I I I (wC I I (fun W hp=>BJ w L x eL (hx.z2 bn0) (nL.z2 hx) (some ⟨g,off,none⟩) q m n W (ht.hp hp)) ?_)))))))))))
  rw[eL] at hE
  cases ho:Cl (Ac L) (Ac x) with
  |true=>
   refine Aa (zE (zR I (zA (zB (wP I (Aa (zE (zO (zQ (zP (zP (zQ (zP ?_)))))))))))))
   rw[if_pos ho, ←eL] at hE
   exact wR1 I I (by rw[hC,hE];rfl)
  |false=>
   refine Aa (zE (zS I (zI (zN (zE (zB ?_))))))
   rw[if_neg (by rw[ho];decide), ←eL] at hE
   exact wP I (wP I (wV 57 ((i+1:Nat):Int) I (An (by omega)) (wP I (Aa (Ak (i+1) ⟨hlt,hE⟩ (by show w.fs.length-(i+1)<w.fs.length-i;omega) ⟨I,I,I,O⟩ [_,_] I)))))
 rw[hE,List.drop_of_length_le (by omega)] at hC
 have hC:CC w=ssE w.len w.ss:=hC
 refine wU 55 false I (dF (by omega)) (Aa (zE (zS I (zJ (zK (zK (zL (zE (zA (zA (zB (wP I (Aa ?_)))))))))))))
 refine zE (zH ?_)
 refine Aw (X:=Nat) (fun i=>[(1,Al b1),(2, .int .i64 0),(7, .int .i64 (i:Nat))]) (fun _=>[bwX b1 w p m q n]) (fun i=>i≤w.ss.length∧CC w=ssE w.len (w.ss.drop i)) (fun i=>w.ss.length-i) 0 ⟨Nat.zero_le _,by rw[List.drop_zero];exact hC⟩ ⟨I,I,I,O⟩ [] I ?_
 clear hC hE
 intro i hi
 obtain⟨hi,hE⟩:i≤w.ss.length∧CC w=ssE w.len (w.ss.drop i):=hi
 refine zA (zA (zB (wP I (wP I (wB 0 I I I (wP I (wP I ?_)))))))
 by_cases hlt:i<w.ss.length
 ·refine wU 80 true I (dT (by omega)) (Aa (zE (zR I (zI (zE (zA (zH (zA (zB ?_)))))))))
  rw[N8 hlt] at hE
  have hs24:=h.s w.ss[i] (List.getElem_mem hlt)
  obtain⟨g,off,hpe,hrow⟩:=hM.s.at_ hlt
  have hrow:=hrow i hlt
  obtain⟨⟨f1,f2,f3⟩,hfe⟩: ∃f,f=w.ss[i]:=⟨_,rfl⟩
  rw[←hfe] at hrow hE hs24
  subst hpe
  simp only at hrow hE hs24
  refine wP I (wB 0 I I I (wP I ?_))
  refine wJ ?_
  refine wL 0 I I (fun W1 hp=>hrow.hp hp) I ?_
  (refine Ae Tryz.hZ rfl rfl rfl rfl ?_;intro)
  refine wS 1 I I I (Aa (zE (zA (zA (zB (wP I (wB 1 I I I (wP I (wB 1 I I I (wP I (wB 1 I I I ?_)))))))))))
  refine Ap Tryz.hZ tH I I I I I I I I I I I fun bS=> ?_
  refine wC I I (fun W hp=>Di [f1,f2,f3] (some ⟨bS,0,none⟩) 3 (show 3≤4096 by decide) (m24 hs24.1 hs24.2.1 hs24.2.2) W (.inr ⟨bS,0,I,Ao.of_bx hp 2 I I⟩) (ht.hp hp)) (wP I (Aa (zE (zA (zB (wP I (wP I ?_)))))))
  by_cases hn:Bp [f1,f2,f3]=0
  rotate_left
  ·refine wU 97 true I (bne_iff_ne.2 hn) (Aa (zE (zR I (zA (zB (wP I (wP I (Aa (zE (zO (zP (zQ (zP (zP ?_))))))))))))))
   refine zQ (zP ?_)
   rw[if_pos hn] at hE
   exact wR1 I I (by rw[hE])
  rw[if_neg (fun h=>h hn)] at hE
  obtain⟨x,hx,rfl⟩:=Bi (AG hn f1 (List.mem_cons_self ..))
  obtain⟨y,hy,rfl⟩:=Bi (AG hn f2 (List.mem_cons_of_mem _ (List.mem_cons_self ..)))
  refine wU 97 false I (bne_eq_false_iff_eq.2 hn) (Aa (zE (zS I (zI (zE (zA (zA (zB (wB 0 I I I (wP I (wB 1 I I I (wC I I (fun W hp=>BJ w L x eL (hx.z2 bn0) (nL.z2 hx) p (some ⟨g,off,none⟩) m n W (ht.hp hp)) ?_))))))))))))
  rw[eL] at hE
  cases o1:Cl (Ac L) (Ac x) with
  |true=>
   refine wP I ?_
   iterate 4 refine Af I I ?_
   refine wP I (Aa (zE (zR I (zA (zB (wP I (Aa (zE (zO (zP (zQ (zP (zP ?_)))))))))))))
   refine zQ (zP ?_)
   rw[o1] at hE
   exact wR1 I I (by rw[hE];rfl)
  |false=>
   refine wP I (wB 0 I I I (wP I (wB 1 I I I (wC I I (fun W hp=>BJ w L y eL (hy.z2 bn0) (nL.z2 hy) p (some ⟨g,off,none⟩) m n W (ht.hp hp)) ?_))))
   cases o2:Cl (Ac L) (Ac y) with
   |true=>
    refine wP I (Aa (zE (zR I (zA (zB (wP I (Aa (zE (zO (zP (zQ (zP (zP ?_)))))))))))))
    refine zQ (zP ?_)
    rw[o1,o2] at hE
    exact wR1 I I (by rw[hE];rfl)
   |false=>
    refine wP I (Aa (zE (zS I (zI (zE (zA (zB ?_)))))))
    rw[o1,o2,if_neg (by decide),Bv,Bv, ←eL] at hE
    refine wP I (wB 1 I I I (wP I (wB 1 I I I (wC I I (fun W hp=>AL x y (hx.z2 hy) W (ht.hp hp)) (wP I (wU 114 (decide (y≤x)) I (Gx x y) (Aa (zE ?_))))))))
    refine Ai I (fun h4=> ?_) (fun h4=> ?_)
    ·refine zA (zB (wP I (Aa (zE (zO (zQ (zP (zP (zQ (zP ?_))))))))))
     rw[if_pos (of_decide_eq_true h4)] at hE
     exact wR1 I I (by rw[hE])
    rw[if_neg (of_decide_eq_false h4)] at hE
    exact zI (zN (zE (zB (wP I (wP I (wV 82 ((i+1:Nat):Int) I (An (by omega)) (wP I (Aa (Ak (i+1) ⟨hlt,hE⟩ (by show w.ss.length-(i+1)<w.ss.length-i;omega) ⟨I,I,I,O⟩ [_,_] I)))))))))
 rw[List.drop_of_length_le (by omega)] at hE
 refine wU 80 false I (dF (by omega)) (Aa (zE (zS I (zJ (zK (zK (zL (zE (zA (zB (wP I (Aa (zE ?_)))))))))))))
 exact zO (wR1 I I (by rw[hE];rfl))
section
variable {r:Option Nat} {n:Nat} {P:Program} {W0:World} {N:Nat} {D:List Deferred} {ops:List Oper} {Q:Exit→Act→World→Prop} {o:Oper} {rest:List Oper} {env:Env} {bxs:List Bx} {A:World→Prop}
theorem Bu {d:Nat} {x:Operand} {a:Addr} (hg:Ay ops N env o=some true) (hd:o.dst=some d) (ho:o.op= .nilCheck x) (hx:evO N env x=some (.pointer (some a)))
  (h:WL r n P N D ops Q rest ((d, .pointer (some a))::env) A):WL r n P N D ops Q (o::rest) env A:=
 CE hg hd (fun c e=>by rw[ho] at e;cases e) (fun _ W hρ _=>by simp[execOp,ho,hρ _ _ hx]) h
end
-- BOXES 4
-- CODE2
abbrev sqB (c:Nat) (s:Rat):Bx:=⟨c,63,[str (Ac s), .int .i64 0],true,none⟩
abbrev sqO (s:Rat):Obj:= .cells [str (Ac s), .int .i64 0].toArray 63 (0,0)
def BZ (l:List Rat):Rat:=l.foldl (· * ·) 1
theorem O4 {l:List Rat} {i:Nat} (hi:i<l.length):BZ (l.take (i+1))=BZ (l.take i)*l[i]:=by
 unfold BZ
 rw[List.take_add_one,List.getElem?_eq_getElem hi,List.foldl_append]
 rfl
theorem Do (a:Rat):BZ [a]=a:=Rat.one_mul a
theorem Cx (a b:Rat):BZ [a,b]=a*b:=by show 1*a*b=_;rw[Rat.one_mul]
theorem IV (a b c:Rat):BZ [a,b,c]=a*b*c:=by show 1*a*b*c=_;rw[Rat.one_mul]
abbrev Oz (ef:Nat) (args:List Value) (c:Nat) (W:World) (s':Rat):Prop:=
 Calls Tryz.prog ef args.toArray W fun e W'=> ∃x:Unit,e= .returned ((fun _=> .tuple #[]) x)∧(fun _:Unit=>True) x∧II W W' c ((fun _=>c) x) ((fun _=>sqO s') x)
theorem Q1 {ef:Nat} {args:List Value} {c:Nat} {W:World} {s s':Rat} (hc:W.heap[c]? =some (sqO s))
  (h:Calls Tryz.prog ef args.toArray W fun e W'=> ∃x:Unit,e= .returned ((fun _=> .tuple #[]) x)∧(fun _:Unit=>True) x∧Below (Bg W).heap.size (Bg W) W'∧A0 (Bg W) W' ((fun _=>[Ba (Av W c),sqB c s']) x)):Oz ef args c W s':=by
 refine h.mono ?_
 rintro e W' ⟨x,he,_,hb,hn⟩
 exact⟨x,he,O,Fz hc I hb hn⟩
theorem PI {W W':World} {c:Nat} {s0 s:Rat} {bxs:List Bx} (hc:W.heap[c]? =some (sqO s0)) (hp:Hp (Bg W) (Ba (Av W c)::sqB c s::bxs) W'):E8 W W' c:=
 Hk hc ⟨_,List.mem_cons_self ..⟩ (hp.pick (l:=[Ba (Av W c),sqB c s]) [0,1] (by decide) rfl)
theorem T5:[49]=Ac (1:Rat):=((congrArg Ac (show(1:Rat)=q2 1 1 by decide+kernel)).trans ns1).symm
theorem KR (c:Nat) (s s':Rat) (neg:Bool) (l:List Rat) (p:Option Addr) (cap:Nat) (W:World) (hn:l.length≤4096) (hz: ∀i (hi:i<l.length),Sz2 (BZ (l.take i)) l[i]) (hs:Sz2 s (BZ l)) (he:s'=if neg=true then s-BZ l else s+BZ l)
  (hc:W.heap[c]? =some (sqO s)) (hf: ∀W',E8 W W' c→HF W' p (l.map Ac)∧AB W'):
  Oz 36 [Al c, .bool neg,slv p l.length cap] c W s':=by
 refine Q1 hc ?_
 refine Bm (X:=Unit) (val:=fun _=> .tuple #[]) (Φ:=fun _=>True) (nb:=fun _=>[Ba (Av W c),sqB c s']) (Hp.enterT (B:=sqB c s) I hc) Tryz.func36 I I I ?_
 refine zA (zB (wP I (Aa (zE (zA (zA (zB (wP I (Aa (zE (zH ?_)))))))))))
 refine Aw (X:=Nat) (fun i=>[(0,Al c),(1, .bool neg),(2,slv p l.length cap),(6,str (Ac (BZ (l.take i)))),(7, .int .i64 (i:Nat))]) (fun i=>[Ba (Av W c),sqB c s]) (fun i=>i≤l.length) (fun i=>l.length-i) 0 (Nat.zero_le _) ⟨I,I,I,congrArg (fun l=>some (str l)) T5,I,O⟩ [] I ?_
 intro i hi
 have hi:i≤l.length:=hi
 refine zA (zA (zB (wP I (wP I (wP I (wP I ?_))))))
 by_cases hlt:i<l.length
 ·refine wU 11 true I (dT (by omega)) (wP I (wP I ?_))
  refine Bu I I I I ?_
  refine wP I (wB 1 I I I (wP I (wP I (Aa (zE (zR I (zI (zE (zA (zH (zB ?_)))))))))))
  obtain⟨g,off,hpe,hrow⟩: ∃g off,p=some ⟨g,off,none⟩∧ ∀W1,HF W1 p (l.map Ac)→Ao W1 g (off+i*1) [str (Ac l[i])]:=by
   obtain⟨g,off,e,_⟩:=(hf W ⟨rfl,rfl,rfl,Nat.le_refl _,fun _ _ _=>rfl⟩).1.row (i:=i) (by rw[List.length_map];exact hlt)
   refine⟨g,off,e,fun W1 h1=> ?_⟩
   obtain⟨g',off',e',h2⟩:=h1.row (i:=i) (by rw[List.length_map];exact hlt)
   rw[e] at e'
   cases e'
   have:=h2 i (by rw[List.length_map];exact hlt)
   rwa [List.getElem_map] at this
  subst hpe
  refine wP I (wP I (wP I (wP I ?_)))
  refine wJ ?_
  refine wL 0 I I (fun W1 hp=>hrow W1 (hf W1 (PI hc hp)).1) I (wC I I (fun W1 hp=>(by have:=Ku (BZ (l.take i)) l[i] (hz i hlt) W1 (hf W1 (PI hc hp)).2;rwa [←O4 hlt] at this)) (wP I (wP I (wP I (wP I ?_)))))
  refine Bu I I I I ?_
  exact wP I (wS 1 I I I (Aa (zN (zE (zB (wP I (wP I (wV 20 ((i+1:Nat):Int) I (An (by omega)) (wP I (Aa (Ak (i+1) hlt (by show l.length-(i+1)<l.length-i;omega) ⟨I,I,I,I,I,O⟩ [] I)))))))))))
 have hl:l.take i=l:=List.take_of_length_le (by omega)
 rw[hl]
 refine wU 11 false I (dF (by omega)) (wP I ?_)
 iterate 5 refine Af I I ?_
 refine wP I (Aa (zE (zS I (zJ (zK (zK (zL (zE (zA (zA (zB (wP I ?_))))))))))))
 refine Bu I I I I ?_
 refine wP I (wB 1 I I I (wP I (Aa (zE (zS I (zI (zE (zA (zB (wP I (Aa ?_)))))))))))
 cases neg with
 |true=>
  have he:s-BZ l=s':=by rw[he,if_pos rfl]
  refine zE (zR I (zB (wP I (wP I (wP I ?_)))))
  refine Bu I I I I ?_
  refine wP I (wB 1 I I I (wP I (wC I I (fun W1 hp=>(by have:=GL s (BZ l) hs W1 (hf W1 (PI hc hp)).2;rwa [he] at this)) (wP I (wP I (wP I ?_))))))
  refine Bu I I I I ?_
  refine wP I (wS 1 I I I ?_)
  refine Bu I I I I ?_
  exact wP I (wS 1 I I I (Aa (Da (X:=Unit) (val:=fun _=> .tuple #[]) (Φ:=fun _=>True) (nb:=fun _=>[Ba (Av W c),sqB c s']) (fn:=Tryz.f36) tH I () I O fun W1 hp=>(hp.pick (l:=[Ba (Av W c),sqB c s']) [0,1] (by decide) I).own)))
 |false=>
  have he:s+BZ l=s':=by rw[he,if_neg (by decide)]
  refine zE (zS I (zB (wP I (wP I (wP I ?_)))))
  refine Bu I I I I ?_
  refine wP I (wB 1 I I I (wP I (wC I I (fun W1 hp=>(by have:=JL s (BZ l) hs W1 (hf W1 (PI hc hp)).2;rwa [he] at this)) (wP I (wP I (wP I ?_))))))
  refine Bu I I I I ?_
  refine wP I (wS 1 I I I ?_)
  refine Bu I I I I ?_
  exact wP I (wS 1 I I I (Aa (Da (X:=Unit) (val:=fun _=> .tuple #[]) (Φ:=fun _=>True) (nb:=fun _=>[Ba (Av W c),sqB c s']) (fn:=Tryz.f36) tH I () I O fun W1 hp=>(hp.pick (l:=[Ba (Av W c),sqB c s']) [0,1] (by decide) I).own)))
theorem DF (c:Nat) (s:Rat) (W:World) (hc:Ao W c 0 [str (Ac s), .int .i64 0]):
  Ad Tryz.prog 39 #[Al c] W (fun _:Unit=> .tuple #[str (Ac s), .int .i64 0]) (fun _=>True) (fun _=>[]):=by
 refine Ab (args:=[Al c]) Tryz.func39 I I I ?_
 refine zA (zB (wP I (wP I (Aa (zE (zA (zA (zB (wP I ?_)))))))))
 refine Bu I I I I ?_
 refine wP I (wL 1 I I (fun W1 hp=>hc.hp hp) I (wP I (Aa (zE (zS I (zI (zE (zA (zB (wP I ?_))))))))))
 refine Bu I I I I ?_
 exact wP I (wL 0 I I (fun W1 hp=>hc.hp hp) I (wP I (wP I (Aa (zE (zO (wR2 I I I)))))))
theorem C6 {W0 W1:World} {bxs:List Bx} (hp:Hp W0 bxs W1) (k j:Nat) {c g:Nat} {s:Rat} {t:TypeId} (l:List Rat) (hk:bxs[k]? =some (sqB c s)) (hj:bxs[j]? =some ⟨g,t,l.map fun q=>str (Ac q),true,none⟩) (hj2:nth bxs j=some ⟨g,t,l.map fun q=>str (Ac q),true,none⟩) (hjk:j≠k) (ht:AB W0) (neg:Bool) (cap:Nat) (s':Rat) (hn:l.length≤4096)
  (hz: ∀i (hi:i<l.length),Sz2 (BZ (l.take i)) l[i]) (hs:Sz2 s (BZ l)) (he:s'=if neg=true then s-BZ l else s+BZ l):
  Oz 36 [Al c, .bool neg,slv (some ⟨g,0,none⟩) l.length cap] c W1 s':=by
 have hcell:=hp.own.cell k _ hk (c,sqO s) (List.mem_cons_self ..)
 have hne:g≠c:=hp.own.apart j k _ _ hj hk hjk (g, .cells (l.map fun q=>str (Ac q)).toArray t (0,0)) (List.mem_cons_self ..) (c,sqO s) (List.mem_cons_self ..)
 have hrow:Ao W1 g 0 (l.map fun q=>str (Ac q)):=Ao.of_bx hp j hj2 rfl
 refine KR c s s' neg l (some ⟨g,0,none⟩) cap W1 hn hz hs he hcell.1 fun W2 hk2=>⟨.inr ⟨g,0,I, ?_⟩,ht.below (hk2.below hp.below hcell.2)⟩
 rw[List.map_map]
 exact Ao.keep hrow hne hk2
theorem sz1:szQ (1:Rat) 1:=⟨by decide,by decide⟩
theorem pz1 {a:Rat} {k:Nat} (ha:szQ a k) (hk:k≤290): ∀i (hi:i<[a].length),Sz2 (BZ ([a].take i)) [a][i]:=fun i hi=>by
 obtain rfl:i=0:=by simp at hi;exact hi
 exact sz2 sz1 ha (by omega)
theorem pz2 {a b:Rat} {k:Nat} (ha:szQ a k) (hk:k≤290) (h:Sz2 a b): ∀i (hi:i<[a,b].length),Sz2 (BZ ([a,b].take i)) [a,b][i]:=fun i hi=>by
 have hi2:i<2:=hi
 rcases(show i=0∨i=1 by omega) with rfl|rfl
 ·exact sz2 sz1 ha (by omega)
 ·show Sz2 (BZ [a]) b
  rw[Do];exact h
theorem pz3 {a b c:Rat} {k:Nat} (ha:szQ a k) (hk:k≤290) (h:Sz2 a b) (h3:Sz2 (a*b) c): ∀i (hi:i<[a,b,c].length),Sz2 (BZ ([a,b,c].take i)) [a,b,c][i]:=fun i hi=>by
 have hi2:i<3:=hi
 rcases(show i=0∨i=1∨i=2 by omega) with rfl|rfl|rfl
 ·exact sz2 sz1 ha (by omega)
 ·show Sz2 (BZ [a]) b
  rw[Do];exact h
 ·show Sz2 (BZ [a,b]) c
  rw[Cx];exact h3
structure BmX (b:BmP):Prop where
 e:CC b.w=0
 c:BmC b
 sh:b.w.Short
theorem BmX.chk {b:BmP} (h:BmX b) (p q:Option Addr) (m n:Nat) (W:World) (hM:BwM W b.w p q):
  Ad Tryz.prog 18 #[bmV b p m q n] W (fun _:Unit=> .int .i64 0) (fun _=>True) (fun _=>[]):=by
 have:=CU b.w h.sh p q m n W hM
 rwa [GD,h.e] at this
theorem Rt {b:BmP} (hL:b.Lies) {i:Nat} (hi:i<b.fs.length):Be b b.len (i+1)=Be b b.len i++[b.fs[i]]:=by
 rw[EY hi,if_pos (hL.f1 _ (List.getElem_mem hi))]
theorem Jr {b:BmP} (hL:b.Lies) {s:Rat×Rat×Rat} (hs:s∈b.ss):F1 b.len s=some ((s.1+s.2.1)/2,s.2.2*(s.2.1-s.1)):=by
 unfold F1
 rw[if_neg (Rat.not_lt.2 (hL.s2 s hs)),if_pos (hL.s1 s hs)]
theorem QD {b:BmP} (hL:b.Lies) {i:Nat} (hi:i<b.ss.length):CD b b.len (i+1)=CD b b.len i++[((b.ss[i].1+b.ss[i].2.1)/2,b.ss[i].2.2*(b.ss[i].2.1-b.ss[i].1))]:=by
 rw[EH hi,Jr hL (List.getElem_mem hi)]
 rfl
theorem FO (b:BmP) (h:BmX b) (hz:RcZ b) (p q:Option Addr) (m n:Nat) (W:World) (hM:BwM W b.w p q):
  Ad Tryz.prog 16 #[bmV b p m q n] W (fun _:Unit=> .tuple #[str (Ac b.total), .int .i64 0]) (fun _=>True) (fun _=>[]):=by
 have hL:=h.c.lies
 have hm:=hM.m
 have hlf:=h.c.lf
 have hls:=h.c.ls
 refine Ab (args:=[bmV b p m q n]) Tryz.func16 I I I ?_
 refine zA (zB ?_)
 (refine Az rfl rfl rfl rfl ?_;intro)
 refine wP I (wP I (Aa ?_))
 rename_i b1
 refine zE (zA (zA (zB (wB 0 I I I (wC I I (fun W hp=>h.chk p q m n W (hM.hp hp)) (wP I (Aa (zE (zS I (zI (zE (zA (zB ?_)))))))))))))
 refine Au Tryz.hZ tH I I I I I I I I ?_
 (refine Ae Tryz.hZ rfl rfl rfl rfl ?_;intro)
 refine wS 1 I I I (Aa ?_)
 rename_i b4
 refine Gk (bxs':=[bmB b1 b p m q n,sqB b4 0]) (by show _=[bmB b1 b p m q n,(⟨b4,63,[str (Ac 0), .int .i64 0],true,none⟩:Bx)];rw[B0];rfl) ?_
 refine zE (zA (zA (zB (wP I (Aa (zE (zH ?_)))))))
 refine Aw (X:=Nat) (fun i=>[(1,Al b1),(4,Al b4),(5, .int .i64 (i:Nat))]) (fun i=>[bmB b1 b p m q n,sqB b4 (AC tW 0 (Be b b.len i))]) (fun i=>i≤b.fs.length) (fun i=>b.fs.length-i) 0 (Nat.zero_le _) ⟨I,I,I,O⟩ [] I ?_
 intro i hi
 have hi:i≤b.fs.length:=hi
 refine zA (zA (zB (wP I (wP I (wB 0 I I I (wP I (wP I ?_)))))))
 by_cases hlt:i<b.fs.length
 ·refine wU 16 true I (dT (by omega)) (Aa (zE (zR I (zI (zE (zA (zH (zB ?_))))))))
  have hs1:=hz.w _ _ _ (Eb hlt (hL.f1 _ (List.getElem_mem hlt)))
  have he:=congrArg (AC tW 0) (Rt hL hlt)
  rw[BU] at he
  obtain⟨s,hs⟩: ∃s,s=AC tW 0 (Be b b.len i):=⟨_,rfl⟩
  obtain⟨f,hfe⟩: ∃f,f=b.fs[i]:=⟨_,rfl⟩
  have hfm:f∈b.fs:=hfe▸List.getElem_mem hlt
  obtain⟨n1,n2⟩:=h.c.f f hfm
  obtain⟨g,off,hpe,hrow⟩:=hm.f.at_ hlt
  have hrow:=hrow i hlt
  rw[←hfe] at hrow hs1 he
  rw[←hs] at hs1 he
  rw[←hs]
  subst hpe
  refine wP I (wB 0 I I I (wP I ?_))
  refine wJ ?_
  refine wP I (wL 1 I I (fun W1 hp=>hrow.hp hp) I ?_)
  refine Ap Tryz.hZ tH I I I I I I I I I I I fun bS=> ?_
  refine AT (X:=Unit) (val:=fun _=> .tuple #[]) (Φ:=fun _=>True) (capt:=[]) 1 (B:=sqB b4 s) (L1:=[]) (L2:=[]) (b:=b4) (ob:=sqO s) (fun _=>sqB b4 (AC tW 0 (Be b b.len (i+1)))) (g':=fun _=>b4) (o':=fun _=>sqO (AC tW 0 (Be b b.len (i+1))))
   rfl rfl rfl rfl rfl rfl (by kernel_rfl) rfl rfl (fun _ _=>rfl) (fun W1 hp=>C6 hp 1 2 [f.2] rfl rfl rfl (by decide) hM.t false 1 _ (show 1≤4096 by decide) (pz1 n2.sz (by decide)) (by rw[Do];exact hs1) (by rw[if_neg (by decide),Do,he];rfl)) (fun _ _=> ?_)
  exact Aa (zN (zE (zB (wP I (wP I (wV 18 ((i+1:Nat):Int) I (An (by omega)) (wP I (Aa (Ak (i+1) hlt (by show b.fs.length-(i+1)<b.fs.length-i;omega) ⟨I,I,I,O⟩ [_] I)))))))))
 obtain rfl:i=b.fs.length:=by omega
 refine wU 16 false I (dF (by omega)) (Aa (zE (zS I (zJ (zK (zK (zL (zE (zA (zA (zB (wP I (Aa ?_)))))))))))))
 refine zE (zH ?_)
 refine Aw (X:=Nat) (fun i=>[(1,Al b1),(4,Al b4),(6, .int .i64 (i:Nat))]) (fun i=>[bmB b1 b p m q n,sqB b4 (AC tW 0 (Be b b.len b.fs.length++CD b b.len i))]) (fun i=>i≤b.ss.length) (fun i=>b.ss.length-i) 0 (Nat.zero_le _) ⟨I,I,I,O⟩ [] (by show _=[bmB b1 b p m q n,sqB b4 (AC tW 0 (Be b b.len b.fs.length++[]))];rw[List.append_nil]) ?_
 intro i hi
 have hi:i≤b.ss.length:=hi
 refine zA (zA (zB (wP I (wP I (wB 0 I I I (wP I (wP I ?_)))))))
 by_cases hlt:i<b.ss.length
 ·refine wU 31 true I (dT (by omega)) (Aa (zE (zR I (zI (zE (zA (zH (zA (zB ?_)))))))))
  have hs1:=hz.w _ _ _ (Eh hlt (Jr hL (List.getElem_mem hlt)))
  have he:=congrArg (fun l=>AC tW 0 (Be b b.len b.fs.length++l)) (QD hL hlt)
  rw[←List.append_assoc,BU] at he
  obtain⟨s,hs⟩: ∃s,s=AC tW 0 (Be b b.len b.fs.length++CD b b.len i):=⟨_,rfl⟩
  obtain⟨f,hfe⟩: ∃f,f=b.ss[i]:=⟨_,rfl⟩
  have hfm:f∈b.ss:=hfe▸List.getElem_mem hlt
  obtain⟨n1,n2,n3⟩:=h.c.s f hfm
  obtain⟨g,off,hpe,hrow⟩:=hm.s.at_ hlt
  have hrow:=hrow i hlt
  rw[←hfe] at hrow hs1 he
  rw[←hs] at hs1 he
  rw[←hs]
  subst hpe
  refine wP I (wB 0 I I I (wP I ?_))
  refine wJ ?_
  refine wL 0 I I (fun W1 hp=>hrow.hp hp) I ?_
  (refine Ae Tryz.hZ rfl rfl rfl rfl ?_;intro)
  refine wS 2 I I I (Aa ?_)
  rename_i b7
  refine zE ?_
  refine BA (X:=Unit) [true,true,true,true,true,true,true,false,false] (fun _=>[(1,Al b1),(4,Al b4),(6, .int .i64 (i:Nat))]) (fun _=>[bmB b1 b p m (some ⟨g,off,none⟩) n,sqB b4 (AC tW 0 (Be b b.len b.fs.length++CD b b.len (i+1)))])
   2 [bmB b1 b p m (some ⟨g,off,none⟩) n,sqB b4 s,⟨b7,59,[str (Ac f.1),str (Ac f.2.1),str (Ac f.2.2)],true,none⟩] Tryz.mixed (by kernel_rfl) ?_ ?_
  ·refine qP I (qB 2 I I I (qP I (qB 2 I I I (qP I (qB 2 I I I (qC I I (fun W1 hp=>AV f.2.1 f.1 (n2.z2 n1) W1 (hM.t.hp hp)) (Dr (wX (wZ ?_)))))))))
   refine Ap Tryz.hZ tH I I I I I I I I I I I fun bS=> ?_
   refine Aa (At (wX (wZ ?_)))
   refine AT (X:=Unit) (val:=fun _=> .tuple #[]) (Φ:=fun _=>True) (capt:=[]) 1 (B:=sqB b4 s) (L1:=[]) (L2:=[]) (b:=b4) (ob:=sqO s) (fun _=>sqB b4 (AC tW 0 (Be b b.len b.fs.length++CD b b.len (i+1)))) (g':=fun _=>b4) (o':=fun _=>sqO (AC tW 0 (Be b b.len b.fs.length++CD b b.len (i+1)))) I I I I I I (by kernel_rfl) I I (fun _ _=>rfl) (fun W1 hp=>C6 hp 1 3 [f.2.2,f.2.1-f.1] I I I (by decide) hM.t false 2 _ (show 2≤4096 by decide) (pz2 n3.sz (by decide) (sz2 n3.sz (n2.sz.sub n1.sz) (by decide))) (by rw[Cx];exact hs1) (by rw[if_neg (by decide),Cx,he];rfl)) (fun _ _=> ?_)
   refine Aa (At ?_)
   refine AO I (by kernel_rfl) ?_
   exact AI () ⟨I,I,I,O⟩ [0,1] (by decide) I
  intro _
  exact zN (zE (zB (wP I (wP I (wV 33 ((i+1:Nat):Int) I (An (by omega)) (wP I (Aa (Ak (i+1) hlt (by show b.ss.length-(i+1)<b.ss.length-i;omega) ⟨I,I,I,O⟩ [] I))))))))
 obtain rfl:i=b.ss.length:=by omega
 rw[FS]
 refine wU 31 false I (dF (by omega)) (Aa (zE (zS I (zJ (zK (zK (zL (zE (zA (zB (wC I I (fun W1 hp=>DF b4 (AC tW 0 (b.pts b.len)) W1 (Ao.of_bx hp 1 I I)) (wP I (wP I (wP I (wP I ?_)))))))))))))))
 exact Aa (zE (zO (wR2 I I (by rw[G3]))))
-- BOXES 4
-- CODE2
theorem CF (b:BmP) (h:BmX b) (hz:RcZ b) (p q:Option Addr) (m n:Nat) (W:World) (hM:BwM W b.w p q):
  Ad Tryz.prog 10 #[bmV b p m q n] W (fun _:Unit=> .tuple #[str (Ac b.left),str (Ac b.right), .int .i64 0]) (fun _=>True) (fun _=>[]):=by
 have hL:=h.c.lies
 have hm:=hM.m
 have hlf:=h.c.lf
 have hls:=h.c.ls
 refine Ab (args:=[bmV b p m q n]) Tryz.func10 I I I ?_
 refine zA (zB ?_)
 (refine Az rfl rfl rfl rfl ?_;intro)
 refine wP I (wP I (wP I (Aa ?_)))
 rename_i b1
 refine zE (zA (zB (wB 0 I I I (wC I I (fun W hp=>FO b h hz p q m n W (hM.hp hp)) ?_))))
 iterate 5 refine wP I ?_
 refine Aa (zE (zA (zA (zB (wP I (wP I (Aa (zE (zS I (zI (zE (zA (zB ?_)))))))))))))
 refine Au Tryz.hZ tH I I I I I I I I ?_
 (refine Ae Tryz.hZ rfl rfl rfl rfl ?_;intro)
 refine wS 1 I I I (Aa ?_)
 rename_i b7
 refine Gk (bxs':=[bmB b1 b p m q n,sqB b7 0]) (by show _=[bmB b1 b p m q n,(⟨b7,63,[str (Ac 0), .int .i64 0],true,none⟩:Bx)];rw[B0];rfl) ?_
 refine zE (zA (zA (zB (wP I (Aa (zE (zH ?_)))))))
 refine Aw (X:=Nat) (fun i=>[(1,Al b1),(5,str (Ac b.total)),(7,Al b7),(8, .int .i64 (i:Nat))]) (fun i=>[bmB b1 b p m q n,sqB b7 (AC (tT b.l) 0 (Be b b.len i))]) (fun i=>i≤b.fs.length) (fun i=>b.fs.length-i) 0 (Nat.zero_le _) ⟨I,I,I,I,O⟩ [] I ?_
 intro i hi
 have hi:i≤b.fs.length:=hi
 refine zA (zA (zB (wP I (wP I (wB 0 I I I (wP I (wP I ?_)))))))
 by_cases hlt:i<b.fs.length
 ·refine wU 27 true I (dT (by omega)) (Aa (zE (zR I (zI (zE ?_)))))
  obtain⟨z1,z2,z3⟩:=hz.t _ _ _ (Eb hlt (hL.f1 _ (List.getElem_mem hlt)))
  have he:=congrArg (AC (tT b.l) 0) (Rt hL hlt)
  rw[BU] at he
  obtain⟨s,hs⟩: ∃s,s=AC (tT b.l) 0 (Be b b.len i):=⟨_,rfl⟩
  obtain⟨f,hfe⟩: ∃f,f=b.fs[i]:=⟨_,rfl⟩
  have hfm:f∈b.fs:=hfe▸List.getElem_mem hlt
  obtain⟨n1,n2⟩:=h.c.f f hfm
  obtain⟨g,off,hpe,hrow⟩:=hm.f.at_ hlt
  have hrow:=hrow i hlt
  rw[←hfe] at hrow z1 z2 z3 he
  rw[←hs] at z3 he
  rw[←hs]
  subst hpe
  refine Ax (EN ?_)
  refine BA (X:=Unit) [true,true,true,true,true,true,true,true,true,true,true,true,true,true,true,false,false] (fun _=>[(1,Al b1),(5,str (Ac b.total)),(7,Al b7),(8, .int .i64 (i:Nat))]) (fun _=>[bmB b1 b (some ⟨g,off,none⟩) m q n,sqB b7 (AC (tT b.l) 0 (Be b b.len (i+1)))])
   2 [bmB b1 b (some ⟨g,off,none⟩) m q n,sqB b7 s] Tryz.mixed (by kernel_rfl) ?_ ?_
  ·refine qP I (qB 0 I I I (qP I ?_))
   refine qJ ?_
   refine qP I (qL 1 I I (fun W1 hp=>hrow.hp hp) I (qP I (qB 0 I I I (qP I ?_))))
   refine qJ ?_
   refine qP I (qL 0 I I (fun W1 hp=>hrow.hp hp) I (qP I (qB 0 I I I (qC I I (fun W1 hp=>AV f.1 b.l z1 W1 (hM.t.hp hp)) (Dr (wX (wZ ?_)))))))
   refine Ap Tryz.hZ tH I I I I I I I I I I I fun bS=> ?_
   refine Aa (At (wX (wZ ?_)))
   refine AT (X:=Unit) (val:=fun _=> .tuple #[]) (Φ:=fun _=>True) (capt:=[]) 1 (B:=sqB b7 s) (L1:=[]) (L2:=[]) (b:=b7) (ob:=sqO s) (fun _=>sqB b7 (AC (tT b.l) 0 (Be b b.len (i+1)))) (g':=fun _=>b7) (o':=fun _=>sqO (AC (tT b.l) 0 (Be b b.len (i+1)))) I I I I I I (by kernel_rfl) I I (fun _ _=>rfl) (fun W1 hp=>C6 hp 1 2 [f.2,f.1-b.l] I I I (by decide) hM.t false 2 _ (show 2≤4096 by decide) (pz2 n2.sz (by decide) z2) (by rw[Cx];exact z3) (by rw[if_neg (by decide),Cx,he];rfl)) (fun _ _=> ?_)
   refine Aa (At ?_)
   refine AO I (by kernel_rfl) ?_
   exact AI () ⟨I,I,I,I,O⟩ [0,1] (by decide) I
  intro _
  exact zN (zE (zB (wP I (wP I (wV 29 ((i+1:Nat):Int) I (An (by omega)) (wP I (Aa (Ak (i+1) hlt (by show b.fs.length-(i+1)<b.fs.length-i;omega) ⟨I,I,I,I,O⟩ [] I))))))))
 obtain rfl:i=b.fs.length:=by omega
 refine wU 27 false I (dF (by omega)) (Aa (zE (zS I (zJ (zK (zK (zL (zE (zA (zA (zB (wP I (Aa ?_)))))))))))))
 refine zE (zH ?_)
 refine Aw (X:=Nat) (fun i=>[(1,Al b1),(5,str (Ac b.total)),(7,Al b7),(9, .int .i64 (i:Nat))]) (fun i=>[bmB b1 b p m q n,sqB b7 (AC (tT b.l) 0 (Be b b.len b.fs.length++CD b b.len i))]) (fun i=>i≤b.ss.length) (fun i=>b.ss.length-i) 0 (Nat.zero_le _) ⟨I,I,I,I,O⟩ [] (by show _=[bmB b1 b p m q n,sqB b7 (AC (tT b.l) 0 (Be b b.len b.fs.length++[]))];rw[List.append_nil]) ?_
 intro i hi
 have hi:i≤b.ss.length:=hi
 refine zA (zA (zB (wP I (wP I (wB 0 I I I (wP I (wP I ?_)))))))
 by_cases hlt:i<b.ss.length
 ·refine wU 51 true I (dT (by omega)) (Aa (zE (zR I (zI (zE (zA (zH (zA (zB ?_)))))))))
  obtain⟨z1,z2,z3⟩:=hz.t _ _ _ (Eh hlt (Jr hL (List.getElem_mem hlt)))
  have he:=congrArg (fun l=>AC (tT b.l) 0 (Be b b.len b.fs.length++l)) (QD hL hlt)
  simp only at z1 z2 z3
  rw[←List.append_assoc,BU] at he
  obtain⟨s,hs⟩: ∃s,s=AC (tT b.l) 0 (Be b b.len b.fs.length++CD b b.len i):=⟨_,rfl⟩
  obtain⟨f,hfe⟩: ∃f,f=b.ss[i]:=⟨_,rfl⟩
  have hfm:f∈b.ss:=hfe▸List.getElem_mem hlt
  obtain⟨n1,n2,n3⟩:=h.c.s f hfm
  obtain⟨g,off,hpe,hrow⟩:=hm.s.at_ hlt
  have hrow:=hrow i hlt
  rw[←hfe] at hrow z1 z2 z3 he
  rw[←hs] at z3 he
  rw[←hs]
  subst hpe
  have k3:=n3.sz
  have k1:=n2.sz.sub n1.sz
  refine wP I (wB 0 I I I (wP I ?_))
  refine wJ ?_
  refine wL 0 I I (fun W1 hp=>hrow.hp hp) I ?_
  (refine Ae Tryz.hZ rfl rfl rfl rfl ?_;intro)
  refine wS 2 I I I (Aa ?_)
  rename_i b10
  refine zE ?_
  refine BA (X:=Unit) [true,true,true,true,true,true,true,true,true,true,true,true,true,true,true,false,false] (fun _=>[(1,Al b1),(5,str (Ac b.total)),(7,Al b7),(9, .int .i64 (i:Nat))]) (fun _=>[bmB b1 b p m (some ⟨g,off,none⟩) n,sqB b7 (AC (tT b.l) 0 (Be b b.len b.fs.length++CD b b.len (i+1)))])
   2 [bmB b1 b p m (some ⟨g,off,none⟩) n,sqB b7 s,⟨b10,59,[str (Ac f.1),str (Ac f.2.1),str (Ac f.2.2)],true,none⟩] Tryz.mixed (by kernel_rfl) ?_ ?_
  ·refine qP I (qB 2 I I I (qP I (qB 2 I I I (qP I (qB 2 I I I (qC I I (fun W1 hp=>AV f.2.1 f.1 (n2.z2 n1) W1 (hM.t.hp hp)) (qP I (qB 2 I I I (qP I (qB 2 I I I (qC I I (fun W1 hp=>GF f.1 f.2.1 (n1.z2 n2) (sz2 (n1.sz.add n2.sz) PS (by decide)) W1 (hM.t.hp hp)) (qP I (qB 0 I I I ?_)))))))))))))
   refine qC I I (fun W1 hp=>AV ((f.1+f.2.1)/2) b.l z1 W1 (hM.t.hp hp)) (Dr (wX (wZ ?_)))
   refine Ap Tryz.hZ tH I I I I I I I I I I I fun bS=> ?_
   refine Aa (At (wX (wZ ?_)))
   refine AT (X:=Unit) (val:=fun _=> .tuple #[]) (Φ:=fun _=>True) (capt:=[]) 1 (B:=sqB b7 s) (L1:=[]) (L2:=[]) (b:=b7) (ob:=sqO s) (fun _=>sqB b7 (AC (tT b.l) 0 (Be b b.len b.fs.length++CD b b.len (i+1)))) (g':=fun _=>b7) (o':=fun _=>sqO (AC (tT b.l) 0 (Be b b.len b.fs.length++CD b b.len (i+1)))) I I I I I I (by kernel_rfl) I I (fun _ _=>rfl) (fun W1 hp=>C6 hp 1 3 [f.2.2,f.2.1-f.1,(f.1+f.2.1)/2-b.l] I I I (by decide) hM.t false 3 _ (show 3≤4096 by decide) (pz3 k3 (by decide) (sz2 k3 k1 (by decide)) z2) (by rw[IV];exact z3) (by rw[if_neg (by decide),IV,he];rfl)) (fun _ _=> ?_)
   refine Aa (At ?_)
   refine AO I (by kernel_rfl) ?_
   exact AI () ⟨I,I,I,I,O⟩ [0,1] (by decide) I
  intro _
  exact zN (zE (zB (wP I (wP I (wV 53 ((i+1:Nat):Int) I (An (by omega)) (wP I (Aa (Ak (i+1) hlt (by show b.ss.length-(i+1)<b.ss.length-i;omega) ⟨I,I,I,I,O⟩ [] I))))))))
 obtain rfl:i=b.ss.length:=by omega
 rw[FS, ←HJ]
 refine wU 51 false I (dF (by omega)) (Aa (zE (zS I (zJ (zK (zK (zL (zE (zA (zB (wC I I (fun W1 hp=>DF b7 b.turn W1 (Ao.of_bx hp 1 I I)) ?_)))))))))))
 iterate 5 refine wP I ?_
 refine Aa (zE (zA (zA (zB (wP I (wP I (Aa (zE (zS I (zI (zE (zA (zB ?_)))))))))))))
 refine wP I (wP I (wB 0 I I I (wP I (wB 0 I I I (wC I I (fun W1 hp=>AV b.r b.l hz.d1 W1 (hM.t.hp hp)) (wC I I (fun W1 hp=>Oy b.turn (b.r-b.l) hz.d2 hz.nz W1 (hM.t.hp hp)) ?_))))))
 iterate 5 refine wP I ?_
 refine Aa (zE (zA (zA (zB (wP I (wP I (Aa (zE (zS I (zI (zE (zA (zB ?_)))))))))))))
 refine wP I (wP I (wC I I (fun W1 hp=>GL b.total b.right hz.s W1 (hM.t.hp hp)) ?_))
 iterate 5 refine wP I ?_
 refine Aa (zE (zA (zA (zB (wP I (wP I (Aa (zE (zS I (zI (zE (zA (zB ?_)))))))))))))
 iterate 5 refine wP I ?_
 exact Aa (zE (zO (wR3 I I I)))
theorem IA (w:BmW) (h:w.Short) (he:CC w≠0) (p q:Option Addr) (m n:Nat) (W:World) (hM:BwM W w p q):
  Ad Tryz.prog 16 #[bwV w p m q n] W (fun _:Unit=> .tuple #[str [], .int .i64 1]) (fun _=>True) (fun _=>[]):=by
 refine Ab (args:=[bwV w p m q n]) Tryz.func16 I I I ?_
 refine zA (zB ?_)
 (refine Az rfl rfl rfl rfl ?_;intro)
 refine wP I (wP I (Aa (zE (zA (zA (zB (wB 0 I I I (wC I I (fun W hp=>CU w h p q m n W (hM.hp hp)) (wP I (wU 10 true I (bne_iff_ne.2 he) (Aa (zE (zR I ?_)))))))))))))
 exact zA (zB (wP I (wP I (Aa (zE (zO (zP (wR2 I I I))))))))
theorem IJ (w:BmW) (h:w.Short) (he:CC w≠0) (p q:Option Addr) (m n:Nat) (W:World) (hM:BwM W w p q):
  Ad Tryz.prog 10 #[bwV w p m q n] W (fun _:Unit=> .tuple #[str [],str [], .int .i64 1]) (fun _=>True) (fun _=>[]):=by
 refine Ab (args:=[bwV w p m q n]) Tryz.func10 I I I ?_
 refine zA (zB ?_)
 (refine Az rfl rfl rfl rfl ?_;intro)
 refine wP I (wP I (wP I (Aa (zE (zA (zB (wB 0 I I I (wC I I (fun W hp=>IA w h he p q m n W (hM.hp hp)) ?_))))))))
 iterate 5 refine wP I ?_
 refine Aa (zE (zA (zA (zB (wP I (wP I (Aa (zE (zR I (zA (zB (wP I (wP I (wP I (wP I ?_)))))))))))))))
 exact Aa (zE (zO (zP (wR3 I I I))))
def F2 (w:BmW) (a:List UInt8):Int:=if CC w≠0 then 1 else if (rdR a).2≠0 then(rdR a).2 else if Cl w.len a=true then 2 else 0
theorem Ek (w:BmW) (h:w.Short) (a:List UInt8) (ha:a.length≤24) (p q:Option Addr) (m n:Nat) (W:World) (hM:BwM W w p q):
  Ad Tryz.prog 44 #[bwV w p m q n,str a] W (fun _:Unit=> .int .i64 (F2 w a)) (fun _=>True) (fun _=>[]):=by
 have ht:=hM.t
 unfold F2
 refine Ab (args:=[bwV w p m q n,str a]) Tryz.func44 I I I ?_
 refine zA (zB ?_)
 (refine Az rfl rfl rfl rfl ?_;intro)
 refine wP I (Aa (zE (zA (zA (zB (wB 0 I I I (wC I I (fun W hp=>CU w h p q m n W (hM.hp hp)) (wP I ?_))))))))
 by_cases he:CC w=0
 rotate_left
 ·exact wU 11 true I (bne_iff_ne.2 he) (Aa (zE (zR I (zA (zB (wP I (Aa (zE (zO (zP (wR1 I I (by rw[if_pos he]))))))))))))
 obtain⟨b,hb,rfl⟩:=Ii he
 refine wU 11 false I (bne_eq_false_iff_eq.2 he) (Aa ?_)
 rw[if_neg (fun h=>h he)]
 refine zE (zS I (zI (zE (zA (zA (zB (wP I (wC I I (fun W1 hp=>Fs a (by omega) W1 (ht.hp hp)) (wP I (Aa (zE (zA (zB ?_)))))))))))))
 refine wP I (wP I ?_)
 by_cases h2:(rdR a).2=0
 rotate_left
 ·exact wU 15 true I (bne_iff_ne.2 h2) (Aa (zE (zR I (zA (zB (wP I (wP I (Aa (zE (zO (zP (wR1 I I (by rw[if_pos h2])))))))))))))
 rw[if_neg (fun h=>h h2)]
 obtain⟨x,hx,rfl⟩:=Gz h2
 have hs:=IU ha
 have l1:=BE 24 x.num.natAbs (by decide) hs.1
 have l2:=BE 24 x.den (by decide) hs.2
 refine wU 15 false I (bne_eq_false_iff_eq.2 h2) (Aa (zE (zS I (zI (zE (zA (zA (zB (wP I (wC I I (fun W1 hp=>Hn hx W1 (ht.hp hp)) ?_))))))))))
 iterate 7 refine wP I ?_
 refine Aa (zE (zA (zB (wP I (wC I I (fun W1 _=>F5 x.num (Lp hx) W1) (wP I (wU 25 false I (dF (by omega)) (wP I (wP I (wP I ?_))))))))))
 refine Ag 28 (.int .i64 ((decDigits x.den).length:Nat)) I (congrArg (fun n:Nat=>Value.int .i64 (n:Int)) (As _)) ?_
 refine wP I (wU 29 false I (dF (by omega)) (wP I (Aa (zE (zS I (zI (zE (zA (zA (zB (wB 0 I I I (wP I (wC I I (fun W hp=>BJ b.w b.len x I (sz2 hs bn0.sz (by decide)) (sz2 hb.len.sz hs (by decide)) p q m n W (ht.hp hp)) ?_)))))))))))))
 refine Aa (zE ?_)
 refine Ai I (fun ho=> ?_) (fun ho=> ?_)
 ·exact zA (zB (wP I (Aa (zE (zO (zP (wR1 I I (by rw[if_pos (show Cl b.w.len (Ac x)=true from ho)]))))))))
 ·exact zI (zE (zA (zB (wP I (Aa (zE (zO (wR1 I I (by rw[if_neg (by rw[show Cl b.w.len (Ac x)=false from ho];decide)])))))))))
-- BOXES 4
theorem Qo (w:BmW) (h:w.Short) (he:CC w≠0) (p q:Option Addr) (m n:Nat) (W:World) (hM:BwM W w p q):
  Ad Tryz.prog 15 #[bwV w p m q n] W (fun _:Unit=> .tuple #[str [], .int .i64 1]) (fun _=>True) (fun _=>[]):=by
 refine Ab (args:=[bwV w p m q n]) Tryz.func15 I I I ?_
 refine zA (zB ?_)
 (refine Az rfl rfl rfl rfl ?_;intro)
 refine wP I (wP I (Aa (zE (zA (zA (zB (wB 0 I I I (wC I I (fun W hp=>Dp w h p q m n W (hM.hp hp)) (wP I (wU 6 true I (bne_iff_ne.2 he) (Aa (zE (zR I ?_)))))))))))))
 exact zA (zB (wP I (wP I (Aa (zE (zO (zP (wR2 I I I))))))))
theorem KO (w:BmW) (h:w.Short) (he:CC w≠0) (p q:Option Addr) (m n:Nat) (W:World) (hM:BwM W w p q):
  Ad Tryz.prog 9 #[bwV w p m q n] W (fun _:Unit=> .tuple #[str [],str [], .int .i64 1]) (fun _=>True) (fun _=>[]):=by
 refine Ab (args:=[bwV w p m q n]) Tryz.func9 I I I ?_
 refine zA (zB ?_)
 (refine Az rfl rfl rfl rfl ?_;intro)
 refine wP I (wP I (wP I (Aa (zE (zA (zA (zB (wB 0 I I I (wC I I (fun W hp=>Dp w h p q m n W (hM.hp hp)) (wP I (wU 9 true I (bne_iff_ne.2 he) (Aa (zE ?_)))))))))))))
 exact zR I (zA (zB (wP I (wP I (wP I (Aa (zE (zO (zP (wR3 I I I))))))))))
theorem GE (w:BmW) (h:w.Short) (a:List UInt8) (ha:a.length≤24) (p q:Option Addr) (m n:Nat) (W:World) (hM:BwM W w p q):
  Ad Tryz.prog 42 #[bwV w p m q n,str a] W (fun _:Unit=> .int .i64 (F2 w a)) (fun _=>True) (fun _=>[]):=by
 have hv:=hM.v
 have ht:=hM.t
 unfold F2
 refine Ab (args:=[bwV w p m q n,str a]) Tryz.func42 I I I ?_
 refine zA (zB ?_)
 (refine Az rfl rfl rfl rfl ?_;intro)
 refine wP I (Aa (zE (zA (zA (zB (wB 0 I I I (wC I I (fun W hp=>Dp w h p q m n W (hM.hp hp)) (wP I ?_))))))))
 by_cases he:CC w=0
 rotate_left
 ·exact wU 11 true I (bne_iff_ne.2 he) (Aa (zE (zR I (zA (zB (wP I (Aa (zE (zO (zP (wR1 I I (by rw[if_pos he]))))))))))))
 obtain⟨b,hb,rfl⟩:=Ii he
 refine wU 11 false I (bne_eq_false_iff_eq.2 he) (Aa ?_)
 rw[if_neg (fun h=>h he)]
 refine zE (zS I (zI (zE (zA (zA (zB (wP I (wC I I (fun W1 hp=>DA a (by omega) W1 (hv.hp hp) (ht.hp hp)) (wP I (Aa (zE (zA (zB ?_)))))))))))))
 refine wP I (wP I ?_)
 by_cases h2:(rdR a).2=0
 rotate_left
 ·exact wU 15 true I (bne_iff_ne.2 h2) (Aa (zE (zR I (zA (zB (wP I (wP I (Aa (zE (zO (zP (wR1 I I (by rw[if_pos h2])))))))))))))
 rw[if_neg (fun h=>h h2)]
 obtain⟨x,hx,rfl⟩:=Gz h2
 have hs:=IU ha
 have l1:=BE 24 x.num.natAbs (by decide) hs.1
 have l2:=BE 24 ((x.den:Nat):Int).natAbs (by decide) (by rw[Int.natAbs_natCast];exact hs.2)
 refine wU 15 false I (bne_eq_false_iff_eq.2 h2) (Aa (zE (zS I (zI (zE (zA (zB (wP I (wC I I (fun W1 hp=>DH x hx W1 (hv.hp hp) (ht.hp hp)) ?_)))))))))
 iterate 7 refine wP I ?_
 refine Aa (zE (zA (zA (zB (wP I (wC I I (fun W _=>B5 x.num W) (wP I (wC I I (fun W _=>B5 (x.den:Nat) W) (wP I (wP I ?_))))))))))
 refine Ag 28 (.bool false) I (congrArg Value.bool (dF (by
  show¬((if _>_ then _ else _)>_)
  split<;>omega))) ?_
 refine Aa (zE (zS I (zI (zE (zA (zA (zB (wB 0 I I I (wP I (wC I I (fun W hp=>BH b.w b.len x I (sz2 hs bn0.sz (by decide)) (sz2 hs hb.len.sz (by decide)) p q m n W (hv.hp hp) (ht.hp hp)) (Aa (zE ?_))))))))))))
 refine Ai I (fun ho=> ?_) (fun ho=> ?_)
 ·exact zA (zB (wP I (Aa (zE (zO (zP (wR1 I I (by rw[if_pos (show Cl b.w.len (Ac x)=true from ho)]))))))))
 ·exact zI (zE (zA (zB (wP I (Aa (zE (zO (wR1 I I (by rw[if_neg (by rw[show Cl b.w.len (Ac x)=false from ho];decide)])))))))))
theorem Qg (w:BmW) (h:w.Short) (a:List UInt8) (ha:a.length≤24) (he:F2 w a≠0) (p q:Option Addr) (m n:Nat) (W:World) (hM:BwM W w p q):
  Ad Tryz.prog 11 #[bwV w p m q n,str a] W (fun _:Unit=> .tuple #[str [], .int .i64 (F2 w a)]) (fun _=>True) (fun _=>[]):=by
 refine Ab (args:=[bwV w p m q n,str a]) Tryz.func11 I I I ?_
 refine zA (zB ?_)
 (refine Az rfl rfl rfl rfl ?_;intro)
 refine wP I (wP I (Aa (zE (zA (zA (zB (wB 0 I I I (wP I (wC I I (fun W hp=>GE w h a ha p q m n W (hM.hp hp)) (wP I (Aa (zE (zA ?_)))))))))))))
 refine zB (wP I (wP I (wU 11 true I (bne_iff_ne.2 he) (Aa (zE (zR I (zA (zB (wP I (wP I (wP I (Aa (zE ?_)))))))))))))
 exact zO (zP (wR2 I I I))
theorem OU (w:BmW) (h:w.Short) (a:List UInt8) (ha:a.length≤24) (he:F2 w a≠0) (p q:Option Addr) (m n:Nat) (W:World) (hM:BwM W w p q):
  Ad Tryz.prog 13 #[bwV w p m q n,str a] W (fun _:Unit=> .tuple #[str [], .int .i64 (F2 w a)]) (fun _=>True) (fun _=>[]):=by
 refine Ab (args:=[bwV w p m q n,str a]) Tryz.func13 I I I ?_
 refine zA (zB ?_)
 (refine Az rfl rfl rfl rfl ?_;intro)
 refine wP I (wP I (Aa (zE (zA (zA (zB (wB 0 I I I (wP I (wC I I (fun W hp=>GE w h a ha p q m n W (hM.hp hp)) (wP I (Aa (zE (zA ?_)))))))))))))
 refine zB (wP I (wP I (wU 11 true I (bne_iff_ne.2 he) (Aa (zE (zR I (zA (zB (wP I (wP I (wP I (Aa (zE ?_)))))))))))))
 exact zO (zP (wR2 I I I))
theorem Nf (w:BmW) (h:w.Short) (a:List UInt8) (ha:a.length≤24) (he:F2 w a≠0) (p q:Option Addr) (m n:Nat) (W:World) (hM:BwM W w p q):
  Ad Tryz.prog 12 #[bwV w p m q n,str a] W (fun _:Unit=> .tuple #[str [], .int .i64 (F2 w a)]) (fun _=>True) (fun _=>[]):=by
 refine Ab (args:=[bwV w p m q n,str a]) Tryz.func12 I I I ?_
 refine zA (zB ?_)
 (refine Az rfl rfl rfl rfl ?_;intro)
 refine wP I (wP I (Aa (zE (zA (zA (zB (wB 0 I I I (wP I (wC I I (fun W hp=>Ek w h a ha p q m n W (hM.hp hp)) (wP I (Aa (zE (zA ?_)))))))))))))
 refine zB (wP I (wP I (wU 18 true I (bne_iff_ne.2 he) (Aa (zE (zR I (zA (zB (wP I (wP I (wP I (Aa (zE ?_)))))))))))))
 exact zO (zP (wR2 I I I))
theorem LY (w:BmW) (h:w.Short) (a:List UInt8) (ha:a.length≤24) (he:F2 w a≠0) (p q:Option Addr) (m n:Nat) (W:World) (hM:BwM W w p q):
  Ad Tryz.prog 14 #[bwV w p m q n,str a] W (fun _:Unit=> .tuple #[str [], .int .i64 (F2 w a)]) (fun _=>True) (fun _=>[]):=by
 refine Ab (args:=[bwV w p m q n,str a]) Tryz.func14 I I I ?_
 refine zA (zB ?_)
 (refine Az rfl rfl rfl rfl ?_;intro)
 refine wP I (wP I (Aa (zE (zA (zA (zB (wB 0 I I I (wP I (wC I I (fun W hp=>Ek w h a ha p q m n W (hM.hp hp)) (wP I (Aa (zE (zA ?_)))))))))))))
 refine zB (wP I (wP I (wU 20 true I (bne_iff_ne.2 he) (Aa (zE (zR I (zA (zB (wP I (wP I (wP I (Aa (zE ?_)))))))))))))
 exact zO (zP (wR2 I I I))
end
end Go.Proofs.YtemghkmmcomalaaGreatDoor
