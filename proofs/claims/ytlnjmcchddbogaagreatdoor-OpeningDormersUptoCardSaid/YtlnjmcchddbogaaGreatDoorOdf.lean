/-
  Lemmas that the theorem openingDormers_upto_card needs (part 6 of 8).
-/
import Derived.Test.YtlnjmcchddbogaaGreatDoorOde
set_option maxHeartbeats 64000000
namespace Go.Proofs.YtlnjmcchddbogaaGreatDoor
section
open Go Go.RowKit Go.Am Go.Lib
set_option maxRecDepth 10000
theorem g0 {W m:Nat} (h:W<br^(m+3)):((W/br^(m+2)%br)*br+W/br^(m+1)%br)*br+W/br^m%br=W/br^m:=by
 have h1:W/br^(m+1)=W/br^m/br:=by rw[Nat.pow_succ,Nat.div_div_eq_div_mul]
 have h2:W/br^(m+2)=W/br^m/br/br:=by rw[Nat.pow_succ, <-Nat.div_div_eq_div_mul,h1]
 have h3:W/br^m<br*br*br:=by
  apply Nat.div_lt_of_lt_mul
  have:br^(m+3)=br^m*(br*br*br):=by rw[Nat.pow_succ,Nat.pow_succ,Nat.pow_succ];simp[Nat.mul_assoc]
  rw[<-this];exact h
 rw[h2,h1]
 generalize W/br^m=x at h3⊢
 have h3:x<1000000*1000000*1000000:=h3
 show((x/1000000/1000000%1000000)*1000000+x/1000000%1000000)*1000000+x%1000000=x
 omega
theorem g7 {b m:Nat} (h:b<br^(m+2)):(b/br^(m+1)%br)*br+b/br^m%br=b/br^m:=by
 have h1:b/br^(m+1)=b/br^m/br:=by rw[Nat.pow_succ,Nat.div_div_eq_div_mul]
 have h3:b/br^m<br*br:=by
  apply Nat.div_lt_of_lt_mul
  have:br^(m+2)=br^m*(br*br):=by rw[Nat.pow_succ,Nat.pow_succ];simp[Nat.mul_assoc]
  rw[<-this];exact h
 rw[h1]
 generalize b/br^m=x at h3⊢
 have h3:x<1000000*1000000:=h3
 show(x/1000000%1000000)*1000000+x%1000000=x
 omega
theorem dP {W b m g:Nat} (hg:g=W/m/(b/m+1)) (hm:0<m):g*b<=W:=by
 have h1:b<(b/m+1)*m:=Nat.lt_mul_of_div_lt (Nat.lt_succ_self _) hm
 have h2:g*(b/m+1)<=W/m:=by rw[hg];exact Nat.div_mul_le_self ..
 have h3:g*(b/m+1)*m<=W/m*m:=Nat.mul_le_mul_right _ h2
 have h4:W/m*m<=W:=Nat.div_mul_le_self ..
 have h5:g*b<=g*((b/m+1)*m):=Nat.mul_le_mul_left _ (by omega)
 rw[<-Nat.mul_assoc] at h5
 omega
theorem XT {x r:Nat} (_hx:x<br):lv br (x::lbs br r)=r*br+x:=by
 show x+br*lv br (lbs br r)=_
 rw[Mj br2,Nat.mul_comm,Nat.add_comm]
theorem QE {w b g r:Nat} (h:w=g*b+r) (hr:r<b):w/b=g/\w%b=r:=by
 have hb:0<b:=by omega
 subst h
 rw[Nat.mul_comm]
 exact⟨by rw[Nat.mul_add_div hb,Nat.div_eq_of_lt hr,Nat.add_zero],by rw[Nat.mul_add_mod,Nat.mod_eq_of_lt hr]⟩
theorem JP (W:World) (p q:Option Addr) (cap cap2:Nat) (a b:Nat) (hb0:0<b) (hA:A6 W p (lbs br a)) (hB:A6 W q (lbs br b)) (hna:(lbs br a).length<=1000) (hnb:(lbs br b).length<=1000):
  Ae Tryz.prog 181 #[slv p (lbs br a).length cap,slv q (lbs br b).length cap2] W (fun x:NV×NV=> .tuple #[B8 x.1 (lbs br (a/b)).length,B8 x.2 (lbs br (a%b)).length]) (fun x=>C0 x.1 (lbs br (a/b))/\C0 x.2 (lbs br (a%b))) (fun x=>[BM x.1 (lbs br (a/b)),BM x.2 (lbs br (a%b))]):=by
 have hla:=Br br2 a
 have hlb:=Br br2 b
 have hal:=AJ br2 a
 have hbl:=AJ br2 b
 obtain⟨K,hK⟩: ∃n,(lbs br a).length=n:=⟨_,rfl⟩
 obtain⟨n,hn⟩: ∃n,(lbs br b).length=n:=⟨_,rfl⟩
 have hn0:n≠0:=fun e=>by
  have:=(DG br2).1 (List.length_eq_zero_iff.1 (hn.trans e));omega
 rw[hK] at hna hal
 rw[hn] at hnb hbl
 refine Ab Tryz.func181 I I I ?_
 rw[hK,hn]
 refine xb<|Aa I<|xk<|Ad I<|?_
 by_cases hn1:n=1
 ·subst hn1
  obtain⟨b1,o1,rfl,r1⟩:=hB.row (show 0<(lbs br b).length by omega)
  have r1:=r1 0 (by omega)
  obtain⟨v,hv⟩: ∃v,lim (lbs br b) 0=v:=⟨_,rfl⟩
  rw[hv] at r1
  have hvb:v<br:=by rw[<-hv];exact Bk br2 hlb _
  rw[Bo br2,Nat.pow_zero,Nat.div_one,Nat.mod_eq_of_lt (by rw[Nat.pow_one] at hbl;exact hbl)] at hv
  subst hv
  refine wU 14 true I (by simp)<|xa<|zR I<|xb<|Aa I<|wJ ?_
  refine wL 0 I I (fun W hp=>r1.hp hp) I ?_
  refine wD (X:=NV×NV) I I (fun W' hp=>by have h:=Rk W' p cap a b (hA.hp hp) (by omega) hb0 hvb;rw[hK] at h;exact h) ?_
  rintro⟨x,y⟩ ⟨h1,h2⟩
  exact At I<|xo<|A4 tH I (.tmp I) (.tmp I) (x,y) I ⟨h1,h2⟩ fun W hp=>Au.of_hp hp
 obtain⟨m,rfl⟩: ∃m,n=m+2:=⟨n-2,by omega⟩
 refine wU 14 false I (by rw[beq_eq_false_iff_ne];omega)<|zC<|?_
 obtain⟨bq,oq,rfl,rq⟩:=hB.row (show 0<(lbs br b).length by omega)
 obtain⟨u1,hu1⟩: ∃v,lim (lbs br b) (m+1)=v:=⟨_,rfl⟩
 obtain⟨u0,hu0⟩: ∃v,lim (lbs br b) m=v:=⟨_,rfl⟩
 have rq1:=rq (m+1) (by omega)
 have rq0:=rq m (by omega)
 rw[hu1] at rq1
 rw[hu0] at rq0
 have hu1b:u1<1000000:=by rw[<-hu1];exact Bk br2 hlb _
 have hu0b:u0<1000000:=by rw[<-hu0];exact Bk br2 hlb _
 rw[Bo br2] at hu1 hu0
 have ht2:=g7 hbl
 rw[hu1,hu0] at ht2
 have ht2:u1*1000000+u0=b/br^m:=ht2
 obtain⟨tp,htp⟩: ∃tp,tp=b/br^m:=⟨_,rfl⟩
 have hpm:0<br^m:=Nat.pow_pos (by decide)
 refine zE<|zS I<|xm<|Ad I<|xl<|zU<|AY I<|qV 26 ((m+1:Nat):Int) I (by show w64 (((m+2:Nat):Int)-1)=_;rw[Ar (by omega) (by omega)];omega)<|qJ ?_
 refine qL 0 I I (fun W hp=>rq1.hp hp) I<|Cd I<|qV 32 (m:Nat) I (by show w64 (((m+2:Nat):Int)-2)=_;rw[Ar (by omega) (by omega)];omega)<|qJ ?_
 refine qL 0 I I (fun W hp=>rq0.hp hp) I<|qP I<|qV 35 (tp:Nat) I (by show w64 (w64 ((u1:Int)*((1000000:Nat):Int))+u0)=_;rw[Cx (by omega),AU (by omega),htp,ht2])<|qP I<|zD<|xf<|Aa I<|?_
 refine Cr Tryz.vec172 K I I I I I I I (by simp only[maxLen];omega) (by omega) ?_
 intro g
 have ez:Cf (Value.cells (.int .i64 0)).toList K=nI (List.replicate K 0)++[]:=by rw[List.append_nil];exact Gx K
 rw[ez]
 refine wP I<|xf<|DT tH I I I I I ?_
 intro gr
 refine wP I<|xk<|Ad I<|wV 42 ((K:Int)-1) I (Ar (by omega) (by omega))<|wP I<|xa<|zH<|?_
 have e0:lbs br 0=[]:=Bg
 refine Av (X:=Nat×List Nat×Nat×Nat×NV) (fun x=>[(0,slv p K cap),(1,slv (some ⟨bq,oq,none⟩) (m+2) cap2),(6, .int .i64 ((m+2:Nat):Int)),(7, .int .i64 (tp:Nat)),(8,slv (some ⟨g,0,none⟩) K K),(9,B8 x.2.2.2.2 (lbs br x.2.2.2.1).length),(10, .int .i64 ((x.1:Nat)-1:Int))]) (fun x=>[⟨g,3,nI x.2.1++[],true,none⟩,BM x.2.2.2.2 (lbs br x.2.2.2.1)])
  (fun x=>(x.1<=K/\x.2.1.length=K/\(∀y∈x.2.1,y<br)/\lv br x.2.1=br^x.1*x.2.2.1/\a/br^x.1=x.2.2.1*b+x.2.2.2.1/\x.2.2.2.1<b)/\C0 x.2.2.2.2 (lbs br x.2.2.2.1)) (fun x=>x.1) (K,List.replicate K 0,0,0,(gr,0,[])) ⟨⟨Nat.le_refl _,List.length_replicate,Is (by decide) K,by rw[Fx];show 0=br^K*0;rw[Nat.mul_zero],by show a/br^K=0*b+0;rw[Nat.div_eq_of_lt hal];omega,hb0⟩,by show C0 _ (lbs br 0);rw[e0];exact⟨rfl,(fun h=>by cases h),fun _=>⟨Nat.le_refl _,Nat.zero_le _,rfl⟩⟩⟩ ⟨rfl,rfl,rfl,rfl,rfl,by show _=some (slv _ (lbs br 0).length 0);rw[e0];rfl,rfl,trivial⟩ [] (by show _=[_,BM _ (lbs br 0)]++[];rw[e0];rfl) ?_
 rintro⟨k,l,qh,rs,x⟩ ⟨⟨hk,hl,hllt,hlv,hq,hr⟩,hx⟩
 have hk:k<=K:=hk
 have hl:l.length=K:=hl
 have hlv:lv br l=br^k*qh:=hlv
 have hq:a/br^k=qh*b+rs:=hq
 have hr:rs<b:=hr
 have hx:C0 x (lbs br rs):=hx
 refine xd<|Aa I<|?_
 cases k with
 |zero=>
  have hq:a=qh*b+rs:=by simpa using hq
  have hlv:lv br l=qh:=by rw[hlv];simp
  obtain⟨eq1,eq2⟩:=QE hq hr
  refine wU 44 false I (dF (by show¬(((0:Nat):Int)-1≥0);omega))<|xa<|zS I<|xg<|xn<|?_
  have hV0:(⟨some g,K,[]⟩:Vec).OK 1 l.length (nI l):=⟨Fg _,(fun h=>by cases h),fun _=>⟨by show _<=K;omega,by show K<=maxLen;simp only[maxLen];omega,by show(nI l).length+0=K*1;rw[BJ];omega⟩⟩
  obtain⟨j1,hV1,he1⟩:=Ek hV0 hllt
  refine wP I<|Ap 92 (slv (some ⟨g,0,none⟩) l.length K) I (by rw[hl])<|wC I I (fun W hp=>CW W _ K _ (A6.of_bx hp 0 I) hllt (by omega) (by omega))<|Ad I<|xc<|?_
  rw[hlv, <-eq1] at hV1 he1
  rw[<-eq2] at hx
  exact A4 tH I (.tmp I) (.tmp I) (((g,K,j1):NV),x) (by rw[hlv, <-eq1, <-eq2]) ⟨hV1,hx⟩ fun W hp=>Au.of_hp (hp.pick (l:=[BM (g,K,j1) (lbs br (a/b)),BM x (lbs br (a%b))]) [0,1] (by decide) (by
   show some [(⟨g,3,nI l++[],true,none⟩:Bx),BM x (lbs br rs)]=some [⟨g,3,nI (lbs br (a/b))++j1,true,none⟩,BM x (lbs br (a%b))]
   rw[he1,eq2]))
 |succ k=>
  have hq:a/br^(k+1)=qh*b+rs:=hq
  have hi:k<l.length:=by rw[hl];omega
  obtain⟨b1,o1,rfl,r1⟩:=hA.row (show k<(lbs br a).length by omega)
  have r1:=r1 k (by omega)
  obtain⟨v,hv⟩: ∃v,lim (lbs br a) k=v:=⟨_,rfl⟩
  rw[hv] at r1
  have hvb:v<br:=by rw[<-hv];exact Bk br2 hla _
  have hvb':v<1000000:=hvb
  have hve:v=a/br^k%br:=by rw[<-hv];exact Bo br2 a _
  obtain⟨w,hw⟩: ∃w,w=v+rs*br:=⟨_,rfl⟩
  have hlw:lv br (v::lbs br rs)=w:=by rw[XT hvb,hw,Nat.add_comm]
  have hrsb:=hr
  have hwlt:w<br*b:=by
   have:(rs+1)*br<=b*br:=Nat.mul_le_mul_right _ hr
   rw[Nat.add_mul,Nat.one_mul] at this
   rw[hw,Nat.mul_comm br b];omega
  have hwlt3:w<br^(m+3):=by
   have h1:br*b<br*br^(m+2):=Nat.mul_lt_mul_of_pos_left hbl (by decide)
   rw[show br^(m+3)=br*br^(m+2) by rw[Nat.pow_succ,Nat.mul_comm]];omega
  have hwb:w/b<br:=Nat.div_lt_of_lt_mul (by rw[Nat.mul_comm];exact hwlt)
  have hs:=Kn (B:=br) (d:=b) (q:=qh) (r:=rs) (i:=k) hq (n:=w) (by rw[hw,hve])
  have hzero:l[k]? =some 0:=by
   rw[DM hi,CI br2 _ hllt,hlv,Nat.pow_succ,Nat.mul_assoc,Nat.mul_div_cancel_left _ (Nat.pow_pos (by decide)),Nat.mul_mod_right]
  have hset:=IR (B:=br) (w/b) hzero
  rw[Nat.mul_zero,Nat.add_zero,hlv,Nat.pow_succ,Nat.mul_assoc, <-Nat.mul_add] at hset
  have hrl:(lbs br rs).length<=m+2:=(BZ br2).2 (by omega)
  have hwl:(lbs br w).length<=m+3:=(BZ br2).2 hwlt3
  refine wU 44 true I (dT (by show(((k+1:Nat):Int)-1≥0);omega))<|xa<|zR I<|xh<|Aa I<|wV 48 (k:Nat) I (by show((k+1:Nat):Int)-1=_;omega)<|wJ ?_
  refine wL 0 I I (fun W hp=>r1.hp hp) I<|As Tryz.hZ tH I I I I I I I I I I I fun bN=> ?_
  refine wP I ?_
  refine EW (len:=1) (V:=⟨some bN,1,[]⟩) (xs:=nI [v]) (news:=nI (lbs br rs)) 2 Tryz.vec172 rfl rfl rfl rfl rfl rfl rfl rfl rfl ⟨rfl,(fun h=>by cases h),fun _=>⟨Nat.le_refl _,(by show 1<=maxLen;decide),rfl⟩⟩ (Fg _) (fun W' hp j u hj=> ?_) (fun u hu=> ?_) (by dsimp only;simp only[maxLen];omega) (by dsimp only;omega) ?_
  ·have hrow:=Aj.of_bx hp 1 rfl rfl
   have:=hrow.get j u (by show(nI (lbs br rs)++x.2.2)[j]? =_;rw[List.getElem?_append_left (List.getElem?_eq_some_iff.1 hj).1];exact hj)
   rw[Addr.add_none]
   exact this
  ·obtain⟨z,_,rfl⟩:=List.mem_map.1 hu;rfl
  intro V' hV' hV0
  obtain⟨pv,cv,jv⟩:=V'
  cases pv with
  |none=>have:=hV'.nil rfl;omega
  |some gv=>
  have ecat:nI [v]++nI (lbs br rs)=nI (v::lbs br rs):=rfl
  rw[ecat] at hV'⊢
  have hV':(⟨some gv,cv,jv⟩:Vec).OK 1 (v::lbs br rs).length (nI (v::lbs br rs)):=by rw[List.length_cons,Nat.add_comm];exact hV'
  have hclt: ∀y∈v::lbs br rs,y<br:=fun y hy=>by
   rcases List.mem_cons.1 hy with rfl|hy
   ·exact hvb
   ·exact Br br2 rs y hy
  obtain⟨jw,hVw,hew⟩:=Ek hV' hclt
  rw[hlw] at hVw hew
  refine Ap 53 (slv (some ⟨gv,0,none⟩) (v::lbs br rs).length cv) I (by show slv _ (1+_) _=_;rw[List.length_cons,Nat.add_comm])<|wC I I (fun W hp=>(CW W (some ⟨gv,0,none⟩) cv _ (A6.of_bx hp 2 I) hclt (by have:=(hV'.cap (by simp)).1;exact this) (by rw[List.length_cons];omega)).cast (v':=slv (some ⟨gv,0,none⟩) (lbs br w).length cv) (by rw[hlw]))<|wP I<|zC<|?_
  obtain⟨l2,hl2⟩: ∃v,lim (lbs br w) (m+2)=v:=⟨_,rfl⟩
  obtain⟨l1,hl1⟩: ∃v,lim (lbs br w) (m+1)=v:=⟨_,rfl⟩
  obtain⟨l0,hl0⟩: ∃v,lim (lbs br w) m=v:=⟨_,rfl⟩
  have hl2b:l2<1000000:=by rw[<-hl2];exact Bk br2 (Br br2 w) _
  have hl1b:l1<1000000:=by rw[<-hl1];exact Bk br2 (Br br2 w) _
  have hl0b:l0<1000000:=by rw[<-hl0];exact Bk br2 (Br br2 w) _
  have ht3:=g0 hwlt3
  rw[<-Bo br2, <-Bo br2, <-Bo br2,hl2,hl1,hl0] at ht3
  have ht3:(l2*1000000+l1)*1000000+l0=w/br^m:=ht3
  obtain⟨e,he⟩: ∃e,e=w/br^m/(b/br^m+1):=⟨_,rfl⟩
  have hest:=dP he hpm
  have heb:e<=w/b:=(Nat.le_div_iff_mul_le hb0).2 hest
  have hebr:e<1000000:=Nat.lt_of_le_of_lt heb hwb
  have htpb:tp<1000000000000:=by rw[htp, <-ht2];omega
  have hlW: ∀ {W1:World} {bxs:List Bx},Hp W bxs W1->nth bxs 2=some (⟨gv,3,nI (v::lbs br rs)++jv,true,none⟩:Bx)->A6 W1 (some ⟨gv,0,none⟩) (lbs br w):=fun hp h2=>by rw[hew] at h2;exact A6.of_bx hp 2 h2
  refine xn<|Aa I<|wC I I (fun W' hp=>Dy W' (some ⟨gv,0,none⟩) cv _ (lbs br w) (m+2) l2 (hlW hp I) I (by omega) hl2)<|At I<|wV 61 ((m+1:Nat):Int) I (by show w64 (((m+2:Nat):Int)-1)=_;rw[Ar (by omega) (by omega)];omega)<|wC I I (fun W' hp=>Dy W' (some ⟨gv,0,none⟩) cv _ (lbs br w) (m+1) l1 (hlW hp I) I (by omega) hl1)<|Ak I<|wV 67 (m:Nat) I (by show w64 (((m+2:Nat):Int)-2)=_;rw[Ar (by omega) (by omega)];omega)<|wC I I (fun W' hp=>Dy W' (some ⟨gv,0,none⟩) cv _ (lbs br w) m l0 (hlW hp I) I (by omega) hl0)<|wP I<|wV 69 ((w/br^m:Nat):Int) I (by show w64 (w64 (w64 (w64 ((l2:Int)*((1000000:Nat):Int))+l1)*((1000000:Nat):Int))+l0)=_;rw[Cx (by omega),AU (by omega),Cx (by omega),AU (by omega),ht3])<|Aa I<|wV 71 ((tp+1:Nat):Int) I (A0 (by omega))<|Ef I I I I I (by omega) ?_
  refine wV 72 (e:Nat) I (by rw[he, <-htp];exact BN (by rw[<-htp] at he;rw[<-he];omega))<|wP I<|xf<|Ad I<|As Tryz.hZ tH I I I I I I I I I I I fun bE=> ?_
  refine wD (X:=NV) I I (fun W' hp=>by
   have h:=JE W' (some ⟨bq,oq,none⟩) (some ⟨bE,0,none⟩) cap2 1 b [e] (fun y hy=>by obtain rfl:=List.mem_singleton.1 hy;exact hebr) (hB.hp hp) (A6.of_bx (junk:=[]) hp 3 rfl) (by omega) (by show 1<=1000000;decide)
   rw[hn,RT] at h
   exact h) ?_
  intro xt hxt
  refine wD (X:=NV) I I (fun W' hp=>FE W' (some ⟨gv,0,none⟩) (some ⟨xt.1,0,none⟩) cv xt.2.1 w (b*e) (by rw[Nat.mul_comm];exact hest) (hlW hp I) (A6.of_bx hp 4 I) (by omega)) ?_
  intro x1 hx1
  refine wP I<|xa<|?_
  try refine Ba ?_
  refine AA (X:=NV) (fun x2=>[(0,slv (some ⟨b1,o1,none⟩) K cap),(1,slv (some ⟨bq,oq,none⟩) (m+2) cap2),(6, .int .i64 ((m+2:Nat):Int)),(7, .int .i64 (tp:Nat)),(8,slv (some ⟨g,0,none⟩) K K),(9,B8 x2 (lbs br (w%b)).length),(10, .int .i64 (k:Nat)),(11, .int .i64 ((w/b:Nat):Int))]) (fun x2=>[⟨g,3,nI l++[],true,none⟩,BM x2 (lbs br (w%b))]) (fun x2=>C0 x2 (lbs br (w%b))) ?_ ?_
  ·refine zH ?_
   refine Di (X:=Nat×Nat×NV) (fun y=>[(0,slv (some ⟨b1,o1,none⟩) K cap),(1,slv (some ⟨bq,oq,none⟩) (m+2) cap2),(6, .int .i64 ((m+2:Nat):Int)),(7, .int .i64 (tp:Nat)),(8,slv (some ⟨g,0,none⟩) K K),(9,B8 y.2.2 (lbs br y.2.1).length),(10, .int .i64 (k:Nat)),(11, .int .i64 (y.1:Nat))]) (fun y=>Hp W [⟨g,3,nI l++[],true,none⟩,BM y.2.2 (lbs br y.2.1)]) (fun y=>w=y.1*b+y.2.1/\C0 y.2.2 (lbs br y.2.1)) (fun y=>y.2.1) (e,w-b*e,x1) ⟨by show w=e*b+(w-b*e);rw[Nat.mul_comm b e];omega,hx1⟩ ⟨I,I,I,I,I,I,congrArg (fun z=>some (Value.int .i64 z)) (by show((k+1:Nat):Int)-1=(k:Nat);omega),I,tO⟩ (fun W hp=>hp.pick [0,5] (by decide) I) ?_
   rintro⟨e1,w1,x2⟩ ⟨hw1,hx2⟩
   have hw1:w=e1*b+w1:=hw1
   have hx2:C0 x2 (lbs br w1):=hx2
   have hw1l:(lbs br w1).length<=m+3:=(BZ br2).2 (by omega)
   refine xd<|Aa I<|?_
   refine wC I I (fun W' hp=>by
    have h:=Mw W' (some ⟨x2.1,0,none⟩) (some ⟨bq,oq,none⟩) x2.2.1 cap2 w1 b (A6.of_bx hp 1 rfl) (hB.hp hp) (by omega) (by omega)
    rw[hn] at h
    exact h) ?_
   refine wP I ?_
   by_cases hge:b<=w1
   ·have hc:0<=Ps w1 b:=by unfold Ps;rw[if_neg (by omega)];split<;>decide
    have he1:e1<w/b:=by
     have h1:(e1+1)*b<=w:=by rw[Nat.add_mul,Nat.one_mul];omega
     have:=(Nat.le_div_iff_mul_le hb0).2 h1
     omega
    have he1b:e1<1000000:=Nat.lt_trans he1 hwb
    refine wU 82 true I (dT hc)<|xa<|zR I<|xe<|zH<|xb<|Aa I<|?_
    refine wD (X:=NV) I I (fun W' hp=>by
     have h:=FE W' (some ⟨x2.1,0,none⟩) (some ⟨bq,oq,none⟩) x2.2.1 cap2 w1 b hge (A6.of_bx hp 1 rfl) (hB.hp hp) (by omega)
     rw[hn] at h
     exact h) ?_
    intro x3 hx3
    exact wP I<|xa<|zB<|Aa I<|wV 87 ((e1+1:Nat):Int) I (A0 (by omega))<|wP I<|zC<|zN<|Dh (e1+1,w1-b,x3) ⟨by show w=(e1+1)*b+(w1-b);rw[Nat.add_mul,Nat.one_mul];omega,hx3⟩ (by show w1-b<w1;omega) ⟨I,I,I,I,I,I,I,I,tO⟩ (fun W hp=>hp.pick [0,2] (by decide) I)
   ·have hc: ¬(0:Int)<=Ps w1 b:=by unfold Ps;rw[if_pos (by omega)];decide
    obtain⟨d1,d2⟩:=QE hw1 (show w1<b by omega)
    exact wU 82 false I (dF hc)<|xa<|zS I<|xg<|Ao x2 (by show C0 x2 (lbs br (w%b));rw[d2];exact hx2) ⟨I,I,I,I,I,by rw[d2];rfl,I,by rw[d1];rfl,tO⟩ [] (by rw[d2];rfl)
  intro x2 hx2
  have hx2:C0 x2 (lbs br (w%b)):=hx2
  refine zB<|Ad I<|wJ ?_
  refine AG 0 (nI (l.set k (w/b))++[]) tH I I I I I I I I I I (by show 0+k*1+1<=(nI l++[]).length;rw[List.append_nil,BJ];omega) (CH hi (w/b)) ?_
  exact zC<|xi<|Aa I<|wV 46 ((k:Nat)-1:Int) I (Ar (by omega) (by omega))<|wP I<|zC<|Al (k,l.set k (w/b),qh*br+w/b,w%b,x2) ⟨⟨by show k<=K;omega,by rw[List.length_set];exact hl,Dd hllt hwb,by show lv br (l.set k (w/b))=br^k*(qh*br+w/b);rw[hset,Nat.mul_comm qh],by show a/br^k=_;exact hs,Nat.mod_lt _ hb0⟩,hx2⟩ (by show k<k+1;omega) ⟨I,I,I,I,I,I,I,tO⟩ [] I
theorem Xi (x y:Int):Nat.gcd y.natAbs (x.tmod y).natAbs=Nat.gcd x.natAbs y.natAbs:=by
 rw[Int.natAbs_tmod,Nat.gcd_comm, <-Nat.gcd_rec,Nat.gcd_comm]
theorem NT (a b:Int) (ha:(decDigits a.natAbs).length<=300) (hb:(decDigits b.natAbs).length<=300) (W:World) (ht:A9 W):
  Ae Tryz.prog 121 #[str (itoa a),str (itoa b)] W (fun _:Unit=> .tuple #[str (itoa ((Nat.gcd a.natAbs b.natAbs:Nat):Int)), .int .i64 0]) (fun _=>True) (fun _=>[]):=by
 have la:=Dw (m:=a.natAbs) (by omega)
 have lb:=Dw (m:=b.natAbs) (by omega)
 refine Ab Tryz.func121 I I I<|xb<|Aa I<|xk<|Aa I<|wC I I (fun W _=>Ft a b ha hb W)<|wP I<|xf<|Aa I<|xa<|zS I<|zI<|?_
 refine zE<|xd<|?_
 cases hs:smI a&&smI b with
 |true=>
  obtain⟨h1,h2⟩:=Bool.and_eq_true_iff.1 hs
  have b1:=LV h1
  have b2:=LV h2
  refine Aa I<|wC I I (fun W _=>KN hs W)<|AE I<|wP I<|xf<|wP I<|xa<|zR I<|zA<|zH<|Av (X:=Int×Int) (fun x=>[(7, .int .i64 x.1),(8, .int .i64 x.2)]) (fun _=>[]) (fun x=>x.1.natAbs<100000000000000000/\x.2.natAbs<100000000000000000/\Nat.gcd x.1.natAbs x.2.natAbs=Nat.gcd a.natAbs b.natAbs) (fun x=>x.2.natAbs) (a,b) ⟨b1,b2,I⟩ ⟨I,I,tO⟩ [] I ?_
  rintro⟨x,y⟩ ⟨hx,hy,hg⟩
  have hx:x.natAbs<100000000000000000:=hx
  have hy:y.natAbs<100000000000000000:=hy
  have hg:Nat.gcd x.natAbs y.natAbs=Nat.gcd a.natAbs b.natAbs:=hg
  refine xd<|Aa I<|?_
  by_cases h0:y=0
  ·refine wU 29 false I (by rw[bne_eq_false_iff_eq];exact h0)<|xa<|zS I<|xg<|xn<|Ad I<|wV 36 (-x) I (show w64 (0-x)=_ by rw[Ar (by omega) (by omega)];omega)<|wP I<|?_
   refine Ap 37 (.int .i64 ((Nat.gcd a.natAbs b.natAbs:Nat):Int)) I (congrArg (Value.int .i64) (by
    rw[<-hg,h0,Int.natAbs_zero,Nat.gcd_zero_right]
    show(if -x>x then -x else x)=_;split<;>omega)) ?_
   have hgl:Nat.gcd a.natAbs b.natAbs<100000000000000000:=by rw[<-hg,h0,Int.natAbs_zero,Nat.gcd_zero_right];exact hx
   exact wC I I (fun W hp=>Bt ((Nat.gcd a.natAbs b.natAbs:Nat):Int) (by omega) (by omega) W (ht.hp hp))<|Aa I<|xo<|wR2 I I I
  ·refine wU 29 true I (by rw[bne_iff_ne];exact h0)<|xa<|zR I<|xe<|zH<|zU<|AY I<|DO I I I I I h0 ?_
   refine Ay I<|zD<|zC<|zN<|?_
   have hr:(x.tmod y).natAbs<y.natAbs:=by rw[Int.natAbs_tmod];exact Nat.mod_lt _ (by omega)
   exact Al (y,x.tmod y) ⟨hy,Nat.lt_trans hr hy,by show Nat.gcd y.natAbs (x.tmod y).natAbs=_;rw[Xi];exact hg⟩ hr ⟨I,I,tO⟩ [] I
 |false=>
  obtain⟨x0,y0,h2⟩:=KS hs ha hb
  refine Aa I<|wC I I (fun W _=>h2 W)<|AE I<|wP I<|xf<|wP I<|xa<|zS I<|xm<|wP I<|wD (X:=NV) I I (fun W' _=>BP a (by omega) W') ?_
  intro x hx
  refine Aa I<|wD (X:=NV) I I (fun W' _=>BP b (by omega) W') ?_
  intro y hy
  refine Ad I<|xl<|zH<|Di (X:=(Nat×NV)×(Nat×NV)) (fun s=>[(10,B8 s.1.2 (lbs br s.1.1).length),(11,B8 s.2.2 (lbs br s.2.1).length)]) (fun s=>Hp W [BM s.1.2 (lbs br s.1.1),BM s.2.2 (lbs br s.2.1)]) (fun s=>Nat.gcd s.1.1 s.2.1=Nat.gcd a.natAbs b.natAbs/\(lbs br s.1.1).length<=101/\(lbs br s.2.1).length<=101) (fun s=>s.2.1) ((a.natAbs,x),(b.natAbs,y)) ⟨I,la,lb⟩ ⟨I,I,tO⟩ (fun W hp=>hp) ?_
  rintro⟨⟨u,x⟩,⟨v,y⟩⟩ ⟨hg,hu,hv⟩
  have hg:Nat.gcd u v=Nat.gcd a.natAbs b.natAbs:=hg
  have hu:(lbs br u).length<=101:=hu
  have hv:(lbs br v).length<=101:=hv
  refine xd<|Ad I<|?_
  by_cases h0:v=0
  ·have e1:Nat.gcd a.natAbs b.natAbs=u:=by rw[<-hg,h0,Nat.gcd_zero_right]
   have key: ∀e k,e=6*k->0<e->(lbs br u).length<=k->(decDigits u).length<=e:=fun e k he h0e hk=>by
    refine Cy e u (by omega) ?_
    have:=AJ br2 u
    refine Nat.lt_of_lt_of_le this ?_
    rw[Mn];exact Nat.pow_le_pow_right (by decide) (by omega)
   have hul:=key 606 101 rfl (by decide) hu
   refine wU 47 false I (dF (by rw[h0,Bg];decide))<|xa<|zS I<|xg<|xn<|wP I<|An Tryz.hZ tH I I I I I I I I ?_
   exact Ap 57 (Sl ((u:Nat):Int) (some ⟨x.1,0,none⟩) x.2.1) I (by unfold Sl;rw[dF (show¬((u:Nat):Int)<0 by omega),Int.natAbs_natCast];rfl)<|wC I I (fun W' hp=>HW ((u:Nat):Int) (by rw[Int.natAbs_natCast];exact hul) W' (some ⟨x.1,0,none⟩) x.2.1 (by rw[Int.natAbs_natCast];exact A6.of_bx hp 0 I))<|Aa I<|xc<|wR2 I I (by rw[e1])
  ·have hL:(lbs br v).length≠0:=fun e=>h0 ((DG br2).1 (List.length_eq_zero_iff.1 e))
   have hr:u%v<v:=Nat.mod_lt _ (by omega)
   refine wU 47 true I (dT (by show(((lbs br v).length:Nat):Int)>0;omega))<|xa<|zR I<|xe<|zH<|xb<|Aa I<|wD (X:=NV×NV) I I (fun W' hp=>JP W' (some ⟨x.1,0,none⟩) (some ⟨y.1,0,none⟩) x.2.1 y.2.1 u v (by omega) (A6.of_bx hp 0 I) (A6.of_bx hp 1 I) (by omega) (by omega)) ?_
   rintro⟨q,w⟩ ⟨hq,hw⟩
   exact Ak I<|xa<|zB<|At I<|zC<|zN<|Dh ((v,y),(u%v,w)) ⟨by show Nat.gcd v (u%v)=_;rw[Nat.gcd_comm, <-Nat.gcd_rec,Nat.gcd_comm];exact hg,hv,by show(lbs br (u%v)).length<=101;exact Nat.le_trans ((BZ br2).2 (Nat.lt_trans hr (AJ br2 v))) hv⟩ hr ⟨I,I,tO⟩ (fun W hp=>hp.pick [1,3] (by decide) I)
theorem Yc (a:List UInt8):cut a [47]=(if hasPrefix a [45]=true then 45::(cut (trimPrefix a [45]) [47]).1 else(cut (trimPrefix a [45]) [47]).1,(cut (trimPrefix a [45]) [47]).2):=by
 rw[Bj,AZ]
 by_cases h:a[0]? =some 45
 ·rw[if_pos h,if_pos (dT h)]
  obtain⟨t,rfl⟩: ∃t,a=45::t:=by
   cases a with
   |nil=>cases h
   |cons b t=>
    have e:b=45:=by simpa using h
    exact⟨t,by rw[e]⟩
  show cut (45::t) [47]=(45::(cut t [47]).1,(cut t [47]).2)
  rcases Hc 47 t with h1|⟨x,y,rfl,h1⟩
  ·rw[Fs h1,Fs (show(47:UInt8)∉45::t from fun h=>by
    rcases List.mem_cons.1 h with h|h
    ·cases h
    ·exact h1 h)]
  ·rw[GY y h1,show 45::(x++47::y)=(45::x)++47::y from rfl,GY y (show(47:UInt8)∉45::x from fun h=>by
    rcases List.mem_cons.1 h with h|h
    ·cases h
    ·exact h1 h)]
 ·rw[if_neg h,if_neg (by rw[dF h];decide)]
theorem ZL {a:List UInt8} {c:UInt8} (h:(cut a [47]).1[0]? =some c):a[0]? =some c:=by
 rcases Hc 47 a with h1|⟨x,y,rfl,h1⟩
 ·rwa [Fs h1] at h
 ·rw[GY y h1] at h
  cases x with
  |nil=>cases h
  |cons b t=>exact h
theorem Y4 {m:Bool} {n:List UInt8} (h:m=false->n[0]? ≠some 45):H0 (if m=true then 45::n else n)=if dgB n=true/\ ¬(m=true/\n=[48]) then some (if m=true then -(AP n:Int) else AP n) else none:=by
 have hd:dgB n=true↔(ldn n=n.length/\n≠[]/\(1<n.length->n[0]? ≠some 48)):=by
  rw[HA];exact⟨Nm,L4⟩
 have key: ∀(x:List UInt8),hasPrefix x [45]=m->trimPrefix x [45]=n->H0 x=if dgB n=true/\ ¬(m=true/\n=[48]) then some (if m=true then -(AP n:Int) else AP n) else none:=fun x h1 h2=>by
  unfold H0
  rw[h1,h2]
  by_cases hc:dgB n=true/\ ¬(m=true/\n=[48])
  ·rw[if_pos hc]
   obtain⟨c1,c2,c3⟩:=hd.1 hc.1
   rw[if_pos ⟨c1,c2,c3,hc.2⟩]
  ·rw[if_neg hc,if_neg fun h4=>hc ⟨hd.2 ⟨h4.1,h4.2.1,h4.2.2.1⟩,h4.2.2.2⟩]
 cases m with
 |true=>
  refine key _ ?_ ?_
  ·rw[if_pos rfl,Bj];rfl
  ·rw[if_pos rfl,AZ];rfl
 |false=>
  have h0:=h rfl
  refine key _ ?_ ?_
  ·rw[if_neg (by decide),Bj,dF h0]
  ·rw[if_neg (by decide),AZ,if_neg h0]
def PY (m:Bool) (n d:List UInt8) (sl:Bool):Bool:= !dgB n||(sl&&(!dgB d||decide (d=[48])||decide (d=[49])))||(m&&decide (n=[48]))
theorem ZD (a:List UInt8):frm a=if PY (hasPrefix a [45]) (cut (trimPrefix a [45]) [47]).1 (cut (trimPrefix a [45]) [47]).2.1 (cut (trimPrefix a [45]) [47]).2.2=true then none
  else some (if hasPrefix a [45]=true then -(AP (cut (trimPrefix a [45]) [47]).1:Int) else AP (cut (trimPrefix a [45]) [47]).1,if (cut (trimPrefix a [45]) [47]).2.2=true then AP (cut (trimPrefix a [45]) [47]).2.1 else 1):=by
 have h1:=Yc a
 have h2:hasPrefix a [45]=false->(cut (trimPrefix a [45]) [47]).1[0]? ≠some 45:=fun hm hc=>by
  have h3:=ZL hc
  rw[Bj] at hm
  have hm:=of_decide_eq_false hm
  rw[AZ,if_neg hm] at h3
  exact hm h3
 have h3:=Y4 h2
 unfold frm
 generalize hasPrefix a [45]=m at*
 generalize cut (trimPrefix a [45]) [47]=c at*
 obtain⟨n,d,sl⟩:=c
 rw[h1]
 simp only at h3⊢
 rw[h3]
 have hd:dgB d=true↔(ldn d=d.length/\d≠[]/\(1<d.length->d[0]? ≠some 48)):=by
  rw[HA];exact⟨Nm,L4⟩
 by_cases hc:dgB n=true/\ ¬(m=true/\n=[48])
 ·rw[if_pos hc]
  have e1:PY m n d sl=(sl&&(!dgB d||decide (d=[48])||decide (d=[49]))):=by
   unfold PY
   rw[hc.1]
   have:(m&&decide (n=[48]))=false:=by
    by_cases hm:m=true
    ·rw[hm,dF fun h=>hc.2 ⟨hm,h⟩];rfl
    ·rw[show m=false by simpa using hm];rfl
   rw[this,Bool.or_false];rfl
  rw[e1]
  simp only
  cases sl with
  |false=>rfl
  |true=>
   simp only[Bool.true_eq_false,if_false,Bool.true_and,if_true]
   by_cases hk:dgB d=true/\d≠[48]/\d≠[49]
   ·obtain⟨k1,k2,k3⟩:=hd.1 hk.1
    have e0:(!dgB d||decide (d=[48])||decide (d=[49]))=false:=by rw[hk.1,dF hk.2.1,dF hk.2.2];rfl
    rw[if_pos ⟨k1,k2,k3,hk.2⟩,e0,if_neg (show¬(false=true) by decide)]
   ·rw[if_neg fun h4=>hk ⟨hd.2 ⟨h4.1,h4.2.1,h4.2.2.1⟩,h4.2.2.2⟩,if_pos]
    by_cases k1:dgB d=true
    ·by_cases k2:d=[48]
     ·rw[dT k2];simp
     ·by_cases k3:d=[49]
      ·rw[dT k3];simp
      ·exact absurd ⟨k1,k2,k3⟩ hk
    ·rw[show dgB d=false by simpa using k1];rfl
 ·rw[if_neg hc,if_pos]
  unfold PY
  by_cases k1:dgB n=true
  ·by_cases k2:m=true
   ·by_cases k3:n=[48]
    ·rw[k2,dT k3];simp
    ·exact absurd ⟨k1,fun h=>k3 h.2⟩ hc
   ·exact absurd ⟨k1,fun h=>k2 h.1⟩ hc
  ·rw[show dgB n=false by simpa using k1];rfl
theorem Nf {n:List UInt8} (h:dgB n=true):n=decDigits (AP n):=TF.1 (HA.1 h)
theorem SJ {n:List UInt8} (h:dgB n=true) (hl:n.length<=9):AP n<1000000000:=by
 have e:=Nf h
 rw[e] at hl
 exact Oy hl
theorem Lr (a:List UInt8) (ha:a.length<4611686018427387904) (W:World) (ht:A9 W):
  Ae Tryz.prog 64 #[str a] W (fun _:Unit=> .int .i64 (rdR a).2) (fun _=>True) (fun _=>[]):=by
 have hfr:=ZD a
 have hsv:TT a=TT a:=rfl
 have hcl:=VO (trimPrefix a [45])
 have htl:(trimPrefix a [45]).length<=a.length:=by rw[AZ];split<;>simp
 have hmiss:(cut (trimPrefix a [45]) [47]).2.2=false->(cut (trimPrefix a [45]) [47]).2.1=[]:=fun h=>by
  rcases Hc 47 (trimPrefix a [45]) with h1|⟨x,y,e,h1⟩
  ·rw[Fs h1]
  ·rw[e,GY y h1] at h;cases h
 conv at hsv=>rhs;unfold TT
 generalize hasPrefix a [45]=m at*
 generalize cut (trimPrefix a [45]) [47]=c at*
 obtain⟨n,d,sl⟩:=c
 simp only at hfr hsv hcl hmiss
 refine Ab Tryz.func64 I I I<|xb<|wP I<|xf<|wP I<|wC I I (fun W _=>(GE a ha W).cast hsv)<|?_
 iterate 9 refine wP I ?_
 refine Kj ?_
 obtain⟨P1,e1⟩: ∃b,dgB n=b:=⟨_,rfl⟩
 obtain⟨P2,e2⟩: ∃b,dgB d=b:=⟨_,rfl⟩
 obtain⟨P3,e3⟩: ∃b,decide (d=[48])=b:=⟨_,rfl⟩
 obtain⟨P4,e4⟩: ∃b,decide (d=[49])=b:=⟨_,rfl⟩
 obtain⟨P5,e5⟩: ∃b,decide (n=[48])=b:=⟨_,rfl⟩
 have hB:PY m n d sl=(!P1||(sl&&(!P2||P3||P4))||(m&&P5)):=by unfold PY;rw[e1,e2,e3,e4,e5]
 refine zE<|zA<|zA<|AA (X:=Unit) (fun _=>[(4,str n),(5,str d),(6, .bool sl),(41, .bool (PY m n d sl))]) (fun _=>[]) (fun _=>True) ?_ ?_
 ·refine zB<|wP I<|wC I I (fun W _=>(IA n (by omega) W).cast (v':= .bool P1) (by rw[e1]))<|Aa I<|AI 19 I (fun h19=> ?_) (fun h19=> ?_)
  ·refine Af I I ?_
   iterate 13 refine Af I I ?_
   refine Aa I<|?_
   iterate 5 refine Af I I ?_
   exact wP I<|zC<|Ao () tO ⟨I,I,I,congrArg (fun b=>some (Value.bool b)) (by rw[hB];simp_all),tO⟩ [] I
  ·refine Aa I<|AI 21 I (fun h21=> ?_) (fun h21=> ?_)
   ·refine wP I<|wC I I (fun W _=>(IA d (by omega) W).cast (v':= .bool P2) (by rw[e2]))<|Aa I<|AI 25 I (fun h25=> ?_) (fun h25=> ?_)
    ·refine Af I I ?_
     refine Af I I ?_
     refine Aa I<|?_
     iterate 2 refine Af I I ?_
     refine At I<|?_
     iterate 5 refine Af I I ?_
     exact wP I<|zC<|Ao () tO ⟨I,I,I,congrArg (fun b=>some (Value.bool b)) (by rw[hB];simp_all),tO⟩ [] I
    ·refine Aa I<|wU 27 P3 I ((AW _ _).trans e3)<|Aa I<|AI 29 I (fun h29=> ?_) (fun h29=> ?_)
     ·refine Af I I ?_
      refine Af I I ?_
      refine At I<|?_
      iterate 5 refine Af I I ?_
      exact wP I<|zC<|Ao () tO ⟨I,I,I,congrArg (fun b=>some (Value.bool b)) (by rw[hB];simp_all),tO⟩ [] I
     ·refine Aa I<|wU 31 P4 I ((AW _ _).trans e4)<|At I<|AI 35 I (fun h35=> ?_) (fun h35=> ?_)
      ·refine Af I I ?_
       iterate 4 refine Af I I ?_
       exact wP I<|zC<|Ao () tO ⟨I,I,I,congrArg (fun b=>some (Value.bool b)) (by rw[hB];simp_all),tO⟩ [] I
      ·refine Aa I<|AI 37 I (fun h37=> ?_) (fun h37=> ?_)
       ·exact Aa I<|wU 39 P5 I ((AW _ _).trans e5)<|Aa I<|zC<|Ao () tO ⟨I,I,I,congrArg (fun b=>some (Value.bool b)) (by rw[hB];simp_all),tO⟩ [] I
       ·refine Af I I ?_
        refine Af I I ?_
        exact Aa I<|zC<|Ao () tO ⟨I,I,I,congrArg (fun b=>some (Value.bool b)) (by rw[hB];simp_all),tO⟩ [] I
   ·refine Af I I ?_
    iterate 10 refine Af I I ?_
    refine Ak I<|AI 37 I (fun h37=> ?_) (fun h37=> ?_)
    ·exact Aa I<|wU 39 P5 I ((AW _ _).trans e5)<|Aa I<|zC<|Ao () tO ⟨I,I,I,congrArg (fun b=>some (Value.bool b)) (by rw[hB];simp_all),tO⟩ [] I
    ·refine Af I I ?_
     refine Af I I ?_
     exact Aa I<|zC<|Ao () tO ⟨I,I,I,congrArg (fun b=>some (Value.bool b)) (by rw[hB];simp_all),tO⟩ [] I
 intro _ _
 refine Ag I (fun hbad=> ?_) (fun hbad=> ?_)
 ·rw[if_pos hbad] at hfr
  exact xb<|wP I<|xo<|wR1 I I (by unfold rdR;rw[hfr])
 have hbad:PY m n d sl=false:=hbad
 rw[if_neg (by rw[hbad];decide)] at hfr
 have hn:dgB n=true:=by
  cases h:dgB n with
  |true=>rfl
  |false=>unfold PY at hbad;rw[h] at hbad;cases hbad
 have hdl:sl=true->dgB d=true:=fun hs=>by
  cases h:dgB d with
  |true=>rfl
  |false=>unfold PY at hbad;rw[h,hs,hn] at hbad;cases hbad
 have hna:(if m=true then -(AP n:Int) else AP n).natAbs=AP n:=by split<;>omega
 have hne:=Nf hn
 have hlen1:n.length<=300↔AP n<Bw:=by
  conv=>lhs;rw[hne]
  exact Ih
 have hlen2:d.length<=300↔(if sl=true then AP d else 1)<Bw:=by
  cases hs:sl with
  |true=>
   rw[if_pos rfl]
   conv=>lhs;rw[Nf (hdl hs)]
   exact Ih
  |false=>
   rw[hmiss hs,if_neg (by decide)]
   exact⟨fun _=>Ih.1 (by rw[G0];decide),fun _=>by decide⟩
 have hcode:(rdR a).2=if AP n<Bw/\(if sl=true then AP d else 1)<Bw then(if Nat.gcd (AP n) (if sl=true then AP d else 1)=1 then 0 else 11) else 4:=by
  unfold rdR
  rw[hfr]
  simp only[hna]
  generalize (if sl=true then AP d else 1)=k
  by_cases c1:AP n<Bw/\k<Bw
  ·rw[if_pos c1,if_pos c1]
   by_cases c2:Nat.gcd (AP n) k=1
   ·rw[if_pos c2,if_pos c2]
   ·rw[if_neg c2,if_neg c2]
  ·rw[if_neg c1,if_neg c1]
 refine xe<|zA<|zA<|AA (X:=Unit) (fun _=>[(4,str n),(5,str d),(6, .bool sl),(49, .bool (decide (¬(n.length<=300/\d.length<=300))))]) (fun _=>[]) (fun _=>True) ?_ ?_
 ·refine zB<|Aa I<|Ap 43 (.int .i64 (n.length:Nat)) I (congrArg (fun n:Nat=>Value.int .i64 (n:Int)) (A5 n))<|wP I<|?_
  by_cases h1:n.length<=300
  ·exact wU 44 false I (dF (by omega))<|Ad I<|Ap 47 (.int .i64 (d.length:Nat)) I (congrArg (fun n:Nat=>Value.int .i64 (n:Int)) (A5 d))<|wP I<|wU 48 (decide (¬(n.length<=300/\d.length<=300))) I (decide_eq_decide.2 (by show((d.length:Nat):Int)>300↔_;omega))<|wP I<|zC<|Ao () tO ⟨I,I,I,I,tO⟩ [] I
  ·refine wU 44 true I (dT (by show((n.length:Nat):Int)>300;omega))<|wP I<|?_
   iterate 3 refine Af I I ?_
   exact wP I<|zC<|Ao () tO ⟨I,I,I,by rw[dT (show¬(n.length<=300/\d.length<=300) by omega)];rfl,tO⟩ [] I
 intro _ _
 refine Ag I (fun hlong=> ?_) (fun hlong=> ?_)
 ·have hlong:=of_decide_eq_true hlong
  exact xb<|wP I<|xo<|wR1 I I (by rw[hcode,if_neg fun h=>hlong ⟨hlen1.2 h.1,hlen2.2 h.2⟩])
 have hlong:n.length<=300/\d.length<=300:=Decidable.byContradiction fun h=>of_decide_eq_false hlong h
 rw[if_pos ⟨hlen1.1 hlong.1,hlen2.1 hlong.2⟩] at hcode
 refine xe<|xd<|Aa I<|zC<|?_
 cases hs:sl with
 |false=>
  have hcode:(rdR a).2=0:=by rw[hcode,hs];exact if_pos (show Nat.gcd (AP n) 1=1 from Nat.gcd_one_right _)
  exact zE<|zR I<|xb<|wP I<|xo<|wR1 I I (by rw[hcode])
 |true=>
  have hd:=hdl hs
  have hde:=Nf hd
  rw[hs,if_pos rfl] at hcode
  refine zE<|zS I<|xe<|zA<|zA<|AA (X:=Unit) (fun _=>[(4,str n),(5,str d),(59, .bool (decide (n.length<=9/\d.length<=9)))]) (fun _=>[]) (fun _=>True) ?_ ?_
  ·refine zB<|Aa I<|Ap 53 (.int .i64 (n.length:Nat)) I (congrArg (fun n:Nat=>Value.int .i64 (n:Int)) (A5 n))<|wP I<|?_
   by_cases h1:n.length<=9
   ·exact wU 54 true I (dT (by omega))<|Ad I<|Ap 57 (.int .i64 (d.length:Nat)) I (congrArg (fun n:Nat=>Value.int .i64 (n:Int)) (A5 d))<|wP I<|wU 58 (decide (n.length<=9/\d.length<=9)) I (decide_eq_decide.2 (by omega))<|wP I<|zC<|Ao () tO ⟨I,I,I,tO⟩ [] I
   ·refine wU 54 false I (dF (by omega))<|wP I<|?_
    iterate 3 refine Af I I ?_
    exact wP I<|zC<|Ao () tO ⟨I,I,by rw[dF (fun h:n.length<=9/\d.length<=9=>h1 h.1)];rfl,tO⟩ [] I
  intro _ _
  refine Ag I (fun h9=> ?_) (fun h9=> ?_)
  ·obtain⟨h9,h9'⟩:=of_decide_eq_true h9
   have l1:AP n<1000000000:=SJ hn h9
   have l2:AP d<1000000000:=SJ hd h9'
   refine xd<|wP I<|wC I I (fun W _=>Ct n (by omega) (HA.1 hn).all W)<|wP I<|wC I I (fun W _=>Ct d (by omega) (HA.1 hd).all W)<|wC I I (fun W _=>MF (AP n) (AP d) (by omega) (by omega) W)<|wP I<|?_
   by_cases hg:Nat.gcd (AP n) (AP d)=1
   ·exact wU 65 false I (by rw[bne_eq_false_iff_eq];omega)<|xa<|zS I<|xm<|wP I<|xo<|wR1 I I (by rw[hcode,if_pos hg])
   ·exact wU 65 true I (by rw[bne_iff_ne];omega)<|xa<|zR I<|xb<|wP I<|xo<|zP<|wR1 I I (by rw[hcode,if_neg hg])
  ·have e1:n=itoa ((AP n:Nat):Int):=by rw[Ff];exact hne
   have e2:d=itoa ((AP d:Nat):Int):=by rw[Ff];exact hde
   refine xe<|xd<|Aa I<|?_
   refine wC I I (fun W1 hp=>by
    have h:=NT ((AP n:Nat):Int) ((AP d:Nat):Int) (by rw[Int.natAbs_natCast, <-hne];exact hlong.1) (by rw[Int.natAbs_natCast, <-hde];exact hlong.2) W1 (ht.hp hp)
    rw[<-e1, <-e2,Int.natAbs_natCast,Int.natAbs_natCast,Ff] at h
    exact h) ?_
   refine Ak I<|xf<|Aa I<|?_
   by_cases hg:Nat.gcd (AP n) (AP d)=1
   ·exact wU 73 false I (by show(!_)=false;rw[AW,hg,G0];rfl)<|xa<|zS I<|xm<|wP I<|xc<|wR1 I I (by rw[hcode,if_pos hg])
   ·refine Ap 73 (.bool true) I (congrArg Value.bool (by
     show(!_)=true
     rw[AW,dF fun h=>hg (by have:=congrArg AP h;rw[BX] at this;exact this)];rfl)) ?_
    exact xa<|zR I<|xb<|wP I<|xo<|wR1 I I (by rw[hcode,if_neg hg])
theorem FM (a b c d:Int) (ha:okN a) (hb:okN b) (hc:okN c) (hd:okN d) (hab:okN (a*b)) (hcd:okN (c*d)) (W:World) (ht:A9 W):
  Ae Tryz.prog 111 #[str (itoa a),str (itoa b),str (itoa c),str (itoa d)] W (fun _:Unit=> .tuple #[str (itoa (a*b)),str (itoa (c*d)), .int .i64 0]) (fun _=>True) (fun _=>[]):=by
 refine Ab Tryz.func111 I I I<|xb<|Ad I<|xf<|Aa I<|wC I I (fun W1 hp=>Of a b ha.dd hb.dd hab.dd W1 (ht.hp hp))<|Ak I<|xk<|Aa I<|?_
 refine xa<|zS I<|xm<|Aa I<|wC I I (fun W1 hp=>Of c d hc.dd hd.dd hcd.dd W1 (ht.hp hp))<|Ak I<|xf<|AE I<|?_
 exact xc<|wR3 I I I
theorem Hy {q:Rat} (h:okQ q):(Ac q).length<=1000:=by
 have:=AX h
 omega
theorem L6 {q:Rat} (h:okQ q) (W:World) (ht:A9 W):Ae Tryz.prog 64 #[str (Ac q)] W (fun _:Unit=> .int .i64 0) (fun _=>True) (fun _=>[]):=
 (Lr (Ac q) (by have:=Hy h;omega) W ht).cast (by rw[Dt h])
theorem DS {p q:Rat} (hp':okQ p) (hq:okQ q) (W:World) (ht:A9 W):Ae Tryz.prog 60 #[str (Ac p),str (Ac q)] W (fun _:Unit=> .int .i64 0) (fun _=>True) (fun _=>[]):=by
 refine Ab Tryz.func60 I I I<|xb<|wP I<|xk<|wP I<|wC I I (fun W1 hp=>L6 hp' W1 (ht.hp hp))<|wP I<|xf<|Aa I<|xa<|zS I<|xe<|zA<|?_
 exact zB<|wP I<|wC I I (fun W1 hp=>L6 hq W1 (ht.hp hp))<|wP I<|xc<|wR1 I I I
def iN (q:Rat):Int:=if FA q=true then q.num else 0
def iD (q:Rat):Int:=if FA q=true then((q.den:Nat):Int) else 0
theorem CX {q:Rat} (h:okQ q):Be Tryz.prog 107 [str (Ac q)] (.tuple #[.int .i64 (iN q), .int .i64 (iD q), .bool (FA q)]):=fun W=>
 (Vj q (by have:=Hy h;omega) W).cast (by
  unfold iN iD
  cases FA q<;>rfl)
theorem Tu {x y:Int} (hx:x.natAbs<1000000000) (hy:y.natAbs<1000000000):(x*y).natAbs<1000000000000000000:=by
 rw[Int.natAbs_mul]
 have:=Nat.mul_lt_mul'' hx hy
 omega
theorem EM {x y:Int} (hx:x.natAbs<1000000000) (hy:y.natAbs<1000000000):w64 (x*y)=x*y:=by
 have:=Tu hx hy
 exact Ar (by omega) (by omega)
theorem Ii {n:Nat} (h:n<1000000000):((n:Nat):Int).natAbs<1000000000:=by rw[Int.natAbs_natCast];exact h
def sh2 (p q:Rat):Bool:=FA p&&FA q
theorem J4 {p q:Rat} (h:sh2 p q=true):iN p=p.num/\iD p=(p.den:Nat)/\iN q=q.num/\iD q=(q.den:Nat)/\p.num.natAbs<1000000000/\p.den<1000000000/\q.num.natAbs<1000000000/\q.den<1000000000:=by
 obtain⟨h1,h2⟩:=Bool.and_eq_true_iff.1 h
 obtain⟨a1,a2⟩:=L9 h1
 obtain⟨b1,b2⟩:=L9 h2
 exact⟨if_pos h1,if_pos h1,if_pos h2,if_pos h2,a1,a2,b1,b2⟩
theorem QY (z:Int) {d:Nat} (hd:0<d):nrm z (d:Int)=mkRat z d:=by
 unfold nrm
 rw[if_neg (by omega),Int.natAbs_natCast]
theorem CG {q:Rat} (h:okQ q):Be Tryz.prog 108 [str (Ac q)] (.tuple #[str (itoa q.num),str (itoa ((q.den:Nat):Int))]):=fun W=>
 (M1 q (Hy h) W).cast (by rw[Ff])
theorem UH (p q:Rat) (h:Sz2 p q) (W:World) (ht:A9 W):
  Ae Tryz.prog 67 #[str (Ac p),str (Ac q)] W (fun _:Unit=> .tuple #[.int .i64 (CT p q), .int .i64 0]) (fun _=>True) (fun _=>[]):=by
 have hpn:=p.den_pos
 have hqn:=q.den_pos
 rw[<-Mg]
 obtain⟨x,hx⟩: ∃x,p.num*((q.den:Nat):Int)=x:=⟨_,rfl⟩
 obtain⟨y,hy⟩: ∃y,q.num*((p.den:Nat):Int)=y:=⟨_,rfl⟩
 rw[hx,hy]
 refine Ab Tryz.func67 I I I<|xb<|Aa I<|xk<|Aa I<|wC I I (fun W1 hp=>DS h.okp h.okq W1 (ht.hp hp))<|wP I<|xf<|Aa I<|xa<|zS I<|zI<|?_
 refine xn<|wP I<|wC I I (fun W _=>CX h.okp W)<|AE I<|wP I<|xf<|wP I<|wC I I (fun W _=>CX h.okq W)<|AE I<|wP I<|?_
 refine xl<|zA<|AA (X:=Unit) (fun _=>[(0,str (Ac p)),(1,str (Ac q)),(7, .int .i64 (iN p)),(8, .int .i64 (iD p)),(10, .int .i64 (iN q)),(11, .int .i64 (iD q)),(41, .bool (sh2 p q))]) (fun _=>[]) (fun _=>True) ?_ ?_
 ·refine zB<|Aa I<|AI 39 I (fun h39=> ?_) (fun h39=> ?_)
  ·exact Aa I<|zC<|Ao () tO ⟨I,I,I,I,I,I,congrArg (fun b=>some (Value.bool b)) (by unfold sh2;simp_all),tO⟩ [] I
  ·refine Af I I ?_
   exact wP I<|zC<|Ao () tO ⟨I,I,I,I,I,I,congrArg (fun b=>some (Value.bool b)) (by unfold sh2;simp_all),tO⟩ [] I
 intro _ _
 refine Ag I (fun hs=> ?_) (fun hs=> ?_)
 ·obtain⟨e1,e2,e3,e4,l1,l2,l3,l4⟩:=J4 hs
  have w1:w64 (iN p*iD q)=x:=by rw[e1,e4, <-hx];exact EM l1 (Ii l4)
  have w2:w64 (iN q*iD p)=y:=by rw[e3,e2, <-hy];exact EM l3 (Ii l2)
  refine zA<|zH<|xb<|Ad I<|wV 45 x I w1<|Ad I<|wV 48 y I w2<|wP I<|?_
  by_cases h1:x<y
  ·exact wU 49 true I (dT h1)<|wP I<|xa<|zR I<|xb<|Aa I<|xc<|zQ<|zP<|zP<|wR2 I I (by rw[Hb,if_pos h1])
  refine wU 49 false I (dF h1)<|wP I<|xa<|zS I<|xb<|Ad I<|wV 53 x I w1<|Ad I<|wV 56 y I w2<|wP I<|?_
  by_cases h2:y<x
  ·exact wU 57 true I (dT h2)<|wP I<|xa<|zR I<|xb<|Aa I<|xc<|zQ<|zP<|zP<|wR2 I I (by rw[Hb,if_neg h1,if_neg (by omega)])
  exact wU 57 false I (dF h2)<|wP I<|xa<|zS I<|zI<|zN<|xn<|Aa I<|xo<|wR2 I I (by rw[Hb,if_neg h1,if_pos (by omega)])
 ·refine xm<|wP I<|wC I I (fun W _=>CG h.okp W)<|Ak I<|xf<|wP I<|wC I I (fun W _=>CG h.okq W)<|Ak I<|xa<|?_
  refine xb<|At I<|wC I I (fun W1 hp=>(FM p.num (q.den:Nat) q.num (p.den:Nat) h.okp.1 h.okq.2 h.okq.1 h.okp.2 h.c1 h.c2 W1 (ht.hp hp)).cast (v':= .tuple #[str (itoa x),str (itoa y), .int .i64 0]) (by rw[hx,hy]))<|AE I<|wP I<|xk<|Aa I<|xa<|zS I<|?_
  exact xm<|Aa I<|wC I I (fun W1 hp=>UR x y (by rw[<-hx];exact h.c1.dd) (by rw[<-hy];exact h.c2.dd) W1)<|At I<|xc<|wR2 I I I
theorem IS (m:Nat) (hm:m<9223372036854775808):Be Tryz.prog 169 [.int .i64 (m:Nat)] (str (decDigits m)):=by
 intro W
 have hlen:(decDigits m).length<=19:=Cy 19 m (by omega) (by omega)
 refine Ab Tryz.func169 I I I<|xb<|wP I<|xf<|Cr Tryz.vec285 20 I I I I I I I (by decide) (by decide) ?_
 intro b
 refine wP I<|xf<|Ad I<|xa<|zH<|?_
 refine Av (X:=Nat×List UInt8) (fun x=>[(0, .int .i64 (x.1:Nat)),(3, .slice (some ⟨b,0,none⟩) 20 20),(4, .int .i64 ((20-x.2.length:Nat):Int))]) (fun x=>[⟨b,5,zrV (20-x.2.length)++byV x.2,true,none⟩])
  (fun x=>x.1<9223372036854775808/\decDigits m=decDigits x.1++x.2) (fun x=>x.1) (m,[]) ⟨hm,by simp⟩ ⟨rfl,rfl,rfl,trivial⟩ [] rfl ?_
 rintro⟨u,suf⟩ ⟨hu0,hd0⟩
 have hu:u<9223372036854775808:=hu0
 have hd:decDigits m=decDigits u++suf:=hd0
 have hs:suf.length<=18:=by
  have h1:=congrArg List.length hd
  rw[List.length_append] at h1
  have h2:(decDigits u).length≠0:=fun e=>F5 u (List.length_eq_zero_iff.1 e)
  omega
 refine zH<|xb<|Aa I<|wV 9 ((19-suf.length:Nat):Int) I (show w64 (((20-suf.length:Nat):Int)-1)=_ by rw[Ar (by omega) (by omega)];omega)<|wP I<|xf<|Ad I<|FC I I I I I (by decide) ?_
 refine wV 13 ((u%10:Nat):Int) I (show Int.tmod (u:Nat) ((10:Nat):Int)=_ from(Int.ofNat_tmod _ _).symm)<|wP I<|wV 14 ((48+u%10:Nat):Int) I (show w64 (48+((u%10:Nat):Int))=_ by rw[Ar (by omega) (by omega)];omega)<|XW Tryz.underlying3 Tryz.underlying5 I I I I ?_
 refine Ap 15 (.int .u8 ((UInt8.ofNat (48+u%10)).toNat:Int)) I (congrArg (Value.int .u8) (XL u))<|wJ ?_
 refine AG 0 (zrV (20-(UInt8.ofNat (48+u%10)::suf).length)++byV (UInt8.ofNat (48+u%10)::suf)) tH I I I I I I I I I I (by show 0+(19-suf.length)*1+1<=(zrV (20-suf.length)++byV suf).length;rw[List.length_append,KE];omega) (by
  rw[List.length_cons,show 20-(suf.length+1)=19-suf.length by omega]
  show BF (zrV (20-suf.length)++byV suf) _ _=_
  rw[show 20-suf.length=19-suf.length+1 by omega]
  exact VZ) ?_
 refine xf<|wP I<|Ef I I I I I (by decide) ?_
 refine wV 18 ((u/10:Nat):Int) I (show w64 (Int.tdiv (u:Nat) ((10:Nat):Int))=_ by rw[<-Int.ofNat_tdiv,Ar (by omega) (by omega)])<|wP I<|xf<|Aa I<|xa<|?_
 generalize hc:UInt8.ofNat (48+u%10)=c at*
 refine Ag I (fun h=> ?_) (fun h=> ?_)
 ·have h0:u<10:=by have h':(((u/10:Nat):Int)==0)=true:=h;rw[beq_iff_eq] at h';omega
  have he:decDigits m=c::suf:=by rw[hd,decDigits_one h0, <-hc,Nat.mod_eq_of_lt h0];rfl
  refine xb<|Aa I<|Dv (19-suf.length) tH I I I I I I I I (by omega) (by omega) ?_
  refine Ap 23 (.slice (some ⟨b,19-suf.length,none⟩) (c::suf).length (20-(19-suf.length))) I (by
   rw[if_neg (by omega),List.length_cons,show 20-(19-suf.length)=suf.length+1 by omega,show 0+(19-suf.length)*1=19-suf.length by omega]) ?_
  refine IW 0 (c::suf) (e:=5) (by kernel_rfl) Tryz.underlying5 (by kernel_rfl) I I I I I I I (fun j hj=>by
   show(zrV (20-(c::suf).length)++byV (c::suf))[19-suf.length+j]? =_
   rw[show 20-(c::suf).length=19-suf.length by rw[List.length_cons];omega]
   exact Vs hj) ?_
  exact wP I<|xc<|zQ<|zP<|zQ<|wR1 I I (by rw[he])
 ·have h0: ¬u<10:=by have h':(((u/10:Nat):Int)==0)=false:=h;rw[beq_eq_false_iff_ne] at h';omega
  refine zI<|zN<|?_
  refine Al (u/10,c::suf) ⟨by show u/10<9223372036854775808;omega, ?_⟩ (by show u/10<u;omega) ⟨I,I,congrArg (fun z=>some (Value.int .i64 z)) (by rw[List.length_cons,show 20-(suf.length+1)=19-suf.length by omega]),tO⟩ [] I
  show decDigits m=decDigits (u/10)++c::suf
  rw[hd,decDigits,dif_neg h0,hc,List.append_assoc];rfl
theorem Y1 {z:Int} {g:Nat} (hg:0<g) (h:g∣z.natAbs):itoa (z/(g:Int))=(if z<0 then[45] else[])++decDigits (z.natAbs/g):=by
 obtain⟨k,hk⟩:=h
 by_cases hz:z<0
 ·have e:z= -((g*k:Nat):Int):=by omega
  have hk0:k≠0:=fun e=>by rw[e] at hk;omega
  have e2:z/(g:Int)= -(k:Int):=by
   rw[e,Int.natCast_mul, <-Int.mul_neg]
   exact Int.mul_ediv_cancel_left _ (by omega)
  rw[if_pos hz,e2,N0 hk0,hk,Nat.mul_div_cancel_left _ hg];rfl
 ·have e:z=((g*k:Nat):Int):=by omega
  have e2:z/(g:Int)=(k:Int):=by
   rw[e,Int.natCast_mul]
   exact Int.mul_ediv_cancel_left _ (by omega)
  rw[if_neg hz,e2,hk,Nat.mul_div_cancel_left _ hg]
  unfold itoa
  rw[if_neg (by omega)];rfl
theorem De (z:Int) (d:Nat) (hz:z.natAbs<9223372036854775808) (hd0:0<d) (hd:d<9223372036854775808):Be Tryz.prog 104 [.int .i64 z, .int .i64 (d:Nat)] (str (Ac (mkRat z d))):=by
 intro W
 obtain⟨n,hn⟩: ∃n,z.natAbs=n:=⟨_,rfl⟩
 obtain⟨g,hg⟩: ∃g,Nat.gcd n d=g:=⟨_,rfl⟩
 have hg0:0<g:=by rw[<-hg];exact Nat.gcd_pos_of_pos_right _ hd0
 have hgn:g∣n:=by rw[<-hg];exact Nat.gcd_dvd_left ..
 have hgd:g∣d:=by rw[<-hg];exact Nat.gcd_dvd_right ..
 have hgle:g<=d:=Nat.le_of_dvd hd0 hgd
 rw[hn] at hz
 have hnq:n/g<=n:=Nat.div_le_self ..
 have hdq:d/g<=d:=Nat.div_le_self ..
 have hnl:(decDigits (n/g)).length<=19:=Cy 19 _ (by decide) (by omega)
 have hdl:(decDigits (d/g)).length<=19:=Cy 19 _ (by decide) (by omega)
 obtain⟨s,hs⟩: ∃s:List UInt8,s=if z<0 then[45] else[]:=⟨_,rfl⟩
 have hsl:s.length<=1:=by rw[hs];split<;>decide
 have hq:itoa (z/(g:Int))=s++decDigits (n/g):=by rw[hs, <-hn];exact Y1 hg0 (by rw[hn];exact hgn)
 refine Ab Tryz.func104 I I I<|xb<|wP I<|xf<|wP I<|xk<|Aa I<|xa<|?_
 try refine Ba ?_
 refine AA (X:=Unit) (fun _=>[(0, .int .i64 (n:Nat)),(1, .int .i64 (d:Nat)),(5,str s)]) (fun _=>[]) (fun _=>True) ?_ ?_
 ·refine Ag I (fun h=> ?_) (fun h=> ?_)
  ·have h:z<0:=by simpa using h
   exact zB<|Aa I<|wV 10 (n:Nat) I (show w64 (0-z)=_ by rw[Ar (by omega) (by omega)];omega)<|Aa I<|zC<|Ao () tO ⟨I,I,by rw[hs,if_pos h];rfl,tO⟩ [] I
  ·have h: ¬z<0:=by simpa using h
   exact zI<|Ao () tO ⟨congrArg (fun z=>some (Value.int .i64 z)) (by omega),I,by rw[hs,if_neg h];rfl,tO⟩ [] I
 intro _ _
 refine xb<|Aa I<|wC I I (fun W hp=>(MF n d hz hd W).cast (v':= .int .i64 (g:Nat)) (by rw[hg]))<|wP I<|xf<|Ad I<|Ef I I I I I (by omega) ?_
 refine wV 17 ((n/g:Nat):Int) I (by rw[DR];exact BN (by omega))<|wC I I (fun W hp=>IS (n/g) (by omega) W)<|Ci I I I I I (a:=s) (b:=decDigits (n/g)) (by omega) (by omega) ?_
 refine Ap 19 (str (itoa (z/(g:Int)))) I (by rw[hq])<|wP I<|xk<|Aa I<|Ef I I I I I (by omega) ?_
 refine wV 22 ((d/g:Nat):Int) I (by rw[DR];exact BN (by omega))<|wP I<|?_
 have hql:(itoa (z/(g:Int))).length<=20:=by rw[hq,List.length_append];omega
 by_cases h1:d/g=1
 ·exact wU 23 true I (by rw[beq_iff_eq];omega)<|xa<|zR I<|xb<|Aa I<|xo<|wR1 I I (by rw[IN (by omega) (by rw[hn,hg];exact h1),hn,hg])
 ·refine wU 23 false I (by rw[beq_eq_false_iff_ne];omega)<|xa<|zS I<|xm<|wP I<|Ci I I I I I (a:=itoa (z/(g:Int))) (b:=[47]) (by omega) (by decide) ?_
  refine Aa I<|Ef I I I I I (by omega) ?_
  refine wV 29 ((d/g:Nat):Int) I (by rw[DR];exact BN (by omega))<|wC I I (fun W hp=>IS (d/g) (by omega) W)<|?_
  refine Ci I I I I I (by rw[List.length_append];show _+1<=_;omega) (by omega) ?_
  exact wP I<|xc<|wR1 I I (by rw[K4 (by omega) (by rw[hn,hg];exact h1),hn,hg,Ce])
theorem Xl (z:Int) (hz:z.natAbs<4611686018427387904):Be Tryz.prog 57 [.int .i64 z, .int .i64 1] (.tuple #[str (Ac (z:Rat)), .int .i64 0]):=by
 intro W
 refine Ab Tryz.func57 I I I<|xb<|Aa I<|xk<|Aa I<|xa<|zS I<|xe<|xd<|Aa I<|wU 9 true I (by show decide (z> -4611686018427387904)=true;rw[decide_eq_true_iff];omega)<|Ad I<|?_
 refine wU 12 true I (by show decide (z<4611686018427387904)=true;rw[decide_eq_true_iff];omega) ?_
 iterate 9 refine wP I ?_
 exact xa<|zR I<|xb<|Aa I<|wC I I (fun W hp=>(De z 1 (by omega) (by decide) (by decide) W).cast (v':=str (Ac (z:Rat))) (by rw[<-Yi];rfl))<|Aa I<|xo<|wR2 I I I
theorem TS {z:Int} {d:Nat} (hz:z<0):F1 z d=45::F1 (-z) d:=by
 have e:itoa z=45::itoa (-z):=by
  unfold itoa
  rw[if_pos hz,if_neg (by omega),show(-z).toNat=z.natAbs by omega]
 unfold F1
 rw[e]
 split<;>rfl
theorem Ve (q:Rat) (hl:(Ac q).length<=1000):Be Tryz.prog 62 [str (Ac q)] (str (Ac (-q))):=by
 intro W
 have en:(-q).num= -q.num:=rfl
 have ed:(-q).den=q.den:=rfl
 refine Ab Tryz.func62 I I I<|xb<|wP I<|xl<|zH<|xb<|Aa I<|wU 5 (decide (Ac q=[48])) I (AW _ _)<|wP I<|xa<|Ag I (fun h=> ?_) (fun h=> ?_)
 ·have h:q.num=0:=Fc.1 (of_decide_eq_true h)
  have e0:Ac (-q)=Ac q:=by rw[Fc.2 h,Fc.2 (by rw[en,h];rfl)]
  exact xb<|Aa I<|xc<|zQ<|zP<|wR1 I I (by rw[e0])
 have h: ¬q.num=0:=fun e=>of_decide_eq_false h (Fc.2 e)
 have hpre:=(Ln (z:=q.num) q.den_pos).1
 rw[Bj] at hpre
 obtain⟨c,hc⟩: ∃c,(Ac q)[0]? =some c:=by
  cases e:Ac q with
  |nil=>
   have:=congrArg List.length e
   unfold Ac F1 at this
   have h2:itoa q.num≠[]:=by unfold itoa;split;simp;exact F5 _
   split at this
   ·exact absurd (List.length_eq_zero_iff.1 this) h2
   ·rw[List.length_append] at this;simp at this
  |cons c t=>exact⟨c,rfl⟩
 have hc45:decide (c=45)=decide (q.num<0):=by
  rw[<-hpre]
  show _=decide ((Ac q)[0]? =some 45)
  exact decide_eq_decide.2 (by rw[hc];simp)
 refine xb<|wP I<|Bc 0 tH I I I I I I I I hc<|wP I<|wU 10 (decide (q.num<0)) I ((DK c 45).trans hc45)<|wP I<|xa<|Ag I (fun hn=> ?_) (fun hn=> ?_)
 ·have hn:q.num<0:=of_decide_eq_true hn
  have e1:Ac q=45::Ac (-q):=by unfold Ac;rw[en,ed];exact TS hn
  have hlen:=congrArg List.length e1
  rw[List.length_cons] at hlen
  refine xb<|wP I<|FL 1 tH I I I I I I I I (by omega) ?_
  exact wP I<|xc<|zQ<|zP<|wR1 I I (by rw[e1];rfl)
 ·have hn: ¬q.num<0:=of_decide_eq_false hn
  have e1:Ac (-q)=45::Ac q:=by
   unfold Ac
   rw[en,ed,TS (show -q.num<0 by omega),Int.neg_neg]
  refine zI<|zN<|xn<|wP I<|Ci I I I I I (a:=[45]) (b:=Ac q) (by decide) (by omega) ?_
  exact wP I<|xc<|wR1 I I (by rw[e1];rfl)
theorem Un (a b:Int) (ha:(decDigits a.natAbs).length<=300) (hb:(decDigits b.natAbs).length<=300) (hab:(decDigits (a+b).natAbs).length<=300) (W:World) (ht:A9 W):
  Ae Tryz.prog 112 #[str (itoa a),str (itoa b)] W (fun _:Unit=> .tuple #[str (itoa (a+b)), .int .i64 0]) (fun _=>True) (fun _=>[]):=by
 have la:=Dw (m:=a.natAbs) (by omega)
 have lb:=Dw (m:=b.natAbs) (by omega)
 refine Ab Tryz.func112 I I I<|xb<|Aa I<|xk<|Aa I<|wC I I (fun W _=>Ft a b ha hb W)<|wP I<|xf<|Aa I<|xa<|zS I<|zI<|?_
 refine zE<|xd<|?_
 cases hs:smI a&&smI b with
 |true=>
  obtain⟨h1,h2⟩:=Bool.and_eq_true_iff.1 hs
  have b1:=LV h1
  have b2:=LV h2
  refine Aa I<|wC I I (fun W _=>KN hs W)<|AE I<|wP I<|xf<|wP I<|xa<|zR I<|xb<|Ad I<|wV 26 (a+b) I (Ar (by omega) (by omega))<|?_
  exact wC I I (fun W hp=>Bt (a+b) (by omega) (by omega) W (ht.hp hp))<|Aa I<|xo<|wR2 I I I
 |false=>
  obtain⟨x0,y0,h2⟩:=KS hs ha hb
  refine Aa I<|wC I I (fun W _=>h2 W)<|AE I<|wP I<|xf<|wP I<|xa<|zS I<|xm<|wP I<|wD (X:=NV) I I (fun W' _=>BP a (by omega) W') ?_
  intro x hx
  refine wP I<|wD (X:=NV) I I (fun W' _=>BP b (by omega) W') ?_
  intro y hy
  refine wD (X:=NV) I I (fun W' hp=>OY a b W' (some ⟨x.1,0,none⟩) (some ⟨y.1,0,none⟩) x.2.1 y.2.1 (A6.of_bx hp 0 I) (A6.of_bx hp 1 I) (by omega) (by omega)) ?_
  intro w hw
  exact wC I I (fun W' hp=>Fm (a+b) hab W' (some ⟨w.1,0,none⟩) w.2.1 (A6.of_bx hp 2 I))<|At I<|xc<|wR2 I I I
theorem QI {a:Int} {g:Nat} (hg:0<g) (h:(g:Int)∣a):(a/(g:Int)).natAbs=a.natAbs/g/\a.natAbs%g=0/\(a/(g:Int)<0↔a<0)/\a.tdiv (g:Int)=a/(g:Int)/\a.tmod (g:Int)=0:=by
 obtain⟨k,rfl⟩:=h
 have e1:(g:Int)*k/(g:Int)=k:=Int.mul_ediv_cancel_left _ (by omega)
 refine⟨?_, ?_, ?_, ?_, ?_⟩
 ·rw[e1,Int.natAbs_mul,Int.natAbs_natCast,Nat.mul_div_cancel_left _ hg]
 ·rw[Int.natAbs_mul,Int.natAbs_natCast,Nat.mul_mod_right]
 ·rw[e1]
  constructor
  ·intro h;exact Int.mul_neg_of_pos_of_neg (by omega) h
  ·intro h
   by_cases h1:k<0
   ·exact h1
   ·have:=Int.mul_nonneg (show(0:Int)<=(g:Int) by omega) (show 0<=k by omega);omega
 ·rw[e1];exact Int.mul_tdiv_cancel_left _ (by omega)
 ·exact Int.mul_tmod_right _ _
theorem Pc (a:Int) (g:Nat) (hg:0<g) (h:(g:Int)∣a) (ha:(decDigits a.natAbs).length<=300) (hgl:(decDigits g).length<=300) (W:World) (ht:A9 W):
  Ae Tryz.prog 170 #[str (itoa a),str (itoa (g:Int))] W (fun _:Unit=> .tuple #[str (itoa (a/(g:Int))),str [48], .int .i64 0]) (fun _=>True) (fun _=>[]):=by
 obtain⟨q1,q2,q3,q4,q5⟩:=QI hg h
 have la:=Dw (m:=a.natAbs) (by omega)
 have lg:=Dw (m:=g) (by omega)
 have hgn:((g:Int)).natAbs=g:=Int.natAbs_natCast g
 have hgl2:(decDigits ((g:Int)).natAbs).length<=300:=by rw[hgn];exact hgl
 have hql:(decDigits (a/(g:Int)).natAbs).length<=300:=by
  rw[q1]
  have key: ∀e,0<e->(decDigits a.natAbs).length<=e->(decDigits (a.natAbs/g)).length<=e:=fun e he h=>Cy e _ (by omega) (Nat.lt_of_le_of_lt (Nat.div_le_self ..) (Nat.lt_of_lt_of_le (Fq _) (Nat.pow_le_pow_right (by decide) h)))
  exact key 300 (by decide) ha
 have hneg:decide ((g:Int)<0)=false:=dF (by omega)
 have hg48:itoa (g:Int)≠[48]:=fun e=>by
  have:=Ki.1 e
  omega
 refine Ab Tryz.func170 I I I<|xb<|Ad I<|xk<|Aa I<|wC I I (fun W _=>Ft a (g:Int) ha hgl2 W)<|wP I<|xf<|Aa I<|xa<|zS I<|?_
 refine xe<|xd<|Aa I<|wU 28 false I ((AW _ _).trans (dF hg48))<|xa<|zS I<|xe<|xd<|?_
 cases hs:smI a&&smI (g:Int) with
 |true=>
  obtain⟨h1,h2⟩:=Bool.and_eq_true_iff.1 hs
  have b1:=LV h1
  have b2:=LV h2
  have b3:(a/(g:Int)).natAbs<=a.natAbs:=by rw[q1];exact Nat.div_le_self ..
  refine Aa I<|wC I I (fun W _=>KN hs W)<|AE I<|wP I<|xf<|wP I<|xa<|zR I<|zA<|zU<|Ay I<|Kr I I I I I (by omega) ?_
  refine qV 39 (a/(g:Int)) I (by rw[q4];exact Ar (by omega) (by omega))<|Ay I<|DO I I I I I (by omega) ?_
  refine qV 42 0 I q5<|Ay I<|zD<|xk<|Aa I<|Ap 44 (.bool false) I I<|wP I<|?_
  iterate 5 refine Af I I ?_
  exact wP I<|xa<|zS I<|xm<|wP I<|wC I I (fun W hp=>Bt (a/(g:Int)) (by omega) (by omega) W (ht.hp hp))<|wP I<|wC I I (fun W hp=>(Bt 0 (by decide) (by decide) W (ht.hp hp)).cast (v':=str [48]) (by rw[CC]))<|Ad I<|xo<|wR3 I I I
 |false=>
  obtain⟨x0,y0,h2⟩:=KS hs ha hgl2
  refine Aa I<|wC I I (fun W _=>h2 W)<|AE I<|wP I<|xf<|wP I<|xa<|zS I<|xm<|wP I<|wD (X:=NV) I I (fun W' _=>BP a (by omega) W') ?_
  intro x hx
  refine wP I<|wD (X:=NV) I I (fun W' _=>BP (g:Int) (by omega) W') ?_
  intro y hy
  refine Ap 64 (.agg #[.bool false,B8 y (lbs br g).length]) I (by unfold aU;rw[hneg,hgn]) ?_
  rw[hgn] at hy⊢
  refine wG I I fun _=>wG I I fun _=>wS 2 I I I<|wS 3 I I I<|zC<|?_
  rename_i b13 b14
  refine xn<|wP I<|wB 2 I I I<|wP I<|wB 3 I I I<|wD (X:=NV×NV) I I (fun W' hp=>JP W' (some ⟨x.1,0,none⟩) (some ⟨y.1,0,none⟩) x.2.1 y.2.1 a.natAbs g hg (A6.of_bx hp 0 I) (A6.of_bx hp 1 I) (by omega) (by omega)) ?_
  rintro⟨q,w⟩ ⟨hq,hw⟩
  have e0:lbs br (a.natAbs%g)=[]:=by rw[q2];exact Bg
  have hq:C0 q (lbs br (a.natAbs/g)):=hq
  simp only[e0]
  refine Ak I<|xa<|?_
  try refine Ba ?_
  refine AA (X:=Nat×Nat) (fun s=>[(13,Ai b13),(14,Ai b14),(15,B8 q (lbs br (a.natAbs/g)).length),(16,B8 w 0),(17,Ai s.1),(18,Ai s.2)]) (fun s=>[BM q (lbs br (a.natAbs/g)),BM w [],⟨s.1,204,[.bool (decide (a/(g:Int)<0)),B8 q (lbs br (a.natAbs/g)).length],true,none⟩,⟨s.2,204,[.bool false,B8 w 0],true,none⟩]) (fun _=>True) ?_ ?_
  ·by_cases hn:a<0
   ·have hqn:a/(g:Int)<0:=q3.2 hn
    have hqL:0<(lbs br (a.natAbs/g)).length:=List.length_pos_iff.2 fun e=>by have:=(DG br2).1 e;omega
    have e1:decide (a<0)=true:=dT hn
    have e2:decide (a/(g:Int)<0)=true:=dT hqn
    simp only[e2]
    refine zB<|wP I<|wB 2 I I I<|wU 74 true I e1<|wP I<|wB 3 I I I<|EE Tryz.underlying4 I I I I I I ?_
    refine At I<|wU 81 true I (dT (by omega))<|Aa I<|An Tryz.hZ tH I I I I I I I I ?_
    refine wP I<|wB 2 I I I<|wU 86 true I e1<|At I<|Ap 90 (.bool false) I I<|Aa I<|An Tryz.hZ tH I I I I I I I I ?_
    refine wG I I fun _=>wG I I fun _=>wS 6 I I I<|wS 7 I I I<|zC<|?_
    rename_i b17 b18
    exact J6 (b17,b18) tO ⟨I,I,I,I,I,I,tO⟩ [4,5,6,7] (by decide) I
   ·have hqn: ¬a/(g:Int)<0:=fun h=>hn (q3.1 h)
    have e1:decide (a<0)=false:=dF hn
    have e2:decide (a/(g:Int)<0)=false:=dF hqn
    simp only[e2]
    refine zB<|wP I<|wB 2 I I I<|wU 74 false I e1<|wP I<|wB 3 I I I<|EE Tryz.underlying4 I I I I I I ?_
    refine wP I ?_
    iterate 3 refine Af I I ?_
    refine Aa I<|An Tryz.hZ tH I I I I I I I I ?_
    refine wP I<|wB 2 I I I<|wU 86 false I e1<|wP I<|?_
    iterate 3 refine Af I I ?_
    refine Aa I<|An Tryz.hZ tH I I I I I I I I ?_
    refine wG I I fun _=>wG I I fun _=>wS 6 I I I<|wS 7 I I I<|zC<|?_
    rename_i b17 b18
    exact J6 (b17,b18) tO ⟨I,I,I,I,I,I,tO⟩ [4,5,6,7] (by decide) I
  rintro⟨b17,b18⟩ _
  refine xd<|Ad I<|Ap 96 (.bool false) I I<|wP I<|?_
  iterate 5 refine Af I I ?_
  refine wP I<|xa<|zS I<|xm<|wB 2 I I I<|?_
  refine wC I I (fun W' hp=>by
   have h:=Fm (a/(g:Int)) hql W' (some ⟨q.1,0,none⟩) q.2.1
   rw[q1] at h
   exact h (A6.of_bx hp 0 I)) ?_
  refine Ak I<|xk<|Aa I<|xa<|zS I<|xm<|wP I<|wB 3 I I I<|?_
  refine wC I I (fun W' hp=>by
   have h:=HW 0 (by decide+kernel) W' (some ⟨w.1,0,none⟩) w.2.1 (.inl Bg)
   rw[CC,show(0:Int).natAbs=0 from rfl,Bg] at h
   exact h) ?_
  exact Ad I<|xc<|wR3 I I I
theorem UM {n m k:Nat} (h:n<=m) (hk:0<k) (hm:(decDigits m).length<=k):(decDigits n).length<=k:=
 Cy k n (by omega) (Nat.lt_of_le_of_lt h (Nat.lt_of_lt_of_le (Fq m) (Nat.pow_le_pow_right (by decide) hm)))
theorem Jy {z:Int} (h:z<0):itoa z=45::itoa (-z):=by
 unfold itoa
 rw[if_pos h,if_neg (by omega),show(-z).toNat=z.natAbs by omega]
theorem Nd {z:Int} (h: ¬z<0):itoa z=decDigits z.natAbs:=by rw[Dj];unfold JA;rw[if_neg h];rfl
theorem Wj {z:Int} (h:(itoa z).length<=18):z.natAbs<1000000000000000000:=by
 rw[Dj,List.length_append] at h
 exact Nat.lt_of_lt_of_le (Fq _) (show _<=10^18 from Nat.pow_le_pow_right (by decide) (by omega))
theorem Mt (z d:Int) (hd:d≠0) (hz:okN z) (hdk:okN d) (W:World) (ht:A9 W):
  Ae Tryz.prog 105 #[str (itoa z),str (itoa d)] W (fun _:Unit=> .tuple #[str (Ac (nrm z d)), .int .i64 0]) (fun _=>True) (fun _=>[]):=by
 have lz:=HX hz.dd
 have ld:=HX hdk.dd
 obtain⟨c0,hc0,hc45⟩:=Ga d
 obtain⟨u,hu⟩: ∃u,u=if d<0 then -z else z:=⟨_,rfl⟩
 obtain⟨e,he⟩: ∃e,e=d.natAbs:=⟨_,rfl⟩
 have he0:0<e:=by omega
 have hnr:nrm z d=mkRat u e:=by unfold nrm;rw[hu,he]
 have hua:u.natAbs=z.natAbs:=by rw[hu];split<;>omega
 have huk:okN u:=by unfold okN;rw[hua];exact hz
 have hek:okN (e:Int):=by unfold okN;rw[Int.natAbs_natCast,he];exact hdk
 have hel:(decDigits e).length<=300:=by have:=hek.dd;rwa [Int.natAbs_natCast] at this
 have hie:itoa (e:Int)=decDigits e:=Ff e
 rw[hnr]
 refine Ab Tryz.func105 I I I<|xb<|Aa I<|xk<|wP I<|Bc 0 tH I I I I I I I I hc0<|wP I<|wU 11 (decide (d<0)) I ((DK c0 45).trans hc45)<|xa<|?_
 try refine Ba ?_
 refine AA (X:=Unit) (fun _=>[(0,str (itoa u)),(1,str (itoa (e:Int)))]) (fun _=>[]) (fun _=>True) ?_ ?_
 ·refine Ag I (fun h=> ?_) (fun h=> ?_)
  ·have h:d<0:=of_decide_eq_true h
   have ed:itoa d=45::itoa (e:Int):=by rw[Jy h,show -d=(e:Int) by omega]
   have eu:u= -z:=by rw[hu,if_pos h]
   obtain⟨c1,hc1,hc2⟩:=Ga z
   refine xb<|wP I<|?_
   refine FL 1 tH I I I I I I I I (by rw[ed,List.length_cons];omega) ?_
   refine Ap 13 (str (itoa (e:Int))) I (by rw[ed];rfl)<|wP I<|xf<|wP I<|Bc 0 tH I I I I I I I I hc1<|wP I<|wU 16 (decide (z<0)) I ((DK c1 45).trans hc2)<|xa<|Ag I (fun hzn=> ?_) (fun hzn=> ?_)
   ·have hzn:z<0:=of_decide_eq_true hzn
    refine zB<|wP I<|?_
    refine FL 1 tH I I I I I I I I (by rw[Jy hzn,List.length_cons];omega) ?_
    exact wP I<|zC<|Ao () tO ⟨by rw[Jy hzn,eu];rfl,I,tO⟩ [] I
   ·have hzn: ¬z<0:=of_decide_eq_false hzn
    refine xb<|Aa I<|?_
    by_cases hz0:z=0
    ·exact wU 20 false I (by show(!_)=false;rw[AW,hz0,CC];rfl)<|xa<|zS I<|zI<|Ao () tO ⟨by rw[eu,hz0];rfl,I,tO⟩ [] I
    ·refine wU 20 true I (by show(!_)=true;rw[AW,dF fun h=>hz0 (Ki.1 h)];rfl)<|xa<|zR I<|zB<|wP I<|Ci I I I I I (a:=[45]) (b:=itoa z) (by decide) (by omega) ?_
     exact wP I<|zC<|Ao () tO ⟨by rw[eu,Jy (show -z<0 by omega),Int.neg_neg];rfl,I,tO⟩ [] I
  ·have h: ¬d<0:=of_decide_eq_false h
   exact zI<|Ao () tO ⟨by rw[hu,if_neg h];rfl,by rw[show(e:Int)=d by omega];rfl,tO⟩ [] I
 intro _ _
 have lu:=HX huk.dd
 have le:=HX hek.dd
 obtain⟨c1,hc1,hc2⟩:=Ga u
 refine zA<|zA<|AA (X:=Unit) (fun _=>[(0,str (itoa u)),(1,str (itoa (e:Int))),(30, .bool (decide ((itoa u).length<=18/\(itoa (e:Int)).length<=18)))]) (fun _=>[]) (fun _=>True) ?_ ?_
 ·refine zB<|Aa I<|Ap 24 (.int .i64 ((itoa u).length:Nat)) I (congrArg (fun n:Nat=>Value.int .i64 (n:Int)) (A5 _))<|wP I<|?_
  by_cases h1:(itoa u).length<=18
  ·exact wU 25 true I (dT (by omega))<|Ad I<|Ap 28 (.int .i64 ((itoa (e:Int)).length:Nat)) I (congrArg (fun n:Nat=>Value.int .i64 (n:Int)) (A5 _))<|wP I<|wU 29 (decide ((itoa u).length<=18/\(itoa (e:Int)).length<=18)) I (decide_eq_decide.2 (by omega))<|wP I<|zC<|Ao () tO ⟨I,I,I,tO⟩ [] I
  ·refine wU 25 false I (dF (by omega))<|wP I<|?_
   iterate 3 refine Af I I ?_
   exact wP I<|zC<|Ao () tO ⟨I,I,by rw[dF (fun h:(itoa u).length<=18/\(itoa (e:Int)).length<=18=>h1 h.1)];rfl,tO⟩ [] I
 intro _ _
 refine Ag I (fun h18=> ?_) (fun h18=> ?_)
 ·obtain⟨h1,h2⟩:=of_decide_eq_true h18
  have u18:=Wj h1
  have e18:=Wj h2
  rw[Int.natAbs_natCast] at e18
  rw[hie] at h2
  refine xd<|wP I<|Bc 0 tH I I I I I I I I hc1<|wP I<|wU 33 (decide (u<0)) I ((DK c1 45).trans hc2)<|xa<|Ag I (fun hn=> ?_) (fun hn=> ?_)
  ·have hn:u<0:=of_decide_eq_true hn
   have eu:itoa u=45::decDigits u.natAbs:=by rw[Jy hn,Nd (by omega),Int.natAbs_neg]
   have hdl:(decDigits u.natAbs).length<=18:=by rw[eu,List.length_cons] at h1;omega
   refine xb<|wP I<|?_
   refine FL 1 tH I I I I I I I I (by rw[eu,List.length_cons];omega) ?_
   exact Ap 35 (str (decDigits u.natAbs)) I (by rw[eu];rfl)<|wC I I (fun W _=>(Ct (decDigits u.natAbs) hdl (Gr _).all W).cast (v':= .int .i64 (u.natAbs:Nat)) (by rw[BX]))<|wP I<|wV 37 u I (by show w64 (0-((u.natAbs:Nat):Int))=_;rw[Ar (by omega) (by omega)];omega)<|wP I<|Ap 38 (str (decDigits e)) I (by rw[hie])<|wC I I (fun W _=>(Ct (decDigits e) h2 (Gr _).all W).cast (v':= .int .i64 (e:Nat)) (by rw[BX]))<|wC I I (fun W _=>De u e (by omega) he0 (by omega) W)<|Aa I<|xo<|zP<|wR2 I I I
  ·have hn: ¬u<0:=of_decide_eq_false hn
   have eu:itoa u=decDigits u.natAbs:=Nd hn
   rw[eu] at h1
   exact xm<|wP I<|Ap 41 (str (decDigits u.natAbs)) I (by rw[eu])<|wC I I (fun W _=>(Ct (decDigits u.natAbs) h1 (Gr _).all W).cast (v':= .int .i64 u) (by rw[BX];exact congrArg (Value.int .i64) (by omega)))<|wP I<|Ap 43 (str (decDigits e)) I (by rw[hie])<|wC I I (fun W _=>(Ct (decDigits e) h2 (Gr _).all W).cast (v':= .int .i64 (e:Nat)) (by rw[BX]))<|wC I I (fun W _=>De u e (by omega) he0 (by omega) W)<|Aa I<|xo<|wR2 I I I
 obtain⟨g,hg⟩: ∃g,Nat.gcd u.natAbs e=g:=⟨_,rfl⟩
 have hg0:0<g:=by rw[<-hg];exact Nat.gcd_pos_of_pos_right _ he0
 have hgu:(g:Int)∣u:=Int.natAbs_dvd_natAbs.1 (by rw[Int.natAbs_natCast, <-hg];exact Nat.gcd_dvd_left ..)
 have hge:g∣e:=by rw[<-hg];exact Nat.gcd_dvd_right ..
 have hgle:g<=e:=Nat.le_of_dvd he0 hge
 have hgl:(decDigits g).length<=300:=UM hgle (by decide) hel
 obtain⟨x,hx⟩: ∃x,x=u/(g:Int):=⟨_,rfl⟩
 have hxe:=QI hg0 hgu
 have hxl:(decDigits x.natAbs).length<=300:=by
  rw[hx,hxe.1]
  exact UM (Nat.div_le_self ..) (by decide) huk.dd
 obtain⟨y,hy⟩: ∃y,y=e/g:=⟨_,rfl⟩
 have hyl:(decDigits y).length<=300:=by
  rw[hy]
  exact UM (Nat.div_le_self ..) (by decide) hel
 have hyI:(e:Int)/(g:Int)=(y:Int):=by rw[hy];exact(Int.natCast_ediv _ _).symm
 have hnum:Ac (mkRat u e)=if y=1 then itoa x else itoa x++[47]++decDigits y:=by
  by_cases h1:y=1
  ·rw[if_pos h1,IN (by omega) (by rw[hg, <-hy];exact h1),hg, <-hx]
  ·rw[if_neg h1,K4 (by omega) (by rw[hg, <-hy];exact h1),hg, <-hx, <-hy,Ff]
 have lx:=HX hxl
 obtain⟨c3,hc3,hc4⟩:=Ga x
 refine xm<|Aa I<|wC I I (fun W1 hp=>(NT u (e:Int) huk.dd hek.dd W1 (ht.hp hp)).cast (v':= .tuple #[str (itoa (g:Int)), .int .i64 0]) (by rw[Int.natAbs_natCast,hg]))<|Ak I<|xk<|Aa I<|xa<|zS I<|xe<|?_
 refine xb<|Aa I<|wC I I (fun W1 hp=>(Pc u g hg0 hgu huk.dd hgl W1 (ht.hp hp)).cast (v':= .tuple #[str (itoa x),str [48], .int .i64 0]) (by rw[hx]))<|AE I<|xk<|Aa I<|xa<|zS I<|xe<|zA<|?_
 refine zB<|Aa I<|wC I I (fun W1 hp=>(Pc (e:Int) g hg0 (Int.natCast_dvd_natCast.2 hge) hek.dd hgl W1 (ht.hp hp)).cast (v':= .tuple #[str (decDigits y),str [48], .int .i64 0]) (by rw[hyI,Ff]))<|AE I<|xk<|Aa I<|xa<|zS I<|xm<|?_
 refine Aa I<|xk<|wP I<|Bc 0 tH I I I I I I I I hc3<|wP I<|wU 78 (decide (x<0)) I ((DK c3 45).trans hc4)<|xa<|?_
 try refine Ba ?_
 refine AA (X:=Unit) (fun _=>[(0,str (itoa x)),(1,str (decDigits y)),(8,str (decDigits x.natAbs))]) (fun _=>[]) (fun _=>True) ?_ ?_
 ·refine Ag I (fun hn=> ?_) (fun hn=> ?_)
  ·have hn:x<0:=of_decide_eq_true hn
   have ex:itoa x=45::decDigits x.natAbs:=by rw[Jy hn,Nd (by omega),Int.natAbs_neg]
   refine zB<|wP I<|?_
   refine FL 1 tH I I I I I I I I (by rw[ex,List.length_cons];omega) ?_
   exact Ap 80 (str (decDigits x.natAbs)) I (by rw[ex];rfl)<|wP I<|zC<|Ao () tO ⟨I,I,I,tO⟩ [] I
  ·have hn: ¬x<0:=of_decide_eq_false hn
   exact zI<|Ao () tO ⟨I,I,by rw[<-Nd hn];rfl,tO⟩ [] I
 intro _ _
 refine xd<|Aa I<|Ap 82 (.int .i64 ((decDigits x.natAbs).length:Nat)) I (congrArg (fun n:Nat=>Value.int .i64 (n:Int)) (A5 _))<|wP I<|wU 83 false I (dF (by omega))<|Ad I<|Ap 86 (.int .i64 ((decDigits y).length:Nat)) I (congrArg (fun n:Nat=>Value.int .i64 (n:Int)) (A5 _))<|wP I<|wU 87 false I (dF (by omega))<|wP I<|xa<|zS I<|xe<|xd<|Aa I<|?_
 by_cases h1:y=1
 ·exact wU 90 true I (by rw[AW,h1,G0];rfl)<|xa<|zR I<|xb<|Ad I<|xo<|wR2 I I (by rw[hnum,if_pos h1])
 ·refine wU 90 false I (by rw[AW];exact dF fun h=>h1 (by have:=congrArg AP h;rw[BX] at this;exact this))<|xa<|zS I<|xm<|wP I<|Ci I I I I I (a:=itoa x) (b:=[47]) (by omega) (by decide) ?_
  refine wP I ?_
  refine Ci I I I I I (by rw[List.length_append];show _+1<=_;omega) (by omega) ?_
  exact Aa I<|xc<|wR2 I I (by rw[hnum,if_neg h1])
theorem OH (n d m c:Int) (hn:okN n) (hd:okN d) (hm:okN m) (hc:okN c) (hnm:okN (n*m)) (hdc:okN (d*c)) (h0:d*c≠0) (W:World) (ht:A9 W):
  Ae Tryz.prog 109 #[str (itoa n),str (itoa d),str (itoa m),str (itoa c)] W (fun _:Unit=> .tuple #[str (Ac (nrm (n*m) (d*c))), .int .i64 0]) (fun _=>True) (fun _=>[]):=by
 refine Ab Tryz.func109 I I I<|xb<|Aa I<|xf<|At I<|wC I I (fun W1 hp=>FM n m d c hn hm hd hc hnm hdc W1 (ht.hp hp))<|AE I<|wP I<|xl<|zA<|?_
 exact zB<|Aa I<|xa<|zS I<|xm<|Aa I<|wC I I (fun W1 hp=>Mt (n*m) (d*c) h0 hnm hdc W1 (ht.hp hp))<|At I<|xc<|wR2 I I I
theorem Om (p q:Rat) (h:Sz2 p q) (W:World) (ht:A9 W):
  Ae Tryz.prog 61 #[str (Ac p),str (Ac q)] W (fun _:Unit=> .tuple #[str (Ac (p+q)), .int .i64 0]) (fun _=>True) (fun _=>[]):=by
 have hpn:=p.den_pos
 have hqn:=q.den_pos
 have ra:=Nl p q
 refine Ab Tryz.func61 I I I<|xb<|Aa I<|xf<|wP I<|wC I I (fun W _=>CX h.okp W)<|AE I<|wP I<|xf<|wP I<|wC I I (fun W _=>CX h.okq W)<|?_
 refine AE I<|wP I<|xl<|zA<|AA (X:=Unit) (fun _=>[(0,str (Ac p)),(1,str (Ac q)),(6, .int .i64 (iN p)),(7, .int .i64 (iD p)),(9, .int .i64 (iN q)),(10, .int .i64 (iD q)),(37, .bool (sh2 p q))]) (fun _=>[]) (fun _=>True) ?_ ?_
 ·refine zB<|Aa I<|AI 35 I (fun h35=> ?_) (fun h35=> ?_)
  ·exact Aa I<|zC<|Ao () tO ⟨I,I,I,I,I,I,congrArg (fun b=>some (Value.bool b)) (by unfold sh2;simp_all),tO⟩ [] I
  ·refine Af I I ?_
   exact wP I<|zC<|Ao () tO ⟨I,I,I,I,I,I,congrArg (fun b=>some (Value.bool b)) (by unfold sh2;simp_all),tO⟩ [] I
 intro _ _
 refine Ag I (fun hs=> ?_) (fun hs=> ?_)
 ·obtain⟨e1,e2,e3,e4,l1,l2,l3,l4⟩:=J4 hs
  have m1:=Tu l1 (Ii l4)
  have m2:=Tu l3 (Ii l2)
  have m3:=Tu (Ii l2) (Ii l4)
  have hdd:((p.den:Nat):Int)*((q.den:Nat):Int)=((p.den*q.den:Nat):Int):=(Int.natCast_mul _ _).symm
  rw[hdd,Int.natAbs_natCast] at m3
  have hpq:=Nat.mul_pos hpn hqn
  rw[hdd,QY _ hpq] at ra
  exact xb<|Ad I<|wV 40 (p.num*(q.den:Nat)) I (by rw[e1,e4];exact EM l1 (Ii l4))<|Ad I<|wV 43 (q.num*(p.den:Nat)) I (by rw[e3,e2];exact EM l3 (Ii l2))<|wP I<|wV 44 (p.num*(q.den:Nat)+q.num*(p.den:Nat)) I (Ar (by omega) (by omega))<|Ad I<|wV 47 ((p.den*q.den:Nat):Int) I (by rw[e2,e4, <-hdd];exact EM (Ii l2) (Ii l4))<|wC I I (fun W _=>(De (p.num*(q.den:Nat)+q.num*(p.den:Nat)) (p.den*q.den) (by omega) hpq (by omega) W).cast (v':=str (Ac (p+q))) (by rw[ra]))<|Aa I<|xo<|wR2 I I I
 ·have hd0:((p.den:Nat):Int)*((q.den:Nat):Int)≠0:=Int.mul_ne_zero (by omega) (by omega)
  refine xm<|wP I<|wC I I (fun W _=>CG h.okp W)<|Ak I<|xf<|wP I<|wC I I (fun W _=>CG h.okq W)<|Ak I<|xa<|?_
  refine xb<|At I<|wC I I (fun W1 hp=>FM p.num (q.den:Nat) q.num (p.den:Nat) h.okp.1 h.okq.2 h.okq.1 h.okp.2 h.c1 h.c2 W1 (ht.hp hp))<|AE I<|wP I<|xk<|Aa I<|xa<|zS I<|?_
  refine xm<|Aa I<|?_
  refine wC I I (fun W1 hp=>by
   have h1:=FM (p.den:Nat) (q.den:Nat) 1 1 h.okp.2 h.okq.2 (IZ (by decide)) (IZ (by decide)) h.d (IZ (by decide)) W1 (ht.hp hp)
   rw[show(1:Int)*1=1 from rfl,Yd] at h1
   exact h1) ?_
  refine AE I<|wP I<|xk<|Ak I<|wU 82 false I (by show(!_)=false;rw[AW,dT I];rfl)<|wP I<|xa<|zS I<|xe<|?_
  refine xb<|Aa I<|wC I I (fun W1 hp=>Un (p.num*(q.den:Nat)) (q.num*(p.den:Nat)) h.c1.dd h.c2.dd h.add.dd W1 (ht.hp hp))<|Ak I<|xk<|Aa I<|xa<|zS I<|xm<|?_
  exact Aa I<|wC I I (fun W1 hp=>(Mt _ _ hd0 h.add h.d W1 (ht.hp hp)).cast (v':= .tuple #[str (Ac (p+q)), .int .i64 0]) (by rw[ra]))<|At I<|xc<|wR2 I I I
theorem G1 (p q:Rat) (h:Sz2 p q) (W:World) (ht:A9 W):
  Ae Tryz.prog 30 #[str (Ac p),str (Ac q)] W (fun _:Unit=> .tuple #[str (Ac (p+q)), .int .i64 0]) (fun _=>True) (fun _=>[]):=by
 refine Ab Tryz.func30 I I I<|xb<|Aa I<|xk<|Aa I<|wC I I (fun W1 hp=>DS h.okp h.okq W1 (ht.hp hp))<|wP I<|xf<|Aa I<|xa<|zS I<|zI<|?_
 exact xn<|Aa I<|wC I I (fun W1 hp=>Om p q h W1 (ht.hp hp))<|At I<|xc<|wR2 I I I
theorem Sz2.neg {p q:Rat} (h:Sz2 p q):Sz2 p (-q):=by
 have e:(-q).num= -q.num:=rfl
 have d:(-q).den=q.den:=rfl
 refine⟨h.okp,⟨by rw[e];exact Nh h.okq.1,h.okq.2⟩,h.c1,by rw[e,Int.neg_mul];exact Nh h.c2,h.d,by rw[e,Int.mul_neg];exact Nh h.n, ?_, ?_⟩
 ·rw[e,d,Int.neg_mul, <-Int.sub_eq_add_neg];exact h.sub
 ·rw[e,d,Int.neg_mul,Int.sub_neg];exact h.add
theorem Gy (p q:Rat) (h:Sz2 p q) (W:World) (ht:A9 W):
  Ae Tryz.prog 29 #[str (Ac p),str (Ac q)] W (fun _:Unit=> .tuple #[str (Ac (p-q)), .int .i64 0]) (fun _=>True) (fun _=>[]):=by
 refine Ab Tryz.func29 I I I<|xb<|Aa I<|xk<|Aa I<|wC I I (fun W1 hp=>DS h.okp h.okq W1 (ht.hp hp))<|wP I<|xf<|Aa I<|xa<|zS I<|zI<|?_
 exact xn<|Aa I<|wC I I (fun W _=>Ve q (Hy h.okq) W)<|wC I I (fun W1 hp=>(Om p (-q) h.neg W1 (ht.hp hp)).cast (v':= .tuple #[str (Ac (p-q)), .int .i64 0]) (by rw[Rat.sub_eq_add_neg]))<|At I<|xc<|wR2 I I I
theorem OJ (p q:Rat) (h:Sz2 p q) (W:World) (ht:A9 W):
  Ae Tryz.prog 58 #[str (Ac p),str (Ac q)] W (fun _:Unit=> .tuple #[str (Ac (p*q)), .int .i64 0]) (fun _=>True) (fun _=>[]):=by
 have hpn:=p.den_pos
 have hqn:=q.den_pos
 have ra:=J7 p q
 refine Ab Tryz.func58 I I I<|xb<|Aa I<|xk<|Aa I<|wC I I (fun W1 hp=>DS h.okp h.okq W1 (ht.hp hp))<|wP I<|xf<|Aa I<|xa<|zS I<|zI<|?_
 refine xn<|wP I<|wC I I (fun W _=>CX h.okp W)<|AE I<|wP I<|xf<|wP I<|wC I I (fun W _=>CX h.okq W)<|AE I<|wP I<|?_
 refine xl<|zA<|AA (X:=Unit) (fun _=>[(0,str (Ac p)),(1,str (Ac q)),(7, .int .i64 (iN p)),(8, .int .i64 (iD p)),(10, .int .i64 (iN q)),(11, .int .i64 (iD q)),(38, .bool (sh2 p q))]) (fun _=>[]) (fun _=>True) ?_ ?_
 ·refine zB<|Aa I<|AI 36 I (fun h36=> ?_) (fun h36=> ?_)
  ·exact Aa I<|zC<|Ao () tO ⟨I,I,I,I,I,I,congrArg (fun b=>some (Value.bool b)) (by unfold sh2;simp_all),tO⟩ [] I
  ·refine Af I I ?_
   exact wP I<|zC<|Ao () tO ⟨I,I,I,I,I,I,congrArg (fun b=>some (Value.bool b)) (by unfold sh2;simp_all),tO⟩ [] I
 intro _ _
 refine Ag I (fun hs=> ?_) (fun hs=> ?_)
 ·obtain⟨e1,e2,e3,e4,l1,l2,l3,l4⟩:=J4 hs
  have m1:=Tu l1 l3
  have m3:=Tu (Ii l2) (Ii l4)
  have hdd:((p.den:Nat):Int)*((q.den:Nat):Int)=((p.den*q.den:Nat):Int):=(Int.natCast_mul _ _).symm
  rw[hdd,Int.natAbs_natCast] at m3
  have hpq:=Nat.mul_pos hpn hqn
  rw[hdd,QY _ hpq] at ra
  exact xb<|Ad I<|wV 41 (p.num*q.num) I (by rw[e1,e3];exact EM l1 l3)<|Ad I<|wV 44 ((p.den*q.den:Nat):Int) I (by rw[e2,e4, <-hdd];exact EM (Ii l2) (Ii l4))<|wC I I (fun W _=>(De (p.num*q.num) (p.den*q.den) (by omega) hpq (by omega) W).cast (v':=str (Ac (p*q))) (by rw[ra]))<|Aa I<|xo<|wR2 I I I
 ·have hd0:((p.den:Nat):Int)*((q.den:Nat):Int)≠0:=Int.mul_ne_zero (by omega) (by omega)
  refine xm<|wP I<|wC I I (fun W _=>CG h.okp W)<|Ak I<|xf<|wP I<|wC I I (fun W _=>CG h.okq W)<|Ak I<|xa<|?_
  exact xb<|At I<|wC I I (fun W1 hp=>(OH p.num (p.den:Nat) q.num (q.den:Nat) h.okp.1 h.okp.2 h.okq.1 h.okq.2 h.n h.d hd0 W1 (ht.hp hp)).cast (v':= .tuple #[str (Ac (p*q)), .int .i64 0]) (by rw[ra]))<|At I<|xc<|wR2 I I I
theorem O3 (p q:Rat) (h:Sz2 p q) (h0:q.num≠0) (W:World) (ht:A9 W):
  Ae Tryz.prog 79 #[str (Ac p),str (Ac q)] W (fun _:Unit=> .tuple #[str (Ac (p/q)), .int .i64 0]) (fun _=>True) (fun _=>[]):=by
 have hpn:=p.den_pos
 have hqn:=q.den_pos
 have ra:=MZ p q h0
 refine Ab Tryz.func79 I I I<|xb<|Aa I<|xk<|Aa I<|wC I I (fun W1 hp=>DS h.okp h.okq W1 (ht.hp hp))<|wP I<|xf<|Aa I<|xa<|zS I<|zI<|?_
 refine zE<|xd<|Aa I<|wU 24 false I ((AW _ _).trans (dF fun e=>h0 (Fc.1 e)))<|xa<|zS I<|xm<|wP I<|wC I I (fun W _=>CX h.okp W)<|AE I<|wP I<|zC<|?_
 refine xn<|wP I<|wC I I (fun W _=>CX h.okq W)<|AE I<|wP I<|xl<|zA<|AA (X:=Unit) (fun _=>[(0,str (Ac p)),(1,str (Ac q)),(7, .int .i64 (iN p)),(8, .int .i64 (iD p)),(10, .int .i64 (iN q)),(11, .int .i64 (iD q)),(40, .bool (sh2 p q))]) (fun _=>[]) (fun _=>True) ?_ ?_
 ·refine zB<|Aa I<|AI 38 I (fun h38=> ?_) (fun h38=> ?_)
  ·exact Aa I<|zC<|Ao () tO ⟨I,I,I,I,I,I,congrArg (fun b=>some (Value.bool b)) (by unfold sh2;simp_all),tO⟩ [] I
  ·refine Af I I ?_
   exact wP I<|zC<|Ao () tO ⟨I,I,I,I,I,I,congrArg (fun b=>some (Value.bool b)) (by unfold sh2;simp_all),tO⟩ [] I
 intro _ _
 refine Ag I (fun hs=> ?_) (fun hs=> ?_)
 ·obtain⟨e1,e2,e3,e4,l1,l2,l3,l4⟩:=J4 hs
  obtain⟨m,hm⟩: ∃m,m=q.num.natAbs:=⟨_,rfl⟩
  obtain⟨c,hc⟩: ∃c:Int,c=if q.num<0 then -((q.den:Nat):Int) else((q.den:Nat):Int):=⟨_,rfl⟩
  have hca:c.natAbs<1000000000:=by rw[hc];split<;>omega
  have hm9:m<1000000000:=by omega
  have m1:=Tu l1 hca
  have m3:=Tu (Ii l2) (Ii hm9)
  have hdd:((p.den:Nat):Int)*((m:Nat):Int)=((p.den*m:Nat):Int):=(Int.natCast_mul _ _).symm
  rw[hdd,Int.natAbs_natCast] at m3
  have hpq:0<p.den*m:=Nat.mul_pos hpn (by omega)
  have hr:mkRat (p.num*c) (p.den*m)=p/q:=by
   rw[<-ra]
   unfold nrm
   have hn1:(((p.den:Nat):Int)*q.num).natAbs=p.den*m:=by rw[Int.natAbs_mul,Int.natAbs_natCast,hm]
   rw[hn1]
   by_cases hq:q.num<0
   ·rw[if_pos (Int.mul_neg_of_pos_of_neg (by omega) hq),hc,if_pos hq,Int.mul_neg]
   ·rw[if_neg (by have:=Int.mul_nonneg (show(0:Int)<=(p.den:Nat) by omega) (show 0<=q.num by omega);omega),hc,if_neg hq]
  refine xd<|Aa I<|wU 42 (decide (q.num<0)) I (by rw[e3])<|xa<|?_
  try refine Ba ?_
  refine AA (X:=Unit) (fun _=>[(7, .int .i64 (iN p)),(8, .int .i64 (iD p)),(10, .int .i64 (m:Nat)),(11, .int .i64 c)]) (fun _=>[]) (fun _=>True) ?_ ?_
  ·refine Ag I (fun hq=> ?_) (fun hq=> ?_)
   ·have hq:q.num<0:=of_decide_eq_true hq
    exact zB<|Aa I<|wV 44 (m:Nat) I (by rw[e3];show w64 (0-q.num)=_;rw[Ar (by omega) (by omega)];omega)<|Aa I<|wV 46 c I (by rw[e4];show w64 (0-((q.den:Nat):Int))=_;rw[Ar (by omega) (by omega),hc,if_pos hq];omega)<|Aa I<|zC<|Ao () tO ⟨I,I,I,I,tO⟩ [] I
   ·have hq: ¬q.num<0:=of_decide_eq_false hq
    exact zI<|Ao () tO ⟨I,I,congrArg (fun z=>some (Value.int .i64 z)) (by rw[e3];omega),congrArg (fun z=>some (Value.int .i64 z)) (by rw[e4,hc,if_neg hq]),tO⟩ [] I
  intro _ _
  exact xb<|Ad I<|wV 49 (p.num*c) I (by rw[e1];exact EM l1 hca)<|Ad I<|wV 52 ((p.den*m:Nat):Int) I (by rw[e2, <-hdd];exact EM (Ii l2) (Ii hm9))<|wC I I (fun W _=>(De (p.num*c) (p.den*m) (by omega) hpq (by omega) W).cast (v':=str (Ac (p/q))) (by rw[hr]))<|Aa I<|xo<|wR2 I I I
 ·have hd0:((p.den:Nat):Int)*q.num≠0:=Int.mul_ne_zero (by omega) h0
  have hc2:okN (((p.den:Nat):Int)*q.num):=by rw[Int.mul_comm];exact h.c2
  refine xm<|wP I<|wC I I (fun W _=>CG h.okp W)<|Ak I<|xf<|wP I<|wC I I (fun W _=>CG h.okq W)<|Ak I<|xa<|?_
  exact xb<|At I<|wC I I (fun W1 hp=>(OH p.num (p.den:Nat) (q.den:Nat) q.num h.okp.1 h.okp.2 h.okq.2 h.okq.1 h.c1 hc2 hd0 W1 (ht.hp hp)).cast (v':= .tuple #[str (Ac (p/q)), .int .i64 0]) (by rw[ra]))<|At I<|xc<|wR2 I I I
theorem RD {q:Rat} (h:okQ q) (W:World) (ht:A9 W):
  Ae Tryz.prog 65 #[str (Ac q)] W (fun _:Unit=> .tuple #[str (itoa q.num),str (decDigits q.den), .int .i64 0]) (fun _=>True) (fun _=>[]):=by
 refine Ab Tryz.func65 I I I<|xb<|Ad I<|xk<|wP I<|wC I I (fun W1 hp=>L6 h W1 (ht.hp hp))<|wP I<|xf<|Aa I<|xa<|zS I<|zI<|?_
 exact xn<|wP I<|wC I I (fun W _=>M1 q (Hy h) W)<|Ak I<|xf<|Ak I<|xc<|wR3 I I I
def lgS (k:Nat) (a:List UInt8):Bool:=(decide (k<a.length)&&decide (a.length<299))||decide (604<a.length)
theorem Sa {k:Nat} {a:List UInt8} (h:lgS k a=false):a.length<=604:=by
 unfold lgS at h
 rw[Bool.or_eq_false_iff] at h
 have:=of_decide_eq_false h.2
 omega
theorem IK (a:List UInt8) (W:World):Ae Tryz.prog 17 #[str a] W (fun _:Unit=> .bool (lgS 20 a)) (fun _=>True) (fun _=>[]):=by
 refine Ab Tryz.func17 I I I<|xb<|wP I<|xf<|Aa I<|Ap 4 (.int .i64 (a.length:Nat)) I (congrArg (fun n:Nat=>Value.int .i64 (n:Int)) (A5 _))<|wP I<|?_
 by_cases h1:20<a.length
 ·refine wU 5 true I (dT (by omega))<|Ad I<|Ap 8 (.int .i64 (a.length:Nat)) I (congrArg (fun n:Nat=>Value.int .i64 (n:Int)) (A5 _))<|wP I<|?_
  by_cases h2:a.length<299
  ·refine wU 9 true I (dT (by omega))<|Aa I<|?_
   iterate 3 refine Af I I ?_
   exact Aa I<|xc<|wR1 I I (by unfold lgS;rw[dT h1,dT h2];rfl)
  ·exact wU 9 false I (dF (by omega))<|At I<|Ap 13 (.int .i64 (a.length:Nat)) I (congrArg (fun n:Nat=>Value.int .i64 (n:Int)) (A5 _))<|wP I<|wU 14 (decide (604<a.length)) I (decide_eq_decide.2 (by omega))<|Aa I<|xc<|wR1 I I (by unfold lgS;rw[dT h1,dF h2];rfl)
 ·refine wU 5 false I (dF (by omega))<|wP I<|?_
  iterate 3 refine Af I I ?_
  exact At I<|Ap 13 (.int .i64 (a.length:Nat)) I (congrArg (fun n:Nat=>Value.int .i64 (n:Int)) (A5 _))<|wP I<|wU 14 (decide (604<a.length)) I (decide_eq_decide.2 (by omega))<|Aa I<|xc<|wR1 I I (by unfold lgS;rw[dF h1];rfl)
theorem Qa (a:List UInt8) (W:World):Ae Tryz.prog 6 #[str a] W (fun _:Unit=> .bool (lgS 30 a)) (fun _=>True) (fun _=>[]):=by
 refine Ab Tryz.func6 I I I<|xb<|wP I<|xf<|Aa I<|Ap 4 (.int .i64 (a.length:Nat)) I (congrArg (fun n:Nat=>Value.int .i64 (n:Int)) (A5 _))<|wP I<|?_
 by_cases h1:30<a.length
 ·refine wU 5 true I (dT (by omega))<|Ad I<|Ap 8 (.int .i64 (a.length:Nat)) I (congrArg (fun n:Nat=>Value.int .i64 (n:Int)) (A5 _))<|wP I<|?_
  by_cases h2:a.length<299
  ·refine wU 9 true I (dT (by omega))<|Aa I<|?_
   iterate 3 refine Af I I ?_
   exact Aa I<|xc<|wR1 I I (by unfold lgS;rw[dT h1,dT h2];rfl)
  ·exact wU 9 false I (dF (by omega))<|At I<|Ap 13 (.int .i64 (a.length:Nat)) I (congrArg (fun n:Nat=>Value.int .i64 (n:Int)) (A5 _))<|wP I<|wU 14 (decide (604<a.length)) I (decide_eq_decide.2 (by omega))<|Aa I<|xc<|wR1 I I (by unfold lgS;rw[dT h1,dF h2];rfl)
 ·refine wU 5 false I (dF (by omega))<|wP I<|?_
  iterate 3 refine Af I I ?_
  exact At I<|Ap 13 (.int .i64 (a.length:Nat)) I (congrArg (fun n:Nat=>Value.int .i64 (n:Int)) (A5 _))<|wP I<|wU 14 (decide (604<a.length)) I (decide_eq_decide.2 (by omega))<|Aa I<|xc<|wR1 I I (by unfold lgS;rw[dF h1];rfl)
theorem PV (s a b:Int) (x h e:List UInt8) (W:World):Ae Tryz.prog 5 #[dmS s x h e a b] W (fun _:Unit=> .bool (lgS 20 x||lgS 20 h||lgS 20 e)) (fun _=>True) (fun _=>[]):=by
 refine Ab Tryz.func5 I I I<|xb<|wF I I fun _=>wP I<|xf<|wP I<|wB 0 I I I<|wC I I (fun W _=>IK x W)<|?_
 cases h1:lgS 20 x with
 |true=>
  refine wP I ?_
  iterate 3 refine Af I I ?_
  refine Aa I<|?_
  iterate 3 refine Af I I ?_
  exact Aa I<|xc<|wR1 I I I
 |false=>
  refine Aa I<|wB 0 I I I<|wC I I (fun W _=>IK h W)<|?_
  cases h2:lgS 20 h with
  |true=>
   refine Aa I<|?_
   iterate 3 refine Af I I ?_
   exact Aa I<|xc<|wR1 I I I
  |false=>
   exact Ad I<|wB 0 I I I<|wC I I (fun W _=>IK e W)<|Aa I<|xc<|wR1 I I I
theorem X7 (z:Int): ∃c,(itoa z)[0]? =some c/\decide (c=45)=decide (z<0):=by
 have hpre:=(Ln (z:=z) (d:=1) (Nat.le_refl 1)).1
 have e1:F1 z 1=itoa z:=if_pos rfl
 rw[Bj,e1] at hpre
 obtain⟨c,hc⟩: ∃c,(itoa z)[0]? =some c:=by
  cases e:itoa z with
  |nil=>
   have h2:itoa z≠[]:=by unfold itoa;split;simp;exact F5 _
   exact absurd e h2
  |cons c t=>exact⟨c,rfl⟩
 refine⟨c,hc, ?_⟩
 rw[<-hpre]
 exact decide_eq_decide.2 (by rw[hc];simp)
theorem JF (z:Int) (hz:okN z) (W:World):Ae Tryz.prog 66 #[str (itoa z)] W (fun _:Unit=> .int .i64 ((decDigits z.natAbs).length:Nat)) (fun _=>True) (fun _=>[]):=by
 obtain⟨c,hc,hc45⟩:=X7 z
 have hl:=Ex hz
 refine Ab Tryz.func66 I I I<|xb<|wP I<|xk<|wP I<|Bc 0 tH I I I I I I I I hc<|wP I<|wU 5 (decide (z<0)) I ((DK c 45).trans hc45)<|xa<|Ag I (fun hneg=> ?_) (fun hneg=> ?_)
 ·have hneg:z<0:=of_decide_eq_true hneg
  have he:(itoa z).length=(decDigits z.natAbs).length+1:=by unfold itoa;rw[if_pos hneg];rfl
  exact xb<|Aa I<|Ap 7 (.int .i64 ((itoa z).length:Nat)) I (congrArg (fun n:Nat=>Value.int .i64 (n:Int)) (A5 _))<|wP I<|wV 8 ((decDigits z.natAbs).length:Nat) I (show w64 (((itoa z).length:Int)-1)=_ by rw[Ar (by omega) (by omega)];omega)<|wP I<|xo<|wR1 I I I
 ·have hneg: ¬z<0:=of_decide_eq_false hneg
  have he:(itoa z).length=(decDigits z.natAbs).length:=by unfold itoa;rw[if_neg hneg,show z.toNat=z.natAbs by omega]
  exact xm<|Aa I<|Ap 10 (.int .i64 ((decDigits z.natAbs).length:Nat)) I (congrArg (fun n:Nat=>Value.int .i64 (n:Int)) ((A5 _).trans he))<|wP I<|xc<|wR1 I I I
theorem Gt (p q:Rat) (h:Sz2 p q) (W:World) (ht:A9 W):Ae Tryz.prog 34 #[str (Ac p),str (Ac q)] W (fun _:Unit=> .int .i64 (CT p q)) (fun _=>True) (fun _=>[]):=by
 refine Ab Tryz.func34 I I I<|xb<|wP I<|xf<|Aa I<|wC I I (fun W1 hp=>UH p q h W1 (ht.hp hp))<|Ak I<|xf<|Aa I<|xa<|?_
 exact zO<|wR1 I I I
theorem ME (z:Int) (d:Nat) (hz:z.natAbs<1000000) (hd0:0<d) (hd:d<1000000) (W:World):Ae Tryz.prog 57 #[.int .i64 z, .int .i64 (d:Nat)] W (fun _:Unit=> .tuple #[str (Ac (nrm z (d:Int))), .int .i64 0]) (fun _=>True) (fun _=>[]):=by
 refine Ab Tryz.func57 I I I<|xb<|Aa I<|xk<|Aa I<|wU 7 false I (beq_eq_false_iff_ne.2 (show((d:Nat):Int)≠0 by omega))<|xa<|zS I<|xe<|xd<|Aa I<|wU 9 true I (by show decide (z> -4611686018427387904)=true;rw[decide_eq_true_iff];omega)<|?_
 refine Ad I<|wU 12 true I (by show decide (z<4611686018427387904)=true;rw[decide_eq_true_iff];omega)<|At I<|wU 16 true I (by show decide (((d:Nat):Int)>0)=true;rw[decide_eq_true_iff];omega)<|At I<|wU 20 true I (by show decide (((d:Nat):Int)<4611686018427387904)=true;rw[decide_eq_true_iff];omega)<|wP I<|xa<|zR I<|xb<|Aa I<|wC I I (fun W hp=>(De z d (by omega) hd0 (by omega) W).cast (v':=str (Ac (nrm z (d:Int)))) (by rw[QY z hd0]))<|Aa I<|?_
 exact xo<|wR2 I I I
theorem EP (W:World) (p:Option Addr) (cap:Nat) (l:List (List UInt8)) (hA:EJ W p l) (hn:l.length<=100000) (hs: ∀a∈l,a.length<=4000000) (ht:A9 W):
  Ae Tryz.prog 33 #[slv p l.length cap] W (fun _:Unit=> .int .i64 (nrs l)) (fun _=>True) (fun _=>[]):=by
 refine Ab Tryz.func33 I I I<|xb<|wP I<|xk<|wP I<|xa<|zH<|Av (X:=Nat) (fun i=>[(0,slv p l.length cap),(2, .int .i64 0),(3, .int .i64 (i:Nat))]) (fun _=>[]) (fun i=>i<=l.length/\ner l=ner (l.drop i)) (fun i=>l.length-i) 0 ⟨Nat.zero_le _,I⟩ ⟨I,I,I,tO⟩ [] I ?_
 rintro i ⟨hi,he⟩
 have hi:i<=l.length:=hi
 have he:ner l=ner (l.drop i):=he
 refine xd<|At I<|?_
 by_cases hlt:i<l.length
 ·refine wU 12 true I (dT (by omega))<|xa<|zR I<|xh<|?_
  obtain⟨b,off,rfl,hrow⟩:=hA.row hlt
  have hr:=hrow i hlt
  have hz:=hs l[i] (List.getElem_mem _)
  rw[NC hlt] at he
  obtain⟨x,hx⟩: ∃x,x=l[i]:=⟨_,rfl⟩
  rw[<-hx] at hr hz he
  refine Aa I<|wJ ?_
  refine wL 0 I I (fun W1 hp=>hr.hp hp) I<|wC I I (fun W1 hp=>Lr x (by omega) W1 (ht.hp hp))<|wP I<|xf<|Aa I<|?_
  by_cases h1:(rdR x).2=0
  rotate_left
  ·refine wU 21 true I (bne_iff_ne.2 h1)<|xa<|zR I<|xb<|Aa I<|xc<|xj<|zP<|?_
   rw[if_neg h1] at he
   exact wR1 I I (by rw[nrs,he,if_pos h1])
  rw[if_pos h1] at he
  exact wU 21 false I (bne_eq_false_iff_eq.2 h1)<|xa<|zS I<|zI<|xi<|Aa I<|wV 14 ((i+1:Nat):Int) I (A0 (by omega))<|wP I<|zC<|Al (i+1) ⟨hlt,he⟩ (by show l.length-(i+1)<l.length-i;omega) ⟨I,I,I,tO⟩ [] I
 refine wU 12 false I (dF (by omega))<|xa<|zS I<|xg<|zE<|xd<|?_
 rw[List.drop_of_length_le (by omega)] at he
 have he:ner l=0:=he
 have hall:=IV he
 have hN:nrs l=if l.any HF then 4 else 0:=by unfold nrs;rw[if_neg (fun h=>h he)]
 refine wP I<|xa<|zH<|Av (X:=Nat) (fun i=>[(0,slv p l.length cap),(2, .int .i64 0),(5, .int .i64 (i:Nat))]) (fun _=>[]) (fun i=>i<=l.length/\l.any HF=(l.drop i).any HF) (fun i=>l.length-i) 0 ⟨Nat.zero_le _,by rw[List.drop_zero]⟩ ⟨I,I,I,tO⟩ [] I ?_
 rintro i ⟨hi,hB⟩
 have hi:i<=l.length:=hi
 have hB:l.any HF=(l.drop i).any HF:=hB
 refine xd<|At I<|?_
 by_cases hlt:i<l.length
 ·refine wU 26 true I (dT (by omega))<|xa<|zR I<|xh<|?_
  obtain⟨b,off,rfl,hrow⟩:=hA.row hlt
  have hr:=hrow i hlt
  obtain⟨q,hq,hx⟩:=Ls (hall l[i] (List.getElem_mem _))
  rw[Qi hlt] at hB
  rw[hx] at hr hB
  have hB:l.any HF=(Ez q||(l.drop (i+1)).any HF):=by rw[hB];unfold HF;rw[Fp]
  have hqd:okN ((q.den:Nat):Int):=hq.2
  refine Aa I<|wJ ?_
  refine wL 0 I I (fun W1 hp=>hr.hp hp) I<|wC I I (fun W1 hp=>RD hq W1 (ht.hp hp))<|AE I<|wP I<|xf<|wP I<|wC I I (fun W1 _=>JF q.num hq.1 W1)<|wP I<|?_
  by_cases h1:q.num.natAbs<10^12
  rotate_left
  ·have hb:Ez q=true:=by unfold Ez;rw[dF h1];rfl
   refine wU 40 true I (dT (by have:=mt (Ti _).1 h1;omega))<|wP I<|?_
   iterate 3 refine Af I I ?_
   exact wP I<|xa<|zR I<|xb<|wP I<|xc<|xj<|zP<|wR1 I I (by rw[hN,hB,hb];rfl)
  refine wU 40 false I (dF (by have:=(Ti _).2 h1;omega))<|Aa I<|?_
  refine wC I I (fun W1 _=>(show Ae Tryz.prog 66 #[str (decDigits q.den)] W1 (fun _:Unit=> .int .i64 ((decDigits q.den).length:Nat)) (fun _=>True) (fun _=>[]) by
   have h2:=JF ((q.den:Nat):Int) hqd W1
   rw[Ff,Int.natAbs_natCast] at h2
   exact h2)) ?_
  refine wP I ?_
  by_cases h2:q.den<10^12
  rotate_left
  ·have hb:Ez q=true:=by unfold Ez;rw[dF h2,Bool.and_false];rfl
   exact wU 44 true I (dT (by have:=mt (Ti _).1 h2;omega))<|wP I<|xa<|zR I<|xb<|wP I<|xc<|xj<|zP<|wR1 I I (by rw[hN,hB,hb];rfl)
  have hb:Ez q=false:=Tz ⟨h1,h2⟩
  rw[hb,Bool.false_or] at hB
  exact wU 44 false I (dF (by have:=(Ti _).2 h2;omega))<|wP I<|xa<|zS I<|zI<|xi<|Aa I<|wV 28 ((i+1:Nat):Int) I (A0 (by omega))<|wP I<|zC<|Al (i+1) ⟨hlt,hB⟩ (by show l.length-(i+1)<l.length-i;omega) ⟨I,I,I,tO⟩ [] I
 refine wU 26 false I (dF (by omega))<|xa<|zS I<|xg<|xn<|?_
 rw[List.drop_of_length_le (by omega)] at hB
 exact wP I<|xc<|wR1 I I (by rw[hN,hB];rfl)
def boE (rs:List (List Sd)) (s:Int) (x h e:List UInt8) (a b:Int):Int:=
 if s<0\/(tot rs:Int)<=s then 2
 else if (flt rs s.toNat).gable=true then 18
 else if nrs [x,h,e]≠0 then nrs [x,h,e]
 else if rdQ h<=0\/rdQ e<(frs rs s.toNat).st\/ND a b=false then 2 else 0
def boV (rs:List (List Sd)) (s:Int) (x h e:List UInt8) (a b:Int):Value:=
 if boE rs s x h e a b=0 then frV (frs rs s.toNat) else .agg #[.bool false, .int .i64 0, .int .i64 0,str [],str []]
def bmE (rs:List (List Sd)) (s:Int) (x h e:List UInt8) (a b:Int) (M:List (List UInt8)):Int:=if boE rs s x h e a b=0 then nrs M else boE rs s x h e a b
theorem EA (W:World) (p:Option Addr) (cap:Nat) (rs:List (List Sd)) (hn:rs.length<4611686018427387904) (hR:AL W p rs) (hc:chk rs=0) (hd:DC W) (hv:AH W) (ht:A9 W)
  (s a b:Int) (x h e:List UInt8) (hx:x.length<=4000000) (hh:h.length<=4000000) (he:e.length<=4000000) (M:List (List UInt8)) (pM:Option Addr) (cM:Nat) (hM:EJ W pM M) (lM:M.length<=100000) (sM: ∀y∈M,y.length<=4000000):
  Ae Tryz.prog 21 #[B0 p rs.length cap,dmS s x h e a b,slv pM M.length cM] W (fun _:Unit=> .tuple #[boV rs s x h e a b, .int .i64 (bmE rs s x h e a b M)]) (fun _=>True) (fun _=>[]):=by
 obtain⟨_,hT,hT0⟩:=Mk hc
 have hfl:rs.flatten.length=tot rs:=List.length_flatten
 have hal:=KX rs
 refine Ab Tryz.func21 I I I<|xb<|wF I I fun _=>wF I I fun _=>wG I I fun _=>wP I<|zC<|?_
 rename_i b3 b4 b6
 refine xn<|wB 0 I I I<|wD (X:=Vec) I I (fun W1 hp=>YM W1 p cap rs hn (hR.hp hp) hc) ?_
 intro S hS
 have hS:S.OK 7 rs.flatten.length (cellsOf rs.flatten):=hS
 obtain⟨gS,cS,hSv,hSr⟩:=Vec.sds hS (by omega)
 rw[hSv]
 refine Ak I<|xk<|Aa I<|xa<|zS I<|xe<|xd<|wP I<|wB 1 I I I<|wP I<|?_
 by_cases h0:s<0
 ·have hE:boE rs s x h e a b=2:=by unfold boE;rw[if_pos (.inl h0)]
  refine wU 23 true I (dT h0)<|wP I<|?_
  iterate 5 refine Af I I ?_
  refine wP I<|xa<|zR I<|xb<|An Tryz.hZ tH I I I I I I I I ?_
  exact wS 2 I I I<|wP I<|xo<|A4 tH I (.cell 2 I I I I I) (.tmp I) () (by rw[boV,bmE,hE];rfl) tO fun W _=>Au.nil _ _
 refine wU 23 false I (dF h0) ?_
 obtain⟨m,rfl⟩: ∃m:Nat,s=m:=⟨s.toNat,by omega⟩
 refine Aa I<|wB 1 I I I<|Ad I<|?_
 by_cases h1:m<tot rs
 rotate_left
 ·have hE:boE rs (m:Int) x h e a b=2:=by unfold boE;rw[if_pos (.inr (by omega))]
  refine wU 29 true I (dT (by omega))<|wP I<|xa<|zR I<|xb<|An Tryz.hZ tH I I I I I I I I ?_
  exact wS 2 I I I<|wP I<|xo<|A4 tH I (.cell 2 I I I I I) (.tmp I) () (by rw[boV,bmE,hE];rfl) tO fun W _=>Au.nil _ _
 refine wU 29 false I (dF (by omega))<|wP I<|xa<|zS I<|xe<|xd<|?_
 have hE:boE rs (m:Int) x h e a b=if (flt rs m).gable=true then 18 else if nrs [x,h,e]≠0 then nrs [x,h,e] else if rdQ h<=0\/rdQ e<(frs rs m).st\/ND a b=false then 2 else 0:=by
  unfold boE;rw[if_neg (by omega)];rfl
 refine Aa I<|wB 1 I I I<|wJ ?_
 refine wP I<|wL 0 I I (fun W1 hp=>(hSr hp 3 I m (by omega)).sub 4) I<|?_
 by_cases hg:(flt rs m).gable=true
 ·rw[if_pos hg] at hE
  refine wU 37 true I hg<|xa<|zR I<|xb<|An Tryz.hZ tH I I I I I I I I ?_
  exact wS 2 I I I<|wP I<|xo<|A4 tH I (.cell 2 I I I I I) (.tmp I) () (by rw[boV,bmE,hE];rfl) tO fun W _=>Au.nil _ _
 rw[if_neg hg] at hE
 have hg:(flt rs m).gable=false:=by simpa using hg
 refine wU 37 false I hg<|xa<|zS I<|xe<|xd<|wP I<|wB 1 I I I<|wP I<|wB 1 I I I<|wP I<|wB 1 I I I<|As Tryz.hZ tH I I I I I I I I I I I fun bS=> ?_
 refine wC I I (fun W1 hp=>Le W1 (some ⟨bS,0,none⟩) 3 [x,h,e] (.inr ⟨bS,0,I,Aj.of_bx hp 4 I I⟩) (show 3<=100000 by decide) (fun y hy=>by
  rcases List.mem_cons.1 hy with rfl|hy
  ·omega
  rcases List.mem_cons.1 hy with rfl|hy
  ·omega
  obtain rfl:=List.mem_singleton.1 hy
  omega) (hv.hp hp) (ht.hp hp)) ?_
 refine wP I<|xf<|Aa I<|?_
 by_cases hz:nrs [x,h,e]=0
 rotate_left
 ·rw[if_pos hz] at hE
  refine wU 48 true I (bne_iff_ne.2 hz)<|xa<|zR I<|xb<|An Tryz.hZ tH I I I I I I I I ?_
  exact wP I<|wS 2 I I I<|wP I<|xo<|A4 tH I (.cell 2 I I I I I) (.tmp I) () (by rw[boV,bmE,hE,if_neg hz,if_neg hz];rfl) tO fun W _=>Au.nil _ _
 rw[if_neg (fun h=>h hz)] at hE
 refine wU 48 false I (bne_eq_false_iff_eq.2 hz)<|xa<|zS I<|xm<|?_
 have hzm:=IT hz
 obtain⟨x',rfl,_,_⟩:=hzm x (by simp)
 obtain⟨h',rfl,_,zh⟩:=hzm h (by simp)
 obtain⟨e',rfl,_,ze⟩:=hzm e (by simp)
 rw[Fp,Fp] at hE
 have hgo:=Uz hc h1 hg
 obtain⟨f,hf⟩: ∃f,f=frs rs m:=⟨_,rfl⟩
 have hfm:=K9 h1
 rw[<-hf] at hfm hgo hE
 refine wB 0 I I I<|wD (X:=Vec) I I (fun W1 hp=>Kd W1 p cap rs hn (hR.hp hp) hc (hd.hp hp) (ht.hp hp)) ?_
 intro F hF
 have hF:F.OK 5 (EH rs).length (frC (EH rs)):=hF
 obtain⟨gF,cF,hFv,hFr⟩:=Vec.frs hF (by omega)
 rw[hFv]
 refine Ak I<|xk<|Aa I<|xa<|zS I<|xm<|Aa I<|wB 1 I I I<|wJ ?_
 refine wL 0 I I (fun W1 hp=>hFr hp 5 I m f hfm) I<|wG I I fun _=>wS 6 I I I<|zC<|?_
 rename_i b12
 refine zE<|xd<|wP I<|wB 1 I I I<|?_
 refine wC I I (fun W1 hp=>(show Ae Tryz.prog 32 #[str (Ac h'),str [48]] W1 (fun _:Unit=> .int .i64 (CT h' 0)) (fun _=>True) (fun _=>[]) by
  have h2:=Cq h' 0 (sz2 zh szo (by decide)) W1 (hv.hp hp) (ht.hp hp)
  rwa [BV] at h2)) ?_
 refine wP I ?_
 by_cases h2:h'<=0
 ·rw[if_pos (.inl h2)] at hE
  refine wU 68 true I ((Hh _ _).trans (dT h2))<|wP I<|?_
  iterate 6 refine Af I I ?_
  refine Aa I<|?_
  iterate 6 refine Af I I ?_
  refine wP I<|xa<|zR I<|xb<|An Tryz.hZ tH I I I I I I I I ?_
  exact wS 2 I I I<|wP I<|xo<|A4 tH I (.cell 2 I I I I I) (.tmp I) () (by rw[boV,bmE,hE];rfl) tO fun W _=>Au.nil _ _
 refine wU 68 false I ((Hh _ _).trans (dF h2))<|Aa I<|wB 1 I I I<|wP I<|wB 6 I I I<|wC I I (fun W1 hp=>Cq e' f.st (sz2 ze hgo.st (by decide)) W1 (hv.hp hp) (ht.hp hp))<|wP I<|?_
 by_cases h3:e'<f.st
 ·rw[if_pos (.inr (.inl h3))] at hE
  refine wU 75 true I ((Cc _ _).trans (dT h3))<|Aa I<|?_
  iterate 6 refine Af I I ?_
  refine wP I<|xa<|zR I<|xb<|An Tryz.hZ tH I I I I I I I I ?_
  exact wS 2 I I I<|wP I<|xo<|A4 tH I (.cell 2 I I I I I) (.tmp I) () (by rw[boV,bmE,hE];rfl) tO fun W _=>Au.nil _ _
 refine wU 75 false I ((Cc _ _).trans (dF h3))<|Ad I<|wB 1 I I I<|wP I<|wB 1 I I I<|wC I I (fun W1 _=>Rf a b W1)<|wP I<|?_
 by_cases h4:ND a b=true
 rotate_left
 ·have h4:ND a b=false:=by simpa using h4
  rw[if_pos (.inr (.inr h4))] at hE
  refine wU 83 true I (by rw[h4];rfl)<|wP I<|xa<|zR I<|xb<|An Tryz.hZ tH I I I I I I I I ?_
  exact wS 2 I I I<|wP I<|xo<|A4 tH I (.cell 2 I I I I I) (.tmp I) () (by rw[boV,bmE,hE];rfl) tO fun W _=>Au.nil _ _
 rw[if_neg (by rw[h4];exact fun hh=>by rcases hh with hh|hh|hh;exact h2 hh;exact h3 hh;cases hh)] at hE
 refine wU 83 false I (by rw[h4];rfl)<|wP I<|xa<|zS I<|xe<|zA<|?_
 refine AV (X:=Unit) [true,true,true,false,false] (fun _=>[(6,Ai b6),(7, .int .i64 (nrs M))]) (fun _=>[⟨b6,59,(frV f).cells.toList,true,none⟩])
   2 [⟨b3,24,[slv p rs.length cap],true,none⟩,⟨b4,27,(dmS m (Ac x') (Ac h') (Ac e') a b).cells.toList,true,none⟩,⟨b6,59,(frV f).cells.toList,false,none⟩,S.bx 82 (cellsOf rs.flatten),⟨bS,25,[str (Ac x'),str (Ac h'),str (Ac e')],true,none⟩,F.bx 59 (frC (EH rs)),⟨b12,59,(frV f).cells.toList,true,none⟩] Tryz.mixed (by kernel_rfl) ?_ ?_
 ·refine qB 6 I I I<|qP I<|qC I I (fun W1 hp=>Le W1 pM cM M (hM.hp hp) lM sM (hv.hp hp) (ht.hp hp))<|BR<|wX<|wZ<|wS 2 I I I<|zC<|Ah<|wX<|wZ<|wP I<|zC<|Ah<|?_
  refine AF I (by((repeat (first|refine AK.same ?_|refine AK.off I ?_));exact tO)) ?_
  exact A7 () ⟨I,I,tO⟩ [2] (by decide) I
 intro _
 exact zE<|zO<|A4 tH rfl (.cell 0 rfl rfl rfl rfl rfl) (.tmp rfl) () (by rw[boV,bmE,hE,if_pos rfl];subst hf;rfl) trivial fun W _=>Au.nil _ _
def GJ (h e:Rat) (a b:Int):Rat:=e+h*nrm a b
def X9 (f:FrP) (x h e z:Rat):List Value:=(f.spot (x-h) ((e-f.st)*f.sp)).cells.toList++(f.spot x ((z-f.st)*f.sp)).cells.toList++(f.spot (x+h) ((e-f.st)*f.sp)).cells.toList
theorem JN (s a b:Int) (x:List UInt8) (h e:Rat) (ha:1<=a/\a<=48) (hb:1<=b/\b<=48) (zh:szQ h 12) (ze:szQ e 12) (W:World) (hv:AH W) (ht:A9 W):
  Ae Tryz.prog 22 #[dmS s x (Ac h) (Ac e) a b] W (fun _:Unit=> .tuple #[str (Ac (e+h*nrm a b)), .int .i64 0]) (fun _=>True) (fun _=>[]):=by
 have z1:=DE ha hb
 have z2:=zh.mul z1
 refine Ab Tryz.func22 I I I<|xb<|wF I I fun _=>Aa I<|xf<|wP I<|wB 0 I I I<|wP I<|wB 0 I I I<|wC I I (fun W hp=>(FS a b (by omega) (by omega) W (ht.hp hp)).cast (by rw[ofR,if_neg (by omega)]))<|Ak I<|xl<|zA<|?_
 refine zB<|Aa I<|xa<|zS I<|xm<|wP I<|wB 0 I I I<|wP I<|wC I I (fun W hp=>Db h (nrm a b) (sz2 zh z1 (by decide)) W (hv.hp hp) (ht.hp hp))<|Ak I<|xk<|?_
 exact Aa I<|xa<|zS I<|xm<|wP I<|wB 0 I I I<|wP I<|wC I I (fun W hp=>C7 e (h*nrm a b) (sz2 ze z2 (by decide)) W (hv.hp hp) (ht.hp hp))<|At I<|xc<|wR2 I I I
theorem KO (f:FrP) (z:Rat) (zs:szQ f.sp 2) (zt:szQ f.st 5) (zz:szQ z 27) (W:World) (hv:AH W) (ht:A9 W):
  Ae Tryz.prog 31 #[frV f,str (Ac z)] W (fun _:Unit=> .tuple #[str (Ac ((z-f.st)*f.sp)), .int .i64 0]) (fun _=>True) (fun _=>[]):=by
 have z2:=zz.sub zt
 refine Ab Tryz.func31 I I I<|xb<|wF I I fun _=>Aa I<|xf<|Aa I<|wB 0 I I I<|wC I I (fun W hp=>C6 z f.st (sz2 zz zt (by decide)) W (hv.hp hp) (ht.hp hp))<|Ak I<|xk<|?_
 exact Aa I<|xa<|zS I<|xm<|Aa I<|wB 0 I I I<|wC I I (fun W hp=>Db (z-f.st) f.sp (sz2 z2 zs (by decide)) W (hv.hp hp) (ht.hp hp))<|At I<|xc<|wR2 I I I
theorem I7 (s a b:Int) (e:List UInt8) (x h:Rat) (zx:szQ x 12) (zh:szQ h 12) (W:World) (hv:AH W) (ht:A9 W):
  Ae Tryz.prog 28 #[dmS s (Ac x) (Ac h) e a b] W (fun _:Unit=> .tuple #[str (Ac (x-h)),str (Ac (x+h)), .int .i64 0]) (fun _=>True) (fun _=>[]):=by
 have z1:=sz2 zx zh (by decide)
 refine Ab Tryz.func28 I I I<|xb<|wF I I fun _=>Ad I<|xf<|wP I<|wB 0 I I I<|wP I<|wB 0 I I I<|wC I I (fun W hp=>C6 x h z1 W (hv.hp hp) (ht.hp hp))<|Ak I<|xl<|zA<|?_
 refine zB<|Aa I<|xa<|zS I<|xm<|wP I<|wB 0 I I I<|wP I<|wB 0 I I I<|wC I I (fun W hp=>C7 x h z1 W (hv.hp hp) (ht.hp hp))<|Ak I<|xf<|?_
 exact AE I<|xc<|wR3 I I I
structure DmX (rs:List (List Sd)) (s:Int) (x h e:List UInt8) (a b:Int) (f:FrP) (x' h' e':Rat):Prop where
 s0:0<=s
 s1:s<tot rs
 hf:f=frs rs s.toNat
 hx:x=Ac x'
 hh:h=Ac h'
 he:e=Ac e'
 zx:szQ x' 12
 zh:szQ h' 12
 ze:szQ e' 12
 go:f.Go
 h0:0<h'
 e0:f.st<=e'
 ha:1<=a/\a<=48
 hb:1<=b/\b<=48
 v:boV rs s x h e a b=frV f
theorem Rn {rs:List (List Sd)} (hc:chk rs=0) {s a b:Int} {x h e:List UInt8} (hE:boE rs s x h e a b=0): ∃f x' h' e',DmX rs s x h e a b f x' h' e':=by
 have hV:boV rs s x h e a b=frV (frs rs s.toNat):=by rw[boV,if_pos hE]
 unfold boE at hE
 by_cases h1:s<0\/(tot rs:Int)<=s
 ·rw[if_pos h1] at hE;cases hE
 rw[if_neg h1] at hE
 by_cases h2:(flt rs s.toNat).gable=true
 ·rw[if_pos h2] at hE;cases hE
 rw[if_neg h2] at hE
 by_cases h3:nrs [x,h,e]=0
 rotate_left
 ·rw[if_pos h3] at hE;exact absurd hE h3
 rw[if_neg (fun h=>h h3)] at hE
 by_cases h4:rdQ h<=0\/rdQ e<(frs rs s.toNat).st\/ND a b=false
 ·rw[if_pos h4] at hE;cases hE
 have hzm:=IT h3
 obtain⟨x',rfl,_,zx⟩:=hzm x (by simp)
 obtain⟨h',rfl,_,zh⟩:=hzm h (by simp)
 obtain⟨e',rfl,_,ze⟩:=hzm e (by simp)
 rw[Fp,Fp] at h4
 have hp:ND a b=true:=by
  cases hp:ND a b with
  |true=>rfl
  |false=>exact absurd (.inr (.inr hp)) h4
 have hp:=of_decide_eq_true hp
 exact⟨_,x',h',e',by omega,by omega,I,I,I,I,zx,zh,ze,Uz hc (by omega) (by simpa using h2),
  Rat.not_le.1 fun h=>h4 (.inl h),Rat.not_lt.1 fun h=>h4 (.inr (.inl h)),⟨hp.1,hp.2.1⟩,⟨hp.2.2.1,hp.2.2.2⟩,hV⟩
theorem Js (rs:List (List Sd)) (s a b:Int) (x h e:List UInt8): ∃f:Value,boV rs s x h e a b=f/\ ∃c1 c2 c3 c4 c5,f= .agg #[.bool c1, .int .i64 c2, .int .i64 c3,str c4,str c5]:=by
 unfold boV
 split
 ·exact⟨_,I,_,_,_,_,_,I⟩
 ·exact⟨_,I,_,_,_,_,_,I⟩
theorem SK (w:Rat): ∃c,(Ac w)[0]? =some c/\decide (c=45)=decide (w<0):=by
 have hpre:=(Ln (z:=w.num) w.den_pos).1
 rw[Bj] at hpre
 obtain⟨c,hc⟩: ∃c,(Ac w)[0]? =some c:=by
  cases e:Ac w with
  |nil=>
   have:=congrArg List.length e
   unfold Ac F1 at this
   have h2:itoa w.num≠[]:=by unfold itoa;split;simp;exact F5 _
   split at this
   ·exact absurd (List.length_eq_zero_iff.1 this) h2
   ·rw[List.length_append] at this;simp at this
  |cons c t=>exact⟨c,rfl⟩
 refine⟨c,hc, ?_⟩
 have h1:0<=w.num↔0<=w:=Rat.num_nonneg
 have h2:decide (c=45)=decide (w.num<0):=by
  rw[<-hpre]
  show _=decide ((Ac w)[0]? =some 45)
  exact decide_eq_decide.2 (by rw[hc];simp)
 rw[h2]
 refine decide_eq_decide.2 ?_
 rw[<-Rat.not_le, <-h1]
 omega
def T7 (f:FrP) (e q:Rat):Rat:=e-(f.st+q/f.sp)
theorem Oi (W:World) (p:Option Addr) (cap:Nat) (rs:List (List Sd)) (hn:rs.length<4611686018427387904) (hR:AL W p rs) (hc:chk rs=0) (hd:DC W) (hv:AH W) (ht:A9 W)
  (s a b:Int) (x h e y:List UInt8) (hx:x.length<=4000000) (hh:h.length<=4000000) (he:e.length<=4000000) (hy:y.length<=4000000) (hE:bmE rs s x h e a b [y]≠0):
  Ae Tryz.prog 14 #[B0 p rs.length cap,dmS s x h e a b,str y] W (fun _:Unit=> .tuple #[str [], .int .i64 (bmE rs s x h e a b [y])]) (fun _=>True) (fun _=>[]):=by
 obtain⟨fv,hV,c1,c2,c3,c4,c5,rfl⟩:=Js rs s a b x h e
 refine Ab Tryz.func14 I I I<|xb<|wF I I fun _=>wF I I fun _=>Aa I<|xf<|wB 0 I I I<|wB 1 I I I<|wP I<|As Tryz.hZ tH I I I I I I I I I I I fun bS=> ?_
 refine wC I I (fun W1 hp=>(EA W1 p cap rs hn (hR.hp hp) hc (hd.hp hp) (hv.hp hp) (ht.hp hp) s a b x h e hx hh he [y] (some ⟨bS,0,none⟩) 1 (.inr ⟨bS,0,I,Aj.of_bx hp 2 I I⟩) (by show 1<=100000;decide) (fun z hz=>by rw[List.mem_singleton.1 hz];exact hy)).cast (by rw[hV]))<|Ad I<|wG I I fun _=>wS 3 I I I<|wP I<|xk<|Aa I<|wU 22 true I (bne_iff_ne.2 hE)<|xa<|zR I<|xb<|Ad I<|zC<|?_
 exact zE<|zO<|zP<|wR2 I I I
theorem Jl (W:World) (p:Option Addr) (cap:Nat) (rs:List (List Sd)) (hn:rs.length<4611686018427387904) (hR:AL W p rs) (hc:chk rs=0) (hd:DC W) (hv:AH W) (ht:A9 W)
  (s a b:Int) (x h e:List UInt8) (hx:x.length<=4000000) (hh:h.length<=4000000) (he:e.length<=4000000) (q:Rat) (zq:szQ q 12) (hy:(Ac q).length<=4000000) (hE:bmE rs s x h e a b [Ac q]=0) (f:FrP) (x' h' e':Rat) (ho:DmX rs s x h e a b f x' h' e'):
  Ae Tryz.prog 14 #[B0 p rs.length cap,dmS s x h e a b,str (Ac q)] W (fun _:Unit=>if T7 f e' q<0 then .tuple #[str [], .int .i64 2] else .tuple #[str (Ac (T7 f e' q)), .int .i64 0]) (fun _=>True) (fun _=>[]):=by
 have hV:=ho.v
 obtain⟨_,_,_,rfl,rfl,rfl,zx,zh,ze,hgo,_,_,ha,hb,_⟩:=ho
 have z1:szQ (q/f.sp) 14:=zq.div hgo.sp (HC hgo.h0)
 have z2:=hgo.st.add z1
 refine Ab Tryz.func14 I I I<|xb<|wF I I fun _=>wF I I fun _=>Aa I<|xf<|wB 0 I I I<|wB 1 I I I<|wP I<|As Tryz.hZ tH I I I I I I I I I I I fun bS=> ?_
 refine wC I I (fun W1 hp=>(EA W1 p cap rs hn (hR.hp hp) hc (hd.hp hp) (hv.hp hp) (ht.hp hp) s a b (Ac x') (Ac h') (Ac e') hx hh he [Ac q] (some ⟨bS,0,none⟩) 1 (.inr ⟨bS,0,I,Aj.of_bx hp 2 I I⟩) (by show 1<=100000;decide) (fun z hz=>by rw[List.mem_singleton.1 hz];exact hy)).cast (v':= .tuple #[frV f, .int .i64 0]) (by rw[hV,hE]))<|Ad I<|wG I I fun _=>wS 3 I I I<|wP I<|xk<|Aa I<|xa<|zS I<|xm<|Aa I<|wB 3 I I I<|?_
 refine wC I I (fun W1 hp=>(Ko q f.sp (sz2 zq hgo.sp (by decide)) W1 (hv.hp hp) (ht.hp hp)).cast (v':= .tuple #[str (Ac (q/f.sp)), .int .i64 0]) (by rw[MX,if_neg (HC hgo.h0)]))<|Ak I<|xk<|Aa I<|xa<|zS I<|xm<|wP I<|wB 3 I I I<|wP I<|wC I I (fun W1 hp=>C7 f.st (q/f.sp) (sz2 hgo.st z1 (by decide)) W1 (hv.hp hp) (ht.hp hp))<|?_
 refine Ak I<|xk<|Aa I<|xa<|zS I<|xm<|wP I<|wB 1 I I I<|wP I<|wC I I (fun W1 hp=>C6 e' (f.st+q/f.sp) (sz2 ze z2 (by decide)) W1 (hv.hp hp) (ht.hp hp))<|Ak I<|?_
 refine xk<|Aa I<|xa<|zS I<|xe<|xd<|?_
 obtain⟨w,hw⟩: ∃w,w=T7 f e' q:=⟨_,rfl⟩
 obtain⟨c,hc,hc45⟩:=SK w
 have hw':e'-(f.st+q/f.sp)=w:=hw.symm
 rw[<-hw,hw']
 refine wP I<|Bc 0 tH I I I I I I I I hc<|wP I<|wU 56 (decide (w<0)) I ((DK c 45).trans hc45)<|xa<|Ag I (fun hneg=> ?_) (fun hneg=> ?_)
 ·have hneg:w<0:=of_decide_eq_true hneg
  exact xb<|Aa I<|xo<|wR2 I I (by rw[if_pos hneg])
 ·have hneg: ¬w<0:=of_decide_eq_false hneg
  exact xm<|Ad I<|xc<|wR2 I I (by rw[if_neg hneg])
def fR (s:Int) (l r lo hi:Rat):Value:=Im s (Ac l) (Ac r) (Ac lo) (Ac hi)
abbrev opZ:Value:=Im 0 [] [] [] []
theorem OA (W:World) (p:Option Addr) (cap:Nat) (rs:List (List Sd)) (hn:rs.length<4611686018427387904) (hR:AL W p rs) (hc:chk rs=0) (hd:DC W) (hv:AH W) (ht:A9 W)
  (s a b:Int) (x h e y:List UInt8) (hx:x.length<=4000000) (hh:h.length<=4000000) (he:e.length<=4000000) (hy:y.length<=4000000) (hE:bmE rs s x h e a b [y]≠0):
  Ae Tryz.prog 12 #[B0 p rs.length cap,dmS s x h e a b,str y] W (fun _:Unit=> .tuple #[opZ, .int .i64 (bmE rs s x h e a b [y])]) (fun _=>True) (fun _=>[]):=by
 obtain⟨fv,hV,c1,c2,c3,c4,c5,rfl⟩:=Js rs s a b x h e
 refine Ab Tryz.func12 I I I<|xb<|wF I I fun _=>wF I I fun _=>wG I I fun _=>wP I<|xf<|wB 0 I I I<|wB 1 I I I<|wP I<|As Tryz.hZ tH I I I I I I I I I I I fun bS=> ?_
 refine wC I I (fun W1 hp=>(EA W1 p cap rs hn (hR.hp hp) hc (hd.hp hp) (hv.hp hp) (ht.hp hp) s a b x h e hx hh he [y] (some ⟨bS,0,none⟩) 1 (.inr ⟨bS,0,I,Aj.of_bx hp 3 I I⟩) (by show 1<=100000;decide) (fun z hz=>by rw[List.mem_singleton.1 hz];exact hy)).cast (by rw[hV]))<|Ad I<|wG I I fun _=>wS 4 I I I<|wP I<|xk<|Aa I<|wU 23 true I (bne_iff_ne.2 hE)<|xa<|zR I<|xb<|An Tryz.hZ tH I I I I I I I I ?_
 exact wP I<|wS 2 I I I<|wP I<|xo<|A4 tH I (.cell 2 I I I I I) (.tmp I) () I tO fun W _=>Au.nil _ _
theorem Jn (W:World) (p:Option Addr) (cap:Nat) (rs:List (List Sd)) (hn:rs.length<4611686018427387904) (hR:AL W p rs) (hc:chk rs=0) (hd:DC W) (hv:AH W) (ht:A9 W)
  (s a b:Int) (x h e:List UInt8) (hx:x.length<=4000000) (hh:h.length<=4000000) (he:e.length<=4000000) (q:Rat) (zq:szQ q 12) (hy:(Ac q).length<=4000000) (hE:bmE rs s x h e a b [Ac q]=0) (f:FrP) (x' h' e':Rat) (ho:DmX rs s x h e a b f x' h' e'):
  Ae Tryz.prog 12 #[B0 p rs.length cap,dmS s x h e a b,str (Ac q)] W (fun _:Unit=>if (GJ h' e' a b-f.st)*f.sp<=q then .tuple #[opZ, .int .i64 10] else .tuple #[fR s (x'-h') (x'+h') q ((GJ h' e' a b-f.st)*f.sp), .int .i64 0]) (fun _=>True) (fun _=>[]):=by
 have hV:=ho.v
 obtain⟨_,_,_,rfl,rfl,rfl,zx,zh,ze,hgo,_,_,ha,hb,_⟩:=ho
 obtain⟨z,hz⟩: ∃z,z=GJ h' e' a b:=⟨_,rfl⟩
 have zz:szQ z 27:=by rw[hz];exact ze.add (zh.mul (DE ha hb))
 have zd:=(zz.sub hgo.st).mul hgo.sp
 rw[<-hz]
 obtain⟨d,hdd⟩: ∃d,d=(z-f.st)*f.sp:=⟨_,rfl⟩
 rw[<-hdd] at zd⊢
 refine Ab Tryz.func12 I I I<|xb<|wF I I fun _=>wF I I fun _=>wG I I fun _=>wP I<|xf<|wB 0 I I I<|wB 1 I I I<|wP I<|As Tryz.hZ tH I I I I I I I I I I I fun bS=> ?_
 refine wC I I (fun W1 hp=>(EA W1 p cap rs hn (hR.hp hp) hc (hd.hp hp) (hv.hp hp) (ht.hp hp) s a b (Ac x') (Ac h') (Ac e') hx hh he [Ac q] (some ⟨bS,0,none⟩) 1 (.inr ⟨bS,0,I,Aj.of_bx hp 3 I I⟩) (by show 1<=100000;decide) (fun z hz=>by rw[List.mem_singleton.1 hz];exact hy)).cast (v':= .tuple #[frV f, .int .i64 0]) (by rw[hV,hE]))<|Ad I<|wG I I fun _=>wS 4 I I I<|wP I<|xk<|Aa I<|xa<|zS I<|xm<|wB 1 I I I<|wC I I (fun W1 hp=>(JN s a b (Ac x') h' e' ha hb zh ze W1 (hv.hp hp) (ht.hp hp)).cast (v':= .tuple #[str (Ac z), .int .i64 0]) (by rw[hz];rfl))<|Ak I<|?_
 refine xk<|Aa I<|xa<|zS I<|xm<|wB 4 I I I<|wP I<|wC I I (fun W1 hp=>(KO f z hgo.sp hgo.st zz W1 (hv.hp hp) (ht.hp hp)).cast (v':= .tuple #[str (Ac d), .int .i64 0]) (by rw[hdd]))<|Ak I<|xa<|?_
 refine xd<|Aa I<|xa<|zS I<|xm<|wB 1 I I I<|wC I I (fun W1 hp=>I7 s a b (Ac e') x' h' zx zh W1 (hv.hp hp) (ht.hp hp))<|AE I<|wP I<|xl<|zA<|?_
 refine zB<|Aa I<|xa<|zS I<|xe<|xd<|Aa I<|wC I I (fun W1 hp=>Cq q d (sz2 zq zd (by decide)) W1 (hv.hp hp) (ht.hp hp))<|wP I<|wU 58 (decide (d<=q)) I (L0 _ _)<|xa<|Ag I (fun hle=> ?_) (fun hle=> ?_)
 ·have hle:d<=q:=of_decide_eq_true hle
  refine xb<|An Tryz.hZ tH I I I I I I I I ?_
  exact wS 2 I I I<|wP I<|xo<|A4 tH I (.cell 2 I I I I I) (.tmp I) () (by rw[if_pos hle];rfl) tO fun W _=>Au.nil _ _
 ·have hle: ¬d<=q:=of_decide_eq_false hle
  refine xm<|wP I<|wB 1 I I I<|At I<|An Tryz.hZ tH I I I I I I I I ?_
  exact wS 2 I I I<|wP I<|xc<|A4 tH I (.cell 2 I I I I I) (.tmp I) () (by rw[if_neg hle];rfl) tO fun W _=>Au.nil _ _
theorem VF {q:Rat} {X W:Int} {k:Nat} (hW:W≠0) (h:q*(W:Rat)=X) (h1:X.natAbs<10^k) (h2:W.natAbs<10^k):szQ q k:=by
 have hw:(W:Rat)≠0:=fun e=>hW (by have h:=congrArg Rat.num e;rwa [Rat.num_intCast] at h)
 have e:q=(X:Rat)/(W:Rat):=by rw[<-h,Rat.mul_div_cancel hw]
 have h:=G5 X hW h1 h2
 rw[GB X hW,Rat.divInt_eq_div] at h
 rw[e]
 exact h
theorem Ng {q:Rat} {k:Nat} (h:szQ q k): ∃A B:Int,B≠0/\A.natAbs<10^k/\B.natAbs<10^k/\q*(B:Rat)=(A:Rat):=by
 refine⟨q.num,(q.den:Int),by have:=q.den_pos;omega,h.1,by rw[Int.natAbs_natCast];exact h.2, ?_⟩
 have hd:(((q.den:Nat):Int):Rat)≠0:=fun e=>by
  have h2:=congrArg Rat.num e
  rw[Rat.num_intCast] at h2
  have:=q.den_pos
  have h2:((q.den:Nat):Int)=0:=h2
  omega
 have h3:q=(q.num:Rat)/(((q.den:Nat):Int):Rat):=by
  rw[<-Rat.divInt_eq_div]
  exact(Rat.num_divInt_den q).symm
 have h4:(q.num:Rat)/(((q.den:Nat):Int):Rat)*(((q.den:Nat):Int):Rat)=(q.num:Rat):=by grind
 rw[<-h3] at h4
 exact h4
theorem Kf {n a b:Nat} (h:n<10^a) (hab:a<=b):n<10^b:=Nat.lt_of_lt_of_le h (Nat.pow_le_pow_right (by decide) hab)
theorem Zb {rs:List (List Sd)} (hc:chk rs=0) {m:Nat} (h:m<tot rs): ∃k:Int,(frs rs m).st=(k:Rat)/\k.natAbs<10^5:=by
 obtain⟨hrg,_⟩:=Hr hc
 obtain⟨r,i,hr,hi,rfl⟩:=Wi h
 have e:=K9 h
 rw[Sm hr hi] at e
 have e:=(Option.some.inj e).symm
 have hs: ∀s∈rg rs r,rgd s=true:=hrg _ (List.mem_of_getElem? (Bm hr))
 obtain⟨_,_,hp,_⟩:=FY (hs _ (List.mem_of_getElem? (GL hi)))
 rw[e]
 exact⟨(sd (rg rs r) i).plate,I,by omega⟩
theorem dR {c g e h p t s E1 E2 H1 H2 P1 P2 S1 S2:Rat} (he:e*E2=E1) (hh:h*H2=H1) (hp:p*P2=P1) (hs:s*S2=S1):
  (c+g*((e+h*p-t)*s))*(E2*H2*P2*S2)=c*(E2*H2*P2*S2)+g*((E1*H2*P2+H1*P1*E2-t*(E2*H2*P2))*S1):=by
 subst he hh hp hs;grind
theorem Z3 {c g e t s E1 E2 S1 S2:Rat} (he:e*E2=E1) (hs:s*S2=S1):
  (c+g*((e-t)*s))*(E2*S2)=c*(E2*S2)+g*((E1-t*E2)*S1):=by
 subst he hs;grind
theorem cK {f:FrP} (hf:f.Go) {k:Int} (hk:f.st=(k:Rat)) (hk5:k.natAbs<10^5) {e h:Rat} (ze:szQ e 12) (zh:szQ h 12) {a b:Int} (ha:1<=a/\a<=48) (hb:1<=b/\b<=48):
  szQ (f.off ((GJ h e a b-f.st)*f.sp)) 36/\szQ (f.off ((e-f.st)*f.sp)) 36:=by
 obtain⟨E1,E2,nE,aE,bE,hE⟩:=Ng ze
 obtain⟨H1,H2,nH,aH,bH,hH⟩:=Ng zh
 obtain⟨P1,P2,nP,aP,bP,hP⟩:=Ng (DE ha hb)
 obtain⟨S1,S2,nS,aS,bS,hS⟩:=Ng hf.sp
 have hc:f.pos.natAbs<10^5:=by have:=hf.ok.p0;have:=hf.ok.p1;omega
 have hg:f.hd.natAbs<10^1:=by rcases hf.ok.hd with e|e<;>rw[e]<;>decide
 have w1:(E2*H2*P2).natAbs<10^26:=Bb (Bb bE bH) bP
 have w2:(E2*H2*P2*S2).natAbs<10^28:=Bb w1 bS
 constructor
 ·have x1:(E1*H2*P2).natAbs<10^26:=Bb (Bb aE bH) bP
  have x2:(H1*P1*E2).natAbs<10^26:=Bb (Bb aH aP) bE
  have x3:(E1*H2*P2+H1*P1*E2).natAbs<10^27:=Ji x1 x2
  have x4:(k*(E2*H2*P2)).natAbs<10^31:=Bb hk5 w1
  have x5:(E1*H2*P2+H1*P1*E2-k*(E2*H2*P2)).natAbs<10^32:=KV (Kf x3 (by decide)) x4
  have x6:((E1*H2*P2+H1*P1*E2-k*(E2*H2*P2))*S1).natAbs<10^34:=Bb x5 aS
  have x7:(f.hd*((E1*H2*P2+H1*P1*E2-k*(E2*H2*P2))*S1)).natAbs<10^35:=Bb hg x6
  have x8:(f.pos*(E2*H2*P2*S2)).natAbs<10^33:=Bb hc w2
  refine VF (W:=E2*H2*P2*S2) (X:=f.pos*(E2*H2*P2*S2)+f.hd*((E1*H2*P2+H1*P1*E2-k*(E2*H2*P2))*S1)) (Int.mul_ne_zero (Int.mul_ne_zero (Int.mul_ne_zero nE nH) nP) nS) ?_ (Ji (Kf x8 (by decide)) x7) (Kf w2 (by decide))
  have h:=dR (c:=(f.pos:Rat)) (g:=(f.hd:Rat)) (t:=f.st) hE hH hP hS
  simp only[Rat.intCast_mul,Rat.intCast_add,Rat.intCast_sub]
  rw[<-hk]
  exact h
 ·have y1:(k*E2).natAbs<10^17:=Bb hk5 bE
  have y2:(E1-k*E2).natAbs<10^18:=KV (Kf aE (by decide)) y1
  have y3:((E1-k*E2)*S1).natAbs<10^20:=Bb y2 aS
  have y4:(f.hd*((E1-k*E2)*S1)).natAbs<10^21:=Bb hg y3
  have y5:(E2*S2).natAbs<10^14:=Bb bE bS
  have y6:(f.pos*(E2*S2)).natAbs<10^19:=Bb hc y5
  refine VF (W:=E2*S2) (X:=f.pos*(E2*S2)+f.hd*((E1-k*E2)*S1)) (Int.mul_ne_zero nE nS) ?_ (Kf (Ji (Kf y6 (by decide)) y4) (by decide)) (Kf y5 (by decide))
  have h:=Z3 (c:=(f.pos:Rat)) (g:=(f.hd:Rat)) (t:=f.st) hE hS
  simp only[Rat.intCast_mul,Rat.intCast_add,Rat.intCast_sub]
  rw[<-hk]
  exact h
theorem YP {f:FrP} {u d:Rat} (zu:szQ u 36) (zo:szQ (f.off d) 36):szQ (f.px u d) 36/\szQ (f.py u d) 36:=by
 constructor
 ·unfold FrP.px;split<;>assumption
 ·unfold FrP.py;split<;>assumption
theorem St (f:FrP) (h:f.Go) (u d:Rat) (zd:szQ d 60) (zx:szQ (f.px u d) 36) (zy:szQ (f.py u d) 36) (W:World) (hv:AH W) (ht:A9 W):
  Ae Tryz.prog 54 #[frV f,str (Ac u),str (Ac d)] W (fun _:Unit=> .tuple #[f.spot u d, .int .i64 0]) (fun _=>True) (fun _=>[]):=by
 have zsl:szQ f.slope 3:=h.ok.hdz.div h.sp (HC h.h0)
 have zba:szQ f.base 14:=h.st.sub (zsl.mul h.ok.posz)
 obtain⟨A,hA⟩: ∃A:Rat,A=if f.ax then f.slope else 0:=⟨_,rfl⟩
 obtain⟨B,hB⟩: ∃B:Rat,B=if f.ax then 0 else f.slope:=⟨_,rfl⟩
 have kA:szQ A 3:=by rw[hA];split;exact zsl;exact szo.mono (by decide)
 have kB:szQ B 3:=by rw[hB];split;exact szo.mono (by decide);exact zsl
 have hsum:0+A*f.px u d+B*f.py u d+f.base=f.pz d:=by rw[hA,hB];exact h.sum u d
 have hplane:f.plane= .tuple #[plV A B f.base, .int .i64 0]:=by
  rw[FrP.plane,if_neg (HC h.h0),hA,hB]
  cases f.ax
  ·simp only[Bool.false_eq_true,if_false,plV,BV]
  ·simp only[if_true,plV,BV]
 have z1:=sz2 h.ok.posz zd (by decide)
 refine Ab Tryz.func54 I I I<|xb<|wF I I fun _=>wG I I fun _=>wP I<|zC<|?_
 rename_i b3 b6
 refine xn<|wP I<|wB 0 I I I<|wC I I (fun W hp=>(FS f.pos 1 h.ok.pos64 (by decide) W (ht.hp hp)).cast (by rw[K8]))<|Ak I<|xk<|Aa I<|xa<|zS I<|xe<|zA<|?_
 refine zB<|wP I<|xk<|wP I<|wB 0 I I I<|wP I<|zC<|?_
 obtain⟨g,hg⟩: ∃g:Nat,g=if f.hd<0 then 37 else 36:=⟨_,rfl⟩
 refine KD ?_
 try refine Ba ?_
 refine AA (X:=Unit) (fun _=>[(1,str (Ac u)),(2,str (Ac d)),(3,Ai b3),(6,Ai b6),(7, .int .i64 0),(8,str (Ac (f.pos:Rat))),(10, .func (.func g) #[] #[])]) (fun _=>[⟨b3,59,(frV f).cells.toList,true,none⟩,⟨b6,33,[str [],str [],str []],true,none⟩]) (fun _=>True) ?_ ?_
 ·refine Ag I (fun hn=> ?_) (fun hn=> ?_)
  ·have hn:f.hd<0:=of_decide_eq_true hn
   rw[if_pos hn] at hg
   exact zB<|wP I<|zC<|Ao () tO ⟨I,I,I,I,I,I,by rw[hg];rfl,tO⟩ [] I
  ·have hn: ¬f.hd<0:=of_decide_eq_false hn
   rw[if_neg hn] at hg
   exact zI<|Ao () tO ⟨I,I,I,I,I,I,by rw[hg];rfl,tO⟩ [] I
 intro _ _
 refine xb<|?_
 have hE:AS Tryz.prog g=true:=by rw[hg];split<;>kernel_rfl
 refine Ad I<|?_
 refine Bz (g:=g) (capt:=[]) I I I I I I hE (fun W hp=>(show Ae Tryz.prog g #[str (Ac (f.pos:Rat)),str (Ac d)] W (fun _:Unit=> .tuple #[str (Ac (f.off d)), .int .i64 0]) (fun _=>True) (fun _=>[]) by
  rw[hg, <-RM h.ok]
  split
  ·exact C6 (f.pos:Rat) d z1 W (hv.hp hp) (ht.hp hp)
  ·exact C7 (f.pos:Rat) d z1 W (hv.hp hp) (ht.hp hp))) ?_
 refine Ak I<|xk<|Aa I<|xa<|zS I<|xm<|Aa I<|An Tryz.hZ tH I I I I I I I I ?_
 refine wG I I fun _=>wS 2 I I I<|zC<|?_
 rename_i b12
 refine zE<|xd<|wP I<|wB 0 I I I<|xa<|?_
 try refine Ba ?_
 refine AA (X:=Unit) (fun _=>[(3,Ai b3),(6,Ai b6),(7, .int .i64 0),(12,Ai b12)]) (fun _=>[⟨b3,59,(frV f).cells.toList,true,none⟩,⟨b6,33,[str [],str [],str []],true,none⟩,⟨b12,105,[str (Ac (f.px u d)),str (Ac (f.py u d))],true,none⟩]) (fun _=>True) ?_ ?_
 ·refine Ag I (fun hax=> ?_) (fun hax=> ?_)
  ·have hax:f.ax=true:=hax
   refine zB<|Aa I<|An Tryz.hZ tH I I I I I I I I ?_
   exact wS 2 I I I<|zC<|Ao () tO ⟨I,I,I,I,tO⟩ [] (by rw[FrP.px,FrP.py,if_pos hax,if_pos hax];rfl)
  ·have hax:f.ax=false:=hax
   exact zI<|Ao () tO ⟨I,I,I,I,tO⟩ [] (by rw[FrP.px,FrP.py,hax];rfl)
 intro _ _
 refine xd<|wP I<|wB 0 I I I<|wP I<|wU 49 false I ((AW _ _).trans ((Ns f.sp).trans (dF h.h0)))<|xa<|zS I<|xm<|wB 0 I I I<|wC I I (fun W hp=>(KG f h.ok W (hv.hp hp) (ht.hp hp)).cast hplane)<|Ad I<|wG I I fun _=>wS 3 I I I<|wP I<|xa<|?_
 refine xd<|Aa I<|xa<|zS I<|xm<|wB 3 I I I<|wB 2 I I I<|wC I I (fun W hp=>(JT A B f.base (f.px u d) (f.py u d) (kA.mono (by decide)) (kB.mono (by decide)) (zba.mono (by decide)) zx zy (fS kA kB zba zx zy (by decide)) W (hv.hp hp) (ht.hp hp)).cast (by rw[hsum]))<|Ak I<|xf<|?_
 refine wP I<|wB 2 I I I<|wP I<|wB 2 I I I<|wP I<|An Tryz.hZ tH I I I I I I I I ?_
 exact wP I<|wS 1 I I I<|wP I<|xc<|A4 tH I (.cell 1 I I I I I) (.tmp I) () I tO fun W _=>Au.nil _ _
theorem Ku (f:FrP) (h:f.Go) (u z:Rat) (zz:szQ z 27) (zx:szQ (f.px u ((z-f.st)*f.sp)) 36) (zy:szQ (f.py u ((z-f.st)*f.sp)) 36) (W:World) (hv:AH W) (ht:A9 W):
  Ae Tryz.prog 23 #[frV f,str (Ac u),str (Ac z)] W (fun _:Unit=> .tuple #[f.spot u ((z-f.st)*f.sp), .int .i64 0]) (fun _=>True) (fun _=>[]):=by
 have zd:szQ ((z-f.st)*f.sp) 35:=(zz.sub h.st).mul h.sp
 refine Ab Tryz.func23 I I I<|xb<|wF I I fun _=>wG I I fun _=>wP I<|xf<|wB 0 I I I<|wP I<|wC I I (fun W hp=>KO f z h.sp h.st zz W (hv.hp hp) (ht.hp hp))<|Ak I<|xk<|Aa I<|?_
 exact xa<|zS I<|xm<|wB 0 I I I<|Aa I<|wC I I (fun W hp=>St f h u ((z-f.st)*f.sp) (zd.mono (by decide)) zx zy W (hv.hp hp) (ht.hp hp))<|Aa I<|wS 1 I I I<|wP I<|xc<|A4 tH I (.cell 1 I I I I I) (.tmp I) () I tO fun W _=>Au.nil _ _
theorem GC (W:World) (p:Option Addr) (cap:Nat) (rs:List (List Sd)) (hn:rs.length<4611686018427387904) (hR:AL W p rs) (hc:chk rs=0) (hd:DC W) (hv:AH W) (ht:A9 W)
  (s a b:Int) (x h e:List UInt8) (hx:x.length<=4000000) (hh:h.length<=4000000) (he:e.length<=4000000):
  Ae Tryz.prog 21 #[B0 p rs.length cap,dmS s x h e a b, .slice none 0 0] W (fun _:Unit=> .tuple #[boV rs s x h e a b, .int .i64 (boE rs s x h e a b)]) (fun _=>True) (fun _=>[]):=
 (EA W p cap rs hn hR hc hd hv ht s a b x h e hx hh he [] none 0 (.inl rfl) (by decide) (fun y hy=>absurd hy List.not_mem_nil)).cast (by
  unfold bmE
  by_cases h0:boE rs s x h e a b=0
  ·rw[if_pos h0,h0];rfl
  ·rw[if_neg h0])
theorem MV (W:World) (p:Option Addr) (cap:Nat) (rs:List (List Sd)) (hn:rs.length<4611686018427387904) (hR:AL W p rs) (hc:chk rs=0) (hd:DC W) (hv:AH W) (ht:A9 W)
  (s a b:Int) (x h e:List UInt8) (hx:x.length<=4000000) (hh:h.length<=4000000) (he:e.length<=4000000) (hE:boE rs s x h e a b≠0):
  Ae Tryz.prog 8 #[B0 p rs.length cap,dmS s x h e a b] W (fun _:Unit=> .tuple #[str [], .agg #[str [],str [],str []], .int .i64 (boE rs s x h e a b)]) (fun _=>True) (fun _=>[]):=by
 have hV:boV rs s x h e a b= .agg #[.bool false, .int .i64 0, .int .i64 0,str [],str []]:=if_neg hE
 refine Ab Tryz.func8 I I I<|xb<|wF I I fun _=>wF I I fun _=>wP I<|wG I I fun _=>wP I<|xf<|wB 0 I I I<|wB 1 I I I<|wC I I (fun W1 hp=>(GC W1 p cap rs hn (hR.hp hp) hc (hd.hp hp) (hv.hp hp) (ht.hp hp) s a b x h e hx hh he).cast (by rw[hV]))<|Ad I<|wG I I fun _=>wS 3 I I I<|wP I<|xl<|zA<|?_
 refine zB<|Aa I<|wU 18 true I (bne_iff_ne.2 hE)<|xa<|zR I<|xb<|An Tryz.hZ tH I I I I I I I I ?_
 exact Aa I<|wS 2 I I I<|wP I<|xo<|HQ tH I (.tmp I) (.cell 2 I I I I I) (.tmp I) () I tO fun W _=>Au.nil _ _
theorem FB (W:World) (p:Option Addr) (cap:Nat) (rs:List (List Sd)) (hn:rs.length<4611686018427387904) (hR:AL W p rs) (hc:chk rs=0) (hd:DC W) (hv:AH W) (ht:A9 W)
  (s a b:Int) (x h e:List UInt8) (hx:x.length<=4000000) (hh:h.length<=4000000) (he:e.length<=4000000) (hE:boE rs s x h e a b=0) (f:FrP) (x' h' e':Rat) (ho:DmX rs s x h e a b f x' h' e'):
  Ae Tryz.prog 8 #[B0 p rs.length cap,dmS s x h e a b] W (fun _:Unit=> .tuple #[str (Ac (GJ h' e' a b)),f.spot x' ((GJ h' e' a b-f.st)*f.sp), .int .i64 0]) (fun _=>True) (fun _=>[]):=by
 have hV:=ho.v
 have hst: ∃k:Int,f.st=(k:Rat)/\k.natAbs<10^5:=by rw[ho.hf];exact Zb hc (by have:=ho.s0;have:=ho.s1;omega)
 obtain⟨_,_,_,rfl,rfl,rfl,zx,zh,ze,hgo,_,_,ha,hb,_⟩:=ho
 obtain⟨z,hz⟩: ∃z,z=GJ h' e' a b:=⟨_,rfl⟩
 have zz:szQ z 27:=by rw[hz];exact ze.add (zh.mul (DE ha hb))
 obtain⟨k,hk,hk5⟩:=hst
 have ho36:=cK hgo hk hk5 ze zh ha hb
 rw[<-hz] at ho36
 have hxy:=YP (u:=x') (zx.mono (by decide)) ho36.1
 rw[<-hz]
 refine Ab Tryz.func8 I I I<|xb<|wF I I fun _=>wF I I fun _=>wP I<|wG I I fun _=>wP I<|zC<|?_
 rename_i b2 b3 b5
 refine xn<|wB 0 I I I<|wB 1 I I I<|wC I I (fun W1 hp=>(GC W1 p cap rs hn (hR.hp hp) hc (hd.hp hp) (hv.hp hp) (ht.hp hp) s a b (Ac x') (Ac h') (Ac e') hx hh he).cast (v':= .tuple #[frV f, .int .i64 0]) (by rw[hV,hE]))<|Ad I<|wG I I fun _=>wS 3 I I I<|wP I<|zC<|?_
 rename_i b7
 refine zE<|xd<|Aa I<|xa<|zS I<|xm<|wB 1 I I I<|wC I I (fun W1 hp=>(JN s a b (Ac x') h' e' ha hb zh ze W1 (hv.hp hp) (ht.hp hp)).cast (v':= .tuple #[str (Ac z), .int .i64 0]) (by rw[hz];rfl))<|Ak I<|xl<|zA<|?_
 refine zB<|Aa I<|xa<|zS I<|xm<|wB 3 I I I<|wP I<|wB 1 I I I<|wP I<|wC I I (fun W1 hp=>Ku f hgo x' z zz hxy.1 hxy.2 W1 (hv.hp hp) (ht.hp hp))<|Ad I<|wG I I fun _=>wS 4 I I I<|wP I<|zC<|?_
 rename_i b10
 refine zE<|xd<|Aa I<|xa<|zS I<|xe<|zA<|?_
 refine AV (X:=Unit) [true,true,true,false,false] (fun _=>[(4,str (Ac z)),(5,Ai b5),(6, .int .i64 0)]) (fun _=>[⟨b5,33,(f.spot x' ((z-f.st)*f.sp)).cells.toList,true,none⟩])
   2 [⟨b2,24,[slv p rs.length cap],true,none⟩,⟨b3,27,(dmS s (Ac x') (Ac h') (Ac e') a b).cells.toList,true,none⟩,⟨b5,33,[str [],str [],str []],false,none⟩,⟨b7,59,(frV f).cells.toList,true,none⟩,⟨b10,33,(f.spot x' ((z-f.st)*f.sp)).cells.toList,true,none⟩] Tryz.mixed (by kernel_rfl) ?_ ?_
 ·refine qP I<|qB 4 I I I<|qP I<|BR<|wX<|wZ<|wS 2 I I I<|zC<|Ah<|wX<|wZ<|wP I<|zC<|Ah<|?_
  refine AF I (by((repeat (first|refine AK.same ?_|refine AK.off I ?_));exact tO)) ?_
  exact A7 () ⟨I,I,I,tO⟩ [2] (by decide) I
 intro _
 exact zE<|zO<|HQ tH I (.tmp I) (.cell 0 I I I I I) (.tmp I) () I tO fun W _=>Au.nil _ _
theorem P8 (W:World) (p:Option Addr) (cap:Nat) (rs:List (List Sd)) (hn:rs.length<4611686018427387904) (hR:AL W p rs) (hc:chk rs=0) (hd:DC W) (hv:AH W) (ht:A9 W)
  (s a b:Int) (x h e:List UInt8) (hx:x.length<=4000000) (hh:h.length<=4000000) (he:e.length<=4000000) (hE:boE rs s x h e a b≠0):
  Ae Tryz.prog 10 #[B0 p rs.length cap,dmS s x h e a b] W (fun _:Unit=> .tuple #[.slice none 0 0, .int .i64 (boE rs s x h e a b)]) (fun _=>True) (fun _=>[]):=by
 have hV:boV rs s x h e a b= .agg #[.bool false, .int .i64 0, .int .i64 0,str [],str []]:=if_neg hE
 refine Ab Tryz.func10 I I I<|xb<|wF I I fun _=>wF I I fun _=>Aa I<|xf<|wB 0 I I I<|wB 1 I I I<|wC I I (fun W1 hp=>(GC W1 p cap rs hn (hR.hp hp) hc (hd.hp hp) (hv.hp hp) (ht.hp hp) s a b x h e hx hh he).cast (by rw[hV]))<|Ad I<|wG I I fun _=>wS 2 I I I<|wP I<|xl<|zA<|?_
 exact zB<|Aa I<|wU 21 true I (bne_iff_ne.2 hE)<|xa<|zR I<|xb<|Ad I<|xo<|wR2 I I I
theorem PM (W:World) (p:Option Addr) (cap:Nat) (rs:List (List Sd)) (hn:rs.length<4611686018427387904) (hR:AL W p rs) (hc:chk rs=0) (hd:DC W) (hv:AH W) (ht:A9 W)
  (s a b:Int) (x h e:List UInt8) (hx:x.length<=4000000) (hh:h.length<=4000000) (he:e.length<=4000000) (hE:boE rs s x h e a b=0) (f:FrP) (x' h' e':Rat) (ho:DmX rs s x h e a b f x' h' e'):
  Ae Tryz.prog 10 #[B0 p rs.length cap,dmS s x h e a b] W (fun g:Nat=> .tuple #[slv (some ⟨g,0,none⟩) 3 3, .int .i64 0]) (fun _=>True) (fun g=>[⟨g,33,X9 f x' h' e' (GJ h' e' a b),true,none⟩]):=by
 have ho2:=ho
 have hV:=ho.v
 have hst: ∃k:Int,f.st=(k:Rat)/\k.natAbs<10^5:=by rw[ho.hf];exact Zb hc (by have:=ho.s0;have:=ho.s1;omega)
 obtain⟨_,_,_,rfl,rfl,rfl,zx,zh,ze,hgo,_,_,ha,hb,_⟩:=ho
 obtain⟨z,hz⟩: ∃z,z=GJ h' e' a b:=⟨_,rfl⟩
 obtain⟨k,hk,hk5⟩:=hst
 have ho36:=cK hgo hk hk5 ze zh ha hb
 have hxl:=YP (u:=x'-h') ((zx.sub zh).mono (by decide)) ho36.2
 have hxr:=YP (u:=x'+h') ((zx.add zh).mono (by decide)) ho36.2
 rw[<-hz]
 refine Ab Tryz.func10 I I I<|xb<|wF I I fun _=>wF I I fun _=>Aa I<|xf<|wB 0 I I I<|wB 1 I I I<|wC I I (fun W1 hp=>(GC W1 p cap rs hn (hR.hp hp) hc (hd.hp hp) (hv.hp hp) (ht.hp hp) s a b (Ac x') (Ac h') (Ac e') hx hh he).cast (v':= .tuple #[frV f, .int .i64 0]) (by rw[hV,hE]))<|Ad I<|wG I I fun _=>wS 2 I I I<|wP I<|xl<|zA<|?_
 refine zB<|Aa I<|xa<|zS I<|xm<|wB 1 I I I<|wC I I (fun W1 hp=>I7 s a b (Ac e') x' h' zx zh W1 (hv.hp hp) (ht.hp hp))<|AE I<|wP I<|xk<|?_
 refine Aa I<|xa<|zS I<|xm<|wB 2 I I I<|Aa I<|wB 1 I I I<|wC I I (fun W1 hp=>Ku f hgo (x'-h') e' (ze.mono (by decide)) hxl.1 hxl.2 W1 (hv.hp hp) (ht.hp hp))<|Ad I<|wG I I fun _=>wS 3 I I I<|wP I<|xl<|zA<|?_
 refine zB<|Aa I<|xa<|zS I<|xm<|wB 0 I I I<|wB 1 I I I<|wC I I (fun W1 hp=>(FB W1 p cap rs hn (hR.hp hp) hc (hd.hp hp) (hv.hp hp) (ht.hp hp) s a b (Ac x') (Ac h') (Ac e') hx hh he hE f x' h' e' ho2).cast (v':= .tuple #[str (Ac z),f.spot x' ((z-f.st)*f.sp), .int .i64 0]) (by rw[hz]))<|At I<|wG I I fun _=>wP I<|wS 4 I I I<|wP I<|xl<|zA<|?_
 refine zB<|Aa I<|xa<|zS I<|xm<|wB 2 I I I<|Aa I<|wB 1 I I I<|wC I I (fun W1 hp=>Ku f hgo (x'+h') e' (ze.mono (by decide)) hxr.1 hxr.2 W1 (hv.hp hp) (ht.hp hp))<|Ad I<|wG I I fun _=>wS 5 I I I<|wP I<|xl<|zA<|?_
 refine zB<|Aa I<|xa<|zS I<|xm<|wB 3 I I I<|wB 4 I I I<|wB 5 I I I<|As Tryz.hZ tH I I I I I I I I I I I fun bS=> ?_
 exact Aa I<|xc<|A4 tH I (.tmp I) (.tmp I) bS I tO fun W1 hp=>Au.of_hp (hp.pick (l:=[⟨bS,33,X9 f x' h' e' z,true,none⟩]) [6] (by decide) I)
theorem LH (z:Int) (hz:z.natAbs<4611686018427387904) (W:World) (_ht:A9 W):Ae Tryz.prog 102 #[.int .i64 z] W (fun _:Unit=>str (Ac (z:Rat))) (fun _=>True) (fun _=>[]):=by
 exact Ab Tryz.func102 I I I<|xb<|wP I<|xf<|wP I<|wC I I (fun W1 _=>Xl z hz W1)<|Ak I<|xf<|Aa I<|xc<|wR1 I I I
theorem TW (p q:Rat) (h:Sz2 p q) (h0:q.num≠0) (W:World) (ht:A9 W):Ae Tryz.prog 103 #[str (Ac p),str (Ac q)] W (fun _:Unit=>str (Ac (p/q))) (fun _=>True) (fun _=>[]):=by
 refine Ab Tryz.func103 I I I<|xb<|wP I<|xf<|Aa I<|wC I I (fun W1 hp=>O3 p q h h0 W1 (ht.hp hp))<|Ak I<|xf<|Aa I<|xa<|?_
 exact zO<|wR1 I I I
end
section
open Go Go.RowKit Go.Am
set_option maxRecDepth 10000
theorem HV (W:World) (p:Option Addr) (cap:Nat) (rs:List (List Sd)) (hn:rs.length<4611686018427387904) (hT:tot rs<1099511627776) (hR:AL W p rs):
  Ae Tryz.prog 101 #[B0 p rs.length cap] W (fun _:Unit=> .int .i64 (chk rs)) (fun _=>True) (fun _=>[]):=
 (Sr W p cap rs hn hT hR).cast (by rw[ZZ])
theorem Ww (W:World) (p:Option Addr) (cap:Nat) (rs:List (List Sd)) (hn:rs.length<4611686018427387904) (hR:AL W p rs) (hc:chk rs=0):
  Ae Tryz.prog 56 #[B0 p rs.length cap] W (fun V:Vec=> .tuple #[V.val rs.flatten.length, .int .i64 0]) (fun V=>V.OK 7 rs.flatten.length (cellsOf rs.flatten)) (fun V=>[V.bx 82 (cellsOf rs.flatten)]):=by
 obtain⟨hne,hT,_⟩:=Mk hc
 refine Ab Tryz.func56 I I I<|xb<|wF I I fun _=>Aa I<|zC<|?_
 rename_i b1
 refine zE<|xd<|wB 0 I I I<|wC I I (fun W hp=>(HV W p cap rs hn (by omega) (hR.hp hp)).cast (by rw[hc]))<|wP I<|xa<|zS I<|xm<|wP I<|xk<|wP I<|xa<|zH<|C9 ?_
 refine Av (X:=Nat×Vec) (fun x=>[(1, .pointer (some ⟨b1,0,none⟩)),(4,x.2.val (tot (rs.take x.1))),(5, .int .i64 (x.1:Nat))]) (fun x=>[⟨b1,24,[slv p rs.length cap],true,none⟩,x.2.bx 82 (cellsOf (rs.take x.1).flatten)])
  (fun x=>x.1<=rs.length/\x.2.OK 7 (tot (rs.take x.1)) (cellsOf (rs.take x.1).flatten)) (fun x=>rs.length-x.1) (0,Vec.empty) ⟨Nat.zero_le _,Vec.OK.empty 7⟩ ⟨rfl,rfl,rfl,trivial⟩ [] rfl ?_
 rintro⟨k,V⟩ ⟨hk,hV⟩
 refine xd<|Aa I<|wB 0 I I I<|Aa I<|xa<|Ag I (fun h=> ?_) (fun h=> ?_)
 ·have hk:k<rs.length:=by simp at h;omega
  clear h
  obtain⟨b,off,rfl,hrow⟩:=hR.row hk
  obtain⟨q,cap2,hq1,hq2⟩:=hrow k hk
  refine xe<|zA<|zH<|zB<|Aa I<|wB 0 I I I<|wP I<|wJ ?_
  refine wL 0 I I (fun W hp=>hq1.hp hp) I ?_
  obtain⟨b2,off2,rfl,hRk⟩: ∃b off,q=some ⟨b,off,none⟩/\Gg W b off (rg rs k):=by
   rcases hq2 with h|h
   ·exact absurd h (hne _ (List.mem_of_getElem? (Bm hk)))
   ·exact h
  have h1:=Bq hk
  have h2:=Cs rs (k+1)
  refine EW (len:=tot (rs.take k)) 1 Tryz.vec48 I I I I I I I I I hV (E3 (rg rs k)) (fun W hp j u hj=> ?_) (M3 _) (by simp only[maxLen];omega) (by omega) ?_
  ·have hR':Cg W (some ⟨b2,off2,none⟩) (rg rs k):=Cg.hp (.inr ⟨b2,off2,rfl,hRk⟩) hp
   rcases hR' with h|⟨b3,off3,e,hR'⟩
   ·exact absurd h (hne _ (List.mem_of_getElem? (Bm hk)))
   ·cases e
    rw[Addr.add_none]
    exact hR'.cells j u hj
  intro V' hV' _
  have e3:cellsOf (rs.take k).flatten++cellsOf (rg rs k)=cellsOf (rs.take (k+1)).flatten:=by rw[LR hk,IE]
  rw[e3, <-h1] at hV'
  rw[e3, <-h1]
  exact wP I<|zC<|xi<|Ad I<|zC<|Al (k+1,V') ⟨hk,hV'⟩ (by show rs.length-(k+1)<rs.length-k;omega) ⟨I,I,congrArg (fun z=>some (Value.int .i64 z)) (AM (x:=(k:Int)+1) (by omega) (by omega)),tO⟩ [] I
 ·have e:k=rs.length:=by simp at h;omega
  subst e
  rw[List.take_length] at hV
  rw[List.take_length]
  exact xg<|xn<|Ad I<|xc<|A4 tH I (.tmp I) (.tmp I) V (by rw[Gm]) (by rw[Gm];exact hV) fun W hp=>Au.of_hp1 hp 1 I
end
section
open Go Go.RowKit Go.Am Go.Lib
set_option maxRecDepth 10000
abbrev bxE (b:Nat) (t:TypeId) (v:Value):Bx:=⟨b,t,[v],true,none⟩
structure gB (W:World) (p:Option Addr) (rs:List (List Sd)):Prop where
 n:rs.length<1099511627776
 R:AL W p rs
 c:chk rs=0
 d:DC W
 v:AH W
 t:A9 W
theorem U0 (W:World) (p:Option Addr) (cap:Nat) (rs:List (List Sd)) (h:gB W p rs):
  Ae Tryz.prog 55 #[B0 p rs.length cap] W (fun V:Vec=> .tuple #[V.val (EH rs).length, .int .i64 0]) (fun V=>V.OK 5 (EH rs).length (frC (EH rs))) (fun V=>[V.bx 59 (frC (EH rs))]):=by
 obtain⟨hne,h24,h0⟩:=Mk h.c
 obtain⟨hrg,_⟩:=Hr h.c
 have hR:=h.R
 refine Ab Tryz.func55 I I I<|xb<|wF I I fun _=>Aa I<|zC<|?_
 rename_i b1
 refine zE<|xd<|wB 0 I I I<|wC I I (fun W1 hp=>(HV W1 p cap rs (by have:=h.n;omega) (by omega) (hR.hp hp)).cast (v':= .int .i64 0) (by rw[h.c]))<|wP I<|xa<|zS I<|xm<|DT tH I I I I I ?_
 intro gE
 refine wP I<|xk<|wP I<|xa<|zH<|?_
 refine Av (X:=Nat×Vec) (fun s=>[(1,Ai b1),(4,s.2.val (Bl rs s.1).length),(5, .int .i64 (s.1:Nat))]) (fun s=>[bxE b1 24 (slv p rs.length cap),s.2.bx 59 (frC (Bl rs s.1))])
  (fun s=>s.1<=rs.length/\s.2.OK 5 (Bl rs s.1).length (frC (Bl rs s.1))) (fun s=>rs.length-s.1) (0,⟨some gE,0,[]⟩) ⟨Nat.zero_le _,⟨rfl,(fun h=>by cases h),fun _=>⟨Nat.le_refl _,Nat.zero_le _,rfl⟩⟩⟩ ⟨rfl,rfl,rfl,trivial⟩ [] rfl ?_
 rintro⟨k,V⟩ ⟨hk,hV⟩
 have hk:k<=rs.length:=hk
 have hV:V.OK 5 (Bl rs k).length (frC (Bl rs k)):=hV
 have hl:=Iv k hk
 have hn:=h.n
 refine xd<|Aa I<|wB 0 I I I<|Aa I<|?_
 by_cases hlt:k<rs.length
 ·refine wU 19 true I (dT (by omega))<|xa<|zR I<|xh<|?_
  obtain⟨l,hle⟩: ∃l,l=rg rs k:=⟨_,rfl⟩
  have hs:=Bq hlt
  have hs1:=Cs rs (k+1)
  obtain⟨gR,oR,hpe,hrows⟩:=hR.row hlt
  obtain⟨q,c,hrow,hring⟩:=hrows k hlt
  rw[<-hle] at hrow hring hs
  have hrl: ∀s∈l,rgd s=true:=fun s hs=>hrg l (by rw[hle];exact List.mem_of_getElem? (Bm hlt)) s hs
  have hln:l.length<=24:=by omega
  subst hpe
  refine wP I<|wB 0 I I I<|wP I<|wJ ?_
  refine wL 0 I I (fun W1 hp=>hrow.hp hp) I<|wP I<|xf<|wP I<|xa<|zH<|?_
  refine Av (X:=Nat×Vec) (fun s=>[(1,Ai b1),(4,s.2.val ((Bl rs k).length+s.1)),(5, .int .i64 (k:Nat)),(6,slv q l.length c),(7, .int .i64 (s.1:Nat))]) (fun s=>[bxE b1 24 (slv (some ⟨gR,oR,none⟩) rs.length cap),s.2.bx 59 (frC (Bl rs k++D7 l s.1))])
   (fun s=>s.1<=l.length/\s.2.OK 5 ((Bl rs k).length+s.1) (frC (Bl rs k++D7 l s.1))) (fun s=>l.length-s.1) (0,V) ⟨Nat.zero_le _,by show V.OK 5 _ (frC (Bl rs k++[]));rw[List.append_nil];exact hV⟩ ⟨rfl,rfl,rfl,rfl,rfl,trivial⟩ [] (congrArg (fun x=>[bxE b1 24 (slv (some ⟨gR,oR,none⟩) rs.length cap),V.bx 59 (frC x)]) (List.append_nil (Bl rs k)).symm) ?_
  rintro⟨i,U⟩ ⟨hi,hU⟩
  have hi:i<=l.length:=hi
  have hU:U.OK 5 ((Bl rs k).length+i) (frC (Bl rs k++D7 l i)):=hU
  refine xd<|At I<|?_
  by_cases hil:i<l.length
  ·refine wU 30 true I (dT (by omega))<|zC<|?_
   obtain⟨gS,oS,hqe,hsd⟩:=hring.row hil
   have hs0:=hsd i hil
   have hs1:=hsd (nxt l.length i) (Ei hil)
   have hnl:=Ei hil
   have hsuc:=QB l i
   subst hqe
   refine zE<|zR I<|xe<|zA<|zH<|zA<|?_
   refine AV (X:=Nat×Nat) [true,true,true,true,true,true,true,true,true,true,true,true,false,false,false,false] (fun x=>[(1,Ai b1),(4,U.val ((Bl rs k).length+i)),(5, .int .i64 (k:Nat)),(6,slv (some ⟨gS,oS,none⟩) l.length c),(7, .int .i64 (i:Nat)),(8,Ai x.1),(9,Ai x.2)])
    (fun x=>[bxE b1 24 (slv (some ⟨gR,oR,none⟩) rs.length cap),U.bx 59 (frC (Bl rs k++D7 l i)),⟨x.1,82,(sd l i).cells,true,none⟩,⟨x.2,82,(sd l (nxt l.length i)).cells,true,none⟩])
    4 [bxE b1 24 (slv (some ⟨gR,oR,none⟩) rs.length cap),U.bx 59 (frC (Bl rs k++D7 l i))] Tryz.mixed (by kernel_rfl) ?_ ?_
   ·refine Ay I<|qJ ?_
    refine qL 0 I I (fun W1 hp=>hs0.hp hp) I<|AY I<|qV 39 ((i+1:Nat):Int) I (A0 (by omega))<|Ay I<|DO I I I I I (by omega) ?_
    refine qV 42 (nxt l.length i:Nat) I (by rw[Int.tmod_eq_emod_of_nonneg (by omega)];exact(Int.natCast_emod _ _).symm)<|qJ ?_
    refine qL 0 I I (fun W1 hp=>hs1.hp hp) I<|BR<|wX<|RS.cons ?_ (RS.cons ?_ (RS.nil))
    ·refine B5 Tryz.hZ rfl rfl rfl rfl ?_;intro b8
     refine zC<|Ah<|wX<|wZ<|?_
     refine B5 Tryz.hZ rfl rfl rfl rfl ?_;intro b9
     refine zC<|Ah<|wX<|wZ<|wS 2 I I I<|zC<|Ah<|wX<|wZ<|wS 3 I I I<|zC<|Ah<|?_
     refine AF I (by((repeat (first|refine AK.same ?_|refine AK.off I ?_));exact tO)) ?_
     exact A7 (b8,b9) ⟨I,I,I,I,I,I,I,tO⟩ [0,1,2,3] (by decide) I
    ·refine B5 Tryz.hZ rfl rfl rfl rfl ?_;intro b9
     refine zC<|Ah<|wX<|wZ<|?_
     refine B5 Tryz.hZ rfl rfl rfl rfl ?_;intro b8
     refine zC<|Ah<|wX<|wZ<|wS 3 I I I<|zC<|Ah<|wX<|wZ<|wS 2 I I I<|zC<|Ah<|?_
     refine AF I (by((repeat (first|refine AK.same ?_|refine AK.off I ?_));exact tO)) ?_
     exact A7 (b8,b9) ⟨I,I,I,I,I,I,I,tO⟩ [0,1,3,2] (by decide) I
   rintro⟨b8,b9⟩
   have hsm:=hrl _ (List.mem_of_getElem? (GL hil))
   obtain⟨hx,hy,hpl,hgb⟩:=FY hsm
   refine xn<|wP I<|wB 2 I I I<|wC I I (fun W1 hp=>LH (sd l i).plate (by omega) W1 (h.t.hp hp))<|An Tryz.hZ tH I I I I I I I I ?_
   refine B5 Tryz.hZ I I I I ?_
   intro b10
   refine wS 4 I I I<|zC<|?_
   obtain⟨sp,hsp⟩: ∃q:Rat,q=if (sd l i).gable=true then 0 else nrm (sd l i).run (sd l i).rise:=⟨_,rfl⟩
   refine zE<|xd<|wP I<|wB 2 I I I<|wP I<|xa<|?_
   try refine Ba ?_
   refine AA (X:=Unit) (fun _=>[(1,Ai b1),(4,U.val ((Bl rs k).length+i)),(5, .int .i64 (k:Nat)),(6,slv (some ⟨gS,oS,none⟩) l.length c),(7, .int .i64 (i:Nat)),(8,Ai b8),(9,Ai b9),(10,Ai b10)]) (fun _=>[bxE b1 24 (slv (some ⟨gR,oR,none⟩) rs.length cap),U.bx 59 (frC (Bl rs k++D7 l i)),⟨b8,82,(sd l i).cells,true,none⟩,⟨b9,82,(sd l (nxt l.length i)).cells,true,none⟩,⟨b10,59,[.bool false, .int .i64 0, .int .i64 0,str (Ac sp),str (Ac ((sd l i).plate:Rat))],true,none⟩]) (fun _=>True) ?_ ?_
   ·refine Ag I (fun hg=> ?_) (fun hg=> ?_)
    ·have hg:(sd l i).gable=false:=by simpa using hg
     obtain⟨hrun,hrise⟩:=hgb hg
     rw[hg,if_neg (by decide)] at hsp
     have hq:((sd l i).run:Rat)/((sd l i).rise:Rat)=sp:=by rw[hsp,GB _ (by omega)];exact(Rat.divInt_eq_div ..).symm
     have zr:szQ ((sd l i).run:Rat) 5:=HS (k:=5) (by show _<100000;omega) (by decide)
     have zs:szQ ((sd l i).rise:Rat) 5:=HS (k:=5) (by show _<100000;omega) (by decide)
     refine AV (X:=Unit) [true,true,true,true,true,true,true,true,false] (fun _=>[(1,Ai b1),(4,U.val ((Bl rs k).length+i)),(5, .int .i64 (k:Nat)),(6,slv (some ⟨gS,oS,none⟩) l.length c),(7, .int .i64 (i:Nat)),(8,Ai b8),(9,Ai b9),(10,Ai b10)]) (fun _=>[bxE b1 24 (slv (some ⟨gR,oR,none⟩) rs.length cap),U.bx 59 (frC (Bl rs k++D7 l i)),⟨b8,82,(sd l i).cells,true,none⟩,⟨b9,82,(sd l (nxt l.length i)).cells,true,none⟩,⟨b10,59,[.bool false, .int .i64 0, .int .i64 0,str (Ac sp),str (Ac ((sd l i).plate:Rat))],true,none⟩])
      1 [bxE b1 24 (slv (some ⟨gR,oR,none⟩) rs.length cap),U.bx 59 (frC (Bl rs k++D7 l i)),⟨b8,82,(sd l i).cells,true,none⟩,⟨b9,82,(sd l (nxt l.length i)).cells,true,none⟩,⟨b10,59,[.bool false, .int .i64 0, .int .i64 0,str [48],str (Ac ((sd l i).plate:Rat))],true,none⟩] Tryz.mixed (by kernel_rfl) ?_ ?_
     ·refine qP I<|qB 2 I I I<|qC I I (fun W1 hp=>LH (sd l i).run (by omega) W1 (h.t.hp hp))<|qP I<|qB 2 I I I<|qC I I (fun W1 hp=>LH (sd l i).rise (by omega) W1 (h.t.hp hp))<|qC I I (fun W1 hp=>(TW ((sd l i).run:Rat) ((sd l i).rise:Rat) (sz2 zr zs (by decide)) (by rw[Rat.num_intCast];omega) W1 (h.t.hp hp)).cast (v':=str (Ac sp)) (by rw[hq]))<|qP I<|BR<|wX<|wZ<|wS 4 I I I<|zC<|Ah<|AR I (by kernel_rfl) ?_
      exact A7 () ⟨I,I,I,I,I,I,I,I,tO⟩ [0,1,2,3,4] (by decide) I
     intro _
     exact Ao () tO ⟨I,I,I,I,I,I,I,I,tO⟩ [] I
    ·have hg:(sd l i).gable=true:=by simpa using hg
     rw[hg,if_pos rfl] at hsp
     exact zI<|Ao () tO ⟨I,I,I,I,I,I,I,I,tO⟩ [] (by rw[hsp,Fc.2 (show(0:Rat).num=0 from I)];rfl)
   intro _ _
   have hlm:l∈rs:=by rw[hle];exact List.mem_of_getElem? (Bm hlt)
   obtain⟨_,hsh,_⟩:=Hr h.c
   have hax:=(Fy (fun s hs=>VD (hrl s hs)) (hsh _ hlm) hil).1
   obtain⟨f,hf⟩: ∃f,f=OL l i:=⟨_,rfl⟩
   have fsp:f.sp=sp:=by rw[hf,hsp];rfl
   have fst:f.st=((sd l i).plate:Rat):=by rw[hf];rfl
   have fax:f.ax=Qn (hdg (sd l i) (sd l (nxt l.length i))):=by rw[hf];rfl
   have fpos:f.pos=if Qn (hdg (sd l i) (sd l (nxt l.length i))) then(sd l i).x else(sd l i).y:=by rw[hf];rfl
   have fhd:f.hd=Pb (hdg (sd l i) (sd l (nxt l.length i))):=by rw[hf];rfl
   refine xd<|wP I<|wB 2 I I I<|wP I<|wB 3 I I I<|wP I<|wU 64 (decide ((sd l i).y=(sd l (nxt l.length i)).y)) I (by rw[Bool.eq_iff_iff,beq_iff_eq,decide_eq_true_eq])<|xa<|?_
   try refine Ba ?_
   refine AA (X:=Unit) (fun _=>[(1,Ai b1),(4,U.val ((Bl rs k).length+i)),(5, .int .i64 (k:Nat)),(6,slv (some ⟨gS,oS,none⟩) l.length c),(7, .int .i64 (i:Nat)),(10,Ai b10)]) (fun _=>[bxE b1 24 (slv (some ⟨gR,oR,none⟩) rs.length cap),U.bx 59 (frC (Bl rs k++D7 l i)),⟨b8,82,(sd l i).cells,true,none⟩,⟨b9,82,(sd l (nxt l.length i)).cells,true,none⟩,⟨b10,59,[.bool f.ax, .int .i64 f.pos, .int .i64 f.hd,str (Ac sp),str (Ac ((sd l i).plate:Rat))],true,none⟩]) (fun _=>True) ?_ ?_
   ·refine Ag I (fun hyy=> ?_) (fun hyy=> ?_)
    ·have hyy:(sd l i).y=(sd l (nxt l.length i)).y:=of_decide_eq_true hyy
     refine xb<|wP I<|wB 2 I I I<|wP I<|wS 4 I I I<|wP I<|wS 4 I I I<|xf<|wP I<|wB 3 I I I<|wP I<|wB 2 I I I<|wP I<|?_
     by_cases hxx:(sd l (nxt l.length i)).x<(sd l i).x
     ·have hk:hdg (sd l i) (sd l (nxt l.length i))=2:=by unfold hdg;rw[if_neg (by omega),if_neg (by omega),if_pos hxx]
      exact wU 73 true I (dT hxx)<|xa<|zR I<|zB<|wP I<|wS 4 I I I<|zC<|Ao () tO ⟨I,I,I,I,I,I,tO⟩ [] (by rw[fax,fpos,fhd,hk];rfl)
     ·have hk:hdg (sd l i) (sd l (nxt l.length i))=0:=by unfold hdg;rw[if_pos (by omega)]
      exact wU 73 false I (dF hxx)<|xa<|zS I<|zI<|Ao () tO ⟨I,I,I,I,I,I,tO⟩ [] (by rw[fax,fpos,fhd,hk];rfl)
    ·have hyy: ¬(sd l i).y=(sd l (nxt l.length i)).y:=of_decide_eq_false hyy
     refine Ba ?_
     refine AV (X:=Unit) [true,true,true,false,false,false,false,false] (fun _=>[(1,Ai b1),(4,U.val ((Bl rs k).length+i)),(5, .int .i64 (k:Nat)),(6,slv (some ⟨gS,oS,none⟩) l.length c),(7, .int .i64 (i:Nat)),(8,Ai b8),(9,Ai b9),(10,Ai b10)]) (fun _=>[bxE b1 24 (slv (some ⟨gR,oR,none⟩) rs.length cap),U.bx 59 (frC (Bl rs k++D7 l i)),⟨b8,82,(sd l i).cells,true,none⟩,⟨b9,82,(sd l (nxt l.length i)).cells,true,none⟩,⟨b10,59,[.bool true, .int .i64 (sd l i).x, .int .i64 (-1),str (Ac sp),str (Ac ((sd l i).plate:Rat))],true,none⟩])
      5 [bxE b1 24 (slv (some ⟨gR,oR,none⟩) rs.length cap),U.bx 59 (frC (Bl rs k++D7 l i)),⟨b8,82,(sd l i).cells,true,none⟩,⟨b9,82,(sd l (nxt l.length i)).cells,true,none⟩,⟨b10,59,[.bool false, .int .i64 0, .int .i64 0,str (Ac sp),str (Ac ((sd l i).plate:Rat))],false,none⟩] Tryz.mixed (by kernel_rfl) ?_ ?_
     ·refine qP I<|qB 2 I I I<|qP I<|BR<|wX<|wZ<|wS 4 I I I<|zC<|Ah<|wX<|wZ<|wP I<|zC<|Ah<|wX<|wZ<|wS 4 I I I<|zC<|Ah<|wX<|wZ<|wP I<|zC<|Ah<|?_
      refine wX<|wZ<|wS 4 I I I<|zC<|Ah<|?_
      refine AF I (by((repeat (first|refine AK.same ?_|refine AK.off I ?_));exact tO)) ?_
      exact A7 () ⟨I,I,I,I,I,I,I,I,tO⟩ [0,1,2,3,4] (by decide) I
     intro _
     refine xn<|wP I<|wB 3 I I I<|wP I<|wB 2 I I I<|wP I<|?_
     by_cases hyl:(sd l (nxt l.length i)).y<(sd l i).y
     ·have hk:hdg (sd l i) (sd l (nxt l.length i))=3:=by unfold hdg;rw[if_neg (by omega),if_neg (by omega),if_neg (by omega)]
      exact wU 84 true I (dT hyl)<|xa<|zR I<|zB<|wP I<|wS 4 I I I<|zC<|Ao () tO ⟨I,I,I,I,I,I,tO⟩ [] (by rw[fax,fpos,fhd,hk];rfl)
     ·have hk:hdg (sd l i) (sd l (nxt l.length i))=1:=by unfold hdg;rw[if_neg (by omega),if_pos (by omega)]
      exact wU 84 false I (dF hyl)<|xa<|zS I<|zI<|Ao () tO ⟨I,I,I,I,I,I,tO⟩ [] (by rw[fax,fpos,fhd,hk];rfl)
   intro _ _
   refine zB<|wP I<|wB 4 I I I<|As Tryz.hZ tH I I I I I I I I I I I fun bN=> ?_
   refine AN (V:=U) (len:=(Bl rs k).length+i) (xs:=frC (Bl rs k++D7 l i)) 1 5 Tryz.vec77 ((Bl rs k).length+(i+1)) (frC (Bl rs k++D7 l (i+1))) I I I I I I I I I I I hU I I I (by rw[hsuc, <-List.append_assoc,Sh (Bl rs k++D7 l i), <-hf, <-fsp, <-fst];rfl) (by simp only[maxLen];omega) (by omega) I ?_
   intro gV cV jV hV1
   exact wP I<|zC<|xi<|Aa I<|wV 32 ((i+1:Nat):Int) I (A0 (by omega))<|wP I<|zC<|Al (i+1,⟨some gV,cV,jV⟩) ⟨hil,hV1⟩ (by show l.length-(i+1)<l.length-i;omega) ⟨I,I,I,I,I,tO⟩ _ I
  ·have e:i=l.length:=by omega
   subst e
   refine wU 30 false I (dF (by omega))<|xa<|zS I<|xg<|xi<|?_
   have hall:Bl rs (k+1)=Bl rs k++D7 l l.length:=by rw[hle];rfl
   have hall2:(Bl rs (k+1)).length=(Bl rs k).length+l.length:=by rw[hall,List.length_append,Nv]
   exact Aa I<|wV 21 ((k+1:Nat):Int) I (A0 (by omega))<|wP I<|zC<|Al (k+1,U) ⟨hlt,by show U.OK 5 (Bl rs (k+1)).length (frC (Bl rs (k+1)));rw[hall2,hall];exact hU⟩ (by show rs.length-(k+1)<rs.length-k;omega) ⟨I,(by show some (U.val _)=some (U.val (Bl rs (k+1)).length);rw[hall2]),I,tO⟩ _ (by show _=[_,U.bx _ (frC (Bl rs (k+1)))]++_;rw[hall];rfl)
 ·have e:k=rs.length:=by omega
  subst e
  exact wU 19 false I (dF (by omega))<|xa<|zS I<|xg<|xn<|Ad I<|xc<|A4 tH I (.tmp I) (.tmp I) V I hV fun W1 hp=>Au.of_hp (hp.pick (l:=[V.bx 59 (frC (Bl rs rs.length))]) [1] (by decide) I)
theorem dX (z:Int):Ac (nrm z ((1:Nat):Int))=Ac (z:Rat):=by
 have h:=K8 z
 rw[ofR,if_neg (by decide)] at h
 exact congrArg Prod.fst h
theorem QA (f:FrP) (h:f.Go) (d:Rat) (zd:szQ d 60) (W:World) (ht:A9 W):
  Ae Tryz.prog 110 #[frV f,str (Ac d)] W (fun _:Unit=>str (Ac (f.off d))) (fun _=>True) (fun _=>[]):=by
 have z1:=sz2 h.ok.posz zd (by decide)
 have zn:szQ (0-d) 62:=szo.sub zd
 have z2:=sz2 h.ok.posz zn (by decide)
 refine Ab Tryz.func110 I I I<|xb<|wF I I fun _=>wP I<|zC<|?_
 rename_i b2
 refine xn<|wP I<|wB 0 I I I<|wC I I (fun W hp=>(ME f.pos 1 (by have:=h.ok.p0;have:=h.ok.p1;omega) (by decide) (by decide) W).cast (v':= .tuple #[str (Ac (f.pos:Rat)), .int .i64 0]) (by rw[dX]))<|Ak I<|xk<|wP I<|wB 0 I I I<|wP I<|xa<|?_
 try refine Ba ?_
 refine AA (X:=Rat) (fun e=>[(1,str (Ac e)),(5,str (Ac (f.pos:Rat)))]) (fun _=>[⟨b2,59,(frV f).cells.toList,true,none⟩]) (fun e=>(f.pos:Rat)+e=f.off d/\Sz2 (f.pos:Rat) e) ?_ ?_
 ·refine Ag I (fun hn=> ?_) (fun hn=> ?_)
  ·have hn:f.hd<0:=of_decide_eq_true hn
   refine zB<|wP I<|?_
   refine wC I I (fun W hp=>(show Ae Tryz.prog 29 #[str [48],str (Ac d)] W (fun _:Unit=> .tuple #[str (Ac (0-d)), .int .i64 0]) (fun _=>True) (fun _=>[]) by
    have h2:=Gy 0 d (sz2 szo zd (by decide)) W (ht.hp hp)
    rwa [BV] at h2)) ?_
   exact At I<|zC<|Ao (0-d) ⟨by rw[<-RM h.ok,if_pos hn];grind,z2⟩ ⟨I,I,tO⟩ [] I
  ·have hn: ¬f.hd<0:=of_decide_eq_false hn
   exact zI<|Ao d ⟨by rw[<-RM h.ok,if_neg hn],z1⟩ ⟨I,I,tO⟩ [] I
 rintro e ⟨he,hz⟩
 exact xb<|Aa I<|wC I I (fun W hp=>(G1 (f.pos:Rat) e hz W (ht.hp hp)).cast (v':= .tuple #[str (Ac (f.off d)), .int .i64 0]) (by rw[he]))<|At I<|xf<|Aa I<|xc<|wR1 I I I
theorem R0 (f:FrP) (h:f.Go) (u d:Rat) (zd:szQ d 60) (W:World) (ht:A9 W):
  Ae Tryz.prog 59 #[frV f,str (Ac u),str (Ac d)] W (fun _:Unit=>ptV (f.px u d) (f.py u d)) (fun _=>True) (fun _=>[]):=by
 refine Ab Tryz.func59 I I I<|xb<|wF I I fun _=>wG I I fun _=>xk<|wP I<|wB 0 I I I<|xa<|Ag I (fun hax=> ?_) (fun hax=> ?_)
 ·have hax:f.ax=true:=hax
  refine xb<|wB 0 I I I<|wP I<|wC I I (fun W1 hp=>QA f h d zd W1 (ht.hp hp))<|wP I<|An Tryz.hZ tH I I I I I I I I ?_
  exact wS 1 I I I<|xo<|A3 tH I (.cell 1 I I I I I) () (by rw[FrP.px,FrP.py,if_pos hax,if_pos hax];rfl) tO fun W _=>Au.nil _ _
 ·have hax:f.ax=false:=hax
  refine xm<|wP I<|wB 0 I I I<|wP I<|wC I I (fun W1 hp=>QA f h d zd W1 (ht.hp hp))<|An Tryz.hZ tH I I I I I I I I ?_
  exact wS 1 I I I<|xc<|A3 tH I (.cell 1 I I I I I) () (by rw[FrP.px,FrP.py,hax];rfl) tO fun W _=>Au.nil _ _
theorem JQ (f:FrP) (h:f.Go) (d:Rat) (zd:szQ d 60) (W:World) (ht:A9 W):
  Ae Tryz.prog 38 #[frV f,str (Ac d)] W (fun _:Unit=>str (Ac (f.pz d))) (fun _=>True) (fun _=>[]):=by
 have z1:szQ (d/f.sp) 62:=zd.div h.sp (HC h.h0)
 refine Ab Tryz.func38 I I I<|xb<|wF I I fun _=>wP I<|xf<|Aa I<|wB 0 I I I<|wC I I (fun W hp=>O3 d f.sp (sz2 zd h.sp (by decide)) (HC h.h0) W (ht.hp hp))<|Ak I<|xf<|wP I<|wB 0 I I I<|?_
 exact wP I<|wC I I (fun W hp=>G1 f.st (d/f.sp) (sz2 h.st z1 (by decide)) W (ht.hp hp))<|At I<|xf<|Aa I<|xc<|wR1 I I I
theorem GH (f:FrP) (h:f.Go) (u d:Rat) (zd:szQ d 60) (W:World) (ht:A9 W):
  Ae Tryz.prog 26 #[frV f,str (Ac u),str (Ac d)] W (fun _:Unit=>f.spot u d) (fun _=>True) (fun _=>[]):=by
 refine Ab Tryz.func26 I I I<|xb<|wF I I fun _=>wG I I fun _=>zC<|?_
 rename_i b3 b6
 refine xn<|wB 0 I I I<|Aa I<|wC I I (fun W1 hp=>R0 f h u d zd W1 (ht.hp hp))<|wG I I fun _=>wS 2 I I I<|zC<|?_
 rename_i b7
 refine zE<|zA<|?_
 refine AV (X:=Unit) [true,true,true,true,true,true,true,true,false] (fun _=>[(6,Ai b6)]) (fun _=>[⟨b6,33,(f.spot u d).cells.toList,true,none⟩])
   1 [⟨b3,59,(frV f).cells.toList,true,none⟩,⟨b6,33,[str [],str [],str []],true,none⟩,⟨b7,105,(ptV (f.px u d) (f.py u d)).cells.toList,true,none⟩] Tryz.mixed (by kernel_rfl) ?_ ?_
 ·refine qP I<|qB 2 I I I<|qP I<|qB 2 I I I<|qB 0 I I I<|qP I<|qC I I (fun W1 hp=>JQ f h d zd W1 (ht.hp hp))<|LO Tryz.hZ tH I I I I I I I I ?_
  refine BR<|wX<|wZ<|wS 1 I I I<|zC<|Ah<|AR I (by kernel_rfl) ?_
  exact A7 () ⟨I,tO⟩ [1] (by decide) I
 intro _
 exact zE<|zO<|A3 tH I (.cell 0 I I I I I) () I tO fun W _=>Au.nil _ _
theorem G7 (f:FrP) (h:f.Go) (z:Rat) (zz:szQ z 27) (W:World) (ht:A9 W):
  Ae Tryz.prog 27 #[frV f,str (Ac z)] W (fun _:Unit=>str (Ac ((z-f.st)*f.sp))) (fun _=>True) (fun _=>[]):=by
 have z2:=zz.sub h.st
 refine Ab Tryz.func27 I I I<|xb<|wF I I fun _=>wP I<|xf<|Aa I<|wB 0 I I I<|wC I I (fun W hp=>Gy z f.st (sz2 zz h.st (by decide)) W (ht.hp hp))<|Ak I<|xf<|Aa I<|?_
 exact wB 0 I I I<|wC I I (fun W hp=>OJ (z-f.st) f.sp (sz2 z2 h.sp (by decide)) W (ht.hp hp))<|At I<|xf<|Aa I<|xc<|wR1 I I I
theorem Ib (s a b:Int) (x:List UInt8) (h e:Rat) (ha:1<=a/\a<=48) (hb:1<=b/\b<=48) (zh:szQ h 12) (ze:szQ e 12) (W:World) (ht:A9 W):
  Ae Tryz.prog 25 #[dmS s x (Ac h) (Ac e) a b] W (fun _:Unit=>str (Ac (GJ h e a b))) (fun _=>True) (fun _=>[]):=by
 have z1:=DE ha hb
 have z2:=zh.mul z1
 obtain⟨n,rfl⟩: ∃n:Nat,b=n:=⟨b.toNat,by omega⟩
 refine Ab Tryz.func25 I I I<|xb<|wF I I fun _=>wP I<|xf<|wP I<|wB 0 I I I<|wP I<|wB 0 I I I<|wC I I (fun W hp=>ME a n (by omega) (by omega) (by omega) W)<|Ak I<|xf<|wP I<|?_
 refine wB 0 I I I<|wP I<|wC I I (fun W hp=>OJ h (nrm a n) (sz2 zh z1 (by decide)) W (ht.hp hp))<|At I<|xf<|wP I<|wB 0 I I I<|wP I<|wC I I (fun W hp=>G1 e (h*nrm a n) (sz2 ze z2 (by decide)) W (ht.hp hp))<|At I<|xf<|Aa I<|?_
 exact xc<|wR1 I I I
theorem ZX {a b:Int} (h:ND a b=false):a<1\/48<a\/b<1\/48<b:=by
 have h:=of_decide_eq_false h
 omega
theorem CV (W:World) (p:Option Addr) (cap:Nat) (rs:List (List Sd)) (hn:rs.length<1099511627776) (hR:AL W p rs) (hc:chk rs=0) (hd:DC W) (hv:AH W) (ht:A9 W)
  (s a b:Int) (x h e:List UInt8) (hx:x.length<=4000000) (hh:h.length<=4000000) (he:e.length<=4000000):
  Ae Tryz.prog 24 #[B0 p rs.length cap,dmS s x h e a b] W (fun _:Unit=> .tuple #[boV rs s x h e a b, .int .i64 (boE rs s x h e a b)]) (fun _=>True) (fun _=>[]):=by
 obtain⟨_,hT,hT0⟩:=Mk hc
 have hfl:rs.flatten.length=tot rs:=List.length_flatten
 have hal:=KX rs
 refine Ab Tryz.func24 I I I<|xb<|wF I I fun _=>wF I I fun _=>wG I I fun _=>wP I<|zC<|?_
 rename_i b2 b3 b4
 refine xn<|wB 0 I I I<|wD (X:=Vec) I I (fun W1 hp=>U0 W1 p cap rs ⟨hn,hR.hp hp,hc,hd.hp hp,hv.hp hp,ht.hp hp⟩) ?_
 intro F hF
 have hF:F.OK 5 (EH rs).length (frC (EH rs)):=hF
 obtain⟨gF,cF,hFv,hFr⟩:=Vec.frs hF (by omega)
 rw[hFv,hal]
 refine Ak I<|xk<|Aa I<|xa<|zS I<|xm<|wB 0 I I I<|wD (X:=Vec) I I (fun W1 hp=>Ww W1 p cap rs (by omega) (hR.hp hp) hc) ?_
 intro S hS
 have hS:S.OK 7 rs.flatten.length (cellsOf rs.flatten):=hS
 obtain⟨gS,cS,hSv,hSr⟩:=Vec.sds hS (by omega)
 rw[hSv]
 refine Ak I<|xk<|wP I<|wB 1 I I I<|wP I<|?_
 by_cases h0:s<0
 ·have hE:boE rs s x h e a b=2:=by unfold boE;rw[if_pos (.inl h0)]
  refine wU 26 true I (dT h0)<|wP I<|?_
  iterate 5 refine Af I I ?_
  refine wP I<|xa<|zR I<|xb<|An Tryz.hZ tH I I I I I I I I ?_
  exact wS 2 I I I<|wP I<|xo<|A4 tH I (.cell 2 I I I I I) (.tmp I) () (by rw[boV,hE];rfl) tO fun W _=>Au.nil _ _
 refine wU 26 false I (dF h0) ?_
 obtain⟨m,rfl⟩: ∃m:Nat,s=m:=⟨s.toNat,by omega⟩
 refine Aa I<|wB 1 I I I<|Ad I<|?_
 by_cases h1:m<tot rs
 rotate_left
 ·have hE:boE rs (m:Int) x h e a b=2:=by unfold boE;rw[if_pos (.inr (by omega))]
  refine wU 32 true I (dT (by omega))<|wP I<|xa<|zR I<|xb<|An Tryz.hZ tH I I I I I I I I ?_
  exact wS 2 I I I<|wP I<|xo<|A4 tH I (.cell 2 I I I I I) (.tmp I) () (by rw[boV,hE];rfl) tO fun W _=>Au.nil _ _
 refine wU 32 false I (dF (by omega))<|wP I<|xa<|zS I<|xe<|xd<|?_
 have hE:boE rs (m:Int) x h e a b=if (flt rs m).gable=true then 18 else if nrs [x,h,e]≠0 then nrs [x,h,e] else if rdQ h<=0\/rdQ e<(frs rs m).st\/ND a b=false then 2 else 0:=by
  unfold boE;rw[if_neg (by omega)];rfl
 refine Aa I<|wB 1 I I I<|wJ ?_
 refine wP I<|wL 0 I I (fun W1 hp=>(hSr hp 4 I m (by omega)).sub 4) I<|?_
 by_cases hg:(flt rs m).gable=true
 ·rw[if_pos hg] at hE
  refine wU 40 true I hg<|xa<|zR I<|xb<|An Tryz.hZ tH I I I I I I I I ?_
  exact wS 2 I I I<|wP I<|xo<|A4 tH I (.cell 2 I I I I I) (.tmp I) () (by rw[boV,hE];rfl) tO fun W _=>Au.nil _ _
 rw[if_neg hg] at hE
 have hg:(flt rs m).gable=false:=by simpa using hg
 refine wU 40 false I hg<|xa<|zS I<|xe<|xd<|wP I<|wB 1 I I I<|wP I<|wB 1 I I I<|wP I<|wB 1 I I I<|As Tryz.hZ tH I I I I I I I I I I I fun bS=> ?_
 refine wC I I (fun W1 hp=>EP W1 (some ⟨bS,0,none⟩) 3 [x,h,e] (.inr ⟨bS,0,I,Aj.of_bx hp 5 I I⟩) (show 3<=100000 by decide) (fun y hy=>by
  rcases List.mem_cons.1 hy with rfl|hy
  ·omega
  rcases List.mem_cons.1 hy with rfl|hy
  ·omega
  obtain rfl:=List.mem_singleton.1 hy
  omega) (ht.hp hp)) ?_
 refine wP I<|xf<|Aa I<|?_
 by_cases hz:nrs [x,h,e]=0
 rotate_left
 ·rw[if_pos hz] at hE
  refine wU 51 true I (bne_iff_ne.2 hz)<|xa<|zR I<|xb<|An Tryz.hZ tH I I I I I I I I ?_
  exact wP I<|wS 2 I I I<|wP I<|xo<|A4 tH I (.cell 2 I I I I I) (.tmp I) () (by rw[boV,hE,if_neg hz];rfl) tO fun W _=>Au.nil _ _
 rw[if_neg (fun h=>h hz)] at hE
 refine wU 51 false I (bne_eq_false_iff_eq.2 hz)<|xa<|zS I<|xe<|?_
 have hzm:=IT hz
 obtain⟨x',rfl,_,_⟩:=hzm x (by simp)
 obtain⟨h',rfl,_,zh⟩:=hzm h (by simp)
 obtain⟨e',rfl,_,ze⟩:=hzm e (by simp)
 rw[Fp,Fp] at hE
 have hgo:=Uz hc h1 hg
 obtain⟨f,hf⟩: ∃f,f=frs rs m:=⟨_,rfl⟩
 have hfm:=K9 h1
 rw[<-hf] at hfm hgo hE
 refine zA<|zA<|?_
 obtain⟨bad,hbad⟩: ∃bad:Bool,bad=decide (h'<=0\/e'<f.st\/ND a b=false):=⟨_,rfl⟩
 refine AA (X:=Unit) (fun _=>[(3,Ai b3),(4,Ai b4),(6,slv (some ⟨gF,0,none⟩) (tot rs) cF),(89, .bool bad)])
  (fun _=>[⟨b2,24,[slv p rs.length cap],true,none⟩,⟨b3,27,(dmS m (Ac x') (Ac h') (Ac e') a b).cells.toList,true,none⟩,⟨b4,59,[.bool false, .int .i64 0, .int .i64 0,str [],str []],true,none⟩,F.bx 59 (frC (EH rs))]) (fun _=>True) ?_ ?_
 ·refine zU<|qP I<|qB 1 I I I<|?_
  refine qC I I (fun W1 hp=>(show Ae Tryz.prog 34 #[str (Ac h'),str [48]] W1 (fun _:Unit=> .int .i64 (CT h' 0)) (fun _=>True) (fun _=>[]) by
   have h2:=Gt h' 0 (sz2 zh szo (by decide)) W1 (ht.hp hp)
   rwa [BV] at h2)) ?_
  refine qP I ?_
  by_cases h2:h'<=0
  ·have hb:bad=true:=by rw[hbad];exact dT (.inl h2)
   refine qU 57 true I ((Hh _ _).trans (dT h2))<|qP I<|?_
   iterate 10 refine Bi I I ?_
   refine Ay I<|?_
   iterate 3 refine Bi I I ?_
   refine Ay I<|?_
   iterate 3 refine Bi I I ?_
   refine Ay I<|?_
   iterate 3 refine Bi I I ?_
   refine Ay I<|?_
   iterate 3 refine Bi I I ?_
   exact qP I<|zD<|zC<|Ao () tO ⟨I,I,I,by rw[hb];rfl,tO⟩ [_,_] I
  refine qU 57 false I ((Hh _ _).trans (dF h2))<|Ay I<|qB 1 I I I<|Ay I<|qB 1 I I I<|qJ ?_
  refine qP I<|qL 0 I I (fun W1 hp=>(hFr hp 3 I m f hfm).sub 4) I<|qC I I (fun W1 hp=>Gt e' f.st (sz2 ze hgo.st (by decide)) W1 (ht.hp hp))<|qP I<|?_
  by_cases h3:e'<f.st
  ·have hb:bad=true:=by rw[hbad];exact dT (.inr (.inl h3))
   refine qU 68 true I ((Cc _ _).trans (dT h3))<|Ay I<|?_
   iterate 3 refine Bi I I ?_
   refine Ay I<|?_
   iterate 3 refine Bi I I ?_
   refine Ay I<|?_
   iterate 3 refine Bi I I ?_
   refine Ay I<|?_
   iterate 3 refine Bi I I ?_
   exact qP I<|zD<|zC<|Ao () tO ⟨I,I,I,by rw[hb];rfl,tO⟩ [_,_] I
  refine qU 68 false I ((Cc _ _).trans (dF h3))<|AY I<|qB 1 I I I<|qP I<|?_
  by_cases k1:a<1
  ·have hb:bad=true:=by rw[hbad];exact dT (.inr (.inr (dF (by omega))))
   refine qU 73 true I (dT k1)<|Ay I<|?_
   iterate 3 refine Bi I I ?_
   refine Ay I<|?_
   iterate 3 refine Bi I I ?_
   refine Ay I<|?_
   iterate 3 refine Bi I I ?_
   exact qP I<|zD<|zC<|Ao () tO ⟨I,I,I,by rw[hb];rfl,tO⟩ [_,_] I
  refine qU 73 false I (dF k1)<|AY I<|qB 1 I I I<|qP I<|?_
  by_cases k2:48<a
  ·have hb:bad=true:=by rw[hbad];exact dT (.inr (.inr (dF (by omega))))
   refine qU 78 true I (dT k2)<|Ay I<|?_
   iterate 3 refine Bi I I ?_
   refine Ay I<|?_
   iterate 3 refine Bi I I ?_
   exact qP I<|zD<|zC<|Ao () tO ⟨I,I,I,by rw[hb];rfl,tO⟩ [_,_] I
  refine qU 78 false I (dF k2)<|AY I<|qB 1 I I I<|qP I<|?_
  by_cases k3:b<1
  ·have hb:bad=true:=by rw[hbad];exact dT (.inr (.inr (dF (by omega))))
   refine qU 83 true I (dT k3)<|Ay I<|?_
   iterate 3 refine Bi I I ?_
   exact qP I<|zD<|zC<|Ao () tO ⟨I,I,I,by rw[hb];rfl,tO⟩ [_,_] I
  refine qU 83 false I (dF k3)<|AY I<|qB 1 I I I<|qP I<|?_
  by_cases k4:48<b
  ·have hb:bad=true:=by rw[hbad];exact dT (.inr (.inr (dF (by omega))))
   exact qU 88 true I (dT k4)<|qP I<|zD<|zC<|Ao () tO ⟨I,I,I,by rw[hb];rfl,tO⟩ [_,_] I
  have hb:bad=false:=by
   rw[hbad]
   refine dF ?_
   rintro(h|h|h)
   ·exact h2 h
   ·exact h3 h
   ·have:=ZX h;omega
  exact qU 88 false I (dF k4)<|qP I<|zD<|zC<|Ao () tO ⟨I,I,I,by rw[hb];rfl,tO⟩ [_,_] I
 intro _ _
 refine Ag I (fun hb=> ?_) (fun hb=> ?_)
 ·have hb:bad=true:=hb
  rw[hbad] at hb
  rw[if_pos (of_decide_eq_true hb)] at hE
  refine xb<|An Tryz.hZ tH I I I I I I I I ?_
  exact wS 2 I I I<|wP I<|xo<|A4 tH I (.cell 2 I I I I I) (.tmp I) () (by rw[boV,hE];rfl) tO fun W _=>Au.nil _ _
 ·have hb:bad=false:=hb
  rw[hbad] at hb
  rw[if_neg (of_decide_eq_false hb)] at hE
  refine xm<|Aa I<|wB 1 I I I<|wJ ?_
  exact wL 0 rfl rfl (fun W1 hp=>hFr hp 3 rfl m f hfm) rfl<|wS 2 rfl rfl rfl<|wP rfl<|xc<|A4 tH rfl (.cell 2 rfl rfl rfl rfl rfl) (.tmp rfl) () (by rw[boV,hE,if_pos rfl];subst hf;rfl) trivial fun W _=>Au.nil _ _
theorem ON (W:World) (p:Option Addr) (cap:Nat) (rs:List (List Sd)) (hn:rs.length<1099511627776) (hR:AL W p rs) (hc:chk rs=0) (hd:DC W) (hv:AH W) (ht:A9 W)
  (s a b:Int) (x h e:List UInt8) (hx:x.length<=4000000) (hh:h.length<=4000000) (he:e.length<=4000000) (hE:boE rs s x h e a b≠0):
  Ae Tryz.prog 9 #[B0 p rs.length cap,dmS s x h e a b] W (fun _:Unit=> .tuple #[str [], .agg #[str [],str [],str []], .int .i64 (boE rs s x h e a b)]) (fun _=>True) (fun _=>[]):=by
 obtain⟨fv,hV,c1,c2,c3,c4,c5,rfl⟩:=Js rs s a b x h e
 refine Ab Tryz.func9 I I I<|xb<|wF I I fun _=>wF I I fun _=>wP I<|wG I I fun _=>wP I<|xf<|wB 0 I I I<|wB 1 I I I<|wC I I (fun W1 hp=>(CV W1 p cap rs hn (hR.hp hp) hc (hd.hp hp) (hv.hp hp) (ht.hp hp) s a b x h e hx hh he).cast (by rw[hV]))<|Ad I<|wG I I fun _=>wS 3 I I I<|wP I<|xl<|zA<|?_
 refine zB<|Aa I<|wU 17 true I (bne_iff_ne.2 hE)<|xa<|zR I<|xb<|An Tryz.hZ tH I I I I I I I I ?_
 exact Aa I<|wS 2 I I I<|wP I<|xo<|HQ tH I (.tmp I) (.cell 2 I I I I I) (.tmp I) () I tO fun W _=>Au.nil _ _
theorem Oa (W:World) (p:Option Addr) (cap:Nat) (rs:List (List Sd)) (hn:rs.length<1099511627776) (hR:AL W p rs) (hc:chk rs=0) (hd:DC W) (hv:AH W) (ht:A9 W)
  (s a b:Int) (x h e:List UInt8) (hx:x.length<=4000000) (hh:h.length<=4000000) (he:e.length<=4000000) (hE:boE rs s x h e a b=0) (f:FrP) (x' h' e':Rat) (ho:DmX rs s x h e a b f x' h' e'):
  Ae Tryz.prog 9 #[B0 p rs.length cap,dmS s x h e a b] W (fun _:Unit=> .tuple #[str (Ac (GJ h' e' a b)),f.spot x' ((GJ h' e' a b-f.st)*f.sp), .int .i64 0]) (fun _=>True) (fun _=>[]):=by
 have hV:=ho.v
 obtain⟨_,_,_,rfl,rfl,rfl,zx,zh,ze,hgo,_,_,ha,hb,_⟩:=ho
 obtain⟨z,hz⟩: ∃z,z=GJ h' e' a b:=⟨_,rfl⟩
 have zz:szQ z 27:=by rw[hz];exact ze.add (zh.mul (DE ha hb))
 have zd:szQ ((z-f.st)*f.sp) 35:=(zz.sub hgo.st).mul hgo.sp
 rw[<-hz]
 refine Ab Tryz.func9 I I I<|xb<|wF I I fun _=>wF I I fun _=>wP I<|wG I I fun _=>wP I<|zC<|?_
 rename_i b2 b3 b5
 refine xn<|wB 0 I I I<|wB 1 I I I<|wC I I (fun W1 hp=>(CV W1 p cap rs hn (hR.hp hp) hc (hd.hp hp) (hv.hp hp) (ht.hp hp) s a b (Ac x') (Ac h') (Ac e') hx hh he).cast (v':= .tuple #[frV f, .int .i64 0]) (by rw[hV,hE]))<|Ad I<|wG I I fun _=>wS 3 I I I<|wP I<|zC<|?_
 rename_i b7
 refine zE<|xd<|Aa I<|xa<|zS I<|xm<|wB 1 I I I<|wC I I (fun W1 hp=>(Ib s a b (Ac x') h' e' ha hb zh ze W1 (ht.hp hp)).cast (v':=str (Ac z)) (by rw[hz]))<|wP I<|xl<|?_
 refine AV (X:=Unit) [true,true,true,true,true,true,true,true,true,false,false] (fun _=>[(4,str (Ac z)),(5,Ai b5),(6, .int .i64 0)]) (fun _=>[⟨b5,33,(f.spot x' ((z-f.st)*f.sp)).cells.toList,true,none⟩])
   2 [⟨b2,24,[slv p rs.length cap],true,none⟩,⟨b3,27,(dmS s (Ac x') (Ac h') (Ac e') a b).cells.toList,true,none⟩,⟨b5,33,[str [],str [],str []],true,none⟩,⟨b7,59,(frV f).cells.toList,true,none⟩] Tryz.mixed (by kernel_rfl) ?_ ?_
 ·refine qP I<|qB 3 I I I<|qP I<|qB 1 I I I<|qB 3 I I I<|qP I<|qC I I (fun W1 hp=>G7 f hgo z zz W1 (ht.hp hp))<|qC I I (fun W1 hp=>GH f hgo x' ((z-f.st)*f.sp) (zd.mono (by decide)) W1 (ht.hp hp))<|qP I<|BR<|wX<|wZ<|wS 2 I I I<|zC<|Ah<|wY<|wZ<|wP I<|zC<|Ah<|AR I (by kernel_rfl) ?_
  exact A7 () ⟨I,I,I,tO⟩ [2] (by decide) I
 intro _
 exact zE<|zO<|HQ tH I (.tmp I) (.cell 0 I I I I I) (.tmp I) () I tO fun W _=>Au.nil _ _
theorem Sn (W:World) (p:Option Addr) (cap:Nat) (rs:List (List Sd)) (hn:rs.length<1099511627776) (hR:AL W p rs) (hc:chk rs=0) (hd:DC W) (hv:AH W) (ht:A9 W)
  (s a b:Int) (x h e:List UInt8) (hx:x.length<=4000000) (hh:h.length<=4000000) (he:e.length<=4000000) (hE:boE rs s x h e a b≠0):
  Ae Tryz.prog 11 #[B0 p rs.length cap,dmS s x h e a b] W (fun _:Unit=> .tuple #[.slice none 0 0, .int .i64 (boE rs s x h e a b)]) (fun _=>True) (fun _=>[]):=by
 obtain⟨fv,hV,c1,c2,c3,c4,c5,rfl⟩:=Js rs s a b x h e
 refine Ab Tryz.func11 I I I<|xb<|wF I I fun _=>wF I I fun _=>Aa I<|xf<|wB 0 I I I<|wB 1 I I I<|wC I I (fun W1 hp=>(CV W1 p cap rs hn (hR.hp hp) hc (hd.hp hp) (hv.hp hp) (ht.hp hp) s a b x h e hx hh he).cast (by rw[hV]))<|Ad I<|wG I I fun _=>wS 2 I I I<|wP I<|xl<|zA<|?_
 exact zB<|Aa I<|wU 20 true I (bne_iff_ne.2 hE)<|xa<|zR I<|xb<|Ad I<|xo<|wR2 I I I
theorem R4 (W:World) (p:Option Addr) (cap:Nat) (rs:List (List Sd)) (hn:rs.length<1099511627776) (hR:AL W p rs) (hc:chk rs=0) (hd:DC W) (hv:AH W) (ht:A9 W)
  (s a b:Int) (x h e:List UInt8) (hx:x.length<=4000000) (hh:h.length<=4000000) (he:e.length<=4000000) (hE:boE rs s x h e a b=0) (f:FrP) (x' h' e':Rat) (ho:DmX rs s x h e a b f x' h' e'):
  Ae Tryz.prog 11 #[B0 p rs.length cap,dmS s x h e a b] W (fun g:Nat=> .tuple #[slv (some ⟨g,0,none⟩) 3 3, .int .i64 0]) (fun _=>True) (fun g=>[⟨g,33,X9 f x' h' e' (GJ h' e' a b),true,none⟩]):=by
 have hV:=ho.v
 obtain⟨_,_,_,rfl,rfl,rfl,zx,zh,ze,hgo,_,_,ha,hb,_⟩:=ho
 obtain⟨z,hz⟩: ∃z,z=GJ h' e' a b:=⟨_,rfl⟩
 have zz:szQ z 27:=by rw[hz];exact ze.add (zh.mul (DE ha hb))
 have zd:szQ ((z-f.st)*f.sp) 35:=(zz.sub hgo.st).mul hgo.sp
 have zf:szQ ((e'-f.st)*f.sp) 20:=(ze.sub hgo.st).mul hgo.sp
 rw[<-hz]
 refine Ab Tryz.func11 I I I<|xb<|wF I I fun _=>wF I I fun _=>Aa I<|zC<|?_
 rename_i b2 b3
 refine xn<|wB 0 I I I<|wB 1 I I I<|wC I I (fun W1 hp=>(CV W1 p cap rs hn (hR.hp hp) hc (hd.hp hp) (hv.hp hp) (ht.hp hp) s a b (Ac x') (Ac h') (Ac e') hx hh he).cast (v':= .tuple #[frV f, .int .i64 0]) (by rw[hV,hE]))<|Ad I<|wG I I fun _=>wS 2 I I I<|wP I<|zC<|?_
 rename_i b6
 refine zE<|xd<|Aa I<|xa<|zS I<|xm<|wP I<|wB 1 I I I<|wP I<|wB 1 I I I<|wC I I (fun W1 hp=>Gy x' h' (sz2 zx zh (by decide)) W1 (ht.hp hp))<|Ak I<|zC<|?_
 refine xn<|wP I<|wB 1 I I I<|wP I<|wB 1 I I I<|wC I I (fun W1 hp=>G1 x' h' (sz2 zx zh (by decide)) W1 (ht.hp hp))<|Ak I<|xf<|wB 2 I I I<|wP I<|wB 1 I I I<|wC I I (fun W1 hp=>G7 f hgo e' (ze.mono (by decide)) W1 (ht.hp hp))<|wP I<|xa<|?_
 refine Ba ?_
 refine AV (X:=Nat) [true,true,true,true,true,true,true,true,true,true,true,true,true,true,true,true,false,false,false] (fun g=>[(4,slv (some ⟨g,0,none⟩) 3 3),(5, .int .i64 0)]) (fun g=>[⟨g,33,X9 f x' h' e' z,true,none⟩])
   3 [⟨b2,24,[slv p rs.length cap],true,none⟩,⟨b3,27,(dmS s (Ac x') (Ac h') (Ac e') a b).cells.toList,true,none⟩,⟨b6,59,(frV f).cells.toList,true,none⟩] Tryz.mixed (by kernel_rfl) ?_ ?_
 ·refine qB 2 I I I<|Ay I<|qC I I (fun W1 hp=>GH f hgo (x'-h') ((e'-f.st)*f.sp) (zf.mono (by decide)) W1 (ht.hp hp))<|qB 2 I I I<|qP I<|qB 1 I I I<|qB 2 I I I<|qB 1 I I I<|qC I I (fun W1 hp=>(Ib s a b (Ac x') h' e' ha hb zh ze W1 (ht.hp hp)).cast (v':=str (Ac z)) (by rw[hz]))<|qC I I (fun W1 hp=>G7 f hgo z zz W1 (ht.hp hp))<|qC I I (fun W1 hp=>GH f hgo x' ((z-f.st)*f.sp) (zd.mono (by decide)) W1 (ht.hp hp))<|qB 2 I I I<|Ay I<|qC I I (fun W1 hp=>GH f hgo (x'+h') ((e'-f.st)*f.sp) (zf.mono (by decide)) W1 (ht.hp hp))<|BR<|wX<|wZ<|As Tryz.hZ tH I I I I I I I I I I I fun bS=> ?_
  refine zC<|Ah<|wX<|wZ<|wP I<|zC<|Ah<|wX<|wZ<|wP I<|zC<|Ah<|?_
  refine AF I (by((repeat (first|refine AK.same ?_|refine AK.off I ?_));exact tO)) ?_
  exact A7 bS ⟨I,I,tO⟩ [3] (by decide) I
 intro g
 exact zE<|zO<|A4 tH I (.tmp I) (.tmp I) g I tO fun W1 hp=>Au.of_hp (hp.pick (l:=[⟨g,33,X9 f x' h' e' z,true,none⟩]) [0] (by decide) I)
theorem OI (W:World) (p:Option Addr) (cap:Nat) (rs:List (List Sd)) (hn:rs.length<1099511627776) (hR:AL W p rs) (hc:chk rs=0) (hd:DC W) (hv:AH W) (ht:A9 W)
  (s a b:Int) (x h e y:List UInt8) (hx:x.length<=4000000) (hh:h.length<=4000000) (he:e.length<=4000000) (hy:y.length<=4000000) (hE:bmE rs s x h e a b [y]≠0):
  Ae Tryz.prog 13 #[B0 p rs.length cap,dmS s x h e a b,str y] W (fun _:Unit=> .tuple #[opZ, .int .i64 (bmE rs s x h e a b [y])]) (fun _=>True) (fun _=>[]):=by
 obtain⟨fv,hV,c1,c2,c3,c4,c5,rfl⟩:=Js rs s a b x h e
 refine Ab Tryz.func13 I I I<|xb<|wF I I fun _=>wF I I fun _=>wG I I fun _=>wP I<|xf<|wB 0 I I I<|wB 1 I I I<|wC I I (fun W1 hp=>(CV W1 p cap rs hn (hR.hp hp) hc (hd.hp hp) (hv.hp hp) (ht.hp hp) s a b x h e hx hh he).cast (by rw[hV]))<|Ad I<|wG I I fun _=>wS 3 I I I<|wP I<|xl<|zA<|?_
 refine zB<|Aa I<|?_
 by_cases h0:boE rs s x h e a b=0
 ·have hN:bmE rs s x h e a b [y]=nrs [y]:=by rw[bmE,if_pos h0]
  rw[hN] at hE⊢
  refine wU 23 false I (bne_eq_false_iff_eq.2 h0)<|xa<|zS I<|xe<|xd<|wP I<|As Tryz.hZ tH I I I I I I I I I I I fun bS=> ?_
  refine wC I I (fun W1 hp=>EP W1 (some ⟨bS,0,none⟩) 1 [y] (.inr ⟨bS,0,I,Aj.of_bx hp 4 I I⟩) (by show 1<=100000;decide) (fun z hz=>by rw[List.mem_singleton.1 hz];exact hy) (ht.hp hp))<|wP I<|xf<|Aa I<|wU 30 true I (bne_iff_ne.2 hE)<|xa<|zR I<|xb<|An Tryz.hZ tH I I I I I I I I ?_
  exact wP I<|wS 2 I I I<|wP I<|xo<|A4 tH I (.cell 2 I I I I I) (.tmp I) () I tO fun W _=>Au.nil _ _
 ·have hN:bmE rs s x h e a b [y]=boE rs s x h e a b:=by rw[bmE,if_neg h0]
  rw[hN]
  refine wU 23 true I (bne_iff_ne.2 h0)<|xa<|zR I<|xb<|An Tryz.hZ tH I I I I I I I I ?_
  exact wP I<|wS 2 I I I<|wP I<|xo<|A4 tH I (.cell 2 I I I I I) (.tmp I) () I tO fun W _=>Au.nil _ _
theorem RW {rs:List (List Sd)} {s a b:Int} {x h e:List UInt8} {M:List (List UInt8)} (hE:bmE rs s x h e a b M=0):boE rs s x h e a b=0/\nrs M=0:=by
 unfold bmE at hE
 by_cases h0:boE rs s x h e a b=0
 ·rw[if_pos h0] at hE;exact⟨h0,hE⟩
 ·rw[if_neg h0] at hE;exact absurd hE h0
theorem I4 (W:World) (p:Option Addr) (cap:Nat) (rs:List (List Sd)) (hn:rs.length<1099511627776) (hR:AL W p rs) (hc:chk rs=0) (hd:DC W) (hv:AH W) (ht:A9 W)
  (s a b:Int) (x h e:List UInt8) (hx:x.length<=4000000) (hh:h.length<=4000000) (he:e.length<=4000000) (q:Rat) (zq:szQ q 12) (hy:(Ac q).length<=4000000) (hE:bmE rs s x h e a b [Ac q]=0) (f:FrP) (x' h' e':Rat) (ho:DmX rs s x h e a b f x' h' e'):
  Ae Tryz.prog 13 #[B0 p rs.length cap,dmS s x h e a b,str (Ac q)] W (fun _:Unit=>if (GJ h' e' a b-f.st)*f.sp<=q then .tuple #[opZ, .int .i64 10] else .tuple #[fR s (x'-h') (x'+h') q ((GJ h' e' a b-f.st)*f.sp), .int .i64 0]) (fun _=>True) (fun _=>[]):=by
 have hV:=ho.v
 obtain⟨h0,hN⟩:=RW hE
 obtain⟨_,_,_,rfl,rfl,rfl,zx,zh,ze,hgo,_,_,ha,hb,_⟩:=ho
 obtain⟨z,hz⟩: ∃z,z=GJ h' e' a b:=⟨_,rfl⟩
 have zz:szQ z 27:=by rw[hz];exact ze.add (zh.mul (DE ha hb))
 have zd:=(zz.sub hgo.st).mul hgo.sp
 rw[<-hz]
 obtain⟨d,hdd⟩: ∃d,d=(z-f.st)*f.sp:=⟨_,rfl⟩
 rw[<-hdd] at zd⊢
 refine Ab Tryz.func13 I I I<|xb<|wF I I fun _=>wF I I fun _=>wG I I fun _=>wP I<|xf<|wB 0 I I I<|wB 1 I I I<|wC I I (fun W1 hp=>(CV W1 p cap rs hn (hR.hp hp) hc (hd.hp hp) (hv.hp hp) (ht.hp hp) s a b (Ac x') (Ac h') (Ac e') hx hh he).cast (v':= .tuple #[frV f, .int .i64 0]) (by rw[hV,h0]))<|Ad I<|wG I I fun _=>wS 3 I I I<|wP I<|xl<|zA<|?_
 refine zB<|Aa I<|xa<|zS I<|xe<|xd<|wP I<|As Tryz.hZ tH I I I I I I I I I I I fun bS=> ?_
 refine wC I I (fun W1 hp=>(EP W1 (some ⟨bS,0,none⟩) 1 [Ac q] (.inr ⟨bS,0,I,Aj.of_bx hp 4 I I⟩) (by show 1<=100000;decide) (fun z hz=>by rw[List.mem_singleton.1 hz];exact hy) (ht.hp hp)).cast (v':= .int .i64 0) (by rw[hN]))<|wP I<|xf<|Aa I<|xa<|zS I<|xe<|zA<|zU<|qB 3 I I I<|qB 1 I I I<|qC I I (fun W1 hp=>(Ib s a b (Ac x') h' e' ha hb zh ze W1 (ht.hp hp)).cast (v':=str (Ac z)) (by rw[hz]))<|qC I I (fun W1 hp=>(G7 f hgo z zz W1 (ht.hp hp)).cast (v':=str (Ac d)) (by rw[hdd]))<|qP I<|zD<|xl<|zA<|?_
 refine zB<|Aa I<|wC I I (fun W1 hp=>Gt q d (sz2 zq zd (by decide)) W1 (ht.hp hp))<|wP I<|wU 40 (decide (d<=q)) I (L0 _ _)<|xa<|Ag I (fun hle=> ?_) (fun hle=> ?_)
 ·have hle:d<=q:=of_decide_eq_true hle
  refine xb<|An Tryz.hZ tH I I I I I I I I ?_
  exact wS 2 I I I<|wP I<|xo<|A4 tH I (.cell 2 I I I I I) (.tmp I) () (by rw[if_pos hle];rfl) tO fun W _=>Au.nil _ _
 ·have hle: ¬d<=q:=of_decide_eq_false hle
  refine xm<|wP I<|wB 1 I I I<|wP I<|wB 1 I I I<|wC I I (fun W1 hp=>Gy x' h' (sz2 zx zh (by decide)) W1 (ht.hp hp))<|Ak I<|xf<|wP I<|wB 1 I I I<|wP I<|wB 1 I I I<|wC I I (fun W1 hp=>G1 x' h' (sz2 zx zh (by decide)) W1 (ht.hp hp))<|Ak I<|?_
  refine xf<|wP I<|wB 1 I I I<|At I<|An Tryz.hZ tH I I I I I I I I ?_
  exact wS 2 I I I<|wP I<|xc<|A4 tH I (.cell 2 I I I I I) (.tmp I) () (by rw[if_neg hle];rfl) tO fun W _=>Au.nil _ _
theorem Nq (W:World) (p:Option Addr) (cap:Nat) (rs:List (List Sd)) (hn:rs.length<1099511627776) (hR:AL W p rs) (hc:chk rs=0) (hd:DC W) (hv:AH W) (ht:A9 W)
  (s a b:Int) (x h e y:List UInt8) (hx:x.length<=4000000) (hh:h.length<=4000000) (he:e.length<=4000000) (hy:y.length<=4000000) (hE:bmE rs s x h e a b [y]≠0):
  Ae Tryz.prog 15 #[B0 p rs.length cap,dmS s x h e a b,str y] W (fun _:Unit=> .tuple #[str [], .int .i64 (bmE rs s x h e a b [y])]) (fun _=>True) (fun _=>[]):=by
 obtain⟨fv,hV,c1,c2,c3,c4,c5,rfl⟩:=Js rs s a b x h e
 refine Ab Tryz.func15 I I I<|xb<|wF I I fun _=>wF I I fun _=>Aa I<|xf<|wB 0 I I I<|wB 1 I I I<|wC I I (fun W1 hp=>(CV W1 p cap rs hn (hR.hp hp) hc (hd.hp hp) (hv.hp hp) (ht.hp hp) s a b x h e hx hh he).cast (by rw[hV]))<|Ad I<|wG I I fun _=>wS 2 I I I<|wP I<|xl<|zA<|?_
 refine zB<|Aa I<|?_
 by_cases h0:boE rs s x h e a b=0
 ·have hN:bmE rs s x h e a b [y]=nrs [y]:=by rw[bmE,if_pos h0]
  rw[hN] at hE⊢
  refine wU 20 false I (bne_eq_false_iff_eq.2 h0)<|xa<|zS I<|xe<|xd<|wP I<|As Tryz.hZ tH I I I I I I I I I I I fun bS=> ?_
  exact wC I I (fun W1 hp=>EP W1 (some ⟨bS,0,none⟩) 1 [y] (.inr ⟨bS,0,I,Aj.of_bx hp 3 I I⟩) (by show 1<=100000;decide) (fun z hz=>by rw[List.mem_singleton.1 hz];exact hy) (ht.hp hp))<|wP I<|xf<|Aa I<|wU 26 true I (bne_iff_ne.2 hE)<|xa<|zR I<|xb<|Ad I<|xo<|wR2 I I I
 ·have hN:bmE rs s x h e a b [y]=boE rs s x h e a b:=by rw[bmE,if_neg h0]
  rw[hN]
  exact wU 20 true I (bne_iff_ne.2 h0)<|xa<|zR I<|xb<|Ad I<|xo<|wR2 I I I
theorem I2 (W:World) (p:Option Addr) (cap:Nat) (rs:List (List Sd)) (hn:rs.length<1099511627776) (hR:AL W p rs) (hc:chk rs=0) (hd:DC W) (hv:AH W) (ht:A9 W)
  (s a b:Int) (x h e:List UInt8) (hx:x.length<=4000000) (hh:h.length<=4000000) (he:e.length<=4000000) (q:Rat) (zq:szQ q 12) (hy:(Ac q).length<=4000000) (hE:bmE rs s x h e a b [Ac q]=0) (f:FrP) (x' h' e':Rat) (ho:DmX rs s x h e a b f x' h' e'):
  Ae Tryz.prog 15 #[B0 p rs.length cap,dmS s x h e a b,str (Ac q)] W (fun _:Unit=>if T7 f e' q<0 then .tuple #[str [], .int .i64 2] else .tuple #[str (Ac (T7 f e' q)), .int .i64 0]) (fun _=>True) (fun _=>[]):=by
 have hV:=ho.v
 obtain⟨h0,hN⟩:=RW hE
 obtain⟨_,_,_,rfl,rfl,rfl,zx,zh,ze,hgo,_,_,ha,hb,_⟩:=ho
 have z1:szQ (f.pz q) 20:=hgo.st.add (zq.div hgo.sp (HC hgo.h0))
 refine Ab Tryz.func15 I I I<|xb<|wF I I fun _=>wF I I fun _=>Aa I<|xf<|wB 0 I I I<|wB 1 I I I<|wC I I (fun W1 hp=>(CV W1 p cap rs hn (hR.hp hp) hc (hd.hp hp) (hv.hp hp) (ht.hp hp) s a b (Ac x') (Ac h') (Ac e') hx hh he).cast (v':= .tuple #[frV f, .int .i64 0]) (by rw[hV,h0]))<|Ad I<|wG I I fun _=>wS 2 I I I<|wP I<|xl<|zA<|?_
 refine zB<|Aa I<|xa<|zS I<|xe<|xd<|wP I<|As Tryz.hZ tH I I I I I I I I I I I fun bS=> ?_
 refine wC I I (fun W1 hp=>(EP W1 (some ⟨bS,0,none⟩) 1 [Ac q] (.inr ⟨bS,0,I,Aj.of_bx hp 3 I I⟩) (by show 1<=100000;decide) (fun z hz=>by rw[List.mem_singleton.1 hz];exact hy) (ht.hp hp)).cast (v':= .int .i64 0) (by rw[hN]))<|wP I<|xf<|Aa I<|xa<|zS I<|xe<|zA<|zU<|qP I<|qB 1 I I I<|qB 2 I I I<|qP I<|qC I I (fun W1 hp=>JQ f hgo q (zq.mono (by decide)) W1 (ht.hp hp))<|qC I I (fun W1 hp=>(Gy e' (f.pz q) (sz2 ze z1 (by decide)) W1 (ht.hp hp)).cast (v':= .tuple #[str (Ac (T7 f e' q)), .int .i64 0]) I)<|GM I<|?_
 refine zD<|xk<|?_
 obtain⟨w,hw⟩: ∃w,w=T7 f e' q:=⟨_,rfl⟩
 obtain⟨c,hc',hc45⟩:=SK w
 rw[<-hw]
 refine wP I<|Bc 0 tH I I I I I I I I hc'<|wP I<|wU 39 (decide (w<0)) I ((DK c 45).trans hc45)<|xa<|Ag I (fun hneg=> ?_) (fun hneg=> ?_)
 ·have hneg:w<0:=of_decide_eq_true hneg
  exact xb<|Aa I<|xo<|wR2 I I (by rw[if_pos hneg])
 ·have hneg: ¬w<0:=of_decide_eq_false hneg
  exact xm<|Ad I<|xc<|wR2 I I (by rw[if_neg hneg])
def sqS (x y:Int):Sd:=⟨x,y,1,1,false,0,0⟩
def sqL:List Sd:=[sqS 0 0,sqS 10 0,sqS 10 10,sqS 0 10]
def stL:List Value:=[.int .i64 0,str (Ac 0),str (Ac 5),str (Ac 0),str (Ac 10),str (Ac 5),str (Ac 5)]
abbrev JI (r t:Nat):Value:= .agg #[slv (some ⟨r,0,none⟩) 1 1,slv (some ⟨t,0,none⟩) 1 1, .slice none 0 0, .slice none 0 0]
theorem GF (x y:Int) (W:World):Ae Tryz.prog 42 #[.int .i64 x, .int .i64 y] W (fun _:Unit=>(sqS x y).val) (fun _=>True) (fun _=>[]):=by
 refine Ab Tryz.func42 I I I<|xb<|wG I I fun _=>xf<|Aa I<|An Tryz.hZ tH I I I I I I I I ?_
 exact wS 0 I I I<|xc<|A3 tH I (.cell 0 I I I I I) () I tO fun W _=>Au.nil _ _
theorem eM:stL=[.int .i64 0,str [48],str [53],str [48],str [49,48],str [53],str [53]]:=by
 have h0:Ac 0=[48]:=by decide+kernel
 have h5:Ac 5=[53]:=by decide+kernel
 have h10:Ac 10=[49,48]:=by decide+kernel
 unfold stL
 rw[h0,h5,h10]
theorem FH (W:World):Ae Tryz.prog 19 #[] W (fun x:Nat×Nat×Nat=>JI x.2.1 x.2.2) (fun _=>True)
  (fun x=>[⟨x.1,82,cellsOf sqL,true,none⟩,⟨x.2.1,48,[slv (some ⟨x.1,0,none⟩) 4 4],true,none⟩,⟨x.2.2,85,stL,true,none⟩]):=by
 refine Ab Tryz.func19 I I I<|xb<|wG I I fun _=>xf<|wP I<|xf<|wP I<|Bz (capt:=[]) I I I I I I (by kernel_rfl) (fun W _=>GF 0 0 W)<|wP I<|Bz (capt:=[]) I I I I I I (by kernel_rfl) (fun W _=>GF 10 0 W)<|wP I<|Bz (capt:=[]) I I I I I I (by kernel_rfl) (fun W _=>GF 10 10 W)<|wP I<|Bz (capt:=[]) I I I I I I (by kernel_rfl) (fun W _=>GF 0 10 W)<|As Tryz.hZ tH I I I I I I I I I I I fun bS=> ?_
 refine As Tryz.hZ tH I I I I I I I I I I I fun bR=> ?_
 iterate 2 refine An Tryz.hZ tH I I I I I I I I ?_
 refine As Tryz.hZ tH I I I I I I I I I I I fun bT=> ?_
 refine An Tryz.hZ tH I I I I I I I I ?_
 refine wS 0 I I I<|xc<|A3 tH I (.cell 0 I I I I I) (bS,bR,bT) I tO fun W1 hp=> ?_
 exact Au.of_hp (hp.pick (l:=[⟨bS,82,cellsOf sqL,true,none⟩,⟨bR,48,[slv (some ⟨bS,0,none⟩) 4 4],true,none⟩,⟨bT,85,stL,true,none⟩]) [1,2,3] (by decide) (by rw[eM];rfl))
theorem D9 {W0 W:World} {bxs:List Bx} (hp:Hp W0 bxs W) (i k:Nat) {bS bR:Nat} (h1:nth bxs i=some ⟨bS,82,cellsOf sqL,true,none⟩) (h2:nth bxs k=some ⟨bR,48,[slv (some ⟨bS,0,none⟩) 4 4],true,none⟩):
  AL W (some ⟨bR,0,none⟩) [sqL]:=by
 have r1:=Aj.of_bx hp i h1 rfl
 have r2:=Aj.of_bx hp k h2 rfl
 refine .inr ⟨bR,0,I,⟨fun j l hl=> ?_⟩⟩
 have hj:j=0:=by have:=(List.getElem?_eq_some_iff.1 hl).1;simpa using this
 subst hj
 obtain rfl:sqL=l:=by simpa using hl
 exact⟨some ⟨bS,0,none⟩,4,r2, .inr ⟨bS,0,I,Gg.of_cells r1.lt fun j u hj=>r1.get j u hj⟩⟩
theorem Ks:chk [sqL]=0:=by decide+kernel
theorem Dn (p q:Rat) (h:Sz2 p q) (W:World) (hv:AH W) (ht:A9 W):
  Ae Tryz.prog 150 #[str (Ac p),str (Ac q)] W (fun _:Unit=> .int .i64 (CT p q)) (fun _=>True) (fun _=>[]):=by
 refine Ab Tryz.func150 I I I<|xb<|wP I<|xk<|Aa I<|?_
 by_cases e:p=q
 ·subst e
  exact wP I<|wU 9 true I (fH _ _ I)<|xa<|zR I<|xb<|wP I<|xo<|wR1 I I (by rw[show CT p p=0 by unfold CT;rw[if_neg (Rat.lt_irrefl),if_pos I]])
 refine wP I<|wU 9 false I ((AW _ _).trans (dF fun h=>e (K7.1 h)))<|xa<|zS I<|xm<|Aa I<|wC I I (fun W hp=>(EO p q h W (hv.hp hp) (ht.hp hp)).cast (by rw[Mg]))<|Ak I<|xf<|Aa I<|zC<|?_
 exact zE<|zO<|wR1 I I I
theorem Rg (q:Rat) (h:szQ q 36) (W:World) (hv:AH W) (ht:A9 W):
  Ae Tryz.prog 294 #[str (Ac q)] W (fun _:Unit=> .bool false) (fun _=>True) (fun _=>[]):=by
 have hk:=h.ok (by decide)
 have l1:=Cy 36 q.num.natAbs (by decide) h.1
 have l2:=Cy 36 q.den (by decide) h.2
 refine Ab Tryz.func294 I I I<|xb<|wP I<|xf<|wP I<|wC I I (fun W hp=>EI q hk W (hv.hp hp) (ht.hp hp))<|AE I<|wP I<|xf<|wP I<|wC I I (fun W _=>(BH (itoa q.num) [45] W).cast (by rw[Bf]))<|wP I<|?_
 refine Ap 14 (.int .i64 ((decDigits q.num.natAbs).length:Nat)) I (congrArg (fun n:Nat=>Value.int .i64 (n:Int)) (A5 _))<|Aa I<|Ap 16 (.int .i64 ((decDigits q.den).length:Nat)) I (congrArg (fun n:Nat=>Value.int .i64 (n:Int)) ((A5 _).trans (by rw[Ff])))<|Aa I<|?_
 refine Ap 18 (.bool false) I (congrArg Value.bool (dF (by
  show¬((if _>_ then _ else _)>_)
  split<;>omega))) ?_
 exact wP I<|xc<|wR1 I I I
theorem OE (q:Rat) (h:szQ q 36) (W:World) (hv:AH W) (ht:A9 W):
  Ae Tryz.prog 229 #[str (Ac q)] W (fun _:Unit=> .int .i64 0) (fun _=>True) (fun _=>[]):=by
 have hk:=h.ok (by decide)
 have hl:=AX hk
 refine Ab Tryz.func229 I I I<|xb<|wP I<|xk<|wP I<|wC I I (fun W hp=>(BE (Ac q) (by omega) W (hv.hp hp) (ht.hp hp)).cast (by rw[Dt hk]))<|wP I<|xf<|Aa I<|xa<|zS I<|xe<|zA<|zA<|?_
 exact zB<|wP I<|wC I I (fun W hp=>Rg q h W (hv.hp hp) (ht.hp hp))<|xa<|zS I<|xm<|wP I<|xc<|wR1 I I I
structure StR where
 z0:Rat
 z1:Rat
 a:Rat
 b:Rat
 c:Rat
 d:Rat
abbrev StR.nums (S:StR):List Rat:=[S.z0,S.z1,S.a,S.b,S.c,S.d]
abbrev stV (s:Int) (S:StR):Value:= .agg #[.int .i64 s,str (Ac S.z0),str (Ac S.z1),str (Ac S.a),str (Ac S.b),str (Ac S.c),str (Ac S.d)]
structure StR.OK (S:StR):Prop where
 z: ∀q∈S.nums,szQ q 8
 h1:S.z0<S.z1
 h2:S.a<S.b
 h3:S.c<=S.d
theorem PB (s:Int) (S:StR) (h:S.OK) (W:World) (hv:AH W) (ht:A9 W):
  Ae Tryz.prog 149 #[stV s S] W (fun _:Unit=> .bool true) (fun _=>True) (fun _=>[]):=by
 obtain⟨hz,h1,h2,h3⟩:=h
 have z0:=hz S.z0 (by simp)
 have z1:=hz S.z1 (by simp)
 have za:=hz S.a (by simp)
 have zb:=hz S.b (by simp)
 have zc:=hz S.c (by simp)
 have zd:=hz S.d (by simp)
 refine Ab Tryz.func149 I I I<|xb<|wF I I fun _=>wP I<|zC<|?_
 rename_i b1
 refine zE<|xd<|wP I<|wB 0 I I I<|wP I<|wB 0 I I I<|wP I<|wB 0 I I I<|wP I<|wB 0 I I I<|wP I<|wB 0 I I I<|wP I<|wB 0 I I I<|As Tryz.hZ tH I I I I I I I I I I I fun bS=> ?_
 refine Aa I<|xa<|zH<|Av (X:=Nat) (fun i=>[(1,Ai b1),(2, .bool false),(17, .slice (some ⟨bS,0,none⟩) 6 6),(18, .int .i64 6),(19, .int .i64 (i:Nat))]) (fun _=>[⟨b1,85,(stV s S).cells.toList,true,none⟩,⟨bS,25,S.nums.map fun q=>str (Ac q),true,none⟩]) (fun i=>i<=6) (fun i=>6-i) 0 (Nat.zero_le _) ⟨I,I,I,I,I,tO⟩ [] I ?_
 intro i hi
 have hi:i<=6:=hi
 refine xb<|wP I<|?_
 by_cases hlt:i<6
 ·refine wU 20 true I (dT (by omega))<|xl<|zR I<|xh<|?_
  have hl:i<S.nums.length:=hlt
  have hq:=hz S.nums[i] (List.getElem_mem hl)
  obtain⟨q,hqe⟩: ∃q,q=S.nums[i]:=⟨_,rfl⟩
  rw[<-hqe] at hq
  have hrow: ∀ {W0 W:World} {bxs:List Bx},Hp W0 bxs W->nth bxs 1=some ⟨bS,25,S.nums.map fun q=>str (Ac q),true,none⟩->Aj W bS (0+i*1) [str (Ac q)]:=fun hp h1=>by
   have r:=Aj.of_bx hp 1 h1 rfl
   refine⟨r.lt,fun j u hu=> ?_⟩
   have hj:j=0:=by have:=(List.getElem?_eq_some_iff.1 hu).1;simpa using this
   subst hj
   have h2:=r.get i (str (Ac q)) (by show(S.nums.map fun q=>str (Ac q))[i]? =_;rw[List.getElem?_map,List.getElem?_eq_getElem hl,hqe];rfl)
   rw[Nat.mul_one,Nat.add_zero,h2]
   simpa using hu
  refine wJ ?_
  exact wL 0 I I (fun W1 hp=>hrow hp I) I<|wP I<|xf<|wP I<|wC I I (fun W1 hp=>OE q (hq.mono (by decide)) W1 (hv.hp hp) (ht.hp hp))<|wP I<|xa<|zS I<|zI<|xi<|wP I<|wV 26 ((i+1:Nat):Int) I (A0 (by omega))<|wP I<|zC<|Al (i+1) hlt (by show 6-(i+1)<6-i;omega) ⟨I,I,I,I,I,tO⟩ [] I
 refine wU 20 false I (dF (by omega))<|xl<|zS I<|xg<|xn<|wP I<|wB 0 I I I<|wP I<|wB 0 I I I<|wC I I (fun W1 hp=>Dn S.z0 S.z1 (sz2 z0 z1 (by decide)) W1 (hv.hp hp) (ht.hp hp))<|wP I<|wU 32 true I ((Cc _ _).trans (dT h1))<|Aa I<|wB 0 I I I<|wP I<|wB 0 I I I<|?_
 exact wC I I (fun W1 hp=>Dn S.a S.b (sz2 za zb (by decide)) W1 (hv.hp hp) (ht.hp hp))<|wP I<|wU 39 true I ((Cc _ _).trans (dT h2))<|Ad I<|wB 0 I I I<|wP I<|wB 0 I I I<|wC I I (fun W1 hp=>Dn S.c S.d (sz2 zc zd (by decide)) W1 (hv.hp hp) (ht.hp hp))<|wP I<|wU 47 true I ((Hh _ _).trans (dT h3))<|Aa I<|xc<|wR1 I I I
theorem JK (f:FrP) (hf:f.Go) (s:Int) (S:StR) (h:S.OK) (hs:f.st<=S.z0) (W:World) (hv:AH W) (ht:A9 W):
  Ae Tryz.prog 88 #[frV f,stV s S] W (fun _:Unit=> .int .i64 0) (fun _=>True) (fun _=>[]):=by
 have z0:=h.z S.z0 (by simp)
 refine Ab Tryz.func88 I I I<|xb<|wF I I fun _=>wF I I fun _=>wP I<|xk<|wB 0 I I I<|wC I I (fun W1 hp=>HI f hf.ok W1 (hv.hp hp) (ht.hp hp))<|Aa I<|wB 1 I I I<|wC I I (fun W1 hp=>PB s S h W1 (hv.hp hp) (ht.hp hp))<|Aa I<|xa<|zS I<|xe<|?_
 refine xd<|wP I<|wB 0 I I I<|wP I<|wU 15 false I ((AW _ _).trans ((Ns f.sp).trans (dF hf.h0)))<|Aa I<|wB 0 I I I<|wP I<|wB 1 I I I<|wC I I (fun W1 hp=>Dn f.st S.z0 (sz2 hf.st z0 (by decide)) W1 (hv.hp hp) (ht.hp hp))<|wP I<|wU 22 false I ((OT _ _).trans (dF (Rat.not_lt.2 hs)))<|wP I<|xa<|zS I<|xm<|wP I<|?_
 exact xc<|wR1 I I I
theorem Sz (p q:Rat) (h:Sz2 p q) (W:World) (hv:AH W) (ht:A9 W):
  Ae Tryz.prog 91 #[str (Ac p),str (Ac q)] W (fun _:Unit=>str (Ac (p+q))) (fun _=>True) (fun _=>[]):=by
 refine Ab Tryz.func91 I I I<|xb<|wP I<|xf<|Aa I<|wC I I (fun W hp=>C7 p q h W (hv.hp hp) (ht.hp hp))<|Ak I<|xf<|Aa I<|xa<|?_
 exact zO<|wR1 I I I
theorem IU (p q:Rat) (h:Sz2 p q) (W:World) (hv:AH W) (ht:A9 W):
  Ae Tryz.prog 90 #[str (Ac p),str (Ac q)] W (fun _:Unit=>str (Ac (p-q))) (fun _=>True) (fun _=>[]):=by
 refine Ab Tryz.func90 I I I<|xb<|wP I<|xf<|Aa I<|wC I I (fun W hp=>C6 p q h W (hv.hp hp) (ht.hp hp))<|Ak I<|xf<|Aa I<|xa<|?_
 exact zO<|wR1 I I I
theorem Ts (p q:Rat) (h:Sz2 p q) (W:World) (hv:AH W) (ht:A9 W):
  Ae Tryz.prog 89 #[str (Ac p),str (Ac q)] W (fun _:Unit=>str (Ac (p*q))) (fun _=>True) (fun _=>[]):=by
 refine Ab Tryz.func89 I I I<|xb<|wP I<|xf<|Aa I<|wC I I (fun W hp=>Db p q h W (hv.hp hp) (ht.hp hp))<|Ak I<|xf<|Aa I<|xa<|?_
 exact zO<|wR1 I I I
def StR.area (S:StR) (f:FrP):Rat:=(S.b-S.a+(S.d-S.c))*(f.sp*(S.z1-S.z0))*(1/2)
theorem Xm:Ac (1/2)=[49,47,50]:=by decide+kernel
theorem Rx (f:FrP) (hf:f.Go) (s:Int) (S:StR) (h:S.OK) (hs:f.st<=S.z0) (W:World) (hv:AH W) (ht:A9 W):
  Ae Tryz.prog 47 #[frV f,stV s S] W (fun _:Unit=> .tuple #[str (Ac (S.area f)), .int .i64 0]) (fun _=>True) (fun _=>[]):=by
 have z0:=h.z S.z0 (by simp)
 have z1:=h.z S.z1 (by simp)
 have za:=h.z S.a (by simp)
 have zb:=h.z S.b (by simp)
 have zc:=h.z S.c (by simp)
 have zd:=h.z S.d (by simp)
 have zw:=z1.sub z0
 have zm:=hf.sp.mul zw
 have zs:=(zb.sub za).add (zd.sub zc)
 have zn:=zs.mul zm
 have zh:szQ (1/2:Rat) 1:=by unfold szQ;decide+kernel
 refine Ab Tryz.func47 I I I<|xb<|wF I I fun _=>wF I I fun _=>Aa I<|xk<|wB 0 I I I<|wB 1 I I I<|wC I I (fun W1 hp=>JK f hf s S h hs W1 (hv.hp hp) (ht.hp hp))<|wP I<|xf<|Aa I<|xa<|?_
 refine zS I<|xe<|zA<|zU<|qP I<|qB 0 I I I<|qP I<|qB 1 I I I<|qP I<|qB 1 I I I<|qC I I (fun W1 hp=>IU S.z1 S.z0 (sz2 z1 z0 (by decide)) W1 (hv.hp hp) (ht.hp hp))<|qC I I (fun W1 hp=>Ts f.sp (S.z1-S.z0) (sz2 hf.sp zw (by decide)) W1 (hv.hp hp) (ht.hp hp))<|qP I<|zD<|xl<|zU<|qP I<|qB 1 I I I<|qP I<|qB 1 I I I<|qC I I (fun W1 hp=>IU S.b S.a (sz2 zb za (by decide)) W1 (hv.hp hp) (ht.hp hp))<|?_
 refine qP I<|qB 1 I I I<|qP I<|qB 1 I I I<|qC I I (fun W1 hp=>IU S.d S.c (sz2 zd zc (by decide)) W1 (hv.hp hp) (ht.hp hp))<|qC I I (fun W1 hp=>Sz (S.b-S.a) (S.d-S.c) (sz2 (zb.sub za) (zd.sub zc) (by decide)) W1 (hv.hp hp) (ht.hp hp))<|qP I<|qC I I (fun W1 hp=>Db (S.b-S.a+(S.d-S.c)) (f.sp*(S.z1-S.z0)) (sz2 zs zm (by decide)) W1 (hv.hp hp) (ht.hp hp))<|GM I<|zD<|xk<|Aa I<|xa<|zS I<|?_
 refine xm<|wP I<|?_
 refine wC I I (fun W1 hp=>(show Ae Tryz.prog 53 #[str (Ac ((S.b-S.a+(S.d-S.c))*(f.sp*(S.z1-S.z0)))),str [49,47,50]] W1 (fun _:Unit=> .tuple #[str (Ac (S.area f)), .int .i64 0]) (fun _=>True) (fun _=>[]) by
  have h2:=Db ((S.b-S.a+(S.d-S.c))*(f.sp*(S.z1-S.z0))) (1/2) (sz2 zn zh (by decide)) W1 (hv.hp hp) (ht.hp hp)
  rw[Xm] at h2
  exact h2)) ?_
 exact At I<|xc<|wR2 I I I
end
section
theorem Fz (a b:Rat):a<b\/b<=a:=by grind
abbrev Ax:=Rat×Rat
def F0 (p q r:Ax):Rat:=(q.1-p.1)*(r.2-p.2)-(q.2-p.2)*(r.1-p.1)
def Va (t:Rat) (p q:Ax):Ax:=(p.1+t*(q.1-p.1),p.2+t*(q.2-p.2))
structure EL where
 a:Rat
 b:Rat
 c:Rat
def EL.at (f:EL) (p:Ax):Rat:=f.a*p.1+f.b*p.2-f.c
theorem Nr (p q r:Ax):F0 p q r=F0 q r p:=by unfold F0;grind
theorem ZY (p q:Ax):F0 p p q=0:=by unfold F0;grind
theorem bO (p q:Ax):F0 p q q=0:=by unfold F0;grind
theorem ZH (p q:Ax):F0 p q p=0:=by unfold F0;grind
theorem fA (p q:Ax):Va 0 p q=p:=by unfold Va;ext<;>grind
theorem Ld {a b:Rat} (ha:0<a) (h:0<a*b):0<b:=by
 rcases Fz 0 b with h1|h1
 ·exact h1
 ·have:=Rat.mul_le_mul_of_nonneg_left h1 (Rat.le_of_lt ha)
  grind
structure Ge (P:Nat->Ax) (n:Nat):Prop where
 n3:3<=n
 cl:P n=P 0
 tri: ∀i j k,i<j->j<k->k<n->0<F0 (P i) (P j) (P k)
theorem Ge.str {P:Nat->Ax} {n:Nat} (h:Ge P n) {i j k:Nat} (h1:i<j) (h2:j<k) (h3:k<=n) (h4: ¬(i=0/\k=n)):0<F0 (P i) (P j) (P k):=by
 by_cases e:k=n
 ·subst e
  rw[h.cl, <-Nr]
  exact h.tri 0 i j (by omega) h1 h2
 ·exact h.tri i j k h1 h2 (by omega)
theorem Ge.nn {P:Nat->Ax} {n:Nat} (h:Ge P n) {i j k:Nat} (h1:i<=j) (h2:j<=k) (h3:k<=n):0<=F0 (P i) (P j) (P k):=by
 by_cases a:i=j
 ·subst a;rw[ZY];grind
 by_cases b:j=k
 ·subst b;rw[bO];grind
 by_cases c:i=0/\k=n
 ·obtain⟨rfl,rfl⟩:=c;rw[h.cl,ZH];grind
 exact Rat.le_of_lt (h.str (by omega) (by omega) h3 c)
theorem Ge.side {P:Nat->Ax} {n:Nat} (h:Ge P n) {i k:Nat} (hi:i<n) (hk:k<=n):0<=F0 (P i) (P (i+1)) (P k):=by
 rcases Nat.lt_or_ge i k with a|a
 ·exact h.nn (by omega) (by omega) hk
 ·rw[<-Nr];exact h.nn a (by omega) (by omega)
theorem Ge.sideS {P:Nat->Ax} {n:Nat} (h:Ge P n) {i k:Nat} (hi:i<n) (hk:k<n) (h1:k≠i) (h2:k≠i+1) (h3: ¬(k=0/\i+1=n)):0<F0 (P i) (P (i+1)) (P k):=by
 rcases Nat.lt_or_ge i k with a|a
 ·exact h.str (by omega) (by omega) (by omega) (by omega)
 ·rw[<-Nr];exact h.str (by omega) (by omega) (by omega) (by omega)
abbrev bU:=Nat×Rat
def W8 (P:Nat->Ax) (k:bU):Ax:=Va k.2 (P k.1) (P (k.1+1))
def Wp (P:Nat->Ax) (n:Nat) (f:EL) (k:bU):Prop:=k.1<n/\(k.2=0/\f.at (P k.1)<=0\/f.at (P k.1)*f.at (P (k.1+1))<0/\k.2=f.at (P k.1)/(f.at (P k.1)-f.at (P (k.1+1))))
theorem Wp.cut {P:Nat->Ax} {n i:Nat} {f:EL} (hi:i<n) (h:f.at (P i)*f.at (P (i+1))<0):Wp P n f (i,f.at (P i)/(f.at (P i)-f.at (P (i+1)))):=⟨hi,Or.inr ⟨h,rfl⟩⟩
theorem Xg {u v:Rat} (h:u*v<0):0<u/(u-v)/\u/(u-v)<1/\(1-u/(u-v))*u+u/(u-v)*v=0:=by
 have hd:u-v≠0:=by
  intro e
  have e2:u=v:=by grind
  subst e2
  have:0<=u*u:=by
   rcases Fz u 0 with a|a
   ·have:=Rat.mul_pos (show 0< -u by grind) (show 0< -u by grind)
    grind
   ·exact Rat.mul_nonneg a a
  grind
 have e:u/(u-v)*(u-v)=u:=Rat.div_mul_cancel hd
 have key:0<u/(u-v)/\u/(u-v)<1:=by
  rcases Fz 0 (u-v) with a|a
  ·have u0:0<u:=by
    rcases Fz 0 u with b|b
    ·exact b
    ·exfalso
     have:=Rat.mul_nonneg (show 0<= -u by grind) (show 0<= -v by grind)
     grind
   have v0:v<0:=by
    rcases Fz v 0 with b|b
    ·exact b
    ·exfalso
     have:=Rat.mul_nonneg (Rat.le_of_lt u0) b
     grind
   constructor
   ·exact Ld a (by grind)
   ·have:0<1-u/(u-v):=Ld a (by grind)
    grind
  ·have b:u-v<0:=by grind
   have u0:u<0:=by
    rcases Fz u 0 with b|b
    ·exact b
    ·exfalso
     have:=Rat.mul_nonneg b (show 0<=v by grind)
     grind
   have v0:0<v:=by
    rcases Fz 0 v with b|b
    ·exact b
    ·exfalso
     have:=Rat.mul_nonneg (show 0<= -u by grind) (show 0<= -v by grind)
     grind
   constructor
   ·exact Ld (show 0< -(u-v) by grind) (by grind)
   ·have:0<1-u/(u-v):=Ld (show 0< -(u-v) by grind) (by grind)
    grind
 refine⟨key.1,key.2,by grind⟩
end
section
def Az (l:List Ax) (i:Nat):Ax:=(l[i%l.length]?).getD (0,0)
theorem Dx {l:List Ax} {i:Nat} (h:i<l.length):Az l i=l[i]:=by
 unfold Az;rw[Nat.mod_eq_of_lt h,List.getElem?_eq_getElem h];rfl
theorem LW (l:List Ax) (i:Nat):Az l (i%l.length)=Az l i:=by
 unfold Az;simp
def J3 (l:List Ax):Prop:=Ge (Az l) l.length
def DX (P:Nat->Ax) (n:Nat) (f:EL):List bU:=(List.range n).flatMap fun i=>
 (if f.at (P i)<=0 then[(i,0)] else[])++(if f.at (P i)*f.at (P (i+1))<0 then[(i,f.at (P i)/(f.at (P i)-f.at (P (i+1))))] else[])
theorem Em {P:Nat->Ax} {n:Nat} {f:EL} (k:bU):k∈DX P n f↔Wp P n f k:=by
 unfold DX Wp
 rw[List.mem_flatMap]
 constructor
 ·rintro⟨i,hi,hk⟩
  rw[List.mem_range] at hi
  rw[List.mem_append] at hk
  rcases hk with hk|hk
  ·split at hk
   ·rename_i c
    rw[List.mem_singleton] at hk;subst hk
    exact⟨hi,Or.inl ⟨I,c⟩⟩
   ·exact absurd hk (by simp)
  ·split at hk
   ·rename_i c
    rw[List.mem_singleton] at hk;subst hk
    exact⟨hi,Or.inr ⟨c,I⟩⟩
   ·exact absurd hk (by simp)
 ·obtain⟨i,t⟩:=k
  rintro⟨hi,hk⟩
  refine⟨i,List.mem_range.2 hi, ?_⟩
  rw[List.mem_append]
  rcases hk with⟨a,b⟩|⟨a,b⟩
  ·left;simp only at a b;rw[if_pos b,a];simp
  ·right;simp only at a b;rw[if_pos a,b];simp
def CE (f:EL) (l:List Ax):List Ax:=(DX (Az l) l.length f).map (W8 (Az l))
theorem dB {α:Type} {l:List α} {a b c:α} (ha:a∈l) (hb:b∈l) (hc:c∈l) (h1:a≠b) (h2:a≠c) (h3:b≠c):3<=l.length:=by
 match l,ha,hb,hc with
 |[x],ha,hb,_=>simp at ha hb;exact absurd (ha.trans hb.symm) h1
 |[x,y],ha,hb,hc=>
  simp at ha hb hc
  rcases ha with rfl|rfl<;>rcases hb with rfl|rfl<;>rcases hc with rfl|rfl<;>simp_all
 |_::_::_::l,_,_,_=>simp
theorem aA {P:Nat->Ax} {n:Nat} {f:EL} (h:Ge P n) {i:Nat} (hi:i<n) (hf:f.at (P i)<0):3<=(DX P n f).length:=by
 have n3:=h.n3
 have k1:(i,(0:Rat))∈DX P n f:=(Em _).2 ⟨hi,Or.inl ⟨rfl,Rat.le_of_lt hf⟩⟩
 have nx: ∃k∈DX P n f,(k.1=i/\0<k.2)\/(k.2=0/\(k.1=i+1\/k.1=0/\i+1=n)):=by
  rcases Fz 0 (f.at (P (i+1))) with c|c
  ·have pr:f.at (P i)*f.at (P (i+1))<0:=by
    have:=Rat.mul_pos (show 0< -f.at (P i) by grind) c;grind
   exact⟨_,(Em _).2 (Wp.cut hi pr),Or.inl ⟨I,(Xg pr).1⟩⟩
  ·by_cases e:i+1=n
   ·exact⟨(0,0),(Em _).2 ⟨show 0<n by omega,Or.inl ⟨I,by rw[e,h.cl] at c;exact c⟩⟩,Or.inr ⟨I,Or.inr ⟨I,e⟩⟩⟩
   ·exact⟨(i+1,0),(Em _).2 ⟨show i+1<n by omega,Or.inl ⟨I,c⟩⟩,Or.inr ⟨I,Or.inl I⟩⟩
 have pv: ∃k∈DX P n f,(k.1+1=i\/k.1+1=n/\i=0):=by
  obtain⟨j,hj,e1,e2⟩: ∃j,j<n/\(j+1=i\/j+1=n/\i=0)/\P (j+1)=P i:=by
   rcases Nat.eq_zero_or_pos i with rfl|c
   ·exact⟨n-1,by omega,Or.inr ⟨by omega,I⟩,by rw[show n-1+1=n by omega];exact h.cl⟩
   ·exact⟨i-1,by omega,Or.inl (by omega),by rw[show i-1+1=i by omega]⟩
  rcases Fz 0 (f.at (P j)) with c|c
  ·have pr:f.at (P j)*f.at (P (j+1))<0:=by
    rw[e2]
    have:=Rat.mul_pos c (show 0< -f.at (P i) by grind);grind
   exact⟨_,(Em _).2 (Wp.cut hj pr),e1⟩
  ·exact⟨(j,0),(Em _).2 ⟨hj,Or.inl ⟨I,c⟩⟩,e1⟩
 obtain⟨k2,m2,h2⟩:=nx
 obtain⟨k3,m3,h3⟩:=pv
 refine dB k1 m2 m3 ?_ ?_ ?_
 ·rintro rfl
  rcases h2 with⟨_,b⟩|⟨_,b|b⟩
  ·simp only at b;grind
  ·simp only at b;omega
  ·simp only at b;omega
 ·rintro rfl
  simp only at h3;omega
 ·rintro rfl
  rcases h2 with⟨b,_⟩|⟨_,b|b⟩<;>omega
theorem T1 (f:EL) (l:List Ax):(CE f l).length=(DX (Az l) l.length f).length:=by unfold CE;rw[List.length_map]
end
section
def Uu (k:Nat) (l:List Ax):List Ax:=l.drop k++l.take k
theorem Vm {k:Nat} {l:List Ax} (hk:k<=l.length):(Uu k l).length=l.length:=by
 unfold Uu;rw[List.length_append,List.length_drop,List.length_take];omega
def Cz (p q:Ax):Prop:=p.1<q.1\/p.1=q.1/\p.2<q.2
theorem LX (p q:Ax):Cz p q\/p=q\/Cz q p:=by
 unfold Cz
 rcases Fz p.1 q.1 with a|a
 ·exact Or.inl (Or.inl a)
 rcases Fz q.1 p.1 with b|b
 ·exact Or.inr (Or.inr (Or.inl b))
 have e:p.1=q.1:=by grind
 rcases Fz p.2 q.2 with c|c
 ·exact Or.inl (Or.inr ⟨e,c⟩)
 rcases Fz q.2 p.2 with d|d
 ·exact Or.inr (Or.inr (Or.inr ⟨e.symm,d⟩))
 ·refine Or.inr (Or.inl ?_)
  ext
  ·exact e
  ·grind
theorem Ka {p q:Ax} (h:Cz p q): ¬Cz q p:=by
 unfold Cz at*
 rintro(c|⟨c,d⟩)<;>rcases h with a|⟨a,b⟩<;>grind
theorem Xn (p:Ax): ¬Cz p p:=fun h=>Ka h h
theorem J8 {l:List Ax} (h:0<l.length) (i:Nat):Az l i∈l:=by
 rw[<-LW,Dx (Nat.mod_lt i h)]
 exact List.getElem_mem _
theorem FX {l:List Ax} {x:Ax} (h:x∈l): ∃i,i<l.length/\Az l i=x:=by
 obtain⟨i,hi,rfl⟩:=List.getElem_of_mem h
 exact⟨i,hi,Dx hi⟩
end
section
def F8 (p q:Ax):Bool:=decide (p.1<q.1)||(decide (p.1=q.1)&&decide (p.2<q.2))
theorem D4 {p q:Ax}:F8 p q=true↔Cz p q:=by unfold F8 Cz;simp
def CM (l:List Ax):Nat->Nat
 |0=>0
 |k+1=>if F8 (Az l k) (Az l (CM l k)) then k else CM l k
theorem M4 (l:List Ax): ∀k,(CM l k=0\/CM l k<k)/\ ∀i,i<k-> ¬Cz (Az l i) (Az l (CM l k)):=by
 intro k
 induction k with
 |zero=>exact⟨Or.inl rfl,fun i h=>by omega⟩
 |succ k ih=>
  unfold CM
  split
  ·rename_i c
   refine⟨Or.inr (by omega),fun i hi=> ?_⟩
   rcases Nat.eq_or_lt_of_le (show i<=k by omega) with rfl|q
   ·exact Xn _
   ·intro hp
    have hc:=D4.1 c
    have a:=ih.2 i q
    apply a
    unfold Cz at*
    rcases hp with hp|⟨hp,hp2⟩<;>rcases hc with hc|⟨hc,hc2⟩<;>grind
  ·rename_i c
   refine⟨by rcases ih.1 with a|a<;>omega,fun i hi=> ?_⟩
   rcases Nat.eq_or_lt_of_le (show i<=k by omega) with rfl|q
   ·intro hp;exact c (D4.2 hp)
   ·exact ih.2 i q
def D1 (l:List Ax):List Ax:=Uu (CM l l.length) l
theorem WZ (l:List Ax):CM l l.length<=l.length:=by
 rcases(M4 l l.length).1 with a|a<;>omega
def Mm (f:EL) (l:List Ax):Bool:=l.any fun p=>decide (f.at p<0)
theorem Uv {f:EL} {l:List Ax}:Mm f l=true↔ ∃p∈l,f.at p<0:=by unfold Mm;simp
def GK (f:EL) (l:List Ax):List Ax:=if Mm f l then D1 (CE f l) else[]
end
section
def Up (F:Nat->Rat):Nat->Rat
 |0=>0
 |n+1=>Up F n+F n
def Wo (p q:Ax):Rat:=p.1*q.2-q.1*p.2
def Rh (l:List Ax):Rat:=Up (fun i=>Wo (Az l i) (Az l (i+1))) l.length
theorem Qb {u v:Rat}:u*v<0↔(u<0/\0<v)\/(0<u/\v<0):=by
 constructor
 ·intro h
  rcases Fz u 0 with a|a
  ·rcases Fz 0 v with b|b
   ·exact Or.inl ⟨a,b⟩
   ·have:=Rat.mul_nonneg (show 0<= -u by grind) (show 0<= -v by grind);grind
  ·rcases Fz v 0 with b|b
   ·refine Or.inr ⟨?_,b⟩
    rcases Fz 0 u with c|c
    ·exact c
    ·have e:u=0:=by grind
     rw[e] at h;grind
   ·have:=Rat.mul_nonneg a b;grind
 ·rintro(⟨a,b⟩|⟨a,b⟩)
  ·have:=Rat.mul_pos (show 0< -u by grind) b;grind
  ·have:=Rat.mul_pos a (show 0< -v by grind);grind
def R6 (f:EL) (p q:Ax):List Ax:=(if f.at p<=0 then[p] else[])++(if f.at p*f.at q<0 then[Va (f.at p/(f.at p-f.at q)) p q] else[])
theorem RV (P:Nat->Ax) (n:Nat) (f:EL):(DX P (n+1) f).map (W8 P)=(DX P n f).map (W8 P)++R6 f (P n) (P (n+1)):=by
 unfold DX R6
 rw[List.range_succ,List.flatMap_append,List.map_append]
 congr 1
 rw[List.flatMap_cons,List.flatMap_nil,List.append_nil,List.map_append]
 congr 1
 ·split
  ·show[W8 P (n,0)]=_
   unfold W8;rw[fA]
  ·rfl
 ·split<;>rfl
end
section
theorem T2 {p q r:Ax} (h1:Cz p q) (h2:Cz q r):Cz p r:=by
 unfold Cz at*
 rcases h1 with h1|⟨h1,h3⟩<;>rcases h2 with h2|⟨h2,h4⟩<;>grind
def CO (p:Ax):List Ax->List Ax
 |b::a::t=>if F0 a b p<=0 then CO p (a::t) else b::a::t
 |l=>l
def EC (l:List Ax):List Ax:=l.foldl (fun r p=>p::CO p r) []
end
section
def VU (S:List Ax):List Ax:=(EC S).tail.reverse++(EC S.reverse).tail.reverse
end
section
open Go Go.RowKit Go.Am Go.Lib
set_option maxRecDepth 10000
abbrev cvV (p:Ax):Value:= .agg #[str (Ac p.1),str (Ac p.2)]
def DL (W:World) (c:Nat):Prop:=W.heap[c]? =some (.cells #[.int .i64 0] 266 (0,0))
theorem DL.hp {W0 W:World} {bxs:List Bx} {c:Nat} (h:DL W0 c) (hp:Hp W0 bxs W):DL W c:=
 (hp.below.block c (Array.getElem?_eq_some_iff.1 h).1).trans h
theorem DL.row {W:World} {c:Nat} (h:DL W c):Aj W c 0 [.int .i64 0]:=Aj.of_block h
theorem J1 (c g:Nat) (a b v:List UInt8) (W:World) (hc:DL W c) (hE:AS Tryz.prog g=true) (hg: ∀W1,Below W.heap.size W W1->Ae Tryz.prog g #[str a,str b] W1 (fun _:Unit=> .tuple #[str v, .int .i64 0]) (fun _=>True) (fun _=>[])):
  Ae Tryz.prog 286 #[Ai c, .func (.func g) #[] #[],str a,str b] W (fun _:Unit=>str v) (fun _=>True) (fun _=>[]):=by
 refine Ab Tryz.func286 I I I<|xb<|wP I<|xk<|wP I<|AQ I I I I ?_
 refine wP I<|wL 0 I I (fun W1 hp=>(hc.hp hp).row) I<|wP I<|xa<|zS I<|xm<|Ad I<|Bz (capt:=[]) I I I I I I hE (fun W1 h=>hg W1 h.below)<|Ak I<|xk<|?_
 refine Aa I<|AQ I I I I ?_
 refine wP I<|HM (c:=[.int .i64 0]) (ty:=266) tH I I I I I I I I I I (fun W1 hp=>hc.hp hp) ?_
 exact xf<|Aa I<|xa<|zS I<|xm<|Aa I<|xc<|wR1 I I I
theorem Gc (c:Nat) (p q:Rat) (hz:Sz2 p q) (W:World) (hc:DL W c) (hv:AH W) (ht:A9 W):
  Ae Tryz.prog 223 #[Ai c,str (Ac p),str (Ac q)] W (fun _:Unit=>str (Ac (p+q))) (fun _=>True) (fun _=>[]):=by
 exact Ab Tryz.func223 I I I<|xb<|wP I<|xf<|Ad I<|wC I I (fun W hp=>J1 c 36 (Ac p) (Ac q) (Ac (p+q)) W (hc.hp hp) (by kernel_rfl) (fun W1 hb=>C7 p q hz W1 ((hv.hp hp).below hb) ((ht.hp hp).below hb)))<|wP I<|xc<|wR1 I I I
theorem C8 (c:Nat) (p q:Rat) (hz:Sz2 p q) (W:World) (hc:DL W c) (hv:AH W) (ht:A9 W):
  Ae Tryz.prog 221 #[Ai c,str (Ac p),str (Ac q)] W (fun _:Unit=>str (Ac (p-q))) (fun _=>True) (fun _=>[]):=by
 exact Ab Tryz.func221 I I I<|xb<|wP I<|xf<|Ad I<|wC I I (fun W hp=>J1 c 37 (Ac p) (Ac q) (Ac (p-q)) W (hc.hp hp) (by kernel_rfl) (fun W1 hb=>C6 p q hz W1 ((hv.hp hp).below hb) ((ht.hp hp).below hb)))<|wP I<|xc<|wR1 I I I
theorem CL (c:Nat) (p q:Rat) (hz:Sz2 p q) (W:World) (hc:DL W c) (hv:AH W) (ht:A9 W):
  Ae Tryz.prog 224 #[Ai c,str (Ac p),str (Ac q)] W (fun _:Unit=>str (Ac (p*q))) (fun _=>True) (fun _=>[]):=by
 exact Ab Tryz.func224 I I I<|xb<|wP I<|xf<|Ad I<|wC I I (fun W hp=>J1 c 53 (Ac p) (Ac q) (Ac (p*q)) W (hc.hp hp) (by kernel_rfl) (fun W1 hb=>Db p q hz W1 ((hv.hp hp).below hb) ((ht.hp hp).below hb)))<|wP I<|xc<|wR1 I I I
theorem NK (c:Nat) (p q:Rat) (hz:Sz2 p q) (h0:q.num≠0) (W:World) (hc:DL W c) (hv:AH W) (ht:A9 W):
  Ae Tryz.prog 227 #[Ai c,str (Ac p),str (Ac q)] W (fun _:Unit=>str (Ac (p/q))) (fun _=>True) (fun _=>[]):=by
 exact Ab Tryz.func227 I I I<|xb<|wP I<|xf<|Ad I<|wC I I (fun W hp=>J1 c 35 (Ac p) (Ac q) (Ac (p/q)) W (hc.hp hp) (by kernel_rfl) (fun W1 hb=>(Ko p q hz W1 ((hv.hp hp).below hb) ((ht.hp hp).below hb)).cast (by rw[MX,if_neg h0])))<|wP I<|xc<|wR1 I I I
theorem EG (c:Nat) (p q:Rat) (hz:Sz2 p q) (W:World) (hc:DL W c) (hv:AH W) (ht:A9 W):
  Ae Tryz.prog 327 #[Ai c,str (Ac p),str (Ac q)] W (fun _:Unit=> .int .i64 (CT p q)) (fun _=>True) (fun _=>[]):=by
 refine Ab Tryz.func327 I I I<|xb<|wP I<|xk<|wP I<|AQ I I I I ?_
 refine wP I<|wL 0 I I (fun W1 hp=>(hc.hp hp).row) I<|wP I<|xa<|zS I<|xm<|Aa I<|wC I I (fun W hp=>(EO p q hz W (hv.hp hp) (ht.hp hp)).cast (v':= .tuple #[.int .i64 (CT p q), .int .i64 0]) (by rw[Mg]))<|Ak I<|xf<|Aa I<|AQ I I I I ?_
 refine wP I<|HM (c:=[.int .i64 0]) (ty:=266) tH I I I I I I I I I I (fun W1 hp=>hc.hp hp) ?_
 exact xf<|Aa I<|xc<|wR1 I I I
structure eN (p q r:Ax):Prop where
 s1:Sz2 q.1 p.1
 s2:Sz2 r.2 p.2
 s3:Sz2 q.2 p.2
 s4:Sz2 r.1 p.1
 m1:Sz2 (q.1-p.1) (r.2-p.2)
 m2:Sz2 (q.2-p.2) (r.1-p.1)
 o:Sz2 ((q.1-p.1)*(r.2-p.2)) ((q.2-p.2)*(r.1-p.1))
def Vl (p q r:Ax):Int:=CT ((q.1-p.1)*(r.2-p.2)) ((q.2-p.2)*(r.1-p.1))
theorem TP (c:Nat) (p q r:Ax) (hz:eN p q r) (W:World) (hc:DL W c) (hv:AH W) (ht:A9 W):
  Ae Tryz.prog 282 #[Ai c,cvV p,cvV q,cvV r] W (fun _:Unit=> .int .i64 (Vl p q r)) (fun _=>True) (fun _=>[]):=by
 refine Ab Tryz.func282 I I I<|xb<|wF I I fun _=>wF I I fun _=>wF I I fun _=>wP I<|xl<|zU<|Ay I<|qB 1 I I I<|qP I<|qB 0 I I I<|qC I I (fun W hp=>C8 c q.1 p.1 hz.s1 W (hc.hp hp) (hv.hp hp) (ht.hp hp))<|Ay I<|qB 2 I I I<|qP I<|qB 0 I I I<|qC I I (fun W hp=>C8 c r.2 p.2 hz.s2 W (hc.hp hp) (hv.hp hp) (ht.hp hp))<|Ay I<|?_
 refine zD<|xl<|zU<|Ay I<|qB 1 I I I<|qP I<|qB 0 I I I<|qC I I (fun W hp=>C8 c q.2 p.2 hz.s3 W (hc.hp hp) (hv.hp hp) (ht.hp hp))<|Ay I<|qB 2 I I I<|qP I<|qB 0 I I I<|qC I I (fun W hp=>C8 c r.1 p.1 hz.s4 W (hc.hp hp) (hv.hp hp) (ht.hp hp))<|Ay I<|zD<|xf<|?_
 exact At I<|wC I I (fun W hp=>CL c (q.1-p.1) (r.2-p.2) hz.m1 W (hc.hp hp) (hv.hp hp) (ht.hp hp))<|Ad I<|wC I I (fun W hp=>CL c (q.2-p.2) (r.1-p.1) hz.m2 W (hc.hp hp) (hv.hp hp) (ht.hp hp))<|wC I I (fun W hp=>EG c _ _ hz.o W (hc.hp hp) (hv.hp hp) (ht.hp hp))<|wP I<|xc<|wR1 I I I
def LN (p q:Ax):Int:=if CT p.1 q.1=0 then CT p.2 q.2 else CT p.1 q.1
theorem HL (p q:Rat):CT p q= -1\/CT p q=0\/CT p q=1:=by
 unfold CT
 split
 ·exact Or.inl I
 ·split
  ·exact Or.inr (Or.inl I)
  ·exact Or.inr (Or.inr I)
theorem SC (c:Nat) (p q:Ax) (h1:Sz2 p.1 q.1) (h2:Sz2 p.2 q.2) (W:World) (hc:DL W c) (hv:AH W) (ht:A9 W):
  Ae Tryz.prog 280 #[Ai c,cvV p,cvV q] W (fun _:Unit=> .int .i64 (LN p q)) (fun _=>True) (fun _=>[]):=by
 refine Ab Tryz.func280 I I I<|xb<|wF I I fun _=>wF I I fun _=>wP I<|xk<|Aa I<|wB 0 I I I<|wP I<|wB 1 I I I<|?_
 rcases HL p.1 q.1 with e|e|e
 ·exact wC I I (fun W hp=>(EG c p.1 q.1 h1 W (hc.hp hp) (hv.hp hp) (ht.hp hp)).cast (congrArg (Value.int .i64) e))<|wP I<|xf<|Aa I<|xa<|zR I<|xb<|Aa I<|xo<|wR1 I I (by rw[LN,e,if_neg (by decide)])
 ·refine wC I I (fun W hp=>(EG c p.1 q.1 h1 W (hc.hp hp) (hv.hp hp) (ht.hp hp)).cast (congrArg (Value.int .i64) e))<|wP I<|xf<|Aa I<|xa<|zS I<|xm<|Aa I<|wB 0 I I I<|wP I<|wB 1 I I I<|wC I I (fun W hp=>EG c p.2 q.2 h2 W (hc.hp hp) (hv.hp hp) (ht.hp hp))<|wP I<|xa<|?_
  exact zO<|wR1 I I (by rw[LN,if_pos e])
 ·exact wC I I (fun W hp=>(EG c p.1 q.1 h1 W (hc.hp hp) (hv.hp hp) (ht.hp hp)).cast (congrArg (Value.int .i64) e))<|wP I<|xf<|Aa I<|xa<|zR I<|xb<|Aa I<|xo<|wR1 I I (by rw[LN,e,if_neg (by decide)])
def He (q:Rat):Int:=if q.num=0 then 0 else if q.num<0 then -1 else 1
theorem Je (q:Rat):Be Tryz.prog 289 [str (Ac q)] (.int .i64 (He q)):=by
 intro W
 refine Ab Tryz.func289 I I I<|xb<|wP I<|xl<|zH<|xb<|Aa I<|wU 5 (decide (Ac q=[48])) I (AW _ _)<|wP I<|xa<|Ag I (fun h=> ?_) (fun h=> ?_)
 ·have h:q.num=0:=Fc.1 (of_decide_eq_true h)
  exact xb<|wP I<|xc<|zQ<|zP<|wR1 I I (by rw[He,if_pos h])
 have h: ¬q.num=0:=fun e=>of_decide_eq_false h (Fc.2 e)
 have hpre:=(Ln (z:=q.num) q.den_pos).1
 rw[Bj] at hpre
 obtain⟨c,hc⟩: ∃c,(Ac q)[0]? =some c:=by
  cases e:Ac q with
  |nil=>
   have:=congrArg List.length e
   unfold Ac F1 at this
   have h2:itoa q.num≠[]:=by unfold itoa;split;simp;exact F5 _
   split at this
   ·exact absurd (List.length_eq_zero_iff.1 this) h2
   ·rw[List.length_append] at this;simp at this
  |cons c t=>exact⟨c,rfl⟩
 have hc45:decide (c=45)=decide (q.num<0):=by
  rw[<-hpre]
  show _=decide ((Ac q)[0]? =some 45)
  exact decide_eq_decide.2 (by rw[hc];simp)
 refine xb<|wP I<|Bc 0 tH I I I I I I I I hc<|wP I<|wU 9 (decide (q.num<0)) I ((DK c 45).trans hc45)<|wP I<|xa<|Ag I (fun hn=> ?_) (fun hn=> ?_)
 ·have hn:q.num<0:=of_decide_eq_true hn
  exact xb<|wP I<|xc<|zQ<|zP<|wR1 I I (by rw[He,if_neg h,if_pos hn])
 ·have hn: ¬q.num<0:=of_decide_eq_false hn
  exact zI<|zN<|xn<|wP I<|xc<|wR1 I I (by rw[He,if_neg h,if_neg hn])
theorem Jv {z:Int} (h: ¬okN z):Mi z= .tuple #[str [], .int .i64 4]:=if_neg h
def opV (ok:Prop) [Decidable ok] (r:Rat):Value:=if ok then .tuple #[str (Ac r), .int .i64 0] else .tuple #[str [], .int .i64 4]
theorem O7 {ok:Prop} [Decidable ok] {r:Rat} (h:ok):opV ok r= .tuple #[str (Ac r), .int .i64 0]:=if_pos h
theorem UX {ok:Prop} [Decidable ok] {r:Rat} (h: ¬ok):opV ok r= .tuple #[str [], .int .i64 4]:=if_neg h
instance (z:Int):Decidable (okN z):=inferInstanceAs (Decidable (z.natAbs<Bw))
def JG (p q:Rat):Prop:=okN (p.num*(q.den:Nat))/\okN (q.num*(p.den:Nat))/\okN ((p.den:Nat)*(q.den:Nat))/\okN (p.num*(q.den:Nat)+q.num*(p.den:Nat))
instance (p q:Rat):Decidable (JG p q):=inferInstanceAs (Decidable (_/\_/\_/\_))
def If (p q:Rat):Prop:=okN (p.num*q.num)/\okN ((p.den:Nat)*(q.den:Nat))
def Ch (p q:Rat):Prop:=okN (p.num*(q.den:Nat))/\okN (q.num*(p.den:Nat))
instance (p q:Rat):Decidable (If p q):=inferInstanceAs (Decidable (_/\_))
instance (p q:Rat):Decidable (Ch p q):=inferInstanceAs (Decidable (_/\_))
def cmV (p q:Rat):Value:=if Ch p q then .tuple #[.int .i64 (CT p q), .int .i64 0] else .tuple #[.int .i64 0, .int .i64 4]
end
end Go.Proofs.YtlnjmcchddbogaaGreatDoor
