/-
  Lemmas that the theorem journalDamage_upto_card needs (part 4 of 8).
-/
import Derived.Test.YtidgbjcdppjknaaGreatDoorJdc
set_option maxHeartbeats 64000000
namespace Go.Proofs.YtidgbjcdppjknaaGreatDoor
section
open Go Go.RowKit Go.Am Go.Lib
set_option maxRecDepth 10000
def mns (x y c:Nat):Nat×Nat:=if y+c<=x then(x-y-c,0) else(x+bs-y-c,1)
def pls (x y c:Nat):Nat×Nat:=((x+y+c)%bs,(x+y+c)/bs)
theorem Sg (x y c:Nat) (hx:x<bs) (hy:y<bs) (hc:c<=1):Cd Tryz.prog 354 [.int .i64 (x:Nat), .int .i64 (y:Nat), .int .i64 (c:Nat)] (.tuple #[.int .i64 ((mns x y c).1:Nat), .int .i64 ((mns x y c).2:Nat)]):=by
 intro W
 have hxb:x<1000000000:=hx
 have hyb:y<1000000000:=hy
 have e0:w64 (w64 ((x:Int)-y)-c)=(x:Int)-y-c:=by
  rw[AC (x:=(x:Int)-y) (by omega) (by omega),AC (by omega) (by omega)]
 refine Ab Tryz.func354 I I I<|xb<|Aa I<|xa<|xd<|A8 I<|wV 13 ((x:Int)-y-c) I e0<|wP I<|xg<|Aa I<|zC<|?_
 refine zE<|Av I (fun h=> ?_) (fun h=> ?_)
 ·have h:y+c<=x:=by simp at h;omega
  refine xb<|Ae I<|xc<|zP<|wR2 I I ?_
  unfold mns
  rw[if_pos h]
  show Value.tuple #[.int .i64 ((x:Int)-y-c), .int .i64 0]= .tuple #[.int .i64 ((x-y-c:Nat):Int), .int .i64 0]
  rw[show(x:Int)-y-c=((x-y-c:Nat):Int) by omega]
 ·have h: ¬y+c<=x:=by simp at h;omega
  refine zI<|xe<|A8 I<|wV 21 ((x:Int)-y-c) I e0<|Ae I<|xc<|wR2 I I ?_
  unfold mns
  rw[if_neg h]
  show Value.tuple #[.int .i64 (w64 ((x:Int)-y-c+1000000000)), .int .i64 1]= .tuple #[.int .i64 ((x+bs-y-c:Nat):Int), .int .i64 1]
  rw[AC (by omega) (by omega),show(x:Int)-y-c+1000000000=((x+bs-y-c:Nat):Int) by show _=((x+1000000000-y-c:Nat):Int);omega]
theorem L6 {x y c:Nat} (hx:x<bs) (hy:y<bs) (hc:c<=1):(mns x y c).1<bs/\(mns x y c).2<=1/\(mns x y c).1+y+c=x+bs*(mns x y c).2:=by
 unfold mns
 split
 ·exact⟨by show x-y-c<bs;omega,Nat.zero_le _,by show x-y-c+y+c=x+bs*0;omega⟩
 ·exact⟨by show x+bs-y-c<bs;omega,Nat.le_refl _,by show x+bs-y-c+y+c=x+bs*1;omega⟩
theorem bN {x y c:Nat} (hx:x<bs) (hy:y<bs) (hc:c<=1):(pls x y c).1<bs/\(pls x y c).2<=1:=by
 refine⟨Nat.mod_lt _ (by decide), ?_⟩
 show(x+y+c)/bs<=1
 have:(x+y+c)/bs<2:=Nat.div_lt_of_lt_mul (by omega)
 omega
def CF (pf:Nat->Nat->Nat->Nat×Nat) (la lb:List Nat):Nat->List Nat×Nat
 |0=>([],0)
 |i+1=>((CF pf la lb i).1++[(pf (lim la i) (lim lb i) (CF pf la lb i).2).1],(pf (lim la i) (lim lb i) (CF pf la lb i).2).2)
theorem G1 (pf:Nat->Nat->Nat->Nat×Nat) (la lb:List Nat): ∀i,(CF pf la lb i).1.length=i
 |0=>rfl
 |i+1=>by show(_++[_]).length=_;rw[List.length_append,G1 pf la lb i];rfl
theorem Lz {pf:Nat->Nat->Nat->Nat×Nat} {la lb:List Nat} (hpf: ∀x y c,x<bs->y<bs->c<=1->(pf x y c).1<bs/\(pf x y c).2<=1) (ha: ∀x∈la,x<bs) (hb: ∀x∈lb,x<bs): ∀i,(∀x∈(CF pf la lb i).1,x<bs)/\(CF pf la lb i).2<=1
 |0=>⟨fun x hx=>(by cases hx),Nat.zero_le _⟩
 |i+1=>by
  obtain⟨h1,h2⟩:=Lz hpf ha hb i
  obtain⟨h3,h4⟩:=hpf (lim la i) (lim lb i) (CF pf la lb i).2 (CQ bs2 ha i) (CQ bs2 hb i) h2
  refine⟨fun x hx=> ?_,h4⟩
  rcases List.mem_append.1 hx with hx|hx
  ·exact h1 x hx
  ·obtain rfl:=List.mem_singleton.1 hx;exact h3
theorem Vk {a b m:Nat} (ha:a<bs^m) (hb:b<bs^m):lv bs (CF pls (lbs bs a) (lbs bs b) (m+1)).1=a+b:=by
 have h: ∀i,lv bs (CF pls (lbs bs a) (lbs bs b) i).1+bs^i*(CF pls (lbs bs a) (lbs bs b) i).2=a%bs^i+b%bs^i:=by
  intro i
  induction i with
  |zero=>show 0+bs^0*0=a%bs^0+b%bs^0;rw[Nat.pow_zero];omega
  |succ i ih=>exact VI (G1 _ _ _ i) ih (by rw[C1 bs2,C1 bs2])
 exact XE bs2 (h (m+1)) ha hb
theorem TO {a b m:Nat} (ha:a<bs^m) (hb:b<=a):lv bs (CF mns (lbs bs a) (lbs bs b) (m+1)).1=a-b:=by
 have hok:=fun i=>Lz (pf:=mns) (fun x y c h1 h2 h3=>⟨(L6 h1 h2 h3).1,(L6 h1 h2 h3).2.1⟩) (CC bs2 a) (CC bs2 b) i
 have h: ∀i,lv bs (CF mns (lbs bs a) (lbs bs b) i).1+b%bs^i=a%bs^i+bs^i*(CF mns (lbs bs a) (lbs bs b) i).2:=by
  intro i
  induction i with
  |zero=>show 0+b%bs^0=a%bs^0+bs^0*0;rw[Nat.pow_zero];omega
  |succ i ih=>
   refine SN (G1 _ _ _ i) ih ?_
   have:=(L6 (CQ bs2 (CC bs2 a) i) (CQ bs2 (CC bs2 b) i) (hok i).2).2.2
   rw[<-C1 bs2 b i, <-C1 bs2 a i]
   exact this
 refine Vj bs2 (G1 _ _ _ _) (hok (m+1)).1 (h (m+1)) (Nat.lt_of_lt_of_le ha (Nat.pow_le_pow_right (by decide) (by omega))) hb
theorem Iy (W:World) (p q:Option Addr) (cap cap2:Nat) (la lb:List Nat) (g:Nat) (pf:Nat->Nat->Nat->Nat×Nat) (hE:Bm Tryz.prog g=true)
  (hg: ∀x y c,x<bs->y<bs->c<=1->Cd Tryz.prog g [.int .i64 (x:Nat), .int .i64 (y:Nat), .int .i64 (c:Nat)] (.tuple #[.int .i64 ((pf x y c).1:Nat), .int .i64 ((pf x y c).2:Nat)]))
  (hpf: ∀x y c,x<bs->y<bs->c<=1->(pf x y c).1<bs/\(pf x y c).2<=1)
  (hA:AS W p la) (hB:AS W q lb) (hla: ∀x∈la,x<bs) (hlb: ∀x∈lb,x<bs) (hna:la.length<=1000000) (hnb:lb.length<=1000000) (o:List Nat) (ho:o=(CF pf la lb (max la.length lb.length+1)).1):
  Ag Tryz.prog 352 #[slv p la.length cap,slv q lb.length cap2, .func (.func g) #[] #[]] W (fun x:NV=>FB x (lbs bs (lv bs o)).length) (fun x=>Ip x (lbs bs (lv bs o))) (fun x=>[Gu x (lbs bs (lv bs o))]):=by
 obtain⟨m,hm⟩: ∃m,m=max la.length lb.length:=⟨_,rfl⟩
 have hmx:(if (lb.length:Int)>(la.length:Int) then(lb.length:Int) else(la.length:Int))=(m:Int):=by
  rw[hm];split<;>omega
 have hm6:m<=1000000:=by omega
 refine Ab Tryz.func352 I I I<|xb<|wP I<|xg<|wP I<|xg<|wP I<|xa<|xd<|A8 I<|?_
 refine wV 16 (m:Nat) I hmx<|wP I<|wV 17 ((m+1:Nat):Int) I (by show w64 ((m:Int)+1)=_;rw[AC (by omega) (by omega)];omega)<|M1 ?_
 refine wP I<|xa<|zH<|?_
 refine A6 (X:=Nat×Vec) (fun x=>[(0,slv p la.length cap),(1,slv q lb.length cap2),(2, .func (.func g) #[] #[]),(7,x.2.val x.1),(8, .int .i64 ((CF pf la lb x.1).2:Nat)),(17, .int .i64 ((m+1:Nat):Int)),(18, .int .i64 (x.1:Nat))]) (fun x=>[x.2.bx 3 (nI (CF pf la lb x.1).1)])
  (fun x=>x.1<=m+1/\x.2.OK 1 x.1 (nI (CF pf la lb x.1).1)) (fun x=>m+1-x.1) (0,Vec.empty) ⟨Nat.zero_le _,Vec.OK.empty 1⟩ ⟨rfl,rfl,rfl,rfl,rfl,rfl,rfl,trivial⟩ [] rfl ?_
 rintro⟨i,V⟩ ⟨hi,hV⟩
 obtain⟨h1,h2⟩:=Lz hpf hla hlb i
 have h3:=CQ bs2 hla i
 have h4:=CQ bs2 hlb i
 refine xb<|wP I<|xa<|zA<|Av I (fun hc=> ?_) (fun hc=> ?_)
 ·have hi':i<m+1:=by simp at hc;omega
  clear hc
  refine xh<|Aa I<|xg<|Ae I<|wC I I (fun W hp=>IE W p cap la i (hA.hp hp) (by omega))<|Aa I<|wC I I (fun W hp=>IE W q cap2 lb i (hB.hp hp) (by omega))<|wP I<|BK (capt:=[]) I I I I I I hE (fun W _=>hg _ _ _ h3 h4 h2 W)<|A8 I<|?_
  refine xa<|zB<|Aa I<|?_
  (refine Ai Tryz.hZ tH rfl rfl rfl rfl rfl rfl rfl rfl rfl rfl rfl ?_;intro)
  refine AA (V:=V) (len:=i) (xs:=nI (CF pf la lb i).1) 0 1 Tryz.vec43 (i+1) (nI (CF pf la lb (i+1)).1) I I I I I I I I I I I hV I I I (Tr (CF pf la lb i).1 [(pf (lim la i) (lim lb i) (CF pf la lb i).2).1]).symm (by simp only[maxLen];omega) (by omega) I ?_
  intro g' cap' junk hV'
  exact Ae I<|zC<|xj<|Aa I<|zC<|Ax (i+1,(⟨some g',cap',junk⟩:Vec)) ⟨hi',hV'⟩ (by show m+1-(i+1)<m+1-i;omega) ⟨I,I,I,I,I,I,congrArg (fun z=>some (Value.int .i64 z)) (BO (x:=(i:Int)+1) (by omega) (by omega)),tO⟩ [_] I
 ·have hi':i=m+1:=by simp at hc;omega
  subst hi'
  rw[<-hm] at ho
  subst ho
  have hl:(CF pf la lb (m+1)).1.length=m+1:=G1 _ _ _ _
  refine xf<|xe<|?_
  obtain⟨pV,cV,jV⟩:=V
  cases pV with
  |none=>exact absurd (hV.nil rfl) (by omega)
  |some gV=>
  have hV0:(⟨some gV,cV,jV⟩:Vec).OK 1 (CF pf la lb (m+1)).1.length (nI (CF pf la lb (m+1)).1):=by rw[hl];exact hV
  obtain⟨j',hV2,he⟩:=Gl hV0 h1
  exact wP I<|Ao 39 (slv (some ⟨gV,0,none⟩) (CF pf la lb (m+1)).1.length cV) I (by rw[hl];rfl)<|wC I I (fun W hp=>Dd W _ cV _ (AS.of_bx hp 0 I) h1 (by rw[hl];exact(hV.cap (by simp)).1) (by rw[hl];omega))<|wP I<|xc<|Ar tH I (.tmp I) ((gV,cV,j'):NV) I hV2 fun W hp=>As.of_hp1 hp 0 (by show some (⟨gV,3,nI (CF pf la lb (m+1)).1++jV,true,none⟩:Bx)=some ⟨gV,3,nI (lbs bs (lv bs (CF pf la lb (m+1)).1))++j',true,none⟩;rw[he])
theorem PE (n:Int) (hlen:(decDigits n.natAbs).length<=300):Cd Tryz.prog 330 [str (itoa n)] (.int .i64 0):=by
 intro W
 refine Ab Tryz.func330 I I I<|xb<|wP I<|xg<|wP I<|wC I I (fun W _=>CE (itoa n) [45] W)<|Ao 5 (str (decDigits n.natAbs)) I (by rw[Ce])<|wP I<|xa<|xd<|Aa I<|?_
 obtain⟨b,rest,hd,hb1,hb2⟩:=Dc n.natAbs
 have hne:((⟨(decDigits n.natAbs).toArray⟩:ByteArray).toList==(⟨#[]⟩:ByteArray).toList)=false:=by
  rw[AL,AL []];simp[Hd]
 refine wU 7 false I hne<|Aa I<|CA 0 tH I I I I I I I I (by rw[hd];rfl)<|wP I<|?_
 have hlen63:(decDigits n.natAbs).length<=9223372036854775807:=by omega
 by_cases hn:n=0
 ·have hb:b.toNat=48:=by
   rw[hn,show Int.natAbs 0=0 from rfl,FK] at hd
   injection hd with hd _
   rw[<-hd];rfl
  refine wU 11 true I (by rw[hb];rfl)<|Ae I<|wU 14 false I (by rw[hn,NX];simp)<|A3 I<|wC I I (fun W _=>I9 (decDigits n.natAbs) hlen63 W)<|Ao 19 (str []) I (by rw[UD])<|wP I<|wU 20 false I (by simp)<|wP I<|xa<|zS I<|zI<|zE<|xd<|Ae I<|?_
  refine xa<|?_
  refine Bi 24 (.bool false) I (congrArg Value.bool (by
   show decide (((⟨(decDigits n.natAbs).toArray⟩:ByteArray).size:Int)>300)=false
   have e:(⟨(decDigits n.natAbs).toArray⟩:ByteArray).size=(decDigits n.natAbs).length:=by show(decDigits n.natAbs).toArray.size=_;simp
   rw[e,decide_eq_false_iff_not];omega)) ?_
  exact zS I<|zI<|xe<|wP I<|xc<|wR1 I I I
 ·have hb:b.toNat≠48:=by
   obtain⟨b',r',e1,e2⟩:=Ph n.natAbs (by omega)
   rw[hd] at e1
   injection e1 with e1 _
   rw[e1];exact e2
  refine wU 11 false I (by rw[beq_eq_false_iff_ne];omega)<|wP I<|?_
  iterate 2 refine Ac I I ?_
  refine A3 I<|wC I I (fun W _=>I9 (decDigits n.natAbs) hlen63 W)<|Ao 19 (str []) I (by rw[UD])<|wP I<|wU 20 false I (by simp)<|wP I<|xa<|zS I<|zI<|zE<|xd<|Ae I<|xa<|?_
  refine Bi 24 (.bool false) I (congrArg Value.bool (by
   show decide (((⟨(decDigits n.natAbs).toArray⟩:ByteArray).size:Int)>300)=false
   have e:(⟨(decDigits n.natAbs).toArray⟩:ByteArray).size=(decDigits n.natAbs).length:=by show(decDigits n.natAbs).toArray.size=_;simp
   rw[e,decide_eq_false_iff_not];omega)) ?_
  exact zS I<|zI<|xe<|wP I<|xc<|wR1 I I I
def okN (z:Int):Prop:=z.natAbs<BN
theorem okN.dd {z:Int} (h:okN z):(decDigits z.natAbs).length<=300:=K6.2 h
theorem okN.check {z:Int} (h:okN z):Cd Tryz.prog 330 [str (itoa z)] (.int .i64 0):=PE z h.dd
theorem H9 (a b:Int) (ha:okN a) (hb:okN b):Cd Tryz.prog 309 [str (itoa a),str (itoa b)] (.int .i64 0):=by
 intro W
 refine Ab Tryz.func309 I I I<|xb<|wP I<|xa<|xd<|wP I<|wC I I (fun W _=>ha.check W)<|wP I<|xg<|Aa I<|xa<|zS I<|zI<|zE<|zA<|?_
 exact zB<|wP I<|wC I I (fun W _=>hb.check W)<|wP I<|xc<|wR1 I I I
theorem MM (n:Int):n.natAbs<10^(itoa n).length:=by
 unfold itoa
 split
 ·have:=Sa n.natAbs
  rw[List.length_cons,Nat.pow_succ]
  omega
 ·have:=Sa n.toNat
  rw[show n.natAbs=n.toNat by omega];exact this
theorem SQ {n:Int} {k:Nat} (h:(itoa n).length<=k):n.natAbs<10^k:=Nat.lt_of_lt_of_le (MM n) (Nat.pow_le_pow_right (by decide) h)
theorem Lg {n:Int} (h:(itoa n).length<=18): -1000000000000000000<n/\n<1000000000000000000:=by
 have:=SQ h
 have h2:n.natAbs<1000000000000000000:=this
 omega
theorem QI (n:Int):0<(itoa n).length:=by
 unfold itoa
 split
 ·simp
 ·have:=Hd n.toNat
  exact List.length_pos_iff.2 this
theorem IU (a b:Int) (ha:(itoa a).length<=18) (hb:(itoa b).length<=18):Cd Tryz.prog 310 [str (itoa a),str (itoa b), .int .i64 18] (.tuple #[.int .i64 a, .int .i64 b, .bool true]):=by
 intro W
 obtain⟨a1,a2⟩:=Lg ha
 obtain⟨b1,b2⟩:=Lg hb
 refine Ab Tryz.func310 I I I<|xb<|Ae I<|xa<|xd<|A3 I<|wU 16 false I (by show decide (((⟨(itoa a).toArray⟩:ByteArray).size:Int)>18)=false;rw[A5,decide_eq_false_iff_not];omega)<|A8 I<|wU 21 false I (by show decide (((⟨(itoa b).toArray⟩:ByteArray).size:Int)>18)=false;rw[A5,decide_eq_false_iff_not];omega)<|wP I<|zC<|?_
 refine zE<|zS I<|zI<|xe<|wP I<|wC I I (fun W _=>LM a (by omega) (by omega) W)<|A8 I<|xg<|wP I<|wC I I (fun W _=>LM b (by omega) (by omega) W)<|A8 I<|?_
 refine xa<|zA<|zU<|Ct I<|Ov I I I I I ?_
 refine AO I<|Ov I I I I I ?_
 exact E7 I<|zD<|xc<|wR3 I I I
theorem N9 (a b:Int) (h: ¬((itoa a).length<=18/\(itoa b).length<=18)):Cd Tryz.prog 310 [str (itoa a),str (itoa b), .int .i64 18] (.tuple #[.int .i64 0, .int .i64 0, .bool false]):=by
 intro W
 refine Ab Tryz.func310 I I I<|xb<|Ae I<|xa<|xd<|A3 I<|?_
 by_cases ha:(itoa a).length<=18
 ·have hb: ¬(itoa b).length<=18:=fun hb=>h ⟨ha,hb⟩
  exact wU 16 false I (by show decide (((⟨(itoa a).toArray⟩:ByteArray).size:Int)>18)=false;rw[A5,decide_eq_false_iff_not];omega)<|A8 I<|wU 21 true I (by show decide (((⟨(itoa b).toArray⟩:ByteArray).size:Int)>18)=true;rw[A5,decide_eq_true_iff];omega)<|wP I<|xa<|zR I<|xb<|Ae I<|xc<|zP<|wR3 I I I
 ·refine wU 16 true I (by show decide (((⟨(itoa a).toArray⟩:ByteArray).size:Int)>18)=true;rw[A5,decide_eq_true_iff];omega)<|wP I<|?_
  iterate 4 refine Ac I I ?_
  exact wP I<|xa<|zR I<|xb<|Ae I<|xc<|zP<|wR3 I I I
theorem VN: ∀k,mxd<=9*k->BN<=bs^k:=fun k hk=>by
 have h:bs^k=10^(9*k):=by rw[show bs=10^9 by decide, <-Nat.pow_mul]
 rw[h]
 unfold BN
 exact Nat.pow_le_pow_right (by decide) hk
theorem Hx {m:Nat} (h:m<BN):(lbs bs m).length<=34:=(El bs2).2 (Nat.lt_of_lt_of_le h (VN 34 (by decide)))
theorem Wf (z:Int): ∃s e,P3 z= .tuple #[str s, .int .i64 e]:=by
 unfold P3
 split
 ·exact⟨_,_,I⟩
 ·exact⟨_,_,I⟩
theorem Uy {z:Int} (h:okN z):P3 z= .tuple #[str (itoa z), .int .i64 0]:=if_pos h
theorem a8 {z:Int} (h:z.natAbs<10^20):okN z:=Nat.lt_of_lt_of_le h (Nat.pow_le_pow_right (by decide) (show 20<=mxd by decide))
theorem KY (a:Int):sg (decide (a<0)) a.natAbs=a:=by
 unfold sg
 by_cases h:a<0
 ·rw[dT h,if_pos rfl];omega
 ·rw[dF h,if_neg (by decide)];omega
theorem bJ (a b:Int):sg (decide (a<0) !=decide (b<0)) (a.natAbs*b.natAbs)=a*b:=by
 have e1:=KY a
 have e2:=KY b
 conv=>rhs;rw[<-e1, <-e2]
 unfold sg
 by_cases ha:a<0<;>by_cases hb:b<0<;>simp[ha,hb,Int.neg_mul,Int.mul_neg]
theorem RL (W:World) (p q:Option Addr) (cap cap2 a b:Nat) (hA:AS W p (lbs bs a)) (hB:AS W q (lbs bs b)) (hna:(lbs bs a).length<=1000000) (hnb:(lbs bs b).length<=1000000):
  Ag Tryz.prog 352 #[slv p (lbs bs a).length cap,slv q (lbs bs b).length cap2, .func (.func 353) #[] #[]] W (fun x:NV=>FB x (lbs bs (a+b)).length) (fun x=>Ip x (lbs bs (a+b))) (fun x=>[Gu x (lbs bs (a+b))]):=by
 have h:=Iy W p q cap cap2 (lbs bs a) (lbs bs b) 353 pls (by kernel_rfl) (fun x y c h1 h2 h3=>TF x y c h1 h2 h3) (fun x y c h1 h2 h3=>bN h1 h2 h3) hA hB (CC bs2 a) (CC bs2 b) hna hnb _ rfl
 rw[Vk (m:=max (lbs bs a).length (lbs bs b).length) (Nat.lt_of_lt_of_le (Bq bs2 a) (Nat.pow_le_pow_right (by decide) (Nat.le_max_left ..))) (Nat.lt_of_lt_of_le (Bq bs2 b) (Nat.pow_le_pow_right (by decide) (Nat.le_max_right ..)))] at h
 exact h
theorem Jg (W:World) (p q:Option Addr) (cap cap2 a b:Nat) (hA:AS W p (lbs bs a)) (hB:AS W q (lbs bs b)) (hna:(lbs bs a).length<=1000000) (hnb:(lbs bs b).length<=1000000) (hab:b<=a):
  Ag Tryz.prog 352 #[slv p (lbs bs a).length cap,slv q (lbs bs b).length cap2, .func (.func 354) #[] #[]] W (fun x:NV=>FB x (lbs bs (a-b)).length) (fun x=>Ip x (lbs bs (a-b))) (fun x=>[Gu x (lbs bs (a-b))]):=by
 have h:=Iy W p q cap cap2 (lbs bs a) (lbs bs b) 354 mns (by kernel_rfl) (fun x y c h1 h2 h3=>Sg x y c h1 h2 h3) (fun x y c h1 h2 h3=>⟨(L6 h1 h2 h3).1,(L6 h1 h2 h3).2.1⟩) hA hB (CC bs2 a) (CC bs2 b) hna hnb _ rfl
 rw[TO (m:=max (lbs bs a).length (lbs bs b).length) (Nat.lt_of_lt_of_le (Bq bs2 a) (Nat.pow_le_pow_right (by decide) (Nat.le_max_left ..))) hab] at h
 exact h
abbrev H8 (b:Nat) (mi:Bool) (p:Option Addr) (n cap:Nat):Bx:=⟨b,388,[.bool mi,slv p n cap],true,none⟩
theorem S8 (W:World) (p q:Option Addr) (cap cap2 a b:Nat) (mi mj:Bool) (hA:AS W p (lbs bs a)) (hB:AS W q (lbs bs b)) (hna:(lbs bs a).length<=1000000) (hnb:(lbs bs b).length<=1000000):
  Ag Tryz.prog 345 #[.agg #[.bool mi,slv p (lbs bs a).length cap], .agg #[.bool mj,slv q (lbs bs b).length cap2]] W (fun x:Bool×Nat×NV=> .agg #[.bool x.1,FB x.2.2 (lbs bs x.2.1).length]) (fun x=>sg x.1 x.2.1=sg mi a+sg mj b/\Ip x.2.2 (lbs bs x.2.1)/\x.2.1<=a+b) (fun x=>[Gu x.2.2 (lbs bs x.2.1)]):=by
 refine Ab Tryz.func345 I I I<|xb<|wF I I fun _=>wF I I fun _=>wG I I fun _=>zC<|?_
 rename_i b2 b3 b4
 refine zE<|zA<|zH<|xb<|wP I<|wB 0 I I I<|wP I<|wB 1 I I I<|Kf Tryz.underlying4 I I I I I I ?_
 refine wP I<|xa<|?_
 by_cases hm:mi=mj
 ·refine Bi 5 (.bool true) I (congrArg Value.bool (by rw[hm];simp)) ?_
  refine zR I<|zA<|?_
  refine Bh (X:= { x:NV//Ip x (lbs bs (a+b)) }) [true,true,true,true,true,true,false,false,false] (fun _=>[(4,Af b4)]) (fun x=>[H8 b2 mi p (lbs bs a).length cap,H8 b3 mj q (lbs bs b).length cap2,H8 b4 mi (some ⟨x.1.1,0,none⟩) (lbs bs (a+b)).length x.1.2.1,Gu x.1 (lbs bs (a+b))])
   3 [H8 b2 mi p (lbs bs a).length cap,H8 b3 mj q (lbs bs b).length cap2,CN] Tryz.mixed (by kernel_rfl) ?_ ?_
  ·refine qP I<|qB 0 I I I<|qP I<|qB 0 I I I<|qP I<|qB 1 I I I<|Cp<|wX<|wZ<|wD (X:=NV) I I (fun W' hp=>RL W' p q cap cap2 a b (hA.hp hp) (hB.hp hp) hna hnb) (fun x hx=> ?_)
   refine zC<|Aw<|wX<|wZ<|Ak Tryz.hZ tH I I I I I I I I ?_
   refine zC<|Aw<|wX<|wZ<|wS 2 I I I<|zC<|Aw<|?_
   refine B6 I (by((repeat (first|refine B3.same ?_|refine B3.off I ?_));exact tO)) ?_
   exact AR (⟨x,hx⟩: { x:NV//Ip x (lbs bs (a+b)) }) ⟨I,tO⟩ [0,1,2,3] (by decide) I
  rintro⟨x,hx⟩
  exact zE<|zO<|zQ<|zP<|Ar tH rfl (.cell 2 rfl rfl rfl rfl rfl) (mi,a+b,x) rfl ⟨by subst hm;cases mi<;>simp[sg]<;>omega,hx,Nat.le_refl _⟩ fun W' hp=>As.of_hp1 hp 3 rfl
 ·refine Bi 5 (.bool false) I (congrArg Value.bool (by simp[hm])) ?_
  refine zS I<|xb<|wP I<|wB 0 I I I<|wP I<|wB 1 I I I<|wD (X:=Int) I I (fun W' hp=>Is W' p q cap cap2 a b (hA.hp hp) (hB.hp hp) hna hnb) ?_
  intro c hc
  refine Aa I<|xa<|?_
  by_cases hab:b<=a
  ·refine Bi 19 (.bool true) I (congrArg Value.bool (dT (by
    rcases Nat.lt_or_ge b a with h|h
    ·have h1:=hc.1;have h2:=hc.2;omega
    ·have h2:=hc.2.2 (by omega);omega))) ?_
   refine zR I<|zA<|?_
   refine Bh (X:= { x:NV//Ip x (lbs bs (a-b)) }) [true,true,true,true,true,true,false,false,false] (fun _=>[(4,Af b4)]) (fun x=>[H8 b2 mi p (lbs bs a).length cap,H8 b3 mj q (lbs bs b).length cap2,H8 b4 mi (some ⟨x.1.1,0,none⟩) (lbs bs (a-b)).length x.1.2.1,Gu x.1 (lbs bs (a-b))])
    3 [H8 b2 mi p (lbs bs a).length cap,H8 b3 mj q (lbs bs b).length cap2,CN] Tryz.mixed (by kernel_rfl) ?_ ?_
   ·refine qP I<|qB 0 I I I<|qP I<|qB 0 I I I<|qP I<|qB 1 I I I<|Cp<|wX<|wZ<|wD (X:=NV) I I (fun W' hp=>Jg W' p q cap cap2 a b (hA.hp hp) (hB.hp hp) hna hnb hab) (fun x hx=> ?_)
    refine zC<|Aw<|wX<|wZ<|Ak Tryz.hZ tH I I I I I I I I ?_
    refine zC<|Aw<|wX<|wZ<|wS 2 I I I<|zC<|Aw<|?_
    refine B6 I (by((repeat (first|refine B3.same ?_|refine B3.off I ?_));exact tO)) ?_
    exact AR (⟨x,hx⟩: { x:NV//Ip x (lbs bs (a-b)) }) ⟨I,tO⟩ [0,1,2,3] (by decide) I
   rintro⟨x,hx⟩
   exact zE<|zO<|zQ<|zP<|Ar tH rfl (.cell 2 rfl rfl rfl rfl rfl) (mi,a-b,x) rfl ⟨by cases mi<;>cases mj<;>simp_all [sg]<;>omega,hx,by show a-b<=a+b;omega⟩ fun W' hp=>As.of_hp1 hp 3 rfl
  ·refine Bi 19 (.bool false) I (congrArg Value.bool (dF (by have h1:=hc.1.2 (by omega);omega))) ?_
   refine zS I<|zI<|zN<|zE<|zA<|?_
   refine Bh (X:= { x:NV//Ip x (lbs bs (b-a)) }) [true,true,true,true,true,true,false,false,false] (fun _=>[(4,Af b4)]) (fun x=>[H8 b2 mi p (lbs bs a).length cap,H8 b3 mj q (lbs bs b).length cap2,H8 b4 mj (some ⟨x.1.1,0,none⟩) (lbs bs (b-a)).length x.1.2.1,Gu x.1 (lbs bs (b-a))])
    3 [H8 b2 mi p (lbs bs a).length cap,H8 b3 mj q (lbs bs b).length cap2,CN] Tryz.mixed (by kernel_rfl) ?_ ?_
   ·refine qP I<|qB 1 I I I<|qP I<|qB 1 I I I<|qP I<|qB 0 I I I<|Cp<|wX<|wZ<|wD (X:=NV) I I (fun W' hp=>Jg W' q p cap2 cap b a (hB.hp hp) (hA.hp hp) hnb hna (by omega)) (fun x hx=> ?_)
    refine zC<|Aw<|wX<|wZ<|Ak Tryz.hZ tH I I I I I I I I ?_
    refine zC<|Aw<|wX<|wZ<|wS 2 I I I<|zC<|Aw<|?_
    refine B6 I (by((repeat (first|refine B3.same ?_|refine B3.off I ?_));exact tO)) ?_
    exact AR (⟨x,hx⟩: { x:NV//Ip x (lbs bs (b-a)) }) ⟨I,tO⟩ [0,1,2,3] (by decide) I
   rintro⟨x,hx⟩
   exact zE<|zO<|Ar tH rfl (.cell 2 rfl rfl rfl rfl rfl) (mj,b-a,x) rfl ⟨by cases mi<;>cases mj<;>simp_all [sg]<;>omega,hx,by show b-a<=a+b;omega⟩ fun W' hp=>As.of_hp1 hp 3 rfl
theorem aE (a b:Nat):(lbs bs (a*b)).length<=(lbs bs a).length+(lbs bs b).length:=(El bs2).2 (by
 rw[Nat.pow_add]
 exact Nat.mul_lt_mul'' (Bq bs2 a) (Bq bs2 b))
theorem Va {a b i j k:Nat} (ha:a<10^i) (hb:b<10^j) (h:i+j<=k):a*b<10^k:=by
 have h1:a*b<10^i*10^j:=Nat.mul_lt_mul'' ha hb
 rw[<-Nat.pow_add] at h1
 exact Nat.lt_of_lt_of_le h1 (Nat.pow_le_pow_right (by decide) h)
theorem M4 (a b:Int) (ha:okN a) (hb:okN b) (W:World) (ht:AZ W):
  Ag Tryz.prog 344 #[str (itoa a),str (itoa b)] W (fun _:Unit=>P3 (a*b)) (fun _=>True) (fun _=>[]):=by
 have hla:=Hx ha
 have hlb:=Hx hb
 refine Ab Tryz.func344 I I I<|xb<|Aa I<|xa<|xd<|Aa I<|wC I I (fun W _=>H9 a b ha hb W)<|wP I<|xg<|Aa I<|xa<|zS I<|zI<|?_
 refine zE<|xd<|Aa I<|Ao 19 (.int .i64 ((itoa a).length:Nat)) I (congrArg (fun n:Nat=>Value.int .i64 (n:Int)) (A5 _))<|Aa I<|Ao 21 (.int .i64 ((itoa b).length:Nat)) I (congrArg (fun n:Nat=>Value.int .i64 (n:Int)) (A5 _))<|?_
 have hia:(itoa a).length<=301:=by
  have:=ha.dd
  unfold itoa
  split
  ·rw[List.length_cons];omega
  ·rw[show a.toNat=a.natAbs by omega];omega
 have hib:(itoa b).length<=301:=by
  have:=hb.dd
  unfold itoa
  split
  ·rw[List.length_cons];omega
  ·rw[show b.toNat=b.natAbs by omega];omega
 refine wP I<|wV 22 (((itoa a).length+(itoa b).length:Nat):Int) I (B1 (by omega))<|wP I<|xa<|?_
 by_cases hs:(itoa a).length+(itoa b).length<=18
 ·have hpa:=QI a
  have hpb:=QI b
  have hm:(a*b).natAbs<10^18:=by
   rw[Int.natAbs_mul]
   exact Va (MM a) (MM b) hs
  have hm':(a*b).natAbs<1000000000000000000:=hm
  refine Bi 23 (.bool true) I (congrArg Value.bool (dT (by omega))) ?_
  refine zR I<|xb<|Aa I<|wC I I (fun W _=>IU a b (by omega) (by omega) W)<|Bb I<|wP I<|xg<|wP I<|xa<|zR I<|xb<|Ae I<|?_
  exact wV 34 (a*b) I (AC (by omega) (by omega))<|wC I I (fun W hp=>AF (a*b) (by omega) (by omega) W (ht.hp hp))<|Aa I<|xc<|zP<|An tH I (.tmp I) (.tmp I) () (Uy (a8 (Nat.lt_trans hm (by decide)))).symm tO fun W _=>As.nil _ _
 ·refine Bi 23 (.bool false) I (congrArg Value.bool (dF (by omega))) ?_
  refine zS I<|zI<|xe<|?_
  obtain⟨s,e,hres⟩:=Wf (a*b)
  refine wP I ?_
  refine wD (X:=NV) I I (fun W _=>E3 W a (by have:=ha.dd;omega)) ?_
  rintro⟨g1,c1,j1⟩ hV1
  refine wP I ?_
  refine wD (X:=NV) I I (fun W _=>E3 W b (by have:=hb.dd;omega)) ?_
  rintro⟨g2,c2,j2⟩ hV2
  refine wG I I fun _=>wG I I fun _=>wS 2 I I I<|wS 3 I I I<|zC<|?_
  rename_i b10 b11
  refine zE<|zA<|?_
  refine Bh (X:=Unit) [true,true,true,true,true,true,true,true,true,false,false,false,false,false,false,false] (fun _=>[(4,str s),(5, .int .i64 e)]) (fun _=>[])
   7 [Gu (g1,c1,j1) (lbs bs a.natAbs),Gu (g2,c2,j2) (lbs bs b.natAbs),H8 b10 (decide (a<0)) (some ⟨g1,0,none⟩) (lbs bs a.natAbs).length c1,H8 b11 (decide (b<0)) (some ⟨g2,0,none⟩) (lbs bs b.natAbs).length c2] Tryz.mixed (by kernel_rfl) ?_ ?_
  ·refine qP I<|qB 2 I I I<|qP I<|qB 3 I I I<|bH Tryz.underlying4 I I I I I I ?_
   refine qP I<|qB 2 I I I<|qP I<|qB 3 I I I<|Cp<|wX<|wZ<|wD (X:=NV) I I (fun W' hp=>KD W' _ _ c1 c2 a.natAbs b.natAbs (AS.of_bx hp 0 I) (AS.of_bx hp 1 I) (by omega) (by omega)) (fun x hx=> ?_)
   refine zC<|Aw<|wX<|wZ<|Ak Tryz.hZ tH I I I I I I I I ?_
   refine zC<|Aw<|wX<|wZ<|wC I I (fun W' hp=>(JG W' (some ⟨x.1,0,none⟩) x.2.1 (decide (a<0) !=decide (b<0)) (a.natAbs*b.natAbs) (AS.of_bx hp 4 I) (by have:=aE a.natAbs b.natAbs;omega) (ht.hp hp)).cast (by rw[bJ,hres]))<|zC<|Aw<|wX<|RS.cons ?_ (RS.cons ?_ (RS.nil))
   ·refine wP I<|zC<|Aw<|wX<|wZ<|wP I<|zC<|Aw<|wX<|wZ<|wP I<|zC<|Aw<|wX<|wZ<|wP I<|zC<|Aw<|?_
    refine B6 I (by((repeat (first|refine B3.same ?_|refine B3.off I ?_));exact tO)) ?_
    exact AR () ⟨I,I,tO⟩ [] (by decide) I
   ·refine wP I<|zC<|Aw<|wX<|wZ<|wP I<|zC<|Aw<|wX<|wZ<|wP I<|zC<|Aw<|wX<|wZ<|wP I<|zC<|Aw<|?_
    refine B6 I (by((repeat (first|refine B3.same ?_|refine B3.off I ?_));exact tO)) ?_
    exact AR () ⟨I,I,tO⟩ [] (by decide) I
  intro _
  exact zE<|zO<|wR2 I I hres.symm
theorem bT (mi:Bool) (m:Nat):sg (!mi) m= -sg mi m:=by cases mi<;>simp[sg]
def Nl (a b:Int):Int:=if a<b then -1 else if a=b then 0 else 1
theorem MX (a b:Int):compareInt a b=Nl a b:=by
 unfold compareInt Nl
 repeat split
 all_goals first|rfl|omega
theorem Mc (a b:Int):Cd Tryz.prog 319 [.int .i64 a, .int .i64 b] (.int .i64 (Nl a b)):=by
 intro W
 refine Ag.of1 ((Tryz.cmp_Compare_int a b W).mono ?_)
 rintro e w' ⟨rfl,rfl⟩
 exact⟨by rw[MX],Below.refl _ _⟩
theorem Mb (a b:Int) (ha:okN a) (hb:okN b) (W:World):
  Ag Tryz.prog 329 #[str (itoa a),str (itoa b)] W (fun _:Unit=> .tuple #[.int .i64 (Nl a b), .int .i64 0]) (fun _=>True) (fun _=>[]):=by
 have hla:=Hx ha
 have hlb:=Hx hb
 refine Ab Tryz.func329 I I I<|xb<|Aa I<|xa<|xd<|Aa I<|wC I I (fun W _=>H9 a b ha hb W)<|wP I<|xg<|Aa I<|xa<|zS I<|zI<|?_
 refine zE<|xd<|Aa I<|?_
 by_cases hs:(itoa a).length<=18/\(itoa b).length<=18
 ·refine wC I I (fun W _=>IU a b hs.1 hs.2 W)<|Bb I<|wP I<|xg<|wP I<|xa<|zR I<|xb<|Aa I<|wC I I (fun W _=>Mc a b W)<|Aa I<|zC<|?_
  exact zE<|zO<|zP<|wR2 I I I
 ·refine wC I I (fun W _=>N9 a b hs W)<|Bb I<|wP I<|xg<|wP I<|xa<|zS I<|zI<|xe<|wP I<|?_
  refine wD (X:=NV) I I (fun W _=>E3 W a (by have:=ha.dd;omega)) ?_
  rintro⟨g1,c1,j1⟩ hV1
  refine wP I ?_
  refine wD (X:=NV) I I (fun W _=>E3 W b (by have:=hb.dd;omega)) ?_
  rintro⟨g2,c2,j2⟩ hV2
  refine wG I I fun _=>wG I I fun _=>wS 2 I I I<|wS 3 I I I<|zC<|?_
  rename_i b10 b11
  refine xe<|wP I<|wB 3 I I I<|Aa I<|wS 3 I I I<|xa<|xd<|wB 2 I I I<|wB 3 I I I<|wD (X:=Bool×Nat×NV) I I (fun W' hp=>S8 W' _ _ c1 c2 a.natAbs b.natAbs (decide (a<0)) (!(decide (b<0))) (AS.of_bx hp 0 I) (AS.of_bx hp 1 I) (by omega) (by omega)) ?_
  rintro⟨mk,k,x⟩ ⟨hk1,hk2,hk3⟩
  have hk1:sg mk k=sg (decide (a<0)) a.natAbs+sg (!(decide (b<0))) b.natAbs:=hk1
  rw[KY,bT,KY] at hk1
  refine wG I I fun _=>wS 5 I I I<|zC<|?_
  rename_i b12
  refine zE<|zH<|xb<|wP I<|wB 5 I I I<|Ae I<|xa<|?_
  by_cases hz:k=0
  ·have hab:a=b:=by subst hz;rw[UT] at hk1;omega
   refine Bi 41 (.bool true) I (congrArg Value.bool (by rw[hz,Di];rfl)) ?_
   exact zR I<|xb<|Aa I<|xc<|zQ<|zP<|wR2 I I (by unfold Nl;rw[if_neg (by omega),if_pos hab])
  ·have h0:=M7 hz
   refine Bi 41 (.bool false) I (congrArg Value.bool (by rw[beq_eq_false_iff_ne];show((lbs bs k).length:Int)≠0;omega)) ?_
   refine zS I<|xb<|wP I<|wB 5 I I I<|wP I<|xa<|?_
   cases mk with
   |true=>
    have hab:a<b:=by
     have:sg true k= -(k:Int):=rfl
     omega
    exact zR I<|xb<|Aa I<|xc<|zQ<|zP<|wR2 I I (by unfold Nl;rw[if_pos hab])
   |false=>
    have hab:b<a:=by
     have:sg false k=(k:Int):=rfl
     omega
    exact zS I<|zI<|zN<|xe<|Aa I<|xc<|wR2 I I (by unfold Nl;rw[if_neg (by omega),if_neg (by omega)])
theorem XG (x y:Int):Int.gcd y (x.tmod y)=Int.gcd x y:=by
 unfold Int.gcd
 rw[Int.natAbs_tmod,Nat.gcd_comm x.natAbs,Nat.gcd_rec y.natAbs x.natAbs,Nat.gcd_comm]
theorem cJ {a b:Int} {n:Nat} (ha:a.natAbs<n) (hb:b.natAbs<n):Int.gcd a b<n:=by
 unfold Int.gcd
 by_cases h:a.natAbs=0
 ·rw[h,Nat.gcd_zero_left];exact hb
 ·exact Nat.lt_of_le_of_lt (Nat.gcd_le_left _ (by omega)) ha
theorem T4 (a b:Int) (ha:okN a) (hb:okN b) (W:World) (ht:AZ W):
  Ag Tryz.prog 284 #[str (itoa a),str (itoa b)] W (fun _:Unit=> .tuple #[str (decDigits (Int.gcd a b)), .int .i64 0]) (fun _=>True) (fun _=>[]):=by
 have hla:=Hx ha
 have hlb:=Hx hb
 refine Ab Tryz.func284 I I I<|xb<|Aa I<|xa<|xd<|Aa I<|wC I I (fun W _=>H9 a b ha hb W)<|wP I<|xg<|Aa I<|xa<|zS I<|zI<|?_
 refine zE<|xd<|Aa I<|?_
 by_cases hs:(itoa a).length<=18/\(itoa b).length<=18
 ·obtain⟨a1,a2⟩:=Lg hs.1
  obtain⟨b1,b2⟩:=Lg hs.2
  refine wC I I (fun W _=>IU a b hs.1 hs.2 W)<|Bb I<|wP I<|xg<|wP I<|xa<|zR I<|zA<|zH<|A6 (X:=Int×Int) (fun x=>[(7, .int .i64 x.1),(8, .int .i64 x.2)]) (fun _=>[]) (fun x=>(-1000000000000000000<x.1/\x.1<1000000000000000000)/\(-1000000000000000000<x.2/\x.2<1000000000000000000)/\Int.gcd x.1 x.2=Int.gcd a b) (fun x=>x.2.natAbs) (a,b) ⟨⟨a1,a2⟩,⟨b1,b2⟩,I⟩ ⟨I,I,tO⟩ [] I ?_
  rintro⟨x,y⟩ ⟨⟨hx1,hx2⟩,⟨hy1,hy2⟩,hg⟩
  have hx1: -1000000000000000000<x:=hx1
  have hx2:x<1000000000000000000:=hx2
  have hy1: -1000000000000000000<y:=hy1
  have hy2:y<1000000000000000000:=hy2
  have hg:Int.gcd x y=Int.gcd a b:=hg
  refine xd<|Aa I<|xa<|?_
  by_cases hy:y=0
  ·refine Bi 29 (.bool false) I (congrArg Value.bool (by rw[hy];rfl)) ?_
   refine zS I<|xf<|xe<|?_
   have hgx:(if w64 (0-x)>x then w64 (0-x) else x)=((Int.gcd a b:Nat):Int):=by
    rw[<-hg,hy,Int.gcd_zero_right,AC (by omega) (by omega)]
    split<;>omega
   have hgb:Int.gcd a b<1000000000000000000:=cJ (by omega) (by omega)
   exact A3 I<|wV 37 ((Int.gcd a b:Nat):Int) I hgx<|wC I I (fun W hp=>(AF ((Int.gcd a b:Nat):Int) (by omega) (by omega) W (ht.hp hp)).cast (by rw[Jn]))<|Aa I<|xc<|zP<|wR2 I I I
  ·refine Bi 29 (.bool true) I (congrArg Value.bool (by rw[bne_iff_ne];exact hy)) ?_
   refine zR I<|zI<|zE<|zH<|zU<|Ct I<|Kc I I I I I hy ?_
   refine AO I<|zD<|zC<|zN<|?_
   have hr:(x.tmod y).natAbs=x.natAbs%y.natAbs:=Int.natAbs_tmod ..
   have hr2:x.natAbs%y.natAbs<y.natAbs:=Nat.mod_lt _ (by omega)
   exact Ax (y,x.tmod y) ⟨⟨hy1,hy2⟩,⟨by show _<x.tmod y;omega,by show x.tmod y<_;omega⟩,by show Int.gcd y (x.tmod y)=_;rw[XG];exact hg⟩ (by show(x.tmod y).natAbs<y.natAbs;omega) ⟨I,I,tO⟩ [] I
 ·refine wC I I (fun W _=>N9 a b hs W)<|Bb I<|wP I<|xg<|wP I<|xa<|zS I<|zI<|xe<|wP I<|?_
  refine wD (X:=NV) I I (fun W _=>E3 W a (by have:=ha.dd;omega)) ?_
  rintro⟨g1,c1,j1⟩ hV1
  refine Aa I<|?_
  refine wD (X:=NV) I I (fun W _=>E3 W b (by have:=hb.dd;omega)) ?_
  rintro⟨g2,c2,j2⟩ hV2
  refine Ae I<|xa<|zA<|zH<|?_
  refine LN (X:=(Nat×NV)×Nat×NV) (fun _=>[]) (fun x=>[(10,FB x.1.2 (lbs bs x.1.1).length),(11,FB x.2.2 (lbs bs x.2.1).length)]) (fun x=>[Gu x.1.2 (lbs bs x.1.1),Gu x.2.2 (lbs bs x.2.1)])
   (fun x=>x.1.1<BN/\x.2.1<BN/\Nat.gcd x.1.1 x.2.1=Int.gcd a b) (fun x=>x.2.1) ((a.natAbs,g1,c1,j1),b.natAbs,g2,c2,j2) ⟨ha,hb,rfl⟩ rfl ⟨rfl,rfl,trivial⟩ [] rfl ?_
  rintro⟨⟨m,A⟩,n,B⟩ ⟨hm,hn,hg⟩
  have hm:m<BN:=hm
  have hn:n<BN:=hn
  have hg:Nat.gcd m n=Int.gcd a b:=hg
  have hlm:=Hx hm
  have hln:=Hx hn
  refine xd<|Ae I<|xa<|?_
  by_cases h0:n=0
  ·refine Bi 47 (.bool false) I (congrArg Value.bool (by rw[h0,Di];rfl)) ?_
   refine zS I<|xf<|xe<|?_
   have hgm:m=Int.gcd a b:=by rw[<-hg,h0,Nat.gcd_zero_right]
   have hz:P3 (sg false m)= .tuple #[str (decDigits (Int.gcd a b)), .int .i64 0]:=by
    have e:sg false m=((m:Nat):Int):=rfl
    rw[e,Uy (show okN ((m:Nat):Int) from hm),Jn,hgm]
   refine wP I<|Ak Tryz.hZ tH I I I I I I I I ?_
   exact wC I I (fun W' hp=>(JG W' _ A.2.1 false m (AS.of_bx hp 0 I) (by omega) (ht.hp hp)).cast hz)<|A3 I<|xc<|wR2 I I I
  ·have hk:=M7 h0
   refine Bi 47 (.bool true) I (congrArg Value.bool (dT (by show((lbs bs n).length:Int)>0;omega))) ?_
   refine zR I<|zI<|zE<|zH<|xb<|Aa I<|wD (X:=Vec×Option NV) I I (fun W' hp=>OB W' _ _ A.2.1 B.2.1 m n (AS.of_bx hp 0 I) (AS.of_bx hp 1 I) h0 (by omega) (by omega)) ?_
   rintro⟨V,R⟩ ⟨hV,hR⟩
   cases R with
   |none=>
    have hR:m<n:=hR
    exact A8 I<|xa<|zB<|A3 I<|zC<|zN<|J1 ((n,B),m,A) ⟨hn,hm,by show Nat.gcd n m=_;rw[Nat.gcd_comm];exact hg⟩ hR I ⟨I,I,tO⟩ [1,0] (by decide) I
   |some R=>
    refine A8 I<|xa<|zB<|A3 I<|zC<|zN<|?_
    have hmn:m%n<n:=Nat.mod_lt _ (by omega)
    exact J1 ((n,B),m%n,R) ⟨hn,Nat.lt_trans hmn hn,by show Nat.gcd n (m%n)=_;rw[Nat.gcd_comm, <-Nat.gcd_rec,Nat.gcd_comm];exact hg⟩ hmn I ⟨I,I,tO⟩ [1,3] (by decide) I
def rdR (a:List UInt8):(List UInt8×List UInt8)×Int:=match frm a with
 |none=>(([],[]),11)
 |some (z,d)=>if z.natAbs<BN/\d<BN then(if Nat.gcd z.natAbs d=1 then((itoa z,decDigits d),0) else(([],[]),11)) else(([],[]),4)
def rdV (a:List UInt8):Value:= .tuple #[Ju (rdR a).1.1 (rdR a).1.2, .int .i64 (rdR a).2]
theorem Z4 {a:List UInt8} (h:frm a=none):rdV a= .tuple #[Ju [] [], .int .i64 11]:=by
 have e:rdR a=(([],[]),11):=by unfold rdR;rw[h]
 rw[rdV,e]
theorem U4 {a:List UInt8} {z:Int} {d:Nat} (h:frm a=some (z,d)) (hl: ¬(z.natAbs<BN/\d<BN)):rdV a= .tuple #[Ju [] [], .int .i64 4]:=by
 have e:rdR a=(([],[]),4):=by unfold rdR;rw[h];exact if_neg hl
 rw[rdV,e]
theorem aY {a:List UInt8} {z:Int} {d:Nat} (h:frm a=some (z,d)) (hl:z.natAbs<BN/\d<BN) (hg:Nat.gcd z.natAbs d≠1):rdV a= .tuple #[Ju [] [], .int .i64 11]:=by
 have e:rdR a=(([],[]),11):=by unfold rdR;rw[h];exact(if_pos hl).trans (if_neg hg)
 rw[rdV,e]
theorem UX {a:List UInt8} {z:Int} {d:Nat} (h:frm a=some (z,d)) (hl:z.natAbs<BN/\d<BN) (hg:Nat.gcd z.natAbs d=1):rdV a= .tuple #[Ju (itoa z) (decDigits d), .int .i64 0]:=by
 have e:rdR a=((itoa z,decDigits d),0):=by unfold rdR;rw[h];exact(if_pos hl).trans (if_pos hg)
 rw[rdV,e]
theorem YV {a:List UInt8} {z:Int} {d:Nat} (h:frm a=some (z,d)):(decDigits z.natAbs).length<=a.length/\(decDigits d).length<=a.length+1:=by
 obtain⟨h1,h2⟩:=LQ h
 have h3:(decDigits z.natAbs).length<=(itoa z).length:=by
  unfold itoa
  split
  ·rw[List.length_cons];omega
  ·rename_i hz;rw[show z.toNat=z.natAbs by omega];exact Nat.le_refl _
 rw[h2]
 unfold RH
 split
 ·rename_i e;rw[e,L8];exact⟨h3,by simp⟩
 ·rw[List.length_append,List.length_cons];omega
theorem Tt (z:Int) (d:Nat) (hz:z.natAbs<BN) (hd:d<BN) (W:World) (ht:AZ W):
  Ag Tryz.prog 284 #[str (itoa z),str (decDigits d)] W (fun _:Unit=> .tuple #[str (decDigits (Nat.gcd z.natAbs d)), .int .i64 0]) (fun _=>True) (fun _=>[]):=by
 have h:=T4 z (d:Nat) hz (by show Int.natAbs _<_;rw[Int.natAbs_natCast];exact hd) W ht
 rw[FJ,show Int.gcd z (d:Nat)=Nat.gcd z.natAbs d by rw[Int.gcd,Int.natAbs_natCast]] at h
 exact h
theorem FH (a:List UInt8) (hl:a.length<=4000000000) (W:World) (hv:DM W) (ht:AZ W):
  Ag Tryz.prog 256 #[str a] W (fun _:Unit=>rdV a) (fun _=>True) (fun _=>[]):=by
 refine Ab Tryz.func256 I I I<|xb<|wG I I fun _=>wP I<|zC<|?_
 rename_i b2
 refine xe<|wP I<|?_
 cases hf:frm a with
 |none=>
  refine wC I I (fun W hp=>(MP a hl W (hv.hp hp)).cast (by rw[Lw,hf]))<|Ae I<|wG I I fun _=>wS 1 I I I<|wP I<|xa<|xd<|Aa I<|xa<|zR I<|xb<|Ak Tryz.hZ tH I I I I I I I I ?_
  exact wS 0 I I I<|wP I<|xc<|zP<|An tH I (.cell 0 I I I I I) (.tmp I) () (Z4 hf).symm tO fun W _=>As.nil _ _
 |some x=>
  obtain⟨z,d⟩:=x
  obtain⟨hd1,hap⟩:=LQ hf
  obtain⟨hz2,hd2⟩:=YV hf
  refine wC I I (fun W hp=>(MP a hl W (hv.hp hp)).cast (by rw[Lw,hf]))<|Ae I<|wG I I fun _=>wS 1 I I I<|wP I<|zC<|?_
  rename_i b4
  refine zE<|xd<|Aa I<|xa<|zS I<|zI<|zE<|xd<|wP I<|?_
  cases hn:EH a with
  |some y=>
   obtain⟨z',d'⟩:=y
   obtain⟨e1,e2,e3,e4⟩:=JS.1 hn
   rw[hf] at e1
   injection e1 with e1
   injection e1 with ez ed
   subst ez;subst ed
   have hlt: ∀n,n<100000000->n<BN:=fun n h=>Nat.lt_of_lt_of_le (Nat.lt_of_lt_of_le h (show 100000000<=10^8 by decide)) (Nat.pow_le_pow_right (by decide) (show 8<=mxd by decide))
   exact wC I I (fun W _=>(CG a (by omega) W).cast (by rw[DK,hn]))<|Ae I<|wG I I fun _=>wS 2 I I I<|wP I<|xg<|wP I<|xa<|zR I<|xb<|wB 1 I I I<|wS 0 I I I<|wP I<|xc<|zP<|An tH I (.cell 0 I I I I I) (.tmp I) () (UX hf ⟨hlt _ e2,hlt _ e3⟩ e4).symm tO fun W _=>As.nil _ _
  |none=>
   refine wC I I (fun W _=>(CG a (by omega) W).cast (by rw[DK,hn]))<|Ae I<|wG I I fun _=>wS 2 I I I<|wP I<|zC<|?_
   rename_i b6
   refine xe<|wP I<|xa<|zS I<|zI<|zE<|xd<|wP I<|wB 1 I I I<|wC I I (fun W _=>(CE (itoa z) [45] W).cast (by rw[Ce]))<|wP I<|Ao 28 (.int .i64 ((decDigits z.natAbs).length:Nat)) I (congrArg (fun n:Nat=>Value.int .i64 (n:Int)) (A5 _))<|wP I<|?_
   by_cases hzl:z.natAbs<BN
   ·have hz3:=K6.2 hzl
    refine wU 29 false I (dF (by omega))<|Aa I<|wB 1 I I I<|wP I<|Ao 33 (.int .i64 ((decDigits d).length:Nat)) I (congrArg (fun n:Nat=>Value.int .i64 (n:Int)) (A5 _))<|wP I<|?_
    by_cases hdl:d<BN
    ·have hd3:=K6.2 hdl
     refine wU 34 false I (dF (by omega))<|wP I<|xa<|zS I<|zI<|zE<|xd<|wP I<|wB 1 I I I<|wP I<|?_
     by_cases h1:d=1
     ·exact wU 39 true I ((H2 _ [49]).trans (dT (by rw[h1,L8])))<|xa<|zR I<|xb<|wB 1 I I I<|wS 0 I I I<|wP I<|xc<|zP<|An tH I (.cell 0 I I I I I) (.tmp I) () (UX hf ⟨hzl,hdl⟩ (by rw[h1,Nat.gcd_one_right])).symm tO fun W _=>As.nil _ _
     ·refine wU 39 false I ((H2 _ [49]).trans (dF (fun e=>h1 (by have:=congrArg D9 e;rw[FA] at this;exact this))))<|xa<|zS I<|zI<|zE<|xd<|wP I<|wB 1 I I I<|wP I<|wB 1 I I I<|wC I I (fun W hp=>Tt z d hzl hdl W (ht.hp hp))<|A8 I<|xg<|A8 I<|?_
      by_cases hg:Nat.gcd z.natAbs d=1
      ·exact wU 53 false I (by show(!_)=false;rw[H2,hg,L8];rfl)<|wP I<|xa<|zS I<|zI<|xe<|wB 1 I I I<|wS 0 I I I<|wP I<|xc<|An tH I (.cell 0 I I I I I) (.tmp I) () (UX hf ⟨hzl,hdl⟩ hg).symm tO fun W _=>As.nil _ _
      ·refine wU 53 true I (by show(!_)=true;rw[H2,dF (fun e=>hg (by have:=congrArg D9 e;rw[FA] at this;exact this))];rfl)<|wP I<|xa<|zR I<|xb<|Ak Tryz.hZ tH I I I I I I I I ?_
       exact wS 0 I I I<|wP I<|xc<|zP<|An tH I (.cell 0 I I I I I) (.tmp I) () (aY hf ⟨hzl,hdl⟩ hg).symm tO fun W _=>As.nil _ _
    ·have hd3: ¬(decDigits d).length<=300:=fun h=>hdl (K6.1 h)
     refine wU 34 true I (dT (by omega))<|wP I<|xa<|zR I<|xb<|Ak Tryz.hZ tH I I I I I I I I ?_
     exact wS 0 I I I<|wP I<|xc<|zP<|An tH I (.cell 0 I I I I I) (.tmp I) () (U4 hf fun h=>hdl h.2).symm tO fun W _=>As.nil _ _
   ·have hz3: ¬(decDigits z.natAbs).length<=300:=fun h=>hzl (K6.1 h)
    refine wU 29 true I (dT (by omega))<|wP I<|?_
    iterate 4 refine Ac I I ?_
    refine wP I<|xa<|zR I<|xb<|Ak Tryz.hZ tH I I I I I I I I ?_
    exact wS 0 I I I<|wP I<|xc<|zP<|An tH I (.cell 0 I I I I I) (.tmp I) () (U4 hf fun h=>hzl h.1).symm tO fun W _=>As.nil _ _
theorem LX (z:Int):hasPrefix (itoa z) [45]=decide (z<0):=by
 rw[FG]
 refine decide_eq_decide.2 ?_
 unfold itoa
 split
 ·rename_i h;exact⟨fun _=>h,fun _=>rfl⟩
 ·rename_i h
  obtain⟨b,r,hb,h3,h4⟩:=Dc z.toNat
  rw[hb]
  constructor
  ·intro e
   have e:b=45:=by simpa using e
   rw[e] at h3;exact absurd h3 (by decide)
  ·intro h5;exact absurd h5 h
theorem KB {z:Int} (h:okN z):(itoa z).length<=301:=by
 have h2:=K6.2 h
 unfold itoa
 split
 ·rw[List.length_cons];omega
 ·rename_i hz;rw[show z.toNat=z.natAbs by omega];omega
theorem fA {x y:Int} (hx:x.natAbs<100000000) (hy:y.natAbs<100000000):(x*y).natAbs<10000000000000000:=by
 rw[Int.natAbs_mul]
 exact Nat.lt_of_le_of_lt (Nat.mul_le_mul (Nat.le_of_lt_succ (Nat.lt_succ_of_lt hx)) (Nat.le_of_lt_succ (Nat.lt_succ_of_lt hy))|>fun h=>Nat.le_trans (Nat.mul_le_mul (show x.natAbs<=99999999 by omega) (show y.natAbs<=99999999 by omega)) (Nat.le_refl _)) (by decide)
theorem QM {x y:Int} (hx:x.natAbs<100000000) (hy:y.natAbs<100000000):w64 (x*y)=x*y:=by
 have:=fA hx hy
 exact AC (by omega) (by omega)
def smQ (p:Rat):Prop:=p.num.natAbs<100000000/\p.den<100000000
instance (p:Rat):Decidable (smQ p):=by unfold smQ;infer_instance
theorem HY (p:Rat):DK (B4 p)=if smQ p then .tuple #[cM p.num (p.den:Nat), .bool true] else LI:=by
 have hf:frm (B4 p)=some (p.num,p.den):=Ji _ p.den_pos
 by_cases h:smQ p
 ·have e:EH (B4 p)=some (p.num,p.den):=JS.2 ⟨hf,h.1,h.2,p.reduced⟩
  rw[if_pos h,DK,e]
 ·have e:EH (B4 p)=none:=by
   cases hn:EH (B4 p) with
   |none=>rfl
   |some x=>
    obtain⟨x1,x2⟩:=x
    obtain⟨e1,e2,e3,_⟩:=JS.1 hn
    rw[hf] at e1
    injection e1 with e1
    injection e1 with ea eb
    subst ea;subst eb
    exact absurd ⟨e2,e3⟩ h
  rw[if_neg h,DK,e]
abbrev cC (q:Rat):Value:=Ju (itoa q.num) (itoa (q.den:Nat))
def okQ (q:Rat):Prop:=okN q.num/\okN (q.den:Nat)
theorem YG {z:Int} (h:okN z):P3 z= .tuple #[str (itoa z), .int .i64 0]:=if_pos h
theorem TV {q:Rat} (h:okQ q):rdV (B4 q)= .tuple #[cC q, .int .i64 0]:=by
 have hd:q.den<BN:=by have:=h.2;unfold okN at this;rwa [Int.natAbs_natCast] at this
 have hf:frm (B4 q)=some (q.num,q.den):=Ji q.num q.den_pos
 rw[UX hf ⟨h.1,hd⟩ q.reduced, <-FJ]
theorem Jz {q:Rat} (h:okQ q):(B4 q).length<=1000:=by
 have h1:=KB h.1
 have h2:=KB h.2
 rw[FJ] at h2
 unfold B4 RH
 split
 ·omega
 ·rw[List.length_append,List.length_cons];omega
theorem MS (p q:Rat) (hp:okQ p) (hq:okQ q) (h1:okN (p.num*(q.den:Nat))) (h2:okN (q.num*(p.den:Nat))) (W:World) (ht:AZ W):
  Ag Tryz.prog 328 #[cC p,cC q] W (fun _:Unit=> .tuple #[str (itoa (p.num*(q.den:Nat))),str (itoa (q.num*(p.den:Nat))), .int .i64 0]) (fun _=>True) (fun _=>[]):=by
 refine Ab Tryz.func328 I I I<|xb<|wF I I fun _=>wF I I fun _=>Ae I<|xg<|wP I<|wB 0 I I I<|wP I<|wB 1 I I I<|wC I I (fun W h=>(M4 p.num (q.den:Nat) hp.1 hq.2 W (ht.hp h)).cast (YG h1))<|A8 I<|xa<|?_
 refine xd<|Aa I<|xa<|zS I<|zI<|xe<|wP I<|wB 1 I I I<|wP I<|wB 0 I I I<|wC I I (fun W h=>(M4 q.num (p.den:Nat) hq.1 hp.2 W (ht.hp h)).cast (YG h2))<|A8 I<|xa<|?_
 exact xb<|Bb I<|xc<|wR3 I I I
end
section
open Go Go.Lib
abbrev nrm (z d:Int):Rat:=mkRat (if d<0 then -z else z) d.natAbs
theorem ZZ (z:Int) {d:Int} (hd:d≠0):nrm z d=Rat.divInt z d:=by
 unfold nrm
 cases d with
 |ofNat n=>
  rw[if_neg (by intro h;exact absurd h (by simp))]
  rfl
 |negSucc n=>
  rw[if_pos (Int.negSucc_lt_zero n)]
  show mkRat (-z) (n+1)=_
  rw[Rat.divInt]
  rw[Rat.normalize_eq_mkRat]
def szQ (q:Rat) (k:Nat):Prop:=q.num.natAbs<10^k/\q.den<10^k
end
section
open Go Go.RowKit Go.Am Go.Lib
set_option maxRecDepth 10000
theorem FN {z:Int} {k:Nat} (h:z.natAbs<10^k) (hk:k<=300):okN z:=Nat.lt_of_lt_of_le h (Nat.pow_le_pow_right (by decide) (show k<=mxd from hk))
theorem szQ.ok {q:Rat} {k:Nat} (h:szQ q k) (hk:k<=300):okQ q:=⟨FN h.1 hk,FN (k:=k) (by rw[Int.natAbs_natCast];exact h.2) hk⟩
theorem JJ {x y:Int} {a b:Nat} (hx:x.natAbs<10^a) (hy:y.natAbs<10^b):(x*y).natAbs<10^(a+b):=by
 rw[Int.natAbs_mul];exact Va hx hy (Nat.le_refl _)
theorem Xc {x y:Int} {a:Nat} (hx:x.natAbs<10^a) (hy:y.natAbs<10^a):(x+y).natAbs<10^(a+1):=by
 rw[Nat.pow_succ];omega
theorem Yt {x y:Int} {a:Nat} (hx:x.natAbs<10^a) (hy:y.natAbs<10^a):(x-y).natAbs<10^(a+1):=by
 rw[Nat.pow_succ];omega
structure Sz2 (p q:Rat):Prop where
 okp:okQ p
 okq:okQ q
 c1:okN (p.num*(q.den:Nat))
 c2:okN (q.num*(p.den:Nat))
 d:okN ((p.den:Nat)*(q.den:Nat))
 n:okN (p.num*q.num)
 add:okN (p.num*(q.den:Nat)+q.num*(p.den:Nat))
 sub:okN (p.num*(q.den:Nat)-q.num*(p.den:Nat))
theorem sz2 {p q:Rat} {a b:Nat} (hp:szQ p a) (hq:szQ q b) (hk:a+b+1<=300):Sz2 p q:=by
 have hqd:((q.den:Nat):Int).natAbs<10^b:=by rw[Int.natAbs_natCast];exact hq.2
 have hpd:((p.den:Nat):Int).natAbs<10^a:=by rw[Int.natAbs_natCast];exact hp.2
 have e1:=JJ hp.1 hqd
 have e2:=JJ hq.1 hpd
 rw[Nat.add_comm b a] at e2
 exact⟨hp.ok (by omega),hq.ok (by omega),FN e1 (by omega),FN e2 (by omega),FN (JJ hpd hqd) (by omega),FN (JJ hp.1 hq.1) (by omega),FN (Xc e1 e2) hk,FN (Yt e1 e2) hk⟩
theorem AZ.below {W0 W:World} (h:AZ W0) (hb:Below W0.heap.size W0 W):AZ W:=tabBelow_of_tabIs h W hb
theorem eU (p:Rat) (h:smQ p):((p.den:Nat):Int).natAbs<100000000:=by rw[Int.natAbs_natCast];exact h.2
theorem Mx (p q:Rat) (h:Sz2 p q) (W0:World) (hv:DM W0) (ht:AZ W0):
  Ag Tryz.prog 304 #[str (B4 p),str (B4 q)] W0 (fun _:Unit=> .tuple #[.int .i64 (Nl (p.num*(q.den:Nat)) (q.num*(p.den:Nat))), .int .i64 0]) (fun _=>True) (fun _=>[]):=by
 have hlp:=Jz h.okp
 have hlq:=Jz h.okq
 refine Ab Tryz.func304 I I I<|xb<|Aa I<|xa<|zA<|Bz (X:=Unit) (fun _=>[(0,str (B4 p)),(1,str (B4 q)),(4, .int .i64 0),(5, .int .i64 0)]) (fun _=>[]) (fun _=>True) ?_ ?_
 ·refine xb<|wP I<|?_
  by_cases hp:smQ p
  ·refine wC I I (fun W _=>(CG (B4 p) (by omega) W).cast ((HY p).trans (if_pos hp)))<|Ae I<|wG I I fun _=>wS 0 I I I<|wP I<|zC<|?_
   rename_i b6
   refine xe<|wP I<|xa<|zR I<|xb<|wP I<|?_
   by_cases hq:smQ q
   ·refine wC I I (fun W _=>(CG (B4 q) (by omega) W).cast ((HY q).trans (if_pos hq)))<|Ae I<|wG I I fun _=>wS 1 I I I<|wP I<|zC<|?_
    rename_i b8
    refine xe<|wP I<|xa<|zR I<|xb<|wP I<|wB 0 I I I<|wP I<|wB 1 I I I<|wP I<|wV 31 (p.num*(q.den:Nat)) I (QM hp.1 (eU q hq))<|wP I<|wB 1 I I I<|wP I<|wB 0 I I I<|wP I<|wV 36 (q.num*(p.den:Nat)) I (QM hq.1 (eU p hp))<|wC I I (fun W _=>Mc _ _ W)<|Aa I<|?_
    exact xc<|zP<|wR2 I I I
   ·exact wC I I (fun W _=>(CG (B4 q) (by omega) W).cast ((HY q).trans (if_neg hq)))<|Ae I<|wG I I fun _=>wS 1 I I I<|wP I<|xg<|wP I<|xa<|zS I<|zI<|Au () tO ⟨I,I,I,I,tO⟩ _ I
  ·exact wC I I (fun W _=>(CG (B4 p) (by omega) W).cast ((HY p).trans (if_neg hp)))<|Ae I<|wG I I fun _=>wS 0 I I I<|wP I<|xg<|wP I<|xa<|zS I<|zI<|Au () tO ⟨I,I,I,I,tO⟩ _ I
 ·intro _ _
  refine xb<|wP I<|wC I I (fun W hp=>(FH (B4 p) (by omega) W (hv.hp hp) (ht.hp hp)).cast (TV h.okp))<|Ae I<|wG I I fun _=>wS 0 I I I<|wP I<|zC<|?_
  rename_i b10
  refine zE<|xd<|Aa I<|xa<|zS I<|zI<|xe<|wP I<|wC I I (fun W hp=>(FH (B4 q) (by omega) W (hv.hp hp) (ht.hp hp)).cast (TV h.okq))<|Ae I<|wG I I fun _=>wS 1 I I I<|wP I<|zC<|?_
  rename_i b12
  refine zE<|xd<|Aa I<|xa<|zS I<|zI<|xe<|wB 0 I I I<|wB 1 I I I<|wC I I (fun W hp=>MS p q h.okp h.okq h.c1 h.c2 W (ht.hp hp))<|Bb I<|wP I<|zC<|?_
  exact zE<|xd<|Aa I<|xa<|zS I<|zI<|xe<|Aa I<|wC I I (fun W _=>Mb _ _ h.c1 h.c2 W)<|A3 I<|xc<|wR2 I I I
theorem GX (a:List UInt8) (hl:a.length<=4000000000) (W:World) (hv:DM W) (ht:AZ W):
  Ag Tryz.prog 219 #[str a] W (fun _:Unit=> .int .i64 (rdR a).2) (fun _=>True) (fun _=>[]):=by
 refine Ab Tryz.func219 I I I<|xb<|wP I<|xg<|wP I<|wC I I (fun W h=>FH a hl W (hv.hp h) (ht.hp h))<|Ae I<|wG I I fun _=>wS 0 I I I<|wP I<|xg<|Aa I<|xa<|?_
 exact zO<|wR1 I I I
theorem cT {q:Rat} (h:okQ q):rdR (B4 q)=((itoa q.num,decDigits q.den),0):=by
 have hd:q.den<BN:=by have:=h.2;unfold okN at this;rwa [Int.natAbs_natCast] at this
 have hf:frm (B4 q)=some (q.num,q.den):=Ji q.num q.den_pos
 unfold rdR;rw[hf];exact(if_pos ⟨h.1,hd⟩).trans (if_pos q.reduced)
theorem Zt (p q:Rat):p.num*(q.den:Nat)<q.num*(p.den:Nat)↔p<q:=(Rat.lt_iff p q).symm
def PN (p q:Rat):Int:=if p<q then -1 else if p=q then 0 else 1
theorem cI (p q:Rat):Nl (p.num*(q.den:Nat)) (q.num*(p.den:Nat))=PN p q:=by
 unfold Nl PN
 have h1:=Zt p q
 have h2:p.num*(q.den:Nat)=q.num*(p.den:Nat)↔p=q:=by
  constructor
  ·intro h
   have a:=Rat.num_divInt_den p
   have b:=Rat.num_divInt_den q
   rw[<-a, <-b]
   exact(Rat.divInt_eq_divInt_iff (by have:=p.den_nz;omega) (by have:=q.den_nz;omega)).2 h
  ·rintro rfl;rfl
 by_cases h:p<q
 ·rw[if_pos h,if_pos (h1.2 h)]
 ·rw[if_neg h,if_neg (fun e=>h (h1.1 e))]
  by_cases e:p=q
  ·rw[if_pos e,if_pos (h2.2 e)]
  ·rw[if_neg e,if_neg (fun h=>e (h2.1 h))]
theorem Ei (p q:Rat):(decide (PN p q<0))=decide (p<q):=by
 unfold PN
 refine decide_eq_decide.2 ?_
 by_cases h:p<q
 ·rw[if_pos h];exact⟨fun _=>h,fun _=>by decide⟩
 ·rw[if_neg h]
  by_cases e:p=q
  ·rw[if_pos e];exact⟨fun h2=>absurd h2 (by decide),fun h2=>absurd h2 h⟩
  ·rw[if_neg e]
   exact⟨fun h=>absurd h (by decide),fun h2=>absurd h2 h⟩
theorem Jv (p q:Rat):(decide (PN p q≥0))=decide (q<=p):=by
 have h:=Ei p q
 rw[decide_eq_decide] at h⊢
 constructor
 ·intro h1
  exact Rat.not_lt.1 fun h2=>by have:=h.2 h2;omega
 ·intro h1
  have: ¬PN p q<0:=fun h2=>Rat.not_lt.2 h1 (h.1 h2)
  omega
theorem J7 (q:Rat) (h:okQ q) (W:World) (hv:DM W) (ht:AZ W):
  Ag Tryz.prog 280 #[str (B4 q)] W (fun _:Unit=> .tuple #[str (itoa q.num),str (itoa (q.den:Nat)), .int .i64 0]) (fun _=>True) (fun _=>[]):=by
 have hl:=Jz h
 refine Ab Tryz.func280 I I I<|xb<|Ae I<|xg<|wP I<|wC I I (fun W hp=>(FH (B4 q) (by omega) W (hv.hp hp) (ht.hp hp)).cast (TV h))<|Ae I<|wG I I fun _=>wS 0 I I I<|wP I<|xa<|zA<|zU<|qP I<|qB 0 I I I<|?_
 exact qP I<|qB 0 I I I<|E7 I<|zD<|xc<|wR3 I I I
def Yu (W:World) (p:Option Addr) (l:List (List UInt8)):Prop:=l=[]\/ ∃b off,p=some ⟨b,off,none⟩/\Al W b off (l.map str)
theorem Yu.row {W:World} {p:Option Addr} {l:List (List UInt8)} (h:Yu W p l) {i:Nat} (hi:i<l.length): ∃b off,p=some ⟨b,off,none⟩/\ ∀k (hk:k<l.length),Al W b (off+k*1) [str l[k]]:=by
 rcases h with rfl|⟨b,off,h1,h2⟩
 ·exact absurd hi (Nat.not_lt_zero _)
 ·refine⟨b,off,h1,fun k hk=>⟨h2.lt,fun j u hu=> ?_⟩⟩
  have hj:j=0:=by have:=(List.getElem?_eq_some_iff.1 hu).1;simpa using this
  subst hj
  have:=h2.get k (str l[k]) (by rw[List.getElem?_map,List.getElem?_eq_getElem hk];rfl)
  rw[Nat.mul_one,Nat.add_zero,this]
  simpa using hu
theorem Y2 (n:Nat):itoa (n:Int)=decDigits n:=by
 unfold itoa;rw[if_neg (by omega)];rfl
def wn (n a b:Int):Prop:=a<=n/\n<=b
instance (n a b:Int):Decidable (wn n a b):=by unfold wn;infer_instance
theorem F7 (n a b:Int) (W:World):
  Ag Tryz.prog 222 #[.int .i64 n, .int .i64 a, .int .i64 b] W (fun _:Unit=> .bool (decide (wn n a b))) (fun _=>True) (fun _=>[]):=by
 refine Ab Tryz.func222 I I I<|xb<|wP I<|xg<|Ae I<|?_
 by_cases h1:a<=n
 ·refine wU 9 true I (dT h1)<|A3 I<|?_
  by_cases h2:n<=b
  ·exact wU 13 true I (dT h2)<|Aa I<|xc<|wR1 I I (congrArg Value.bool (dT (p:=wn n a b) ⟨h1,h2⟩).symm)
  ·exact wU 13 false I (dF h2)<|Aa I<|xc<|wR1 I I (congrArg Value.bool (dF (p:=wn n a b) fun h=>h2 h.2).symm)
 ·refine wU 9 false I (dF h1)<|wP I<|?_
  iterate 3 refine Ac I I ?_
  exact Aa I<|xc<|wR1 I I (congrArg Value.bool (dF (p:=wn n a b) fun h=>h1 h.1).symm)
theorem D7 (n a b:Int) (W:World):
  Ag Tryz.prog 158 #[.int .i64 n, .int .i64 a, .int .i64 b] W (fun _:Unit=> .bool (decide (wn n a b))) (fun _=>True) (fun _=>[]):=by
 refine Ab Tryz.func158 I I I<|xb<|wP I<|xg<|Ae I<|?_
 by_cases h1:a<=n
 ·refine wU 9 true I (dT h1)<|A3 I<|?_
  by_cases h2:n<=b
  ·exact wU 13 true I (dT h2)<|Aa I<|xc<|wR1 I I (congrArg Value.bool (dT (p:=wn n a b) ⟨h1,h2⟩).symm)
  ·exact wU 13 false I (dF h2)<|Aa I<|xc<|wR1 I I (congrArg Value.bool (dF (p:=wn n a b) fun h=>h2 h.2).symm)
 ·refine wU 9 false I (dF h1)<|wP I<|?_
  iterate 3 refine Ac I I ?_
  exact Aa I<|xc<|wR1 I I (congrArg Value.bool (dF (p:=wn n a b) fun h=>h1 h.1).symm)
theorem D1 (n a b:Int) (W:World):
  Ag Tryz.prog 207 #[.int .i64 n, .int .i64 a, .int .i64 b] W (fun _:Unit=> .bool (decide (wn n a b))) (fun _=>True) (fun _=>[]):=by
 refine Ab Tryz.func207 I I I<|xb<|wP I<|xg<|Ae I<|?_
 by_cases h1:a<=n
 ·refine wU 9 true I (dT h1)<|A3 I<|?_
  by_cases h2:n<=b
  ·exact wU 13 true I (dT h2)<|Aa I<|xc<|wR1 I I (congrArg Value.bool (dT (p:=wn n a b) ⟨h1,h2⟩).symm)
  ·exact wU 13 false I (dF h2)<|Aa I<|xc<|wR1 I I (congrArg Value.bool (dF (p:=wn n a b) fun h=>h2 h.2).symm)
 ·refine wU 9 false I (dF h1)<|wP I<|?_
  iterate 3 refine Ac I I ?_
  exact Aa I<|xc<|wR1 I I (congrArg Value.bool (dF (p:=wn n a b) fun h=>h1 h.1).symm)
theorem G9 (n a b:Int) (W:World):
  Ag Tryz.prog 215 #[.int .i64 n, .int .i64 a, .int .i64 b] W (fun _:Unit=> .bool (decide (wn n a b))) (fun _=>True) (fun _=>[]):=by
 refine Ab Tryz.func215 I I I<|xb<|wP I<|xg<|Ae I<|?_
 by_cases h1:a<=n
 ·refine wU 9 true I (dT h1)<|A3 I<|?_
  by_cases h2:n<=b
  ·exact wU 13 true I (dT h2)<|Aa I<|xc<|wR1 I I (congrArg Value.bool (dT (p:=wn n a b) ⟨h1,h2⟩).symm)
  ·exact wU 13 false I (dF h2)<|Aa I<|xc<|wR1 I I (congrArg Value.bool (dF (p:=wn n a b) fun h=>h2 h.2).symm)
 ·refine wU 9 false I (dF h1)<|wP I<|?_
  iterate 3 refine Ac I I ?_
  exact Aa I<|xc<|wR1 I I (congrArg Value.bool (dF (p:=wn n a b) fun h=>h1 h.1).symm)
def Gi (w l p t:Int):Int:=if wn w 1 2000/\wn l 1 2000/\wn p 0 (l-1)/\wn t 0 1000 then 0 else 2
theorem PU (w l p t:Int) (W:World):
  Ag Tryz.prog 165 #[.agg #[.int .i64 w, .int .i64 l, .int .i64 p, .int .i64 t]] W (fun _:Unit=> .int .i64 (Gi w l p t)) (fun _=>True) (fun _=>[]):=by
 refine Ab Tryz.func165 I I I<|xb<|wF I I fun _=>wP I<|zC<|?_
 rename_i b1
 refine xe<|wP I<|xa<|xd<|Aa I<|wB 0 I I I<|BK (capt:=[]) I I I I I I (by kernel_rfl) (fun W1 _=>G9 w 1 2000 W1)<|?_
 by_cases c1:wn w 1 2000
 rotate_left
 ·refine wU 7 false I (dF c1)<|Aa I<|?_
  iterate 5 refine Ac I I ?_
  refine Aa I<|?_
  iterate 8 refine Ac I I ?_
  refine Aa I<|?_
  iterate 5 refine Ac I I ?_
  exact wP I<|xa<|zR I<|xb<|wP I<|xc<|zP<|wR1 I I (by unfold Gi;rw[if_neg fun h=>c1 h.1])
 refine wU 7 true I (dT c1)<|A3 I<|wB 0 I I I<|BK (capt:=[]) I I I I I I (by kernel_rfl) (fun W1 _=>G9 l 1 2000 W1)<|?_
 by_cases c2:wn l 1 2000
 rotate_left
 ·refine wU 13 false I (dF c2)<|Ae I<|?_
  iterate 8 refine Ac I I ?_
  refine Aa I<|?_
  iterate 5 refine Ac I I ?_
  exact wP I<|xa<|zR I<|xb<|wP I<|xc<|zP<|wR1 I I (by unfold Gi;rw[if_neg fun h=>c2 h.2.1])
 refine wU 13 true I (dT c2)<|A8 I<|wB 0 I I I<|wP I<|wB 0 I I I<|wP I<|?_
 have hw:w64 (l-1)=l-1:=AC (by have:=c2.1;omega) (by have:=c2.2;omega)
 refine wV 22 (l-1) I hw<|BK (capt:=[]) I I I I I I (by kernel_rfl) (fun W1 _=>G9 p 0 (l-1) W1)<|?_
 by_cases c3:wn p 0 (l-1)
 rotate_left
 ·refine wU 23 false I (dF c3)<|Ae I<|?_
  iterate 5 refine Ac I I ?_
  exact wP I<|xa<|zR I<|xb<|wP I<|xc<|zP<|wR1 I I (by unfold Gi;rw[if_neg fun h=>c3 h.2.2.1])
 refine wU 23 true I (dT c3)<|A8 I<|wB 0 I I I<|BK (capt:=[]) I I I I I I (by kernel_rfl) (fun W1 _=>G9 t 0 1000 W1)<|?_
 by_cases c4:wn t 0 1000
 rotate_left
 ·exact wU 30 false I (dF c4)<|Aa I<|xa<|zR I<|xb<|wP I<|xc<|zP<|wR1 I I (by unfold Gi;rw[if_neg fun h=>c4 h.2.2.2])
 exact wU 30 true I (dT c4)<|Aa I<|xa<|zS I<|zI<|xe<|wP I<|xc<|wR1 I I (by unfold Gi;rw[if_pos ⟨c1,c2,c3,c4⟩])
theorem Gq {a:List UInt8} (h:(rdR a).2=0): ∃q,okQ q/\a=B4 q:=by
 unfold rdR at h
 cases hf:frm a with
 |none=>rw[hf] at h;exact absurd h (by decide)
 |some x=>
  obtain⟨z,d⟩:=x
  rw[hf] at h
  simp only at h
  by_cases h1:z.natAbs<BN/\d<BN
  ·rw[if_pos h1] at h
   by_cases h2:Nat.gcd z.natAbs d=1
   ·obtain⟨h3,h4⟩:=LQ hf
    exact⟨⟨z,d,by omega,h2⟩,⟨h1.1,by unfold okN;rw[Int.natAbs_natCast];exact h1.2⟩,h4⟩
   ·rw[if_neg h2] at h;exact absurd h (by decide)
  ·rw[if_neg h1] at h;exact absurd h (by decide)
theorem MA (q:Rat):hasPrefix (B4 q) [45]=decide (q.num<0):=by
 have h:=LX q.num
 unfold B4 RH
 split
 ·exact h
 ·rw[FG] at h⊢
  rw[<-h]
  have hne:(itoa q.num)≠[]:=by
   unfold itoa
   split
   ·intro h;cases h
   ·exact Hd _
  rw[List.getElem?_append_left (List.length_pos_iff.2 hne)]
def wgD (q:Rat):Nat:=max (decDigits q.num.natAbs).length (decDigits q.den).length
noncomputable def wgtE (a:List UInt8):Int:=if h:(rdR a).2=0 then(if 20<wgD (Classical.choose (Gq h)) then 4 else if (Classical.choose (Gq h)).num<0 then 2 else 0) else(rdR a).2
theorem YZ {a:List UInt8} (h:(rdR a).2≠0):wgtE a=(rdR a).2:=by unfold wgtE;rw[dif_neg h]
theorem aA {a:List UInt8} (h:(rdR a).2=0): ∃q,okQ q/\a=B4 q/\wgtE a=if 20<wgD q then 4 else if q.num<0 then 2 else 0:=by
 obtain⟨h1,h2⟩:=Classical.choose_spec (Gq h)
 exact⟨_,h1,h2,by unfold wgtE;rw[dif_pos h]⟩
theorem Nw (q:Rat) (hk:okQ q) (W:World) (hv:DM W) (ht:AZ W):
  Ag Tryz.prog 255 #[str (B4 q)] W (fun _:Unit=> .int .i64 (wgD q:Nat)) (fun _=>True) (fun _=>[]):=by
 refine Ab Tryz.func255 I I I<|xb<|wP I<|xg<|wP I<|wC I I (fun W hp=>J7 q hk W (hv.hp hp) (ht.hp hp))<|Bb I<|wP I<|xg<|wP I<|wC I I (fun W _=>(CE (itoa q.num) [45] W).cast (by rw[Ce]))<|wP I<|?_
 exact Ao 14 (.int .i64 ((decDigits q.num.natAbs).length:Nat)) I (congrArg (fun n:Nat=>Value.int .i64 (n:Int)) (A5 _))<|Aa I<|Ao 16 (.int .i64 ((decDigits q.den).length:Nat)) I (congrArg (fun n:Nat=>Value.int .i64 (n:Int)) ((A5 _).trans (by rw[Y2])))<|wP I<|wV 17 (wgD q:Nat) I (by show(if (((decDigits q.den).length:Nat):Int)>(((decDigits q.num.natAbs).length:Nat):Int) then(((decDigits q.den).length:Nat):Int) else(((decDigits q.num.natAbs).length:Nat):Int))=_;unfold wgD;split<;>omega)<|wP I<|xc<|wR1 I I I
theorem Ny (a:List UInt8) (ha:a.length<=4000000) (W:World) (hv:DM W) (ht:AZ W):
  Ag Tryz.prog 216 #[str a] W (fun _:Unit=> .int .i64 (wgtE a)) (fun _=>True) (fun _=>[]):=by
 refine Ab Tryz.func216 I I I<|xb<|wP I<|xg<|wP I<|wC I I (fun W1 hp=>GX a (by omega) W1 (hv.hp hp) (ht.hp hp))<|wP I<|xa<|zA<|zH<|xb<|Aa I<|?_
 by_cases h:(rdR a).2=0
 rotate_left
 ·exact wU 8 true I (bne_iff_ne.2 h)<|wP I<|xa<|zR I<|xb<|Aa I<|xc<|zQ<|zP<|wR1 I I (by rw[YZ h])
 refine wU 8 false I (bne_eq_false_iff_eq.2 h)<|wP I<|xa<|zS I<|xb<|?_
 obtain⟨q,hq,rfl,he⟩:=aA h
 refine wP I<|wC I I (fun W1 hp=>Nw q hq W1 (hv.hp hp) (ht.hp hp))<|wP I<|?_
 by_cases h2:20<wgD q
 ·rw[if_pos h2] at he
  exact wU 13 true I (dT (by omega))<|wP I<|xa<|zR I<|xb<|wP I<|xc<|zQ<|zP<|wR1 I I (by rw[he])
 rw[if_neg h2] at he
 refine wU 13 false I (dF (by omega))<|wP I<|xa<|zS I<|xb<|wP I<|wC I I (fun W1 _=>(Jo (B4 q) [45] W1).cast (by rw[MA]))<|?_
 by_cases h3:q.num<0
 ·rw[if_pos h3] at he
  exact wU 16 true I (dT h3)<|wP I<|xa<|zR I<|xb<|wP I<|xc<|zQ<|zP<|wR1 I I (by rw[he])
 ·rw[if_neg h3] at he
  exact wU 16 false I (dF h3)<|wP I<|xa<|zS I<|zI<|zN<|xe<|wP I<|xc<|wR1 I I (by rw[he])
structure BrS where
 w:Int
 d:Int
 l:Int
 n:Int
 c:Int
 g:List (Int×Int)
def gpC (g:Int×Int):List Value:=[.int .i64 g.1, .int .i64 g.2]
theorem UR (g:Int×Int):(gpC g).length=2:=rfl
def brC (b:BrS) (q:Option Addr) (cap:Nat):List Value:=[.int .i64 b.w, .int .i64 b.d, .int .i64 b.l, .int .i64 b.n, .int .i64 b.c, .slice q b.g.length cap]
def Rx (g:List (Int×Int)) (i:Nat):Prop:=0<i/\(g.getD i (0,0)).1<=(g.getD (i-1) (0,0)).2
instance (g:List (Int×Int)) (i:Nat):Decidable (Rx g i):=by unfold Rx;infer_instance
def OV (L:Int) (g:List (Int×Int)):Nat->Nat->Int
 |_,0=>0
 |i,k+1=>if (g.getD i (0,0)).1<0\/(g.getD i (0,0)).2>L\/(g.getD i (0,0)).1≥(g.getD i (0,0)).2 then 2 else if Rx g i then 10 else OV L g (i+1) k
theorem Oh (L:Int) (g:List (Int×Int)) (i k:Nat):OV L g i (k+1)=if (g.getD i (0,0)).1<0\/(g.getD i (0,0)).2>L\/(g.getD i (0,0)).1≥(g.getD i (0,0)).2 then 2 else if Rx g i then 10 else OV L g (i+1) k:=rfl
def brR (b:BrS):Prop:=wn b.w 1 1000/\wn b.d 1 1000/\wn b.l 1 65536/\wn b.n 0 4096/\wn b.c 0 1073741824
instance (b:BrS):Decidable (brR b):=by unfold brR;infer_instance
def Hj (b:BrS):Int:=if ¬brR b then 2 else if 16<b.g.length then 4 else OV b.l b.g 0 b.g.length
theorem CU {α:Type} {k:Nat} {c:α->List Value} {W:World} {b off:Nat} {l:List α} (d:α) (h: ∀j (hj:j<l.length),Al W b (off+j*k) (c l[j])) {i:Nat} (hi:i<l.length):Al W b (off+i*k) (c (l.getD i d)):=by
 rw[List.getD_eq_getElem?_getD,List.getElem?_eq_getElem hi];exact h i hi
theorem OJ (b:BrS) (q:Option Addr) (cap:Nat) (hn:b.g.length<=1000000) (W:World) (hg:AB 2 gpC W q b.g):
  Ag Tryz.prog 180 #[.agg (brC b q cap).toArray] W (fun _:Unit=> .int .i64 (Hj b)) (fun _=>True) (fun _=>[]):=by
 have bad: ¬brR b->Hj b=2:=fun h=>by unfold Hj;rw[if_pos h]
 refine Ab Tryz.func180 I I I<|xb<|wF I I fun _=>wP I<|zC<|?_
 rename_i b1
 refine zE<|xd<|wP I<|wB 0 I I I<|wC I I (fun W1 _=>F7 b.w 1 1000 W1)<|?_
 by_cases c0:wn b.w 1 1000
 rotate_left
 ·refine wU 7 false I (dF c0)<|Aa I<|?_
  iterate 4 refine Ac I I ?_
  refine Aa I<|?_
  iterate 4 refine Ac I I ?_
  refine Aa I<|?_
  iterate 4 refine Ac I I ?_
  refine Aa I<|?_
  iterate 4 refine Ac I I ?_
  exact wP I<|xa<|zR I<|xb<|wP I<|xc<|zP<|wR1 I I (by rw[bad fun h=>c0 h.1])
 refine wU 7 true I (dT c0)<|Ae I<|wB 0 I I I<|wC I I (fun W1 _=>F7 b.d 1 1000 W1)<|?_
 by_cases c1:wn b.d 1 1000
 rotate_left
 ·refine wU 12 false I (dF c1)<|Ae I<|?_
  iterate 4 refine Ac I I ?_
  refine Aa I<|?_
  iterate 4 refine Ac I I ?_
  refine Aa I<|?_
  iterate 4 refine Ac I I ?_
  exact wP I<|xa<|zR I<|xb<|wP I<|xc<|zP<|wR1 I I (by rw[bad fun h=>c1 h.2.1])
 refine wU 12 true I (dT c1)<|A3 I<|wB 0 I I I<|wC I I (fun W1 _=>F7 b.l 1 65536 W1)<|?_
 by_cases c2:wn b.l 1 65536
 rotate_left
 ·refine wU 18 false I (dF c2)<|Ae I<|?_
  iterate 4 refine Ac I I ?_
  refine Aa I<|?_
  iterate 4 refine Ac I I ?_
  exact wP I<|xa<|zR I<|xb<|wP I<|xc<|zP<|wR1 I I (by rw[bad fun h=>c2 h.2.2.1])
 refine wU 18 true I (dT c2)<|A3 I<|wB 0 I I I<|wC I I (fun W1 _=>F7 b.n 0 4096 W1)<|?_
 by_cases c3:wn b.n 0 4096
 rotate_left
 ·refine wU 24 false I (dF c3)<|Ae I<|?_
  iterate 4 refine Ac I I ?_
  exact wP I<|xa<|zR I<|xb<|wP I<|xc<|zP<|wR1 I I (by rw[bad fun h=>c3 h.2.2.2.1])
 refine wU 24 true I (dT c3)<|A3 I<|wB 0 I I I<|wC I I (fun W1 _=>F7 b.c 0 1073741824 W1)<|?_
 by_cases c4:wn b.c 0 1073741824
 rotate_left
 ·exact wU 30 false I (dF c4)<|Aa I<|xa<|zR I<|xb<|wP I<|xc<|zP<|wR1 I I (by rw[bad fun h=>c4 h.2.2.2.2])
 refine wU 30 true I (dT c4)<|Aa I<|xa<|zS I<|zI<|zE<|xd<|?_
 have ok:brR b:=⟨c0,c1,c2,c3,c4⟩
 have he:Hj b=if 16<b.g.length then 4 else OV b.l b.g 0 b.g.length:=by unfold Hj;rw[if_neg fun h=>h ok]
 refine wP I<|wB 0 I I I<|Aa I<|?_
 by_cases h16:16<b.g.length
 ·rw[if_pos h16] at he
  exact wU 36 true I (dT (by omega))<|xa<|zR I<|xb<|wP I<|xc<|zP<|wR1 I I (by rw[he])
 rw[if_neg h16] at he
 refine wU 36 false I (dF (by omega))<|xa<|zS I<|zI<|zE<|xd<|wP I<|wB 0 I I I<|Aa I<|xa<|zH<|A6 (X:=Nat) (fun i=>[(1, .pointer (some ⟨b1,0,none⟩)),(2, .int .i64 0),(38, .slice q b.g.length cap),(39, .int .i64 (b.g.length:Nat)),(40, .int .i64 (i:Nat))]) (fun _=>[⟨b1,87,brC b q cap,true,none⟩]) (fun i=>i<=b.g.length/\Hj b=OV b.l b.g i (b.g.length-i)) (fun i=>b.g.length-i) 0 ⟨Nat.zero_le _,he⟩ ⟨I,I,I,I,I,tO⟩ [] I ?_
 rintro i ⟨hi,hE⟩
 have hi:i<=b.g.length:=hi
 have hE:Hj b=OV b.l b.g i (b.g.length-i):=hE
 refine xb<|wP I<|?_
 by_cases hlt:i<b.g.length
 rotate_left
 ·refine wU 41 false I (dF (by omega))<|xa<|zA<|zS I<|xf<|xe<|?_
  rw[show b.g.length-i=0 by omega] at hE
  exact wP I<|xc<|wR1 I I (by rw[hE];rfl)
 refine wU 41 true I (dT (by omega))<|xa<|zA<|zR I<|xh<|?_
 rw[show b.g.length-i=(b.g.length-(i+1))+1 by omega,Oh] at hE
 obtain⟨bg,og,rfl,hrow⟩:=hg.row hlt
 have hr:=CU (0,0) hrow hlt
 obtain⟨x,hx⟩: ∃x,x=b.g.getD i (0,0):=⟨_,rfl⟩
 rw[<-hx] at hr hE
 refine wP I<|wJ ?_
 refine wL 0 I I (fun W1 hp=>hr.hp hp) I<|wG I I fun _=>wP I<|wS 1 I I I<|zC<|?_
 rename_i b4
 refine zE<|zH<|zA<|?_
 refine Bz (X:=Unit) (fun _=>[(1, .pointer (some ⟨b1,0,none⟩)),(2, .int .i64 0),(3, .int .i64 (i:Nat)),(4, .pointer (some ⟨b4,0,none⟩)),(38, .slice (some ⟨bg,og,none⟩) b.g.length cap),(39, .int .i64 (b.g.length:Nat)),(40, .int .i64 (i:Nat)),(45, .bool (decide (x.1<0\/x.2>b.l\/x.1≥x.2)))])
  (fun _=>[⟨b1,87,brC b (some ⟨bg,og,none⟩) cap,true,none⟩,⟨b4,177,gpC x,true,none⟩]) (fun _=>True) ?_ ?_
 ·refine zB<|wP I<|wB 1 I I I<|wP I<|?_
  by_cases g1:x.1<0
  ·refine wU 48 true I (dT g1)<|wP I<|?_
   iterate 5 refine Ac I I ?_
   refine Aa I<|?_
   iterate 5 refine Ac I I ?_
   exact Aa I<|zC<|Au () tO ⟨I,I,I,I,I,I,I,congrArg (fun c=>some (Value.bool c)) (dT (.inl g1)).symm,tO⟩ [] I
  refine wU 48 false I (dF g1)<|Aa I<|wB 1 I I I<|wP I<|wB 0 I I I<|wP I<|?_
  by_cases g2:x.2>b.l
  ·refine wU 54 true I (dT g2)<|Aa I<|?_
   iterate 5 refine Ac I I ?_
   exact Aa I<|zC<|Au () tO ⟨I,I,I,I,I,I,I,congrArg (fun c=>some (Value.bool c)) (dT (.inr (.inl g2))).symm,tO⟩ [] I
  refine wU 54 false I (dF g2)<|Ae I<|wB 1 I I I<|wP I<|wB 1 I I I<|wP I<|?_
  by_cases g3:x.1≥x.2
  ·exact wU 61 true I (dT g3)<|Aa I<|zC<|Au () tO ⟨I,I,I,I,I,I,I,congrArg (fun c=>some (Value.bool c)) (dT (.inr (.inr g3))).symm,tO⟩ [] I
  ·exact wU 61 false I (dF g3)<|Aa I<|zC<|Au () tO ⟨I,I,I,I,I,I,I,congrArg (fun c=>some (Value.bool c)) (dF fun h=>h.elim g1 fun h=>h.elim g2 g3).symm,tO⟩ [] I
 intro _ _
 refine Av I (fun hc=> ?_) (fun hc=> ?_)
 ·have hc:x.1<0\/x.2>b.l\/x.1≥x.2:=of_decide_eq_true hc
  rw[if_pos hc] at hE
  exact xb<|wP I<|xc<|zQ<|xi<|wR1 I I (by rw[hE])
 have hc: ¬(x.1<0\/x.2>b.l\/x.1≥x.2):=of_decide_eq_false hc
 rw[if_neg hc] at hE
 have done: ¬Rx b.g i->Hj b=OV b.l b.g (i+1) (b.g.length-(i+1)):=fun h=>by rw[hE,if_neg h]
 by_cases hi0:i=0
 ·have hB: ¬Rx b.g i:=fun h=>by have:=h.1;omega
  refine zA<|zU<|AO I<|qU 65 false I (dF (by omega))<|qP I<|?_
  iterate 10 refine Cy I I ?_
  exact AO I<|zD<|xa<|zS I<|zI<|zN<|xj<|wP I<|wV 78 ((i+1:Nat):Int) I (Az (by omega))<|wP I<|zC<|Ax (i+1) ⟨hlt,done hB⟩ (by show b.g.length-(i+1)<b.g.length-i;omega) ⟨I,I,I,I,I,tO⟩ [_] I
 have hpr:=CU (0,0) hrow (show i-1<b.g.length by omega)
 obtain⟨y,hy⟩: ∃y,y=b.g.getD (i-1) (0,0):=⟨_,rfl⟩
 rw[<-hy] at hpr
 have hB:Rx b.g i↔x.1<=y.2:=by unfold Rx;rw[<-hx, <-hy];exact⟨fun h=>h.2,fun h=>⟨by omega,h⟩⟩
 refine zA<|zU<|AO I<|qU 65 true I (dT (by omega))<|AO I<|qB 1 I I I<|qP I<|qB 0 I I I<|AO I<|qV 72 ((i-1:Nat):Int) I (by show w64 ((i:Int)-1)=_;rw[AC (by omega) (by omega)];omega)<|qJ ?_
 refine qP I<|qL 1 I I (fun W1 hp=>hpr.hp hp) I<|qP I<|?_
 by_cases hle:x.1<=y.2
 ·rw[if_pos (hB.2 hle)] at hE
  exact qU 76 true I (dT hle)<|AO I<|zD<|xa<|zR I<|xb<|wP I<|xc<|zQ<|xi<|wR1 I I (by rw[hE])
 exact qU 76 false I (dF hle)<|AO I<|zD<|xa<|zS I<|zI<|zN<|xj<|wP I<|wV 78 ((i+1:Nat):Int) I (Az (by omega))<|wP I<|zC<|Ax (i+1) ⟨hlt,done fun h=>hle (hB.1 h)⟩ (by show b.g.length-(i+1)<b.g.length-i;omega) ⟨I,I,I,I,I,tO⟩ [_] I
def Hg (W:World) (p:Option Addr) (l:List BrS):Prop:=l=[]\/ ∃b off,p=some ⟨b,off,none⟩/\ ∀i (hi:i<l.length), ∃q cap,Al W b (off+i*6) (brC l[i] q cap)/\AB 2 gpC W q l[i].g
theorem Hg.below {W W':World} {p:Option Addr} {l:List BrS} {n:Nat} (h:Hg W p l) (hn:W.heap.size<=n) (hb:Below n W W'):Hg W' p l:=by
 rcases h with h|⟨b,off,h1,h2⟩
 ·exact .inl h
 ·exact .inr ⟨b,off,h1,fun i hi=>by obtain⟨q,cap,e1,e2⟩:=h2 i hi;exact⟨q,cap,e1.below hn hb,e2.below hn hb⟩⟩
theorem Hg.hp {W0 W:World} {bxs:List Bx} {p:Option Addr} {l:List BrS} (h:Hg W0 p l) (hp:Hp W0 bxs W):Hg W p l:=h.below (Nat.le_refl _) hp.below
theorem Hg.row {W:World} {p:Option Addr} {l:List BrS} (h:Hg W p l) {i:Nat} (hi:i<l.length): ∃b off,p=some ⟨b,off,none⟩/\ ∀j (hj:j<l.length), ∃q cap,Al W b (off+j*6) (brC l[j] q cap)/\AB 2 gpC W q l[j].g:=by
 rcases h with h|h
 ·subst h;cases hi
 ·exact h
def GW:List BrS->Int
 |[]=>0
 |b::l=>if Hj b≠0 then Hj b else GW l
theorem Sq {l:List BrS} {i:Nat} (h:i<l.length):GW (l.drop i)=if Hj l[i]≠0 then Hj l[i] else GW (l.drop (i+1)):=by
 rw[List.drop_eq_getElem_cons h];rfl
def Cz (l:List BrS):Int:=if 64<l.length then 4 else GW l
theorem GO (l:List BrS) (p:Option Addr) (cap:Nat) (hn:l.length<=1000000) (hg: ∀b∈l,b.g.length<=1000000) (W:World) (hA:Hg W p l):
  Ag Tryz.prog 128 #[slv p l.length cap] W (fun _:Unit=> .int .i64 (Cz l)) (fun _=>True) (fun _=>[]):=by
 refine Ab Tryz.func128 I I I<|xb<|wP I<|xa<|xd<|Ae I<|?_
 by_cases h64:64<l.length
 ·exact wU 8 true I (dT (by omega))<|xa<|zR I<|xb<|wP I<|xc<|zP<|wR1 I I (by unfold Cz;rw[if_pos h64])
 have hE:Cz l=GW (l.drop 0):=by unfold Cz;rw[if_neg h64];rfl
 refine wU 8 false I (dF (by omega))<|xa<|zS I<|zI<|zE<|xd<|Ae I<|xa<|zH<|A6 (X:=Nat) (fun i=>[(2, .int .i64 0),(9,slv p l.length cap),(10, .int .i64 (l.length:Nat)),(11, .int .i64 (i:Nat))]) (fun _=>[]) (fun i=>i<=l.length/\Cz l=GW (l.drop i)) (fun i=>l.length-i) 0 ⟨Nat.zero_le _,hE⟩ ⟨I,I,I,I,tO⟩ [] I ?_
 rintro i ⟨hi,hE⟩
 have hi:i<=l.length:=hi
 have hE:Cz l=GW (l.drop i):=hE
 refine xb<|wP I<|?_
 by_cases hlt:i<l.length
 rotate_left
 ·refine wU 12 false I (dF (by omega))<|xa<|zA<|zS I<|xf<|xe<|?_
  rw[List.drop_of_length_le (by omega)] at hE
  exact wP I<|xc<|wR1 I I (by rw[hE];rfl)
 refine wU 12 true I (dT (by omega))<|xa<|zA<|zR I<|xh<|?_
 rw[Sq hlt] at hE
 obtain⟨bb,off,rfl,hrow⟩:=hA.row hlt
 obtain⟨q,cq,hr,hq⟩:=hrow i hlt
 have hgl:=hg l[i] (List.getElem_mem hlt)
 obtain⟨x,hx⟩: ∃x,x=l[i]:=⟨_,rfl⟩
 rw[<-hx] at hr hq hgl hE
 refine wJ ?_
 refine wL 0 I I (fun W1 hp=>hr.hp hp) I<|wG I I fun _=>wS 0 I I I<|zC<|?_
 rename_i b4
 refine xe<|wB 0 I I I<|wC I I (fun W1 hp=>OJ x q cq hgl W1 (hq.hp hp))<|wP I<|xg<|Aa I<|?_
 by_cases hz:Hj x≠0
 ·rw[if_pos hz] at hE
  exact wU 18 true I (bne_iff_ne.2 hz)<|xa<|zR I<|xb<|Aa I<|xc<|xi<|wR1 I I (by rw[hE])
 rw[if_neg hz] at hE
 exact wU 18 false I (bne_eq_false_iff_eq.2 (Classical.not_not.1 hz))<|xa<|zS I<|zI<|xj<|wP I<|wV 20 ((i+1:Nat):Int) I (Az (by omega))<|wP I<|zC<|Ax (i+1) ⟨hlt,hE⟩ (by show l.length-(i+1)<l.length-i;omega) ⟨I,I,I,I,tO⟩ [_] I
def C9 (z:Int):List Value:=[.int .i64 z]
theorem BH (z:Int):(C9 z).length=1:=rfl
def orN:List Int->Int
 |[]=>0
 |a::l=>if a≠0 then a else orN l
theorem Xe {l:List Int} {i:Nat} (h:i<l.length):orN (l.drop i)=if l[i]≠0 then l[i] else orN (l.drop (i+1)):=by
 rw[List.drop_eq_getElem_cons h];rfl
theorem VH (l:List Int) (p:Option Addr) (cap:Nat) (hn:l.length<=1000000) (W:World) (hA:AB 1 C9 W p l):
  Ag Tryz.prog 251 #[slv p l.length cap] W (fun _:Unit=> .int .i64 (orN l)) (fun _=>True) (fun _=>[]):=by
 refine Ab Tryz.func251 I I I<|xb<|wP I<|xg<|wP I<|xa<|xd<|Ae I<|xa<|zH<|A6 (X:=Nat) (fun i=>[(2, .int .i64 0),(3, .int .i64 0),(6,slv p l.length cap),(7, .int .i64 (l.length:Nat)),(8, .int .i64 (i:Nat))]) (fun _=>[]) (fun i=>i<=l.length/\orN l=orN (l.drop i)) (fun i=>l.length-i) 0 ⟨Nat.zero_le _,I⟩ ⟨I,I,I,I,I,tO⟩ [] I ?_
 rintro i ⟨hi,hE⟩
 have hi:i<=l.length:=hi
 have hE:orN l=orN (l.drop i):=hE
 refine xb<|wP I<|?_
 by_cases hlt:i<l.length
 rotate_left
 ·refine wU 9 false I (dF (by omega))<|xa<|zA<|zS I<|xf<|xe<|?_
  rw[List.drop_of_length_le (by omega)] at hE
  exact Aa I<|xc<|wR1 I I (by rw[hE];rfl)
 refine wU 9 true I (dT (by omega))<|xa<|zA<|zR I<|xh<|?_
 rw[Xe hlt] at hE
 obtain⟨b,off,rfl,hrow⟩:=hA.row hlt
 have hr:=hrow i hlt
 obtain⟨x,hx⟩: ∃x,x=l[i]:=⟨_,rfl⟩
 rw[<-hx] at hr hE
 refine wJ ?_
 refine wL 0 I I (fun W1 hp=>hr.hp hp) I<|wP I<|xg<|Ae I<|?_
 by_cases hz:x≠0
 ·rw[if_pos hz] at hE
  exact wU 14 true I (bne_iff_ne.2 hz)<|xa<|zR I<|xb<|Aa I<|xc<|xi<|wR1 I I (by rw[hE])
 rw[if_neg hz] at hE
 exact wU 14 false I (bne_eq_false_iff_eq.2 (Classical.not_not.1 hz))<|xa<|zS I<|zI<|xj<|wP I<|wV 16 ((i+1:Nat):Int) I (Az (by omega))<|wP I<|zC<|Ax (i+1) ⟨hlt,hE⟩ (by show l.length-(i+1)<l.length-i;omega) ⟨I,I,I,I,I,tO⟩ [] I
structure AlS where
 w:Int
 d:Int
 s:Int
 l:Int
 n:Int
def alC (x:AlS):List Value:=[.int .i64 x.w, .int .i64 x.d, .int .i64 x.s, .int .i64 x.l, .int .i64 x.n]
theorem U7 (x:AlS):(alC x).length=5:=rfl
instance:Inhabited AlS:=⟨⟨0,0,0,0,0⟩⟩
def alW (x:AlS):Prop:=(wn x.w 1 1000/\wn x.d 1 1000)/\wn x.s 1 65536/\wn x.l 0 1048576
instance (x:AlS):Decidable (alW x):=by unfold alW;infer_instance
def alR (x:AlS):Prop:=alW x/\wn x.n 1 65536
instance (x:AlS):Decidable (alR x):=by unfold alR;infer_instance
theorem PH (s l:Int) (W:World):
  Ag Tryz.prog 250 #[.int .i64 s, .int .i64 l] W (fun _:Unit=> .bool (decide (wn s 1 65536/\wn l 0 1048576))) (fun _=>True) (fun _=>[]):=by
 refine Ab Tryz.func250 I I I<|xb<|wP I<|xg<|wP I<|wC I I (fun W1 _=>D1 s 1 65536 W1)<|?_
 by_cases h1:wn s 1 65536
 ·exact wU 6 true I (dT h1)<|Aa I<|wC I I (fun W1 _=>D1 l 0 1048576 W1)<|Aa I<|xc<|wR1 I I (congrArg Value.bool (decide_eq_decide.2 ⟨fun h=>⟨h1,h⟩,fun h=>h.2⟩))
 ·refine wU 6 false I (dF h1)<|wP I<|?_
  iterate 2 refine Ac I I ?_
  exact Aa I<|xc<|wR1 I I (congrArg Value.bool (dF fun h=>h1 h.1).symm)
theorem Nn (x:AlS) (W:World):
  Ag Tryz.prog 206 #[.int .i64 x.w, .int .i64 x.d, .int .i64 x.s, .int .i64 x.l] W (fun _:Unit=> .bool (decide (alW x))) (fun _=>True) (fun _=>[]):=by
 refine Ab Tryz.func206 I I I<|xb<|wP I<|xg<|wP I<|wC I I (fun W1 _=>D1 x.w 1 1000 W1)<|?_
 by_cases h1:wn x.w 1 1000
 rotate_left
 ·refine wU 10 false I (dF h1)<|wP I<|?_
  iterate 2 refine Ac I I ?_
  refine Aa I<|?_
  iterate 3 refine Ac I I ?_
  exact Aa I<|xc<|wR1 I I (congrArg Value.bool (dF (p:=alW x) fun h=>h1 h.1.1).symm)
 refine wU 10 true I (dT h1)<|Aa I<|wC I I (fun W1 _=>D1 x.d 1 1000 W1)<|?_
 by_cases h2:wn x.d 1 1000
 rotate_left
 ·refine wU 13 false I (dF h2)<|Aa I<|?_
  iterate 3 refine Ac I I ?_
  exact Aa I<|xc<|wR1 I I (congrArg Value.bool (dF (p:=alW x) fun h=>h2 h.1.2).symm)
 exact wU 13 true I (dT h2)<|A3 I<|wC I I (fun W1 _=>PH x.s x.l W1)<|Aa I<|xc<|wR1 I I (congrArg Value.bool (decide_eq_decide.2 ⟨fun h=>⟨⟨h1,h2⟩,h⟩,fun h=>h.2⟩))
def Zg (a b:AlS):Int:=orN [a.w-b.w,a.d-b.d,a.s-b.s,a.l-b.l]
theorem UU {a b c d e f:Int} (h1:wn a c d) (h2:wn b e f) (hc:0<=c) (hd:d<=10000000) (he:0<=e) (hf:f<=10000000):w64 (a-b)=a-b:=AC (by have:=h1.1;have:=h2.2;omega) (by have:=h1.2;have:=h2.1;omega)
theorem PV (a b:AlS) (ha:alW a) (hb:alW b) (W:World):
  Ag Tryz.prog 208 #[.agg (alC a).toArray, .agg (alC b).toArray] W (fun _:Unit=> .int .i64 (Zg a b)) (fun _=>True) (fun _=>[]):=by
 refine Ab Tryz.func208 I I I<|xb<|wF I I fun _=>wF I I fun _=>wP I<|zC<|?_
 rename_i b2 b3
 refine xe<|wP I<|wB 0 I I I<|wP I<|wB 1 I I I<|wP I<|wV 9 (a.w-b.w) I (UU ha.1.1 hb.1.1 (by decide) (by decide) (by decide) (by decide))<|wP I<|wB 0 I I I<|wP I<|wB 1 I I I<|wP I<|wV 14 (a.d-b.d) I (UU ha.1.2 hb.1.2 (by decide) (by decide) (by decide) (by decide))<|wP I<|wB 0 I I I<|wP I<|wB 1 I I I<|wP I<|wV 19 (a.s-b.s) I (UU ha.2.1 hb.2.1 (by decide) (by decide) (by decide) (by decide))<|wP I<|wB 0 I I I<|wP I<|?_
 refine wB 1 I I I<|wP I<|wV 24 (a.l-b.l) I (UU ha.2.2 hb.2.2 (by decide) (by decide) (by decide) (by decide))<|Ai Tryz.hZ tH I I I I I I I I I I I fun g=> ?_
 exact wC I I (fun W1 hp=>VH [a.w-b.w,a.d-b.d,a.s-b.s,a.l-b.l] (some ⟨g,0,none⟩) 4 (by show 4<=1000000;decide) W1 (AB.of_row (junk:=[]) BH (Al.of_bx hp 2 I I)))<|wP I<|xc<|wR1 I I I
def alB (l:List AlS) (i:Nat):Prop:=0<i/\Zg (l.getD (i-1) default) (l.getD i default)≥0
instance (l:List AlS) (i:Nat):Decidable (alB l i):=by unfold alB;infer_instance
def P4 (l:List AlS):Nat->Nat->Int
 |_,0=>0
 |i,k+1=>if ¬alR (l.getD i default) then 2 else if alB l i then 10 else P4 l (i+1) k
theorem Ob (l:List AlS) (i k:Nat):P4 l i (k+1)=if ¬alR (l.getD i default) then 2 else if alB l i then 10 else P4 l (i+1) k:=rfl
def DX (l:List AlS):Int:=if 4096<l.length then 4 else P4 l 0 l.length
theorem FX (l:List AlS) (p:Option Addr) (cap:Nat) (hn:l.length<=1000000) (W:World) (hA:AB 5 alC W p l):
  Ag Tryz.prog 153 #[slv p l.length cap] W (fun _:Unit=> .int .i64 (DX l)) (fun _=>True) (fun _=>[]):=by
 refine Ab Tryz.func153 I I I<|xb<|wP I<|xa<|xd<|Ae I<|?_
 by_cases h4:4096<l.length
 ·exact wU 7 true I (dT (by omega))<|xa<|zR I<|xb<|wP I<|xc<|zP<|wR1 I I (by unfold DX;rw[if_pos h4])
 have hE:DX l=P4 l 0 (l.length-0):=by unfold DX;rw[if_neg h4];rfl
 refine wU 7 false I (dF (by omega))<|xa<|zS I<|zI<|zE<|xd<|Ae I<|xa<|zH<|A6 (X:=Nat) (fun i=>[(0,slv p l.length cap),(2, .int .i64 0),(8,slv p l.length cap),(9, .int .i64 (l.length:Nat)),(10, .int .i64 (i:Nat))]) (fun _=>[]) (fun i=>i<=l.length/\DX l=P4 l i (l.length-i)/\ ∀j,j<i->alR (l.getD j default)) (fun i=>l.length-i) 0 ⟨Nat.zero_le _,hE,fun j h=>absurd h (Nat.not_lt_zero _)⟩ ⟨I,I,I,I,I,tO⟩ [] I ?_
 rintro i ⟨hi,hE,hall⟩
 have hi:i<=l.length:=hi
 have hE:DX l=P4 l i (l.length-i):=hE
 refine xb<|wP I<|?_
 by_cases hlt:i<l.length
 rotate_left
 ·refine wU 11 false I (dF (by omega))<|xa<|zA<|zS I<|xf<|xe<|?_
  rw[show l.length-i=0 by omega] at hE
  exact wP I<|xc<|wR1 I I (by rw[hE];rfl)
 refine wU 11 true I (dT (by omega))<|xa<|zA<|zR I<|xh<|?_
 rw[show l.length-i=(l.length-(i+1))+1 by omega,Ob] at hE
 obtain⟨b,off,rfl,hrow⟩:=hA.row hlt
 have hr:=CU default hrow hlt
 obtain⟨x,hx⟩: ∃x,x=l.getD i default:=⟨_,rfl⟩
 rw[<-hx] at hr hE
 refine wP I<|wJ ?_
 refine wL 0 I I (fun W1 hp=>hr.hp hp) I<|wG I I fun _=>wP I<|wS 0 I I I<|zC<|?_
 rename_i b4
 refine zE<|zA<|zA<|?_
 refine Bz (X:=Unit) (fun _=>[(0,slv (some ⟨b,off,none⟩) l.length cap),(2, .int .i64 0),(3, .int .i64 (i:Nat)),(4, .pointer (some ⟨b4,0,none⟩)),(8,slv (some ⟨b,off,none⟩) l.length cap),(9, .int .i64 (l.length:Nat)),(10, .int .i64 (i:Nat)),(30, .bool (decide (¬alR x)))])
  (fun _=>[⟨b4,91,alC x,true,none⟩]) (fun _=>True) ?_ ?_
 ·refine zB<|wP I<|wB 0 I I I<|wP I<|wB 0 I I I<|wP I<|wB 0 I I I<|wP I<|wB 0 I I I<|wC I I (fun W1 _=>Nn x W1)<|?_
  by_cases c1:alW x
  rotate_left
  ·refine wU 23 false I (dF c1)<|Aa I<|?_
   iterate 4 refine Ac I I ?_
   exact wP I<|zC<|Au () tO ⟨I,I,I,I,I,I,I,congrArg (fun c=>some (Value.bool c)) (dT (p:= ¬alR x) fun h=>c1 h.1).symm,tO⟩ [] I
  refine wU 23 true I (dT c1)<|Ae I<|wB 0 I I I<|wC I I (fun W1 _=>D1 x.n 1 65536 W1)<|?_
  by_cases c2:wn x.n 1 65536
  ·exact wU 28 true I (dT c2)<|Aa I<|zC<|Au () tO ⟨I,I,I,I,I,I,I,congrArg (fun c=>some (Value.bool c)) (dF (p:= ¬alR x) fun h=>h ⟨c1,c2⟩).symm,tO⟩ [] I
  ·exact wU 28 false I (dF c2)<|Aa I<|zC<|Au () tO ⟨I,I,I,I,I,I,I,congrArg (fun c=>some (Value.bool c)) (dT (p:= ¬alR x) fun h=>c2 h.2).symm,tO⟩ [] I
 intro _ _
 refine Av I (fun hc=> ?_) (fun hc=> ?_)
 ·have hc: ¬alR x:=of_decide_eq_true hc
  rw[if_pos hc] at hE
  exact xb<|wP I<|xc<|zP<|xi<|wR1 I I (by rw[hE])
 have hc': ¬ ¬alR x:=of_decide_eq_false hc
 have hR:alR x:=Classical.not_not.1 hc'
 rw[if_neg hc'] at hE
 have hall': ∀j,j<i+1->alR (l.getD j default):=fun j hj=>by
  by_cases e:j=i
  ·subst e;rw[<-hx];exact hR
  ·exact hall j (by omega)
 have done: ¬alB l i->DX l=P4 l (i+1) (l.length-(i+1)):=fun h=>by rw[hE,if_neg h]
 by_cases hi0:i=0
 ·have hB: ¬alB l i:=fun h=>by have:=h.1;omega
  refine zI<|zE<|zA<|zU<|AO I<|qU 32 false I (dF (by omega))<|qP I<|?_
  iterate 8 refine Cy I I ?_
  exact qP I<|zD<|xa<|zS I<|zI<|xj<|wP I<|wV 43 ((i+1:Nat):Int) I (Az (by omega))<|wP I<|zC<|Ax (i+1) ⟨hlt,done hB,hall'⟩ (by show l.length-(i+1)<l.length-i;omega) ⟨I,I,I,I,I,tO⟩ [_] I
 have hpr:=CU default hrow (show i-1<l.length by omega)
 obtain⟨y,hy⟩: ∃y,y=l.getD (i-1) default:=⟨_,rfl⟩
 have hyR:alR y:=by rw[hy];exact hall (i-1) (by omega)
 rw[<-hy] at hpr
 have hB:alB l i↔Zg y x≥0:=by unfold alB;rw[<-hx, <-hy];exact⟨fun h=>h.2,fun h=>⟨by omega,h⟩⟩
 refine zI<|zE<|zA<|zU<|AO I<|qU 32 true I (dT (by omega))<|E7 I<|qV 36 ((i-1:Nat):Int) I (by show w64 ((i:Int)-1)=_;rw[AC (by omega) (by omega)];omega)<|qJ ?_
 refine qL 0 I I (fun W1 hp=>hpr.hp hp) I<|qB 0 I I I<|qC I I (fun W1 _=>PV y x hyR.1 hR.1 W1)<|qP I<|?_
 by_cases hle:Zg y x≥0
 ·rw[if_pos (hB.2 hle)] at hE
  exact qU 41 true I (dT hle)<|qP I<|zD<|xa<|zR I<|xb<|wP I<|xc<|xi<|wR1 I I (by rw[hE])
 exact qU 41 false I (dF hle)<|qP I<|zD<|xa<|zS I<|zI<|xj<|wP I<|wV 43 ((i+1:Nat):Int) I (Az (by omega))<|wP I<|zC<|Ax (i+1) ⟨hlt,done fun h=>hle (hB.1 h),hall'⟩ (by show l.length-(i+1)<l.length-i;omega) ⟨I,I,I,I,I,tO⟩ [_] I
def puB (l:List Int) (i:Nat):Prop:=0<i/\l.getD i 0<=l.getD (i-1) 0
instance (l:List Int) (i:Nat):Decidable (puB l i):=by unfold puB;infer_instance
def OX (l:List Int):Nat->Nat->Int
 |_,0=>0
 |i,k+1=>if ¬wn (l.getD i 0) 0 1048576 then 2 else if puB l i then 10 else OX l (i+1) k
theorem Oa (l:List Int) (i k:Nat):OX l i (k+1)=if ¬wn (l.getD i 0) 0 1048576 then 2 else if puB l i then 10 else OX l (i+1) k:=rfl
def F4 (l:List Int):Int:=if 16<l.length then 4 else OX l 0 l.length
theorem Tf (l:List Int) (p:Option Addr) (cap:Nat) (hn:l.length<=1000000) (W:World) (hA:AB 1 C9 W p l):
  Ag Tryz.prog 160 #[slv p l.length cap] W (fun _:Unit=> .int .i64 (F4 l)) (fun _=>True) (fun _=>[]):=by
 refine Ab Tryz.func160 I I I<|xb<|wP I<|xa<|xd<|Ae I<|?_
 by_cases h4:16<l.length
 ·exact wU 7 true I (dT (by omega))<|xa<|zR I<|xb<|wP I<|xc<|zP<|wR1 I I (by unfold F4;rw[if_pos h4])
 have hE:F4 l=OX l 0 (l.length-0):=by unfold F4;rw[if_neg h4];rfl
 refine wU 7 false I (dF (by omega))<|xa<|zS I<|zI<|zE<|xd<|Ae I<|xa<|zH<|A6 (X:=Nat) (fun i=>[(0,slv p l.length cap),(2, .int .i64 0),(8,slv p l.length cap),(9, .int .i64 (l.length:Nat)),(10, .int .i64 (i:Nat))]) (fun _=>[]) (fun i=>i<=l.length/\F4 l=OX l i (l.length-i)) (fun i=>l.length-i) 0 ⟨Nat.zero_le _,hE⟩ ⟨I,I,I,I,I,tO⟩ [] I ?_
 rintro i ⟨hi,hE⟩
 have hi:i<=l.length:=hi
 have hE:F4 l=OX l i (l.length-i):=hE
 refine xb<|wP I<|?_
 by_cases hlt:i<l.length
 rotate_left
 ·refine wU 11 false I (dF (by omega))<|xa<|zA<|zS I<|xf<|xe<|?_
  rw[show l.length-i=0 by omega] at hE
  exact wP I<|xc<|wR1 I I (by rw[hE];rfl)
 refine wU 11 true I (dT (by omega))<|xa<|zA<|zR I<|xh<|?_
 rw[show l.length-i=(l.length-(i+1))+1 by omega,Oa] at hE
 obtain⟨b,off,rfl,hrow⟩:=hA.row hlt
 have hr:=CU 0 hrow hlt
 obtain⟨x,hx⟩: ∃x,x=l.getD i 0:=⟨_,rfl⟩
 rw[<-hx] at hr hE
 refine wP I<|wJ ?_
 refine wL 0 I I (fun W1 hp=>hr.hp hp) I<|Aa I<|xa<|xd<|wP I<|wC I I (fun W1 _=>D7 x 0 1048576 W1)<|?_
 by_cases hc: ¬wn x 0 1048576
 ·rw[if_pos hc] at hE
  exact wU 16 false I (dF hc)<|wP I<|xa<|zR I<|xb<|wP I<|xc<|zP<|xi<|wR1 I I (by rw[hE])
 rw[if_neg hc] at hE
 refine wU 16 true I (dT (Classical.not_not.1 hc))<|wP I<|xa<|zS I<|zI<|xe<|?_
 have done: ¬puB l i->F4 l=OX l (i+1) (l.length-(i+1)):=fun h=>by rw[hE,if_neg h]
 by_cases hi0:i=0
 ·have hB: ¬puB l i:=fun h=>by have:=h.1;omega
  refine Aa I<|wU 19 false I (dF (by omega))<|wP I<|?_
  iterate 7 refine Ac I I ?_
  exact wP I<|xa<|zS I<|zI<|xj<|wP I<|wV 29 ((i+1:Nat):Int) I (Az (by omega))<|wP I<|zC<|Ax (i+1) ⟨hlt,done hB⟩ (by show l.length-(i+1)<l.length-i;omega) ⟨I,I,I,I,I,tO⟩ [] I
 have hpr:=CU 0 hrow (show i-1<l.length by omega)
 obtain⟨y,hy⟩: ∃y,y=l.getD (i-1) 0:=⟨_,rfl⟩
 rw[<-hy] at hpr
 have hB:puB l i↔x<=y:=by unfold puB;rw[<-hx, <-hy];exact⟨fun h=>h.2,fun h=>⟨by omega,h⟩⟩
 refine Aa I<|wU 19 true I (dT (by omega))<|A8 I<|wV 24 ((i-1:Nat):Int) I (by show w64 ((i:Int)-1)=_;rw[AC (by omega) (by omega)];omega)<|wJ ?_
 refine wL 0 I I (fun W1 hp=>hpr.hp hp) I<|wP I<|?_
 by_cases hle:x<=y
 ·rw[if_pos (hB.2 hle)] at hE
  exact wU 27 true I (dT hle)<|wP I<|xa<|zR I<|xb<|wP I<|xc<|xi<|wR1 I I (by rw[hE])
 exact wU 27 false I (dF hle)<|wP I<|xa<|zS I<|zI<|xj<|wP I<|wV 29 ((i+1:Nat):Int) I (Az (by omega))<|wP I<|zC<|Ax (i+1) ⟨hlt,done fun h=>hle (hB.1 h)⟩ (by show l.length-(i+1)<l.length-i;omega) ⟨I,I,I,I,I,tO⟩ [] I
section
variable {r:Option Nat} {n:Nat} {P:Program} {N:Nat} {D:List Deferred} {ops:List Oper} {Q:Exit->Act->World->Prop} {o:Oper} {rest:List Oper} {env:Env} {A A2:World->Prop} {R:Act->World->Prop}
theorem Ro {ρ:Operand->Value} {t e:TypeId} {m c:Nat} {x y:Operand} {k:IntKind} {b off:Nat} {z:Int} (ht:P.underlying t=some (.array m e)) (hs: ∀W,(Go.sizeOf e).run P W= .ok c W) (ho:o.op= .indexAddr t x y)
  (hx:ρ x= .pointer (some ⟨b,off,none⟩)) (hy:ρ y= .int k z) (h0:0<=z/\z<m) (W:World):(execOp ρ o).run P W= .ok (.value (.pointer (some ⟨b,off+z.toNat*c,none⟩))) W:=by
 simp[execOp,ho,hx,hy,Instr.indexAt,Instr.sureAddr,asIntOf,run_underlying ht,hs,h0.1,h0.2,Addr.add_none]
theorem Uw {d:Nat} {t e:TypeId} {m c:Nat} {x y:Operand} {k:IntKind} {b off:Nat} {z:Int} (ht:P.underlying t=some (.array m e)) (hs: ∀W,(Go.sizeOf e).run P W= .ok c W) (hg:Aj ops N env o=some true) (hd:o.dst=some d) (ho:o.op= .indexAddr t x y)
  (hx:evO N env x=some (.pointer (some ⟨b,off,none⟩))) (hy:evO N env y=some (.int k z)) (h0:0<=z/\z<m)
  (h:WL r n P N D ops Q rest ((d, .pointer (some ⟨b,off+z.toNat*c,none⟩))::env) A):WL r n P N D ops Q (o::rest) env A:=
 Bf hg hd (fun c e=>by rw[ho] at e;cases e) (fun _ W hρ _=>Ro ht hs ho (hρ _ _ hx) (hρ _ _ hy) h0 W) h
theorem Zh {d:Nat} {t e:TypeId} {m c:Nat} {x y:Operand} {k:IntKind} {b off:Nat} {z:Int} (ht:P.underlying t=some (.array m e)) (hs: ∀W,(Go.sizeOf e).run P W= .ok c W) (hg:Aj ops N env o=some true) (hd:o.dst=some d) (ho:o.op= .indexAddr t x y)
  (hx:evO N env x=some (.pointer (some ⟨b,off,none⟩))) (hy:evO N env y=some (.int k z)) (h0:0<=z/\z<m)
  (h:WQ P N D ops A2 R rest ((d, .pointer (some ⟨b,off+z.toNat*c,none⟩))::env) A):WQ P N D ops A2 R (o::rest) env A:=
 CD hg hd (fun c e=>by rw[ho] at e;cases e) (fun _ W hρ _=>Ro ht hs ho (hρ _ _ hx) (hρ _ _ hy) h0 W) h
end
abbrev jb (l:List Bool):List Value:=l.map Value.bool
theorem X0 (c:List Value) (j:Nat) (v:Value) (h:j<c.length):BD c j [v]=c.set j v:=by
 rw[List.set_eq_take_append_cons_drop,if_pos h]
 simp[BD]
theorem cH (z:Bool) {L:List Bool} {j:Nat} (hj:j<L.length):BD (jb L) (0+j*1) (Value.bool z).cells.toList=jb (L.set j z):=by
 rw[Nat.mul_one,Nat.zero_add]
 show BD _ j [Value.bool z]=_
 rw[X0 _ _ _ (by rw[List.length_map];omega)]
 exact(List.map_set ..).symm
theorem eQ {l:List Bool} {g:Nat} {e:TypeId} {W0 W:World} {bxs:List Bx} (hp:Hp W0 bxs W) (k:Nat) (hk:nth bxs k=some ⟨g,e,jb l,true,none⟩) {i:Nat} (hi:i<l.length):Al W g (0+i*1) [.bool (l.getD i false)]:=by
 have h:=Al.of_bx hp k hk rfl
 refine⟨h.lt,fun j u hu=> ?_⟩
 have hj:j=0:=by have:=(List.getElem?_eq_some_iff.1 hu).1;simp at this;omega
 subst hj
 have:=h.get (i*1+0) u (by
  show(jb l)[i*1+0]? =some u
  rw[show i*1+0=i by omega,List.getElem?_map,List.getElem?_eq_getElem hi, <-hu,List.getD_eq_getElem?_getD,List.getElem?_eq_getElem hi];rfl)
 rw[Nat.zero_add] at this⊢
 exact this
structure SzS where
 k:Int
 w:Int
 d:Int
instance:Inhabited SzS:=⟨⟨0,0,0⟩⟩
def szC (x:SzS):List Value:=[.int .i64 x.k, .int .i64 x.w, .int .i64 x.d]
theorem UO (x:SzS):(szC x).length=3:=rfl
def szK (x:SzS):Prop:=x.k<1\/x.k≥13
instance (x:SzS):Decidable (szK x):=by unfold szK;infer_instance
def szW (x:SzS):Prop:=min x.w x.d<1\/max x.w x.d>1000
instance (x:SzS):Decidable (szW x):=by unfold szW;infer_instance
def Ta (l:List SzS):List Bool->Nat->Nat->Int
 |_,_,0=>0
 |sn,i,k+1=>if szK (l.getD i default) then 8 else if szW (l.getD i default) then 2 else if sn.getD (l.getD i default).k.toNat false=true then 7 else Ta l (sn.set (l.getD i default).k.toNat true) (i+1) k
theorem NA (l:List SzS) (sn:List Bool) (i k:Nat):Ta l sn i (k+1)=if szK (l.getD i default) then 8 else if szW (l.getD i default) then 2 else if sn.getD (l.getD i default).k.toNat false=true then 7 else Ta l (sn.set (l.getD i default).k.toNat true) (i+1) k:=rfl
def D4 (l:List SzS):Int:=Ta l (List.replicate 13 false) 0 l.length
theorem cX (a b:Int):(if b<a then b else a)=min a b:=by omega
theorem cD (a b:Int):(if b>a then b else a)=max a b:=by omega
theorem GP (l:List SzS) (p:Option Addr) (cap:Nat) (hn:l.length<=1000000) (W:World) (hA:AB 3 szC W p l):
  Ag Tryz.prog 150 #[slv p l.length cap] W (fun _:Unit=> .int .i64 (D4 l)) (fun _=>True) (fun _=>[]):=by
 refine Ab Tryz.func150 I I I<|xb<|wP I<|xg<|wG I I fun _=>zC<|?_
 rename_i b3
 refine zE<|xd<|Ae I<|xa<|zH<|A6 (X:=Nat×List Bool) (fun x=>[(2, .int .i64 0),(3, .pointer (some ⟨b3,0,none⟩)),(6,slv p l.length cap),(7, .int .i64 (l.length:Nat)),(8, .int .i64 (x.1:Nat))]) (fun x=>[⟨b3,273,jb x.2,true,none⟩]) (fun x=>x.1<=l.length/\x.2.length=13/\D4 l=Ta l x.2 x.1 (l.length-x.1)) (fun x=>l.length-x.1) (0,List.replicate 13 false) ⟨Nat.zero_le _,I,I⟩ ⟨I,I,I,I,I,tO⟩ [] I ?_
 rintro⟨i,sn⟩ ⟨hi,hs,hE⟩
 have hi:i<=l.length:=hi
 have hs:sn.length=13:=hs
 have hE:D4 l=Ta l sn i (l.length-i):=hE
 refine xb<|wP I<|?_
 by_cases hlt:i<l.length
 rotate_left
 ·refine wU 9 false I (dF (by show¬((i:Int)<(l.length:Nat));omega))<|xa<|zA<|zS I<|xf<|xe<|?_
  rw[show l.length-i=0 by omega] at hE
  exact wP I<|xc<|wR1 I I (by rw[hE];rfl)
 refine wU 9 true I (dT (by show(i:Int)<(l.length:Nat);omega))<|xa<|zA<|zR I<|xh<|?_
 rw[show l.length-i=(l.length-(i+1))+1 by omega,NA] at hE
 obtain⟨b,off,rfl,hrow⟩:=hA.row hlt
 have hr:=CU default hrow hlt
 obtain⟨x,hx⟩: ∃x,x=l.getD i default:=⟨_,rfl⟩
 rw[<-hx] at hr hE
 refine wJ ?_
 refine wL 0 I I (fun W1 hp=>hr.hp hp) I<|wG I I fun _=>wS 1 I I I<|zC<|?_
 rename_i b5
 refine zE<|zA<|zH<|zA<|?_
 refine Bz (X:=Unit) (fun _=>[(2, .int .i64 0),(3, .pointer (some ⟨b3,0,none⟩)),(5, .pointer (some ⟨b5,0,none⟩)),(6,slv (some ⟨b,off,none⟩) l.length cap),(7, .int .i64 (l.length:Nat)),(8, .int .i64 (i:Nat)),(12, .bool (decide (szK x)))])
  (fun _=>[⟨b3,273,jb sn,true,none⟩,⟨b5,84,szC x,true,none⟩]) (fun _=>True) ?_ ?_
 ·refine zB<|wP I<|wB 1 I I I<|wP I<|?_
  by_cases c1:x.k<1
  ·refine wU 15 true I (dT c1)<|wP I<|?_
   iterate 3 refine Ac I I ?_
   exact Aa I<|zC<|Au () tO ⟨I,I,I,I,I,I,congrArg (fun c=>some (Value.bool c)) (dT (p:=szK x) (.inl c1)).symm,tO⟩ [] I
  refine wU 15 false I (dF c1)<|Aa I<|wB 1 I I I<|wP I<|?_
  by_cases c2:x.k≥13
  ·exact wU 19 true I (dT c2)<|Aa I<|zC<|Au () tO ⟨I,I,I,I,I,I,congrArg (fun c=>some (Value.bool c)) (dT (p:=szK x) (.inr c2)).symm,tO⟩ [] I
  ·exact wU 19 false I (dF c2)<|Aa I<|zC<|Au () tO ⟨I,I,I,I,I,I,congrArg (fun c=>some (Value.bool c)) (dF (p:=szK x) fun h=>h.elim c1 c2).symm,tO⟩ [] I
 intro _ _
 refine Av I (fun hc=> ?_) (fun hc=> ?_)
 ·have hc:szK x:=of_decide_eq_true hc
  rw[if_pos hc] at hE
  exact xb<|wP I<|xc<|zQ<|zP<|xi<|wR1 I I (by rw[hE])
 have hc: ¬szK x:=of_decide_eq_false hc
 rw[if_neg hc] at hE
 have hk0:1<=x.k/\x.k<13:=by unfold szK at hc;omega
 refine EX ?_
 refine Bz (X:=Unit) (fun _=>[(2, .int .i64 0),(3, .pointer (some ⟨b3,0,none⟩)),(5, .pointer (some ⟨b5,0,none⟩)),(6,slv (some ⟨b,off,none⟩) l.length cap),(7, .int .i64 (l.length:Nat)),(8, .int .i64 (i:Nat)),(21, .bool (decide (szW x)))])
  (fun _=>[⟨b3,273,jb sn,true,none⟩,⟨b5,84,szC x,true,none⟩]) (fun _=>True) ?_ ?_
 ·refine zB<|wP I<|wB 1 I I I<|wP I<|wB 1 I I I<|wP I<|wV 26 (min x.w x.d) I (cX x.w x.d)<|wP I<|?_
  by_cases c1:min x.w x.d<1
  ·refine wU 27 true I (dT c1)<|wP I<|?_
   iterate 6 refine Ac I I ?_
   exact Aa I<|zC<|Au () tO ⟨I,I,I,I,I,I,congrArg (fun c=>some (Value.bool c)) (dT (p:=szW x) (.inl c1)).symm,tO⟩ [] I
  refine wU 27 false I (dF c1)<|Aa I<|wB 1 I I I<|wP I<|wB 1 I I I<|wP I<|wV 33 (max x.w x.d) I (cD x.w x.d)<|wP I<|?_
  by_cases c2:max x.w x.d>1000
  ·exact wU 34 true I (dT c2)<|Aa I<|zC<|Au () tO ⟨I,I,I,I,I,I,congrArg (fun c=>some (Value.bool c)) (dT (p:=szW x) (.inr c2)).symm,tO⟩ [] I
  ·exact wU 34 false I (dF c2)<|Aa I<|zC<|Au () tO ⟨I,I,I,I,I,I,congrArg (fun c=>some (Value.bool c)) (dF (p:=szW x) fun h=>h.elim c1 c2).symm,tO⟩ [] I
 intro _ _
 refine Av I (fun hw=> ?_) (fun hw=> ?_)
 ·have hw:szW x:=of_decide_eq_true hw
  rw[if_pos hw] at hE
  exact xb<|wP I<|xc<|zQ<|zP<|xi<|wR1 I I (by rw[hE])
 have hw: ¬szW x:=of_decide_eq_false hw
 rw[if_neg hw] at hE
 have hkl:x.k.toNat<sn.length:=by omega
 refine xb<|wP I<|wB 1 I I I<|?_
 refine Uw Tryz.underlying273 Tryz.sizeOf4 I I I I I ⟨by omega,by show x.k<((13:Nat):Int);omega⟩ ?_
 refine wL 0 I I (fun W1 hp=>eQ hp 0 I hkl) I ?_
 cases hq:sn.getD x.k.toNat false with
 |true=>
  rw[if_pos hq] at hE
  exact wP I<|xa<|zR I<|xb<|wP I<|xc<|zQ<|zP<|xi<|wR1 I I (by rw[hE])
 |false=>
  rw[if_neg (by rw[hq];decide)] at hE
  refine wP I<|xa<|zS I<|zI<|xj<|wP I<|wB 1 I I I<|?_
  refine Uw Tryz.underlying273 Tryz.sizeOf4 I I I I I ⟨by omega,by show x.k<((13:Nat):Int);omega⟩ ?_
  refine BT 0 (jb (sn.set x.k.toNat true)) tH I I I I I I I I I I (by show 0+x.k.toNat*1+1<=(jb sn).length;rw[List.length_map];omega) (cH true hkl) ?_
  exact zC<|xj<|wP I<|wV 44 ((i+1:Nat):Int) I (Az (by omega))<|wP I<|zC<|Ax (i+1,sn.set x.k.toNat true) ⟨hlt,by show(sn.set x.k.toNat true).length=13;rw[List.length_set,hs],hE⟩ (by show l.length-(i+1)<l.length-i;omega) ⟨I,I,I,I,I,tO⟩ [_] I
structure LdS where
 k:Int
 s:Int
 w:List UInt8
instance:Inhabited LdS:=⟨⟨0,0,[]⟩⟩
def ldC (x:LdS):List Value:=[.int .i64 x.k, .int .i64 x.s,str x.w]
theorem ZF (x:LdS):(ldC x).length=3:=rfl
def ldK (x:LdS):Prop:=x.k<1\/x.k>3
instance (x:LdS):Decidable (ldK x):=by unfold ldK;infer_instance
def ldR (x:LdS):Prop:=x.s< -1\/x.s≥24
instance (x:LdS):Decidable (ldR x):=by unfold ldR;infer_instance
noncomputable def ldE1 (l:List LdS):Nat->Nat->Int
 |_,0=>0
 |i,k+1=>if ldK (l.getD i default) then 8 else if ldR (l.getD i default) then 2 else if wgtE (l.getD i default).w≠0 then wgtE (l.getD i default).w else ldE1 l (i+1) k
theorem On (l:List LdS) (i k:Nat):ldE1 l i (k+1)=if ldK (l.getD i default) then 8 else if ldR (l.getD i default) then 2 else if wgtE (l.getD i default).w≠0 then wgtE (l.getD i default).w else ldE1 l (i+1) k:=rfl
noncomputable def loadE (l:List LdS):Int:=if 64<l.length then 4 else ldE1 l 0 l.length
theorem PB (l:List LdS) (p:Option Addr) (cap:Nat) (hn:l.length<=1000000) (hw: ∀x∈l,x.w.length<=4000000) (W:World) (hA:AB 3 ldC W p l) (hv:DM W) (ht:AZ W):
  Ag Tryz.prog 166 #[slv p l.length cap] W (fun _:Unit=> .int .i64 (loadE l)) (fun _=>True) (fun _=>[]):=by
 refine Ab Tryz.func166 I I I<|xb<|wP I<|xa<|xd<|Ae I<|?_
 by_cases h4:64<l.length
 ·exact wU 8 true I (dT (by omega))<|xa<|zR I<|xb<|wP I<|xc<|zP<|wR1 I I (by unfold loadE;rw[if_pos h4])
 have hE:loadE l=ldE1 l 0 (l.length-0):=by unfold loadE;rw[if_neg h4];rfl
 refine wU 8 false I (dF (by omega))<|xa<|zS I<|zI<|zE<|xd<|Ae I<|xa<|zH<|A6 (X:=Nat) (fun i=>[(2, .int .i64 0),(9,slv p l.length cap),(10, .int .i64 (l.length:Nat)),(11, .int .i64 (i:Nat))]) (fun _=>[]) (fun i=>i<=l.length/\loadE l=ldE1 l i (l.length-i)) (fun i=>l.length-i) 0 ⟨Nat.zero_le _,hE⟩ ⟨I,I,I,I,tO⟩ [] I ?_
 rintro i ⟨hi,hE⟩
 have hi:i<=l.length:=hi
 have hE:loadE l=ldE1 l i (l.length-i):=hE
 refine xb<|wP I<|?_
 by_cases hlt:i<l.length
 rotate_left
 ·refine wU 12 false I (dF (by omega))<|xa<|zA<|zS I<|xf<|xe<|?_
  rw[show l.length-i=0 by omega] at hE
  exact wP I<|xc<|wR1 I I (by rw[hE];rfl)
 refine wU 12 true I (dT (by omega))<|xa<|zA<|zR I<|xh<|?_
 rw[show l.length-i=(l.length-(i+1))+1 by omega,On] at hE
 obtain⟨b,off,rfl,hrow⟩:=hA.row hlt
 have hr:=CU default hrow hlt
 have hwl:(l.getD i default).w.length<=4000000:=hw _ (by rw[List.getD_eq_getElem?_getD,List.getElem?_eq_getElem hlt];exact List.getElem_mem hlt)
 obtain⟨x,hx⟩: ∃x,x=l.getD i default:=⟨_,rfl⟩
 rw[<-hx] at hr hE hwl
 refine wJ ?_
 refine wL 0 I I (fun W1 hp=>hr.hp hp) I<|wG I I fun _=>wS 0 I I I<|zC<|?_
 rename_i b4
 refine zE<|zA<|zA<|?_
 refine Bz (X:=Unit) (fun _=>[(2, .int .i64 0),(4, .pointer (some ⟨b4,0,none⟩)),(9,slv (some ⟨b,off,none⟩) l.length cap),(10, .int .i64 (l.length:Nat)),(11, .int .i64 (i:Nat)),(22, .bool (decide (ldK x)))])
  (fun _=>[⟨b4,89,ldC x,true,none⟩]) (fun _=>True) ?_ ?_
 ·refine zB<|wP I<|wB 0 I I I<|wP I<|?_
  by_cases c1:x.k<1
  ·refine wU 17 true I (dT c1)<|wP I<|?_
   iterate 3 refine Ac I I ?_
   exact wP I<|zC<|Au () tO ⟨I,I,I,I,I,congrArg (fun c=>some (Value.bool c)) (dT (p:=ldK x) (.inl c1)).symm,tO⟩ [] I
  refine wU 17 false I (dF c1)<|Aa I<|wB 0 I I I<|wP I<|?_
  by_cases c2:x.k>3
  ·exact wU 21 true I (dT c2)<|wP I<|zC<|Au () tO ⟨I,I,I,I,I,congrArg (fun c=>some (Value.bool c)) (dT (p:=ldK x) (.inr c2)).symm,tO⟩ [] I
  ·exact wU 21 false I (dF c2)<|wP I<|zC<|Au () tO ⟨I,I,I,I,I,congrArg (fun c=>some (Value.bool c)) (dF (p:=ldK x) fun h=>h.elim c1 c2).symm,tO⟩ [] I
 intro _ _
 refine Av I (fun hc=> ?_) (fun hc=> ?_)
 ·have hc:ldK x:=of_decide_eq_true hc
  rw[if_pos hc] at hE
  exact xb<|wP I<|xc<|zP<|xi<|wR1 I I (by rw[hE])
 have hc: ¬ldK x:=of_decide_eq_false hc
 rw[if_neg hc] at hE
 refine zI<|zE<|zA<|zA<|?_
 refine Bz (X:=Unit) (fun _=>[(2, .int .i64 0),(4, .pointer (some ⟨b4,0,none⟩)),(9,slv (some ⟨b,off,none⟩) l.length cap),(10, .int .i64 (l.length:Nat)),(11, .int .i64 (i:Nat)),(30, .bool (decide (ldR x)))])
  (fun _=>[⟨b4,89,ldC x,true,none⟩]) (fun _=>True) ?_ ?_
 ·refine zB<|wP I<|wB 0 I I I<|wP I<|?_
  by_cases c1:x.s< -1
  ·refine wU 25 true I (dT c1)<|wP I<|?_
   iterate 3 refine Ac I I ?_
   exact wP I<|zC<|Au () tO ⟨I,I,I,I,I,congrArg (fun c=>some (Value.bool c)) (dT (p:=ldR x) (.inl c1)).symm,tO⟩ [] I
  refine wU 25 false I (dF c1)<|Aa I<|wB 0 I I I<|wP I<|?_
  by_cases c2:x.s≥24
  ·exact wU 29 true I (dT c2)<|wP I<|zC<|Au () tO ⟨I,I,I,I,I,congrArg (fun c=>some (Value.bool c)) (dT (p:=ldR x) (.inr c2)).symm,tO⟩ [] I
  ·exact wU 29 false I (dF c2)<|wP I<|zC<|Au () tO ⟨I,I,I,I,I,congrArg (fun c=>some (Value.bool c)) (dF (p:=ldR x) fun h=>h.elim c1 c2).symm,tO⟩ [] I
 intro _ _
 refine Av I (fun hc=> ?_) (fun hc=> ?_)
 ·have hc:ldR x:=of_decide_eq_true hc
  rw[if_pos hc] at hE
  exact xb<|wP I<|xc<|zP<|xi<|wR1 I I (by rw[hE])
 have hc: ¬ldR x:=of_decide_eq_false hc
 rw[if_neg hc] at hE
 refine zI<|xe<|wP I<|wB 0 I I I<|wC I I (fun W1 hp=>Ny x.w hwl W1 (hv.hp hp) (ht.hp hp))<|wP I<|xg<|Aa I<|?_
 by_cases hz:wgtE x.w≠0
 ·rw[if_pos hz] at hE
  exact wU 35 true I (bne_iff_ne.2 hz)<|xa<|zR I<|xb<|Aa I<|xc<|xi<|wR1 I I (by rw[hE])
 rw[if_neg hz] at hE
 exact wU 35 false I (bne_eq_false_iff_eq.2 (Classical.not_not.1 hz))<|xa<|zS I<|zI<|xj<|wP I<|wV 37 ((i+1:Nat):Int) I (Az (by omega))<|wP I<|zC<|Ax (i+1) ⟨hlt,hE⟩ (by show l.length-(i+1)<l.length-i;omega) ⟨I,I,I,I,tO⟩ [_] I
theorem C5 (W:World) (l sep:List UInt8) (hl:l.length<=1000000) (hv:AQ W):
  Ag Tryz.prog 82 #[str l,str sep] W (fun _:Unit=> .tuple #[str (cut l sep).1,str (cut l sep).2.1, .bool (cut l sep).2.2]) (fun _=>True) (fun _=>[]):=by
 obtain⟨m,hm⟩:=hv.max
 have hsz:(⟨l.toArray⟩:ByteArray).size=l.length:=by show l.toArray.size=_;simp
 refine Ag.of1 ((Tryz.strings_Cut ⟨l.toArray⟩ ⟨sep.toArray⟩ m W (by rw[hsz];omega) hm).mono ?_)
 rintro e W' ⟨rfl,n,rfl⟩
 refine⟨I, ?_⟩
 have:=GS W n #[]
 rwa [Sort.grow_empty] at this
def IH (s:List UInt8):List Value:=[str s]
theorem Gr (s:List UInt8):(IH s).length=1:=rfl
def EK (x:List UInt8):List (List UInt8)->Nat->Int
 |[],_=> -1
 |a::l,i=>if x=a then(i:Int) else EK x l (i+1)
theorem VW {x:List UInt8} {l:List (List UInt8)} {i:Nat} (h:i<l.length) (k:Nat):EK x (l.drop i) k=if x=l[i] then(k:Int) else EK x (l.drop (i+1)) (k+1):=by
 rw[List.drop_eq_getElem_cons h];rfl
theorem Jr (x:List UInt8) (l:List (List UInt8)) (p:Option Addr) (cap:Nat) (hn:l.length<=1000000) (W:World) (hA:AB 1 IH W p l):
  Ag Tryz.prog 113 #[slv p l.length cap,str x] W (fun _:Unit=> .int .i64 (EK x l 0)) (fun _=>True) (fun _=>[]):=by
 refine Ab Tryz.func113 I I I<|xb<|wP I<|xa<|xd<|Ae I<|xa<|zH<|A6 (X:=Nat) (fun i=>[(0,slv p l.length cap),(1,str x),(4, .int .i64 0),(7, .int .i64 (l.length:Nat)),(8, .int .i64 (i:Nat))]) (fun _=>[]) (fun i=>i<=l.length/\EK x l 0=EK x (l.drop i) i) (fun i=>l.length-i) 0 ⟨Nat.zero_le _,I⟩ ⟨I,I,I,I,I,tO⟩ [] I ?_
 rintro i ⟨hi,hE⟩
 have hi:i<=l.length:=hi
 have hE:EK x l 0=EK x (l.drop i) i:=hE
 refine xb<|wP I<|?_
 by_cases hlt:i<l.length
 rotate_left
 ·refine wU 9 false I (dF (by omega))<|xa<|zA<|zS I<|xf<|xe<|?_
  rw[List.drop_of_length_le (by omega)] at hE
  exact wP I<|xc<|wR1 I I (by rw[hE];rfl)
 refine wU 9 true I (dT (by omega))<|xa<|zA<|zR I<|xh<|?_
 rw[VW hlt] at hE
 obtain⟨b,off,rfl,hrow⟩:=hA.row hlt
 have hr:=hrow i hlt
 obtain⟨y,hy⟩: ∃y,y=l[i]:=⟨_,rfl⟩
 rw[<-hy] at hr hE
 refine Aa I<|xg<|Ae I<|wJ ?_
 refine wL 0 I I (fun W1 hp=>hr.hp hp) I<|wP I<|?_
 by_cases hz:x=y
 ·rw[if_pos hz] at hE
  exact wU 16 true I (show((⟨x.toArray⟩:ByteArray).toList==(⟨y.toArray⟩:ByteArray).toList)=true by rw[Hk,dT hz])<|xa<|zR I<|xb<|Aa I<|xc<|xi<|wR1 I I (by rw[hE])
 rw[if_neg hz] at hE
 exact wU 16 false I (show((⟨x.toArray⟩:ByteArray).toList==(⟨y.toArray⟩:ByteArray).toList)=false by rw[Hk,dF hz])<|xa<|zS I<|zI<|xj<|wP I<|wV 18 ((i+1:Nat):Int) I (Az (by omega))<|wP I<|zC<|Ax (i+1) ⟨hlt,hE⟩ (by show l.length-(i+1)<l.length-i;omega) ⟨I,I,I,I,I,tO⟩ [] I
def Ba:List (List UInt8):=[[],[99,111,109,109,111,110],[104,105,112,106,97,99,107],[118,97,108,108,101,121,106,97,99,107],[99,114,105,112,112,108,101],[111,116,104,101,114],[104,105,112],[118,97,108,108,101,121],[114,105,100,103,101],[112,117,114,108,105,110],[112,108,97,116,101],[116,114,105,109,109,101,114],[104,101,97,100,101,114]]
def Bo (W:World):Prop:=Al W 1 0 (Ba.flatMap IH++[])
theorem Bo.hp {W0 W:World} {bxs:List Bx} (h:Bo W0) (hp:Hp W0 bxs W):Bo W:=Al.hp h hp
theorem Bo.rows {W:World} (h:Bo W):AB 1 IH W (some ⟨1,0,none⟩) Ba:=AB.of_row Gr h
section
variable {r:Option Nat} {n:Nat} {P:Program} {N:Nat} {D:List Deferred} {ops:List Oper} {Q:Exit->Act->World->Prop} {o:Oper} {rest:List Oper} {env:Env} {A A2:World->Prop} {R:Act->World->Prop}
theorem We {d:Nat} {t e:TypeId} {m:Nat} {x:Operand} {b off:Nat} (ht:P.underlying t=some (.array m e)) (hs: ∀W,(Go.sizeOf e).run P W= .ok 1 W) (hg:Aj ops N env o=some true) (hd:o.dst=some d) (ho:o.op= .slice t x none none none)
  (hx:evO N env x=some (.pointer (some ⟨b,off,none⟩)))
  (h:WL r n P N D ops Q rest ((d, .slice (some ⟨b,off,none⟩) m m)::env) A):WL r n P N D ops Q (o::rest) env A:=
 Bf hg hd (fun c e=>by rw[ho] at e;cases e) (fun ρ W hρ _=>by
  simp[execOp,ho,Instr.sliceAt,Instr.sliceBounds,Instr.sureAddr,run_underlying ht,hs,hρ _ _ hx,Addr.add_none]) h
end
def EG (l:List UInt8):Option SzS:=
 if (cut (cut l [32]).2.1 [32]).2.2=true/\(cut l [32]).1≠[]/\0<EK (cut l [32]).1 Ba 0 then
  match E0 4 (cut (cut l [32]).2.1 [32]).1,E0 4 (cut (cut l [32]).2.1 [32]).2.1 with
  |some w,some d=>some ⟨EK (cut l [32]).1 Ba 0,w,d⟩
  |_,_=>none
 else none
theorem GU (s sep:List UInt8):(cut s sep).1.length<=s.length/\(cut s sep).2.1.length<=s.length:=by
 unfold cut
 split
 ·exact⟨by rw[List.length_take];omega,by rw[List.length_drop];omega⟩
 ·exact⟨Nat.le_refl _,Nat.zero_le _⟩
theorem Ku (l:List UInt8) (hl:l.length<=1000000) (W:World) (hv:AQ W) (ht:AZ W) (hw:Bo W):
  Ag Tryz.prog 151 #[str l] W (fun x:SzS×Bool=> .tuple #[.agg (szC x.1).toArray, .bool x.2]) (fun x=>(∃s,EG l=some s/\x=(s,true))\/(EG l=none/\x.2=false)) (fun _=>[]):=by
 refine Ab Tryz.func151 I I I ?_
 have hc1:=GU l [32]
 have hc2:=GU (cut l [32]).2.1 [32]
 have hP:EG l=if (cut (cut l [32]).2.1 [32]).2.2=true/\(cut l [32]).1≠[]/\0<EK (cut l [32]).1 Ba 0 then
   match E0 4 (cut (cut l [32]).2.1 [32]).1,E0 4 (cut (cut l [32]).2.1 [32]).2.1 with
   |some w,some d=>some ⟨EK (cut l [32]).1 Ba 0,w,d⟩
   |_,_=>none
  else none:=rfl
 obtain⟨w1,r1,s1,e1⟩: ∃w1 r1 s1,cut l [32]=(w1,r1,s1):=⟨_,_,_,rfl⟩
 rw[e1] at hc1 hc2 hP
 obtain⟨w2,r2,s2,e2⟩: ∃w2 r2 s2,cut r1 [32]=(w2,r2,s2):=⟨_,_,_,rfl⟩
 simp only at hc1 hc2 hP
 rw[e2] at hc2 hP
 simp only at hc2 hP
 refine xb<|wG I I fun _=>wP I<|zC<|?_
 rename_i b2
 refine xe<|wP I<|wC I I (fun W hp=>(C5 W l [32] hl (hv.hp hp)).cast (by rw[e1]))<|Bb I<|wP I<|xg<|wP I<|wC I I (fun W hp=>(C5 W r1 [32] (by omega) (hv.hp hp)).cast (by rw[e2]))<|Bb I<|wP I<|?_
 refine xg<|We Tryz.underlying217 Tryz.sizeOf9 I I I I ?_
 refine wP I<|wC I I (fun W1 hp=>Jr w1 Ba (some ⟨1,0,none⟩) 13 (by decide) W1 (hw.hp hp).rows)<|wP I<|xg<|wP I<|wD (X:=Int×Bool) I I (fun W1 hp=>I5 w2 (by omega) W1 (hv.hp hp) (ht.hp hp)) ?_
 rintro⟨z1,a1⟩ n1
 refine A8 I<|xg<|wP I<|wD (X:=Int×Bool) I I (fun W1 hp=>I5 r2 (by omega) W1 (hv.hp hp) (ht.hp hp)) ?_
 rintro⟨z2,a2⟩ n2
 refine A8 I<|xg<|Ae I<|Ak Tryz.hZ tH I I I I I I I I ?_
 have fin: ∀c:Bool,(EG l=some ⟨EK w1 Ba 0,z1,z2⟩/\c=true)\/(EG l=none/\c=false)->(∃s,EG l=some s/\((⟨EK w1 Ba 0,z1,z2⟩:SzS),c)=(s,true))\/(EG l=none/\((⟨EK w1 Ba 0,z1,z2⟩:SzS),c).2=false):=fun c h=>by
  rcases h with⟨h1,rfl⟩|h
  ·exact .inl ⟨_,h1,I⟩
  ·exact .inr h
 cases s2 with
 |false=>
  have hN:EG l=none:=by rw[hP,if_neg fun h=>by cases h.1]
  refine Aa I<|?_
  iterate 2 refine Ac I I ?_
  refine Aa I<|?_
  iterate 2 refine Ac I I ?_
  refine Aa I<|Ac I I ?_
  refine Aa I<|Ac I I ?_
  exact wP I<|wS 0 I I I<|wP I<|xc<|An tH I (.cell 0 I I I I I) (.tmp I) (⟨EK w1 Ba 0,z1,z2⟩,false) I (fin false (.inr ⟨hN,I⟩)) fun W _=>As.nil _ _
 |true=>
  refine A3 I<|?_
  by_cases hw1:w1=[]
  ·have hN:EG l=none:=by rw[hP,if_neg fun h=>h.2.1 hw1]
   refine wU 47 false I (show(!((⟨w1.toArray⟩:ByteArray).toList==(⟨#[]⟩:ByteArray).toList))=false by rw[AL,AL [],hw1];rfl)<|Aa I<|?_
   iterate 2 refine Ac I I ?_
   refine Aa I<|Ac I I ?_
   refine Aa I<|Ac I I ?_
   exact wP I<|wS 0 I I I<|wP I<|xc<|An tH I (.cell 0 I I I I I) (.tmp I) (⟨EK w1 Ba 0,z1,z2⟩,false) I (fin false (.inr ⟨hN,I⟩)) fun W _=>As.nil _ _
  refine wU 47 true I (show(!((⟨w1.toArray⟩:ByteArray).toList==(⟨#[]⟩:ByteArray).toList))=true by rw[AL,AL []];simpa using hw1)<|A3 I<|?_
  by_cases hk:0<EK w1 Ba 0
  rotate_left
  ·have hN:EG l=none:=by rw[hP,if_neg fun h=>hk h.2.2]
   refine wU 51 false I (dF hk)<|Aa I<|Ac I I ?_
   refine Aa I<|Ac I I ?_
   exact wP I<|wS 0 I I I<|wP I<|xc<|An tH I (.cell 0 I I I I I) (.tmp I) (⟨EK w1 Ba 0,z1,z2⟩,false) I (fin false (.inr ⟨hN,I⟩)) fun W _=>As.nil _ _
  refine wU 51 true I (dT hk) ?_
  rw[if_pos ⟨rfl,hw1,hk⟩] at hP
  rcases n1 with⟨m1,q1,p1⟩|⟨q1,p1⟩
  rotate_left
  ·have p1:a1=false:=p1
   subst p1
   have hN:EG l=none:=by rw[hP,q1]
   refine A8 I<|Ac I I ?_
   exact wP I<|wS 0 I I I<|wP I<|xc<|An tH I (.cell 0 I I I I I) (.tmp I) (⟨EK w1 Ba 0,z1,z2⟩,false) I (fin false (.inr ⟨hN,I⟩)) fun W _=>As.nil _ _
  injection p1 with p1 p1'
  subst p1 p1'
  refine Bb I<|wP I<|wS 0 I I I<|wP I<|xc<|An tH I (.cell 0 I I I I I) (.tmp I) (⟨EK w1 Ba 0,z1,z2⟩,a2) I (fin a2 ?_) fun W _=>As.nil _ _
  rw[q1] at hP
  rcases n2 with⟨m2,q2,p2⟩|⟨q2,p2⟩
  ·injection p2 with p2 p2'
   rw[q2] at hP
   exact .inl ⟨by rw[hP,p2],p2'⟩
  ·rw[q2] at hP
   exact .inr ⟨hP,p2⟩
def Pu {α:Type} (f:List UInt8->Option α):List α->List (List UInt8)->Option (List α)
 |acc,[]=>some acc
 |acc,a::ls=>match ls with
  |[]=>if a=[] then some acc else none
  |_::_=>match f a with
   |none=>none
   |some x=>Pu f (acc++[x]) ls
def Dx {α:Type} (f:List UInt8->Option α) (acc:List α) (s:List UInt8):Option (List α):=Pu f acc (AI 10 s)
theorem M5 {α:Type} (f:List UInt8->Option α) (acc:List α):Dx f acc []=some acc:=rfl
theorem K0 {α:Type} {f:List UInt8->Option α} {acc:List α} {s:List UInt8} (h:(10:UInt8)∉s) (h0:s≠[]):Dx f acc s=none:=by
 unfold Dx
 rw[HM h]
 show(if s=[] then _ else _)=_
 rw[if_neg h0]
theorem N5 {α:Type} {f:List UInt8->Option α} {acc:List α} {a:List UInt8} (b:List UInt8) (h:(10:UInt8)∉a):Dx f acc (a++10::b)=match f a with
  |none=>none
  |some x=>Dx f (acc++[x]) b:=by
 unfold Dx
 rw[J9 b h,Gv 10 b]
 rfl
def CR (s:List UInt8):List SzS×Int:=if 65536<s.length then([],4) else match Dx EG [] s with
 |none=>([],3)
 |some l=>if D4 l=0 then(l,0) else([],D4 l)
theorem Ej (n:Nat) (W:World):Go.Am.Own n [CN] W:=by
 have hb: ∀(k:Nat) (B:Bx),[CN][k]? =some B->B.blk=[]:=fun k B h=>by
  cases k with
  |zero=>injection h with h;rw[<-h];rfl
  |succ k=>cases h
 refine⟨fun k B h p hp=> ?_,fun k B h=> ?_,fun i j B C h _ _ p hp=> ?_⟩
 ·rw[hb k B h] at hp;cases hp
 ·rw[hb k B h];exact List.nodup_nil
 ·rw[hb i B h] at hp;cases hp
theorem Ig (s:List UInt8):(!((⟨s.toArray⟩:ByteArray).toList==(⟨#[]⟩:ByteArray).toList))=decide (s≠[]):=by
 rw[AL,AL []]
 by_cases h:s=[]
 ·rw[h];rfl
 ·rw[dT h];simpa using h
theorem O2 (s0:List UInt8) (hs0:s0.length<=1000000) (W:World) (hv:AQ W) (ht:AZ W) (hw:Bo W):
  Ag Tryz.prog 96 #[str s0] W (fun V:Vec=> .tuple #[V.val (CR s0).1.length, .int .i64 (CR s0).2]) (fun V=>V.OK 3 (CR s0).1.length ((CR s0).1.flatMap szC)) (fun V=>[V.bx 84 ((CR s0).1.flatMap szC)]):=by
 refine Ab Tryz.func96 I I I<|xb<|Aa I<|xa<|xd<|Aa I<|Ao 12 (.int .i64 (s0.length:Nat)) I (congrArg (fun n:Nat=>Value.int .i64 (n:Int)) (A5 s0))<|wP I<|?_
 by_cases h4:65536<s0.length
 ·have hout:CR s0=([],4):=by unfold CR;rw[if_pos h4]
  refine wU 13 true I (dT (by omega))<|xa<|zR I<|xb<|Aa I<|xc<|zP<|?_
  refine An tH I (.tmp I) (.tmp I) Vec.empty (by rw[hout];rfl) (by rw[hout];exact Vec.OK.empty 3) fun W1 hp=> ?_
  rw[hout]
  exact Ej _ _
 refine wU 13 false I (dF (by omega))<|xa<|zS I<|zI<|xe<|?_
 have hO:CR s0=match Dx EG [] s0 with
   |none=>([],3)
   |some l=>if D4 l=0 then(l,0) else([],D4 l):=by unfold CR;rw[if_neg h4]
 refine wP I<|xa<|zA<|zH<|Be ?_
 refine A6 (X:=List SzS×Vec×List UInt8) (fun x=>[(0,str x.2.2),(2, .slice none 0 0),(3, .int .i64 0),(4,x.2.1.val x.1.length)]) (fun x=>[x.2.1.bx 84 (x.1.flatMap szC)])
  (fun x=>x.2.1.OK 3 x.1.length (x.1.flatMap szC)/\Dx EG x.1 x.2.2=Dx EG [] s0/\x.1.length+x.2.2.length<=s0.length) (fun x=>x.2.2.length) ([],Vec.empty,s0) ⟨Vec.OK.empty 3,rfl,by show 0+s0.length<=_;omega⟩ ⟨rfl,rfl,rfl,rfl,trivial⟩ [] rfl ?_
 rintro⟨acc,V,s⟩ ⟨hV,hE,hz⟩
 simp only at hV hE hz
 refine xd<|Aa I<|?_
 by_cases hs:s=[]
 ·subst hs
  rw[M5] at hE
  rw[<-hE] at hO
  refine wU 15 false I ((Ig []).trans (by decide))<|xa<|zS I<|xf<|zE<|xd<|?_
  rw[show V.val acc.length=slv (AU V) acc.length (Bd V) from Bs hV]
  refine wP I<|wC I I (fun W1 hp=>GP acc (AU V) (Bd V) (by omega) W1 (EI UO hp 0 hV I))<|wP I<|xg<|Aa I<|?_
  by_cases hc:D4 acc=0
  ·have hout:CR s0=(acc,0):=by rw[hO];show(if _ then _ else _)=_;rw[if_pos hc]
   refine wU 41 false I (bne_eq_false_iff_eq.2 hc)<|xa<|zS I<|zI<|xe<|Ae I<|xc<|?_
   refine An tH I (.tmp I) (.tmp I) V (by rw[hout,Bs hV]) (by rw[hout];exact hV) fun W1 hp=> ?_
   rw[hout]
   exact hp.own
  ·have hout:CR s0=([],D4 acc):=by rw[hO];show(if _ then _ else _)=_;rw[if_neg hc]
   refine wU 41 true I (bne_iff_ne.2 hc)<|xa<|zR I<|xb<|Ae I<|xc<|zP<|?_
   refine An tH I (.tmp I) (.tmp I) Vec.empty (by rw[hout];rfl) (by rw[hout];exact Vec.OK.empty 3) fun W1 hp=> ?_
   rw[hout]
   exact Ej _ _
 refine wU 15 true I ((Ig s).trans (dT hs))<|xa<|zR I<|zI<|zE<|zH<|xb<|?_
 rcases E9 10 s with hm|⟨a,b,rfl,ha⟩
 ·have hout:CR s0=([],3):=by rw[hO, <-hE,K0 hm hs]
  refine wP I<|wC I I (fun W hp=>(C5 W s [10] (by omega) (hv.hp hp)).cast (by rw[Hs hm]))<|Bb I<|wP I<|xg<|wP I<|wD (X:=SzS×Bool) I I (fun W1 hp=>Ku s (by omega) W1 (hv.hp hp) (ht.hp hp) (hw.hp hp)) ?_
  rintro⟨x,ok⟩ _
  refine Ae I<|wG I I fun _=>wS 1 I I I<|wP I<|xa<|xd<|Ae I<|?_
  iterate 2 refine Ac I I ?_
  refine wP I<|xa<|zR I<|xb<|Aa I<|xc<|zP<|zQ<|zP<|zQ<|zP<|?_
  refine An tH I (.tmp I) (.tmp I) Vec.empty (by rw[hout];rfl) (by rw[hout];exact Vec.OK.empty 3) fun W1 hp=> ?_
  rw[hout]
  exact Ej _ _
 rw[N5 b ha] at hE
 have hlab:(a++10::b).length=a.length+b.length+1:=by rw[List.length_append,List.length_cons];omega
 rw[hlab] at hz
 refine wP I<|wC I I (fun W hp=>(C5 W (a++10::b) [10] (by rw[hlab];omega) (hv.hp hp)).cast (by rw[IT b ha]))<|Bb I<|wP I<|xg<|wP I<|wD (X:=SzS×Bool) I I (fun W1 hp=>Ku a (by omega) W1 (hv.hp hp) (ht.hp hp) (hw.hp hp)) ?_
 rintro⟨x,ok⟩ hx
 refine Ae I<|wG I I fun _=>wS 1 I I I<|wP I<|zC<|?_
 rename_i b8
 rcases hx with⟨y,hy,e⟩|⟨hno,hok⟩
 rotate_left
 ·have hok:ok=false:=hok
  subst hok
  have hout:CR s0=([],3):=by rw[hO, <-hE,hno]
  refine zE<|xd<|Bb I<|xa<|zR I<|xb<|Aa I<|xc<|zP<|zQ<|zP<|zQ<|?_
  refine zP ?_
  refine An tH I (.tmp I) (.tmp I) Vec.empty (by rw[hout];rfl) (by rw[hout];exact Vec.OK.empty 3) fun W1 hp=> ?_
  rw[hout]
  exact Ej _ _
 injection e with e1 e2
 subst e1 e2
 rw[hy] at hE
 refine zE<|xd<|Bb I<|xa<|zS I<|zI<|zE<|zB<|wP I<|wB 1 I I I<|?_
 (refine Ai Tryz.hZ tH rfl rfl rfl rfl rfl rfl rfl rfl rfl rfl rfl ?_;intro)
 refine AA (V:=V) (len:=acc.length) (xs:=acc.flatMap szC) 0 2 Tryz.vec68 (acc++[x]).length ((acc++[x]).flatMap szC) I I I I I I I I I I I hV I I (by rw[List.length_append];rfl) (by rw[CV];rfl) (by rw[List.length_append,List.length_singleton];simp only[maxLen];omega) (by rw[List.length_append,List.length_singleton];omega) I ?_
 intro g c1 j1 hV1
 exact Ae I<|zC<|zN<|Ax (acc++[x],⟨some g,c1,j1⟩,b) ⟨hV1,hE,by show(acc++[x]).length+b.length<=_;rw[List.length_append,List.length_singleton];omega⟩ (by show b.length<(a++10::b).length;omega) ⟨I,I,I,I,tO⟩ [_,_] I
end
section
open Go Go.RowKit Go.Am
set_option maxRecDepth 10000
abbrev Vr (a b c d:Int):Value:= .agg #[.int .i64 a, .int .i64 b, .int .i64 c, .int .i64 d]
theorem RC (s t u:Sd):Cd Tryz.prog 242 [Hb s t u] (Vr (if u.x<t.x then u.x else t.x) (if u.y<t.y then u.y else t.y) (if u.x>t.x then u.x else t.x) (if u.y>t.y then u.y else t.y)):=by
 intro W
 refine Ab Tryz.func242 I I I<|xb<|wF I I fun _=>AY (z:=Vr 0 0 0 0) I I I (fun W=>by kernel_rfl) fun b2=> ?_
 refine xa<|zA<|?_
 refine MH (X:=Nat×Nat) (fun x=>[(2, .pointer (some ⟨b2,0,none⟩)),(3, .pointer (some ⟨x.1,0,none⟩)),(4, .pointer (some ⟨x.2,0,none⟩))])
  (fun x=>[⟨b2,319,(Vr 0 0 0 0).cells.toList,true,none⟩,⟨x.1,312,(spot t.x t.y).cells.toList,true,none⟩,⟨x.2,312,(spot u.x u.y).cells.toList,true,none⟩]) 4 Tryz.mixed (by kernel_rfl) ?_ ?_
 ·refine qP I<|qB 0 I I I<|qC I I (fun W _=>B9 t W)<|qP I<|qB 0 I I I<|qC I I (fun W _=>B9 u W)<|zG<|wX<|RS.cons ?_ (RS.cons ?_ RS.nil)
  ·refine AY (z:=spot 0 0) I I I (fun W=>by kernel_rfl) fun b3=> ?_
   refine zC<|zF<|wX<|RS.cons ?_ RS.nil
   refine AY (z:=spot 0 0) I I I (fun W=>by kernel_rfl) fun b4=> ?_
   refine zC<|zF<|wX<|RS.cons ?_ RS.nil
   refine wS 2 I I I<|zC<|zF<|wX<|RS.cons ?_ RS.nil
   refine wS 3 I I I<|zC<|zF<|?_
   refine B6 I (by((repeat (first|refine B3.same ?_|refine B3.off I ?_));exact tO)) ?_
   exact AR (b3,b4) ⟨I,I,I,tO⟩ [1,2,3] (by decide) I
  ·refine AY (z:=spot 0 0) I I I (fun W=>by kernel_rfl) fun b4=> ?_
   refine zC<|zF<|wX<|RS.cons ?_ RS.nil
   refine AY (z:=spot 0 0) I I I (fun W=>by kernel_rfl) fun b3=> ?_
   refine zC<|zF<|wX<|RS.cons ?_ RS.nil
   refine wS 3 I I I<|zC<|zF<|wX<|RS.cons ?_ RS.nil
   refine wS 2 I I I<|zC<|zF<|?_
   refine B6 I (by((repeat (first|refine B3.same ?_|refine B3.off I ?_));exact tO)) ?_
   exact AR (b3,b4) ⟨I,I,I,tO⟩ [1,3,2] (by decide) I
 ·rintro⟨b3,b4⟩
  refine xe<|wP I<|wB 1 I I I<|wP I<|wB 2 I I I<|Aa I<|wB 1 I I I<|wP I<|wB 2 I I I<|wP I<|EJ (spot 0 0) tH I I I I I (fun W=>by kernel_rfl) I I ?_
  refine wP I<|wB 1 I I I<|wP I<|wB 2 I I I<|Aa I<|wB 1 I I I<|wP I<|wB 2 I I I<|wP I<|EJ (spot 0 0) tH I I I I I (fun W=>by kernel_rfl) I I ?_
  refine EJ (Vr 0 0 0 0) tH I I I I I (fun W=>by kernel_rfl) I I ?_
  exact wS 0 I I I<|xc<|Ar tH I (.cell 0 I I I I I) () I tO fun W _=>As.nil _ _
theorem S6 (a b c d a' b' c' d':Int):Cd Tryz.prog 243 [Vr a b c d,Vr a' b' c' d'] (.bool (decide (a<=c')&&decide (a'<=c)&&decide (b<=d')&&decide (b'<=d))):=by
 intro W
 refine Ab Tryz.func243 I I I<|xb<|wF I I fun _=>wF I I fun _=>wP I<|xg<|Aa I<|wB 0 I I I<|Aa I<|wB 1 I I I<|Aa I<|B5 12 I (fun h12=> ?_) (fun h12=> ?_)
 ·refine Aa I<|wB 1 I I I<|Aa I<|wB 0 I I I<|Ae I<|B5 21 I (fun h21=> ?_) (fun h21=> ?_)
  ·refine Aa I<|wB 0 I I I<|Aa I<|wB 1 I I I<|Ae I<|B5 30 I (fun h30=> ?_) (fun h30=> ?_)
   ·exact Aa I<|wB 1 I I I<|Aa I<|wB 0 I I I<|Ae I<|xc<|wR1 I I (by simp_all<;>(intros;omega))
   ·refine Ac I I ?_
    iterate 6 refine Ac I I ?_
    exact Aa I<|xc<|wR1 I I (by simp_all<;>(intros;omega))
  ·refine Ac I I ?_
   iterate 6 refine Ac I I ?_
   refine Aa I<|?_
   iterate 7 refine Ac I I ?_
   exact Aa I<|xc<|wR1 I I (by simp_all<;>(intros;omega))
 ·refine Ac I I ?_
  iterate 6 refine Ac I I ?_
  refine Aa I<|?_
  iterate 7 refine Ac I I ?_
  refine Aa I<|?_
  iterate 7 refine Ac I I ?_
  exact Aa I<|xc<|wR1 I I (by simp_all<;>(intros;omega))
theorem TA (W:World) (m:Nat) (hm:m<1099511627776):Ag Tryz.prog 235 #[.slice none 0 0, .int .i64 (m:Nat)] W (fun V:Vec=>V.val 0) (fun V=>V.OK 7 0 []/\(0<m->V.p≠none)) (fun V=>[V.bx 79 []]):=by
 refine Ab Tryz.func235 I I I<|xb<|wP I<|xa<|xd<|Aa I<|xa<|zS I<|zI<|zE<|xd<|?_
 iterate 8 refine wP I ?_
 refine xg<|Aa I<|xa<|?_
 have e14:w64 ((m:Int)-w64 (0-0))=m:=by
  have:w64 (0-0)=0:=rfl
  rw[this];exact(AC (by omega) (by omega)).trans (by omega)
 refine Bi 16 _ I (show Value.bool (decide (w64 ((m:Int)-w64 (0-0))>0))= .bool (decide (0<m)) by rw[e14];congr 1;simp) ?_
 refine Av I (fun h=> ?_) (fun h=> ?_)
 ·have h:0<m:=by simpa using h
  refine zB<|Ae I<|De 0 tH I I I I I I I I (Nat.le_refl _) ?_
  refine wP I ?_
  refine MD Tryz.vec208 (ku:= .i64) (by kernel_rfl) m I I I I I I I I e14 h (by simp only[maxLen];omega) (by omega) ?_
  intro V hV hp hj
  refine Aa I<|?_
  obtain⟨p,cap,junk⟩:=V
  cases p with
  |none=>exact absurd rfl hp
  |some g=>
  refine De (a:=some ⟨g,0,none⟩) (len:=m) (cap:=cap) 0 tH I I I I I I I I (Nat.zero_le _) ?_
  refine wP I<|xg<|Aa I<|xc<|?_
  obtain⟨h1,h2,h3⟩:=hV.cap (by simp)
  refine Ar tH rfl (.tmp rfl) (⟨some g,cap,Du [.int .i64 0, .int .i64 0, .int .i64 0, .int .i64 0, .bool false, .int .i64 0, .int .i64 0] m++junk⟩:Vec) rfl ⟨⟨rfl,(fun h=>by cases h),fun _=>⟨Nat.zero_le _,h2, ?_⟩⟩,fun _=>by simp⟩ fun W hp=>As.of_hp1 hp 0 rfl
  show 0+(Du _ m++junk).length=cap*7
  rw[List.length_append,Nat.zero_add]
  exact h3
 ·have h:m=0:=by simp at h;omega
  subst h
  exact zI<|xe<|wP rfl<|wP rfl<|xc<|Ar tH rfl (.tmp rfl) Vec.empty rfl ⟨Vec.OK.empty 7,fun h=>absurd h (Nat.lt_irrefl _)⟩ fun W hp=>Own.one (fun p hp=>by cases hp) List.nodup_nil
def cellsOf (l:List Sd):List Value:=l.flatMap Sd.cells
theorem HF (l m:List Sd):cellsOf (l++m)=cellsOf l++cellsOf m:=List.flatMap_append
theorem Fy: ∀l:List Sd,(cellsOf l).length=l.length*7
 |[]=>rfl
 |s::l=>by
  show(s.cells++cellsOf l).length=_
  rw[List.length_append,Fy l,List.length_cons]
  show 7+l.length*7=(l.length+1)*7
  omega
theorem Hr: ∀(l:List Sd) (i:Nat) (s:Sd),l[i]? =some s-> ∀j,j<7->(cellsOf l)[i*7+j]? =s.cells[j]?
 |[],i,s,h,_,_=>by simp at h
 |t::l,0,s,h,j,hj=>by
  obtain rfl:t=s:=by simpa using h
  show(t.cells++cellsOf l)[0*7+j]? =_
  rw[Nat.zero_mul,Nat.zero_add,List.getElem?_append_left (show j<t.cells.length from hj)]
 |t::l,i+1,s,h,j,hj=>by
  show(t.cells++cellsOf l)[(i+1)*7+j]? =_
  rw[List.getElem?_append_right (show t.cells.length<=(i+1)*7+j by show 7<=_;omega)]
  show(cellsOf l)[(i+1)*7+j-7]? =_
  rw[show(i+1)*7+j-7=i*7+j by omega]
  exact Hr l i s (by simpa using h) j hj
theorem Qy: ∀l:List Sd, ∀u∈cellsOf l,u.oneCell'=true:=fun l u hu=>by
 obtain⟨s,_,h⟩:=List.mem_flatMap.1 hu
 simp at h
 rcases h with rfl|rfl|rfl|rfl|rfl|rfl|rfl<;>rfl
theorem H1.of_cells {W:World} {b off:Nat} {l:List Sd} (hlt:b<W.heap.size) (h: ∀j u,(cellsOf l)[j]? =some u->W.cell? ⟨b,off+j,none⟩=some u):H1 W b off l:=by
 refine⟨fun i s hs=>⟨hlt,fun j u hj=> ?_⟩⟩
 have hj':j<7:=(List.getElem?_eq_some_iff.1 hj).1
 have h1:=Hr l i s hs j hj'
 rw[hj] at h1
 rw[Nat.add_assoc]
 exact h _ _ h1
theorem H1.cells {W:World} {b off:Nat} {l:List Sd} (h:H1 W b off l): ∀j u,(cellsOf l)[j]? =some u->W.cell? ⟨b,off+j,none⟩=some u:=by
 intro j u hj
 have hlt:j<l.length*7:=by rw[<-Fy];exact(List.getElem?_eq_some_iff.1 hj).1
 have hi:j/7<l.length:=by omega
 have h1:=Hr l (j/7) _ (List.getElem?_eq_getElem hi) (j%7) (Nat.mod_lt _ (by omega))
 have e:j/7*7+j%7=j:=by omega
 rw[e,hj] at h1
 have h2:=(h.get (j/7) _ (List.getElem?_eq_getElem hi)).get (j%7) u h1.symm
 rw[Nat.add_assoc,e] at h2
 exact h2
theorem Vec.ring {V:Vec} {l:List Sd} (hV:V.OK 7 l.length (cellsOf l)): ∃p cap,V.val l.length=slv p l.length cap/\ ∀ {W0 W:World} {bxs:List Bx},Hp W0 bxs W-> ∀k,nth bxs k=some (V.bx 79 (cellsOf l))->Dk W p l:=by
 obtain⟨p,cap,junk⟩:=V
 cases p with
 |none=>
  have h0:=hV.nil rfl
  refine⟨none,0,by rw[h0];rfl,fun _ _ _=> .inl (List.length_eq_zero_iff.1 h0)⟩
 |some g=>
  refine⟨some ⟨g,0,none⟩,cap,I,fun hp k hk=> .inr ⟨g,0,I,H1.of_cells (Al.of_bx hp k hk I).lt fun j u hj=> ?_⟩⟩
  refine(Al.of_bx hp k hk I).get j u ?_
  show(cellsOf l++junk)[j]? =some u
  rw[List.getElem?_append_left (List.getElem?_eq_some_iff.1 hj).1]
  exact hj
def tot (rs:List (List Sd)):Nat:=(rs.map List.length).sum
theorem HK (rs:List (List Sd)):rs.flatten.length=tot rs:=by simp[tot,List.length_flatten]
theorem Oi {rs:List (List Sd)} {k:Nat} (hk:k<rs.length):(rs.take (k+1)).flatten=(rs.take k).flatten++rg rs k:=by
 rw[List.take_add_one,CO hk];simp
theorem EO (rs:List (List Sd)) (k:Nat):tot (rs.take k)<=tot rs:=by
 conv=>rhs;rw[<-List.take_append_drop k rs]
 unfold tot
 rw[List.map_append,List.sum_append];omega
theorem Cm {rs:List (List Sd)} {k:Nat} (hk:k<rs.length):tot (rs.take (k+1))=tot (rs.take k)+(rg rs k).length:=by
 rw[<-HK, <-HK,Oi hk,List.length_append]
theorem Jl (W:World) (p:Option Addr) (cap:Nat) (rs:List (List Sd)) (hn:rs.length<4611686018427387904) (hT:tot rs<1099511627776) (hR:C6 W p rs) (hne: ∀l∈rs,l≠[]):
  Ag Tryz.prog 192 #[slv p rs.length cap] W (fun V:Vec=>V.val rs.flatten.length) (fun V=>V.OK 7 rs.flatten.length (cellsOf rs.flatten)) (fun V=>[V.bx 79 (cellsOf rs.flatten)]):=by
 refine Ab Tryz.func192 I I I<|xb<|wP I<|xg<|wP I<|xa<|xd<|Ae I<|xa<|zH<|?_
 refine A6 (X:=Nat) (fun k=>[(0,slv p rs.length cap),(3, .int .i64 (tot (rs.take k):Nat)),(9,slv p rs.length cap),(10, .int .i64 (rs.length:Nat)),(11, .int .i64 (k:Nat))]) (fun _=>[])
  (fun k=>k<=rs.length) (fun k=>rs.length-k) 0 (Nat.zero_le _) ⟨rfl,rfl,rfl,rfl,rfl,trivial⟩ [] rfl ?_
 intro k hk
 refine xb<|wP I<|xa<|zA<|Av I (fun h=> ?_) (fun h=> ?_)
 ·have hk:k<rs.length:=by simp at h;omega
  clear h
  obtain⟨b,off,rfl,hrow⟩:=hR.row hk
  obtain⟨q,cap2,hq1,hq2⟩:=hrow k hk
  refine xh<|wJ ?_
  refine wL 0 I I (fun W hp=>hq1.hp hp) I<|wP I<|xg<|A8 I<|zC<|?_
  have hs:w64 ((tot (rs.take k):Nat)+((rg rs k).length:Nat))=(tot (rs.take (k+1)):Nat):=by
   have h1:=Cm hk
   have h2:=EO rs (k+1)
   rw[AC (by omega) (by omega)];omega
  exact xe<|Ao 3 _ I (congrArg (Value.int .i64) hs)<|Aa I<|xa<|zS I<|zI<|xj<|Aa I<|zC<|Ax (k+1) hk (by omega) ⟨I,I,I,I,congrArg (fun z=>some (Value.int .i64 z)) (BO (x:=(k:Int)+1) (by omega) (by omega)),tO⟩ [] I
 ·have e:k=rs.length:=by simp at h;omega
  subst e
  clear h
  rw[List.take_length]
  refine xf<|xe<|wP I<|wD (X:=Vec) I I (fun W _=>TA W (tot rs) hT) ?_
  rintro V0 ⟨hV0,hV0p⟩
  refine wP I<|xa<|xd<|Ae I<|xa<|zH<|?_
  refine A6 (X:=Nat×Vec) (fun x=>[(6,x.2.val (tot (rs.take x.1))),(25,slv p rs.length cap),(26, .int .i64 (rs.length:Nat)),(27, .int .i64 (x.1:Nat))]) (fun x=>[x.2.bx 79 (cellsOf (rs.take x.1).flatten)])
   (fun x=>x.1<=rs.length/\x.2.OK 7 (tot (rs.take x.1)) (cellsOf (rs.take x.1).flatten)) (fun x=>rs.length-x.1) (0,V0) ⟨Nat.zero_le _,hV0⟩ ⟨rfl,rfl,rfl,rfl,trivial⟩ [] rfl ?_
  rintro⟨k,V⟩ ⟨hk,hV⟩
  refine xb<|wP I<|xa<|zA<|Av I (fun h=> ?_) (fun h=> ?_)
  ·have hk:k<rs.length:=by simp at h;omega
   clear h
   obtain⟨b,off,rfl,hrow⟩:=hR.row hk
   obtain⟨q,cap2,hq1,hq2⟩:=hrow k hk
   refine xh<|wJ ?_
   refine wL 0 I I (fun W hp=>hq1.hp hp) I<|wP I<|xa<|zB<|Aa I<|?_
   obtain⟨b2,off2,rfl,hRk⟩: ∃b off,q=some ⟨b,off,none⟩/\H1 W b off (rg rs k):=by
    rcases hq2 with h|h
    ·exact absurd h (hne _ (List.mem_of_getElem? (CO hk)))
    ·exact h
   have h1:=Cm hk
   have h2:=EO rs (k+1)
   refine Oe (len:=tot (rs.take k)) 0 Tryz.vec208 I I I I I I I I I hV (Fy (rg rs k)) (fun W hp j u hj=> ?_) (Qy _) (by simp only[maxLen];omega) (by omega) ?_
   ·have hR':Dk W (some ⟨b2,off2,none⟩) (rg rs k):=Dk.hp (.inr ⟨b2,off2,rfl,hRk⟩) hp
    rcases hR' with h|⟨b3,off3,e,hR'⟩
    ·exact absurd h (hne _ (List.mem_of_getElem? (CO hk)))
    ·cases e
     rw[Addr.add_none]
     exact hR'.cells j u hj
   intro V' hV' _
   have e3:cellsOf (rs.take k).flatten++cellsOf (rg rs k)=cellsOf (rs.take (k+1)).flatten:=by rw[Oi hk,HF]
   rw[e3, <-h1] at hV'
   rw[e3, <-h1]
   exact wP I<|zC<|xj<|Aa I<|zC<|Ax (k+1,V') ⟨hk,hV'⟩ (by show rs.length-(k+1)<rs.length-k;omega) ⟨I,I,I,congrArg (fun z=>some (Value.int .i64 z)) (BO (x:=(k:Int)+1) (by omega) (by omega)),tO⟩ [] I
  ·have e:k=rs.length:=by simp at h;omega
   subst e
   rw[List.take_length] at hV
   rw[List.take_length]
   refine xf<|xe<|Aa I<|xc<|?_
   refine Ar tH I (.tmp I) V (by rw[HK]) (by rw[HK];exact hV) fun W hp=>As.of_hp1 hp 0 I
def lox (t u:Sd):Int:=if u.x<t.x then u.x else t.x
def loy (t u:Sd):Int:=if u.y<t.y then u.y else t.y
def hix (t u:Sd):Int:=if u.x>t.x then u.x else t.x
def hiy (t u:Sd):Int:=if u.y>t.y then u.y else t.y
def bsd (rs:List (List Sd)) (q:Nat×Nat):Sd:=sd (rg rs q.1) q.2
def esd (rs:List (List Sd)) (q:Nat×Nat):Sd:=sd (rg rs q.1) (nxt (rg rs q.1).length q.2)
def Cu (rs:List (List Sd)) (q:Nat×Nat):List Value:=[.int .i64 (lox (bsd rs q) (esd rs q)), .int .i64 (loy (bsd rs q) (esd rs q)), .int .i64 (hix (bsd rs q) (esd rs q)), .int .i64 (hiy (bsd rs q) (esd rs q))]
def Cg (q:Nat×Nat):List Value:=[.int .i64 (q.1:Nat), .int .i64 (q.2:Nat)]
def Bu (k j:Nat):List (Nat×Nat):=(List.range j).map fun i=>(k,i)
def AH (rs:List (List Sd)):Nat->List (Nat×Nat)
 |0=>[]
 |k+1=>AH rs k++Bu k (rg rs k).length
theorem Wz (k j:Nat):Bu k (j+1)=Bu k j++[(k,j)]:=by simp[Bu,List.range_succ]
theorem Ms (k j:Nat):(Bu k j).length=j:=by simp[Bu]
theorem Kb (rs:List (List Sd)): ∀k,k<=rs.length->(AH rs k).length=tot (rs.take k)
 |0,_=>rfl
 |k+1,h=>by
  rw[Cm (by omega)]
  show(AH rs k++Bu k _).length=_
  rw[List.length_append,Kb rs k (by omega),Ms]
theorem Oc (rs:List (List Sd)): ∀k, ∀q∈AH rs k,q.1<k/\q.2<(rg rs q.1).length
 |0,q,h=>by cases h
 |k+1,q,h=>by
  rcases List.mem_append.1 h with h|h
  ·have:=Oc rs k q h
   exact⟨by omega,this.2⟩
  ·obtain⟨i,hi,rfl⟩:=List.mem_map.1 h
   exact⟨Nat.lt_succ_self k,List.mem_range.1 hi⟩
def nbB (n:Nat) (q q':Nat×Nat):Bool:=(q.1==q'.1)&&(((q.2:Int)-q'.2==1)||((q.2:Int)-q'.2==(n:Int)-1))
def eJ (t u t' u':Sd):Bool:=decide (lox t u<=hix t' u')&&decide (lox t' u'<=hix t u)&&decide (loy t u<=hiy t' u')&&decide (loy t' u'<=hiy t u)
def Ho (rs:List (List Sd)) (q q':Nat×Nat):Bool:= !nbB (rg rs q.1).length q q'&&eJ (bsd rs q) (esd rs q) (bsd rs q') (esd rs q')
def pl (rs:List (List Sd)) (i:Nat):Nat×Nat:=(AH rs rs.length).getD i (0,0)
def crs (rs:List (List Sd)):Bool:=(List.range (tot rs)).any fun i=>(List.range i).any fun k=>Ho rs (pl rs i) (pl rs k)
theorem Ra {α:Type} (f:α->List Value) (n:Nat) (hf: ∀x,(f x).length=n): ∀(l:List α) (i:Nat) (x:α),l[i]? =some x-> ∀(j:Nat) (u:Value),(f x)[j]? =some u->(l.flatMap f)[i*n+j]? =some u
 |[],i,x,h,_,_,_=>by simp at h
 |y::l,0,x,h,j,u,hu=>by
  obtain rfl:y=x:=by simpa using h
  rw[List.flatMap_cons,Nat.zero_mul,Nat.zero_add,List.getElem?_append_left (List.getElem?_eq_some_iff.1 hu).1]
  exact hu
 |y::l,i+1,x,h,j,u,hu=>by
  rw[List.flatMap_cons,List.getElem?_append_right (by rw[hf];rw[Nat.add_mul];omega),hf]
  rw[show(i+1)*n+j-n=i*n+j by rw[Nat.add_mul];omega]
  exact Ra f n hf l i x (by simpa using h) j u hu
theorem Vec.rowAt {α:Type} {f:α->List Value} {n:Nat} (hf: ∀x,(f x).length=n) {l:List α} {g cap:Nat} {junk:List Value} {e:TypeId} {W0 W:World} {bxs:List Bx} (hp:Hp W0 bxs W) (k:Nat) (hk:nth bxs k=some ((⟨some g,cap,junk⟩:Vec).bx e (l.flatMap f))) {i:Nat} {x:α} (hi:l[i]? =some x):
  Al W g (0+i*n) (f x):=by
 have h:=Al.of_bx hp k hk rfl
 refine⟨h.lt,fun j u hu=> ?_⟩
 have h1:=Ra f n hf l i x hi j u hu
 have:=h.get (i*n+j) u (by
  show(l.flatMap f++junk)[i*n+j]? =some u
  rw[List.getElem?_append_left (List.getElem?_eq_some_iff.1 h1).1]
  exact h1)
 rw[Nat.zero_add] at this⊢
 exact this
theorem Vec.val_eq {V:Vec} {size n:Nat} {xs:List Value} (h:V.OK size n xs):V.val n= .slice (V.p.map fun g=>⟨g,0,none⟩) n (match V.p with|none=>0|some _=>V.cap):=by
 obtain⟨p,cap,junk⟩:=V
 cases p with
 |none=>have:=h.nil rfl;subst this;rfl
 |some g=>rfl
theorem HC {n:Nat} {f:Nat->Bool} {k:Nat} (hk:k<n) (h:f k=true):(List.range n).any f=true:=List.any_eq_true.2 ⟨k,List.mem_range.2 hk,h⟩
theorem Ha {n:Nat} {f:Nat->Bool} (h: ∀k,k<n->f k=false):(List.range n).any f=false:=Bool.eq_false_iff.2 fun h2=>by
 obtain⟨k,hk,h3⟩:=List.any_eq_true.1 h2
 rw[h k (List.mem_range.1 hk)] at h3;cases h3
theorem L5 (W:World) (p:Option Addr) (cap:Nat) (rs:List (List Sd)) (hn:rs.length<4611686018427387904) (hT:tot rs<1099511627776) (hl: ∀l∈rs,l.length<4611686018427387904) (hR:C6 W p rs):
  Ag Tryz.prog 198 #[slv p rs.length cap] W (fun _:Unit=> .bool (crs rs)) (fun _=>True) (fun _=>[]):=by
 refine Ab Tryz.func198 I I I<|xb<|wP I<|xg<|wG I I fun _=>zC<|?_
 rename_i b3
 refine xe<|wG I I fun _=>zC<|?_
 rename_i b4
 refine zE<|xd<|Ae I<|xa<|zH<|?_
 iterate 2 refine Be ?_
 refine NO ?_
 refine LN (X:=Nat×Vec×Vec×List Nat) (fun x=>x.2.2.2.map C7) (fun x=>[(0,slv p rs.length cap),(3, .pointer (some ⟨b3,0,none⟩)),(4, .pointer (some ⟨b4,0,none⟩)),(14,slv p rs.length cap),(15, .int .i64 (rs.length:Nat)),(16, .int .i64 (x.1:Nat))])
  (fun x=>[⟨b3,316,[x.2.1.val (AH rs x.1).length],true,none⟩,⟨b4,317,[x.2.2.1.val (AH rs x.1).length],true,none⟩,x.2.1.bx 319 ((AH rs x.1).flatMap (Cu rs)),x.2.2.1.bx 322 ((AH rs x.1).flatMap Cg),bag x.2.2.2])
  (fun x=>x.1<=rs.length/\x.2.1.OK 4 (AH rs x.1).length ((AH rs x.1).flatMap (Cu rs))/\x.2.2.1.OK 2 (AH rs x.1).length ((AH rs x.1).flatMap Cg)) (fun x=>rs.length-x.1) (0,Vec.empty,Vec.empty,[])
  ⟨Nat.zero_le _,Vec.OK.empty 4,Vec.OK.empty 2⟩ rfl ⟨rfl,rfl,rfl,rfl,rfl,rfl,trivial⟩ [] rfl ?_
 rintro⟨k,V1,V2,ds⟩ ⟨hk0,hV10,hV20⟩
 have hk:k<=rs.length:=hk0
 have hV1:V1.OK 4 (AH rs k).length ((AH rs k).flatMap (Cu rs)):=hV10
 have hV2:V2.OK 2 (AH rs k).length ((AH rs k).flatMap Cg):=hV20
 clear hk0 hV10 hV20
 refine xb<|wP I<|xa<|zA<|Av I (fun h=> ?_) (fun h=> ?_)
 ·have hk:k<rs.length:=by simp at h;omega
  clear h
  obtain⟨b',off,rfl,hrow⟩:=hR.row hk
  obtain⟨q,cap2,hq1,hq2⟩:=hrow k hk
  have hlk:(rg rs k).length<4611686018427387904:=hl _ (List.mem_of_getElem? (CO hk))
  refine xh<|wP I<|wJ ?_
  refine wL 0 I I (fun W hp=>hq1.hp hp) I<|wG I I fun _=>?_
  rename_i b5
  refine wS 5 I I I<|wP I<|xg<|wP I<|wD (X:=Nat) I I (fun W _=>EN q (rg rs k).length cap2 W) ?_
  intro b _
  refine xa<|zH<|?_
  refine Eh (X:=Vec×Vec×Nat) (fun x=>[⟨b3,316,[x.1.val (AH rs k++Bu k x.2.2).length],true,none⟩,⟨b4,317,[x.2.1.val (AH rs k++Bu k x.2.2).length],true,none⟩,x.1.bx 319 ((AH rs k++Bu k x.2.2).flatMap (Cu rs)),x.2.1.bx 322 ((AH rs k++Bu k x.2.2).flatMap Cg),bag ds,⟨b5,3,[.int .i64 (k:Nat)],true,none⟩,⟨b,208,[slv q (rg rs k).length cap2],true,none⟩])
   (fun j x=>x.2.2=j/\x.1.OK 4 (AH rs k++Bu k x.2.2).length ((AH rs k++Bu k x.2.2).flatMap (Cu rs))/\x.2.1.OK 2 (AH rs k++Bu k x.2.2).length ((AH rs k++Bu k x.2.2).flatMap Cg)) (fun _ _=>False) (V1,V2,0) rfl (by kernel_rfl) (Ft b q cap2 (rg rs k) hlk) (fun _=>rfl)
   ⟨rfl,by show V1.OK 4 (AH rs k++Bu k 0).length _;rw[show AH rs k++Bu k 0=AH rs k by simp[Bu]];exact hV1,by show V2.OK 2 (AH rs k++Bu k 0).length _;rw[show AH rs k++Bu k 0=AH rs k by simp[Bu]];exact hV2⟩ []
   (by show _=_++[];rw[show AH rs k++Bu k (V1,V2,0).2.2=AH rs k by simp[Bu]];rfl) (fun j x W _ hp=>DS.mk' hq2 hp 6 rfl) ?_ ?_ (fun _ _ _ _ _ h=>h.elim)
  ·rintro j' ⟨U1,U2,j⟩ d L rec hj ⟨e1,hU1,hU2⟩ hrec
   obtain rfl:j=j':=e1
   have hU1:U1.OK 4 (AH rs k++Bu k j).length ((AH rs k++Bu k j).flatMap (Cu rs)):=hU1
   have hU2:U2.OK 2 (AH rs k++Bu k j).length ((AH rs k++Bu k j).flatMap Cg):=hU2
   have hlen:(AH rs k++Bu k (j+1)).length<=tot rs:=by
    rw[List.length_append,Ms,Kb rs k (by omega)]
    have h1:=Cm hk
    have h2:=EO rs (k+1)
    omega
   have hlen1:(AH rs k++Bu k (j+1)).length=(AH rs k++Bu k j).length+1:=by
    simp only[List.length_append,Ms];omega
   have es:AH rs k++Bu k (j+1)=(AH rs k++Bu k j)++[(k,j)]:=by rw[Wz,List.append_assoc]
   have eb1:(AH rs k++Bu k (j+1)).flatMap (Cu rs)=(AH rs k++Bu k j).flatMap (Cu rs)++Cu rs (k,j):=by rw[es,List.flatMap_append];simp
   have eb2:(AH rs k++Bu k (j+1)).flatMap Cg=(AH rs k++Bu k j).flatMap Cg++Cg (k,j):=by rw[es,List.flatMap_append];simp
   refine xb<|wP I<|xa<|zB<|wG I I fun _=>wS 9 I I I<|zC<|?_
   rename_i b8
   refine CJ 8 hrec I ?_
   refine Jq ?_
   refine JI (X:= {x:Vec×Vec//x.1.OK 4 (AH rs k++Bu k (j+1)).length ((AH rs k++Bu k (j+1)).flatMap (Cu rs))/\x.2.OK 2 (AH rs k++Bu k (j+1)).length ((AH rs k++Bu k (j+1)).flatMap Cg)}) (fun _=>[(3, .pointer (some ⟨b3,0,none⟩)),(4, .pointer (some ⟨b4,0,none⟩))])
    (fun x=>[⟨b3,316,[x.1.1.val (AH rs k++Bu k (j+1)).length],true,none⟩,⟨b4,317,[x.1.2.val (AH rs k++Bu k (j+1)).length],true,none⟩,x.1.1.bx 319 ((AH rs k++Bu k (j+1)).flatMap (Cu rs)),x.1.2.bx 322 ((AH rs k++Bu k (j+1)).flatMap Cg),bag ds,⟨b5,3,[.int .i64 (k:Nat)],true,none⟩,⟨b,208,[slv q (rg rs k).length cap2],true,none⟩,B7 d,Bc L rec .busy none]) 6 [⟨b3,316,[U1.val (AH rs k++Bu k j).length],true,none⟩,⟨b4,317,[U2.val (AH rs k++Bu k j).length],true,none⟩,CN,CN,bag ds,⟨b5,3,[.int .i64 (k:Nat)],true,none⟩,⟨b,208,[slv q (rg rs k).length cap2],true,none⟩,B7 d,Bc L rec .busy none,⟨b8,310,(Hb (sd (rg rs k) (prv (rg rs k).length j)) (sd (rg rs k) j) (sd (rg rs k) (nxt (rg rs k).length j))).cells.toList,true,none⟩] Tryz.mixed (by kernel_rfl) ?_ ?_
   ·refine qB 0 I I I<|qB 9 I I I<|qC I I (fun W _=>(RC ..))<|qB 1 I I I<|qB 5 I I I<|qP I<|Ie Tryz.hZ tH I I I I I I I I ?_
    refine Cp<|wX<|RS.cons ?_ (RS.cons ?_ (RS.nil))
    ·(refine Ai Tryz.hZ tH rfl rfl rfl rfl rfl rfl rfl rfl rfl rfl rfl ?_;intro)
     refine zC<|Aw<|wX<|RS.cons ?_ (RS.cons ?_ (RS.nil))
     ·(first|refine AA 2 10 Tryz.vec316 (AH rs k++Bu k (j+1)).length ((AH rs k++Bu k (j+1)).flatMap (Cu rs)) rfl rfl rfl rfl rfl rfl rfl rfl rfl rfl rfl hU1 rfl rfl hlen1.symm (by rw[eb1];rfl) (by simp only[maxLen];omega) (by omega) rfl ?_|refine AA 2 11 Tryz.vec316 (AH rs k++Bu k (j+1)).length ((AH rs k++Bu k (j+1)).flatMap (Cu rs)) rfl rfl rfl rfl rfl rfl rfl rfl rfl rfl rfl hU1 rfl rfl hlen1.symm (by rw[eb1];rfl) (by simp only[maxLen];omega) (by omega) rfl ?_);intro g1 c1 j1 hU1'
      refine zC<|Aw<|wX<|wZ<|?_
      (refine Ai Tryz.hZ tH rfl rfl rfl rfl rfl rfl rfl rfl rfl rfl rfl ?_;intro)
      refine zC<|Aw<|wX<|wZ<|?_
      (first|refine AA 3 10 Tryz.vec317 (AH rs k++Bu k (j+1)).length ((AH rs k++Bu k (j+1)).flatMap Cg) rfl rfl rfl rfl rfl rfl rfl rfl rfl rfl rfl hU2 rfl rfl hlen1.symm (by rw[eb2];rfl) (by simp only[maxLen];omega) (by omega) rfl ?_|refine AA 3 11 Tryz.vec317 (AH rs k++Bu k (j+1)).length ((AH rs k++Bu k (j+1)).flatMap Cg) rfl rfl rfl rfl rfl rfl rfl rfl rfl rfl rfl hU2 rfl rfl hlen1.symm (by rw[eb2];rfl) (by simp only[maxLen];omega) (by omega) rfl ?_);intro g2 c2 j2 hU2'
      refine zC<|Aw<|wX<|wZ<|wS 0 I I I<|zC<|Aw<|wY<|wZ<|wS 1 I I I<|zC<|Aw<|Cq I (by kernel_rfl) ?_
      exact AR ⟨(⟨some g1,c1,j1⟩,⟨some g2,c2,j2⟩),hU1',hU2'⟩ ⟨I,I,tO⟩ [0,1,2,3,4,5,6,7,8] (by decide) I
     ·(refine Ai Tryz.hZ tH rfl rfl rfl rfl rfl rfl rfl rfl rfl rfl rfl ?_;intro)
      refine zC<|Aw<|wX<|wZ<|?_
      (first|refine AA 2 10 Tryz.vec316 (AH rs k++Bu k (j+1)).length ((AH rs k++Bu k (j+1)).flatMap (Cu rs)) rfl rfl rfl rfl rfl rfl rfl rfl rfl rfl rfl hU1 rfl rfl hlen1.symm (by rw[eb1];rfl) (by simp only[maxLen];omega) (by omega) rfl ?_|refine AA 2 11 Tryz.vec316 (AH rs k++Bu k (j+1)).length ((AH rs k++Bu k (j+1)).flatMap (Cu rs)) rfl rfl rfl rfl rfl rfl rfl rfl rfl rfl rfl hU1 rfl rfl hlen1.symm (by rw[eb1];rfl) (by simp only[maxLen];omega) (by omega) rfl ?_);intro g1 c1 j1 hU1'
      refine zC<|Aw<|wX<|wZ<|?_
      (first|refine AA 3 10 Tryz.vec317 (AH rs k++Bu k (j+1)).length ((AH rs k++Bu k (j+1)).flatMap Cg) rfl rfl rfl rfl rfl rfl rfl rfl rfl rfl rfl hU2 rfl rfl hlen1.symm (by rw[eb2];rfl) (by simp only[maxLen];omega) (by omega) rfl ?_|refine AA 3 11 Tryz.vec317 (AH rs k++Bu k (j+1)).length ((AH rs k++Bu k (j+1)).flatMap Cg) rfl rfl rfl rfl rfl rfl rfl rfl rfl rfl rfl hU2 rfl rfl hlen1.symm (by rw[eb2];rfl) (by simp only[maxLen];omega) (by omega) rfl ?_);intro g2 c2 j2 hU2'
      refine zC<|Aw<|wX<|wZ<|wS 0 I I I<|zC<|Aw<|wY<|wZ<|wS 1 I I I<|zC<|Aw<|Cq I (by kernel_rfl) ?_
      exact AR ⟨(⟨some g1,c1,j1⟩,⟨some g2,c2,j2⟩),hU1',hU2'⟩ ⟨I,I,tO⟩ [0,1,2,3,4,5,6,7,8] (by decide) I
    ·(refine Ai Tryz.hZ tH rfl rfl rfl rfl rfl rfl rfl rfl rfl rfl rfl ?_;intro)
     refine zC<|Aw<|wX<|wZ<|?_
     (refine Ai Tryz.hZ tH rfl rfl rfl rfl rfl rfl rfl rfl rfl rfl rfl ?_;intro)
     refine zC<|Aw<|wX<|wZ<|?_
     (first|refine AA 2 10 Tryz.vec316 (AH rs k++Bu k (j+1)).length ((AH rs k++Bu k (j+1)).flatMap (Cu rs)) rfl rfl rfl rfl rfl rfl rfl rfl rfl rfl rfl hU1 rfl rfl hlen1.symm (by rw[eb1];rfl) (by simp only[maxLen];omega) (by omega) rfl ?_|refine AA 2 11 Tryz.vec316 (AH rs k++Bu k (j+1)).length ((AH rs k++Bu k (j+1)).flatMap (Cu rs)) rfl rfl rfl rfl rfl rfl rfl rfl rfl rfl rfl hU1 rfl rfl hlen1.symm (by rw[eb1];rfl) (by simp only[maxLen];omega) (by omega) rfl ?_);intro g1 c1 j1 hU1'
     refine zC<|Aw<|wX<|wZ<|?_
     (first|refine AA 3 10 Tryz.vec317 (AH rs k++Bu k (j+1)).length ((AH rs k++Bu k (j+1)).flatMap Cg) rfl rfl rfl rfl rfl rfl rfl rfl rfl rfl rfl hU2 rfl rfl hlen1.symm (by rw[eb2];rfl) (by simp only[maxLen];omega) (by omega) rfl ?_|refine AA 3 11 Tryz.vec317 (AH rs k++Bu k (j+1)).length ((AH rs k++Bu k (j+1)).flatMap Cg) rfl rfl rfl rfl rfl rfl rfl rfl rfl rfl rfl hU2 rfl rfl hlen1.symm (by rw[eb2];rfl) (by simp only[maxLen];omega) (by omega) rfl ?_);intro g2 c2 j2 hU2'
     refine zC<|Aw<|wX<|wZ<|wS 0 I I I<|zC<|Aw<|wY<|wZ<|wS 1 I I I<|zC<|Aw<|Cq I (by kernel_rfl) ?_
     exact AR ⟨(⟨some g1,c1,j1⟩,⟨some g2,c2,j2⟩),hU1',hU2'⟩ ⟨I,I,tO⟩ [0,1,2,3,4,5,6,7,8] (by decide) I
   ·rintro⟨⟨U1',U2'⟩,hU1',hU2'⟩
    exact zN<|BQ 8 (U1',U2',j+1) hrec I ⟨I,hU1',hU2'⟩ [] I
  ·rintro⟨U1,U2,j⟩ d L rec ⟨e1,hU1,hU2⟩
   obtain rfl:j=(rg rs k).length:=e1
   refine zN<|xj<|Aa I<|zC<|TW 4 7 I I ?_
   exact J1 (X:=Nat×Vec×Vec×List Nat) (k+1,U1,U2,d::ds) ⟨hk,hU1,hU2⟩ (by show rs.length-(k+1)<rs.length-k;omega) I ⟨I,I,I,I,I,congrArg (fun z=>some (Value.int .i64 z)) (BO (x:=(k:Int)+1) (by omega) (by omega)),tO⟩ [0,1,2,3,4] (by decide) I
 ·have e:k=rs.length:=by simp at h;omega
  subst e
  clear h hk
  have hpl:(AH rs rs.length).length=tot rs:=by rw[Kb rs _ (Nat.le_refl _),List.take_length]
  have hget: ∀i,i<tot rs->(AH rs rs.length)[i]? =some (pl rs i):=fun i hi=>by
   rw[<-hpl] at hi
   simp[pl,hi]
  have hmem: ∀i,i<tot rs->(pl rs i).1<rs.length/\(pl rs i).2<(rg rs (pl rs i).1).length:=fun i hi=>Oc rs _ _ (List.mem_of_getElem? (hget i hi))
  rw[hpl] at hV1 hV2
  have hR2:=hR
  have hm62:tot rs<1099511627776:=hT
  refine xf<|zE<|xd<|wB 0 I I I<|Ao 37 (.slice (V1.p.map fun g=>⟨g,0,none⟩) (tot rs) (match V1.p with|none=>0|some _=>V1.cap)) I (show V1.val (AH rs rs.length).length=_ by rw[hpl];exact Vec.val_eq hV1)<|Aa I<|xa<|zH<|?_
  refine A6 (X:=Nat) (fun i=>[(0,slv p rs.length cap),(3, .pointer (some ⟨b3,0,none⟩)),(4, .pointer (some ⟨b4,0,none⟩)),(38, .int .i64 (tot rs:Nat)),(39, .int .i64 (i:Nat))])
   (fun _=>[⟨b3,316,[V1.val (tot rs)],true,none⟩,⟨b4,317,[V2.val (tot rs)],true,none⟩,V1.bx 319 ((AH rs rs.length).flatMap (Cu rs)),V2.bx 322 ((AH rs rs.length).flatMap Cg),bag ds])
   (fun i=>i<=tot rs/\ ∀i',i'<i->((List.range i').any fun k=>Ho rs (pl rs i') (pl rs k))=false) (fun i=>tot rs-i) 0 ⟨Nat.zero_le _,fun j hj=>absurd hj (Nat.not_lt_zero _)⟩ ⟨rfl,rfl,rfl,rfl,rfl,trivial⟩ []
   (by show _=_++[];rw[hpl];rfl) ?_
  rintro i ⟨hi,hno⟩
  refine xb<|wP I<|xa<|zA<|Av I (fun h=> ?_) (fun h=> ?_)
  rotate_left
  ·have e:i=tot rs:=by simp at h;omega
   subst e
   refine xf<|xe<|wP I<|xc<|Hv 4 ds I ?_
   have hf:crs rs=false:=Ha hno
   exact wR1 I I (by rw[hf])
  have hi:i<tot rs:=by simp at h;omega
  clear h
  obtain⟨p1,cap1,junk1⟩:=V1
  obtain⟨p2,cap3,junk2⟩:=V2
  cases p1 with
  |none=>exact absurd (hV1.nil rfl) (Nat.ne_of_gt (Nat.lt_of_le_of_lt (Nat.zero_le i) hi))
  |some g1=>
  cases p2 with
  |none=>exact absurd (hV2.nil rfl) (Nat.ne_of_gt (Nat.lt_of_le_of_lt (Nat.zero_le i) hi))
  |some g2=>
  refine xh<|Aa I<|xg<|Aa I<|xa<|zH<|?_
  refine A6 (X:=Nat) (fun k=>[(0,slv p rs.length cap),(3, .pointer (some ⟨b3,0,none⟩)),(4, .pointer (some ⟨b4,0,none⟩)),(38, .int .i64 (tot rs:Nat)),(39, .int .i64 (i:Nat)),(9, .int .i64 (i:Nat)),(42, .int .i64 (i:Nat)),(43, .int .i64 (k:Nat))])
   (fun _=>[⟨b3,316,[slv (some ⟨g1,0,none⟩) (tot rs) cap1],true,none⟩,⟨b4,317,[slv (some ⟨g2,0,none⟩) (tot rs) cap3],true,none⟩,(⟨some g1,cap1,junk1⟩:Vec).bx 319 ((AH rs rs.length).flatMap (Cu rs)),(⟨some g2,cap3,junk2⟩:Vec).bx 322 ((AH rs rs.length).flatMap Cg),bag ds])
   (fun k=>k<=i/\ ∀k',k'<k->Ho rs (pl rs i) (pl rs k')=false) (fun k=>i-k) 0 ⟨Nat.zero_le _,fun j hj=>absurd hj (Nat.not_lt_zero _)⟩ ⟨rfl,rfl,rfl,rfl,rfl,rfl,rfl,rfl,trivial⟩ [] rfl ?_
  rintro k ⟨hk,hnok⟩
  refine xb<|wP I<|xa<|zA<|Av I (fun h=> ?_) (fun h=> ?_)
  rotate_left
  ·have e:k=i:=by simp at h;omega
   subst e
   refine xf<|xj<|Aa I<|zC<|Ax (k+1) ⟨hi,fun i' hi'=> ?_⟩ (by omega) ⟨I,I,I,I,congrArg (fun z=>some (Value.int .i64 z)) (BO (x:=(k:Int)+1) (by omega) (by omega)),tO⟩ [] I
   by_cases e:i'=k
   ·subst e;exact Ha hnok
   ·exact hno i' (by omega)
  have hk:k<i:=by simp at h;omega
  clear h
  have hkt:k<tot rs:=by omega
  obtain⟨hi1,hi2⟩:=hmem i hi
  obtain⟨hk1,hk2⟩:=hmem k hkt
  obtain⟨b',off,rfl,hrow⟩:=hR.row hi1
  obtain⟨q,cap2,hq1,hq2⟩:=hrow _ hi1
  have hlk:(rg rs (pl rs i).1).length<4611686018427387904:=hl _ (List.mem_of_getElem? (CO hi1))
  have hlk2:(rg rs (pl rs k).1).length<4611686018427387904:=hl _ (List.mem_of_getElem? (CO hk1))
  refine xh<|Aa I<|xg<|wP I<|wB 1 I I I<|wP I<|wJ ?_
  refine wP I<|wL 0 I I (fun W hp=>Vec.rowAt (f:=Cg) (n:=2) (fun _=>rfl) hp 3 I (hget i hi)) I<|wJ ?_
  refine wL 0 I I (fun W hp=>hq1.hp hp) I<|Aa I<|xa<|zA<|zU<|qB 1 I I I<|qP I<|qJ ?_
  refine qP I<|qL 1 I I (fun W hp=>Vec.rowAt (f:=Cg) (n:=2) (fun _=>rfl) hp 3 I (hget i hi)) I<|qB 1 I I I<|qP I<|qJ ?_
  refine qP I<|qL 1 I I (fun W hp=>Vec.rowAt (f:=Cg) (n:=2) (fun _=>rfl) hp 3 I (hget k hkt)) I<|AO I<|zD<|zC<|?_
  have egap:w64 (((pl rs i).2:Nat)-((pl rs k).2:Nat))=((pl rs i).2:Int)-(pl rs k).2:=AC (by omega) (by omega)
  have en1:w64 (((rg rs (pl rs i).1).length:Nat)-1)=((rg rs (pl rs i).1).length:Int)-1:=AC (by omega) (by omega)
  refine zE<|Bi 12 _ I (congrArg (Value.int .i64) egap) ?_
  refine F2 (X:=Unit) (fun _=>[(0,slv (some ⟨b',off,none⟩) rs.length cap),(3, .pointer (some ⟨b3,0,none⟩)),(4, .pointer (some ⟨b4,0,none⟩)),(38, .int .i64 (tot rs:Nat)),(39, .int .i64 (i:Nat)),(9, .int .i64 (i:Nat)),(10, .int .i64 (k:Nat)),(42, .int .i64 (i:Nat)),(43, .int .i64 (k:Nat)),(13, .bool (nbB (rg rs (pl rs i).1).length (pl rs i) (pl rs k)))])
   (fun _=>[⟨b3,316,[slv (some ⟨g1,0,none⟩) (tot rs) cap1],true,none⟩,⟨b4,317,[slv (some ⟨g2,0,none⟩) (tot rs) cap3],true,none⟩,(⟨some g1,cap1,junk1⟩:Vec).bx 319 ((AH rs rs.length).flatMap (Cu rs)),(⟨some g2,cap3,junk2⟩:Vec).bx 322 ((AH rs rs.length).flatMap Cg),bag ds]) (fun _=>True) ?_ ?_
  ·refine zU<|qB 1 I I I<|qP I<|qJ ?_
   refine qP I<|qL 0 I I (fun W hp=>Vec.rowAt (f:=Cg) (n:=2) (fun _=>rfl) hp 3 I (hget i hi)) I<|qB 1 I I I<|qP I<|qJ ?_
   refine qP I<|qL 0 I I (fun W hp=>Vec.rowAt (f:=Cg) (n:=2) (fun _=>rfl) hp 3 I (hget k hkt)) I<|AO I<|?_
   have e1:((((pl rs i).1:Nat):Int)==(((pl rs k).1:Nat):Int))=((pl rs i).1==(pl rs k).1):=by
    by_cases h:(pl rs i).1=(pl rs k).1
    ·rw[h,beq_self_eq_true,beq_self_eq_true]
    ·have h1:(((pl rs i).1:Nat):Int)≠(pl rs k).1:=by omega
     rw[beq_eq_false_iff_ne.2 h1,beq_eq_false_iff_ne.2 h]
   refine PW 77 I (fun h77=> ?_) (fun h77=> ?_)
   ·have h77':((pl rs i).1==(pl rs k).1)=true:=e1.symm.trans h77
    refine Ct I<|PW 80 I (fun h80=> ?_) (fun h80=> ?_)
    ·have e:nbB (rg rs (pl rs i).1).length (pl rs i) (pl rs k)=true:=by
      have h80':(((pl rs i).2:Int)-(pl rs k).2==1)=true:=h80
      unfold nbB;rw[h77',h80'];rfl
     iterate 4 refine Cy I I ?_
     exact Ct I<|zD<|zC<|Au () tO ⟨I,I,I,I,I,I,I,I,I,by rw[e];rfl,tO⟩ [] I
    ·have e:nbB (rg rs (pl rs i).1).length (pl rs i) (pl rs k)=(((pl rs i).2:Int)-(pl rs k).2==w64 (((rg rs (pl rs i).1).length:Nat)-1)):=by
      have h80':(((pl rs i).2:Int)-(pl rs k).2==1)=false:=h80
      unfold nbB;rw[h77',h80',en1];rfl
     exact PQ I<|qP I<|zD<|zC<|Au () tO ⟨I,I,I,I,I,I,I,I,I,by rw[e];rfl,tO⟩ [] I
   ·have h77':((pl rs i).1==(pl rs k).1)=false:=e1.symm.trans h77
    have e:nbB (rg rs (pl rs i).1).length (pl rs i) (pl rs k)=false:=by unfold nbB;rw[h77'];rfl
    iterate 8 refine Cy I I ?_
    exact AO I<|zD<|zC<|Au () tO ⟨I,I,I,I,I,I,I,I,I,by rw[e];rfl,tO⟩ [] I
  intro _ _
  have next:Ho rs (pl rs i) (pl rs k)=false-> ∀k',k'<k+1->Ho rs (pl rs i) (pl rs k')=false:=fun h k' hk'=>by
   by_cases e:k'=k
   ·subst e;exact h
   ·exact hnok k' (by omega)
  refine zA<|zU<|Ct I<|PW 89 I (fun h89=> ?_) (fun h89=> ?_)
  ·have hnb:nbB (rg rs (pl rs i).1).length (pl rs i) (pl rs k)=false:=by simpa using h89
   refine qB 0 I I I<|qP I<|qJ ?_
   refine qL 0 I I (fun W hp=>Vec.rowAt (f:=Cu rs) (n:=4) (fun _=>rfl) hp 2 I (hget i hi)) I<|qB 0 I I I<|qP I<|qJ ?_
   refine qL 0 I I (fun W hp=>Vec.rowAt (f:=Cu rs) (n:=4) (fun _=>rfl) hp 2 I (hget k hkt)) I<|qC I I (fun W _=>(S6 ..))<|qP I<|zD<|xa<|Av I (fun h=> ?_) (fun h=> ?_)
   ·refine xb<|wP I<|xc<|zQ<|zP<|zP<|zQ<|xi<|Hv 4 ds I ?_
    have hf:crs rs=true:=HC hi (HC hk (by unfold Ho;rw[hnb];exact h))
    exact wR1 I I (by rw[hf])
   ·exact zI<|xj<|Aa I<|zC<|Ax (k+1) ⟨hk,next (by unfold Ho;rw[hnb];exact h)⟩ (by omega) ⟨I,I,I,I,I,I,I,congrArg (fun z=>some (Value.int .i64 z)) (BO (x:=(k:Int)+1) (by omega) (by omega)),tO⟩ [] I
  ·have hnb:nbB (rg rs (pl rs i).1).length (pl rs i) (pl rs k)=true:=by simpa using h89
   iterate 9 refine Cy I I ?_
   exact qP I<|zD<|xa<|zS I<|zI<|xj<|Aa I<|zC<|Ax (k+1) ⟨hk,next (by unfold Ho;rw[hnb];rfl)⟩ (by omega) ⟨I,I,I,I,I,I,I,congrArg (fun z=>some (Value.int .i64 z)) (BO (x:=(k:Int)+1) (by omega) (by omega)),tO⟩ [] I
def Y6 (s t u:Sd):Bool:=
 !((w64 (u.x-t.x)==0)==(w64 (u.y-t.y)==0))&& !((w64 (t.x-s.x)==0)==(w64 (u.x-t.x)==0))
def IS (l:List Sd) (k:Nat):Bool:=Y6 (sd l (prv l.length k)) (sd l k) (sd l (nxt l.length k))
def shp (l:List Sd):Bool:=decide (4<=l.length)&&(List.range l.length).all (IS l)
theorem Wp {l:List Sd} {k:Nat} (hk:k<l.length) (h:IS l k=false):shp l=false:=by
 unfold shp
 have:(List.range l.length).all (IS l)=false:=by
  apply Bool.eq_false_iff.2
  intro h2
  have:=List.all_eq_true.1 h2 k (List.mem_range.2 hk)
  rw[h] at this;cases this
 rw[this,Bool.and_false]
theorem P0 (W:World) (p:Option Addr) (cap:Nat) (l:List Sd) (hn:l.length<4611686018427387904) (hR:Dk W p l):
  Ag Tryz.prog 197 #[slv p l.length cap] W (fun _:Unit=> .bool (shp l)) (fun _=>True) (fun _=>[]):=by
 refine Ab Tryz.func197 I I I<|xb<|AY (z:= .bool false) I I I (fun W=>by kernel_rfl) fun b2=> ?_
 refine xa<|F2 (X:=Unit) (fun _=>[(0,slv p l.length cap),(2, .pointer (some ⟨b2,0,none⟩))]) (fun _=>[⟨b2,4,[.bool false],true,none⟩]) (fun _=>4<=l.length) ?_ ?_
 ·(refine EX ?_;refine CK ?_)
  refine Ae I<|xa<|Av I (fun h=> ?_) (fun h=> ?_)
  ·refine xb<|wS 0 I I I<|xc<|zP<|?_
   have hs:shp l=false:=by simp at h;simp[shp];omega
   exact Ar tH I (.cell 0 I I I I I) () (by rw[hs]) tO fun W _=>As.nil _ _
  ·exact zI<|Au () (by simp at h;omega) ⟨I,I,tO⟩ [] I
 intro _ h4
 refine xd<|wP I<|wD (X:=Nat) I I (fun W _=>EN p l.length cap W) ?_
 intro b _
 refine xa<|zH<|Eh (X:=Bool×Nat) (fun x=>[⟨b2,4,[.bool x.1],true,none⟩,⟨b,208,[slv p l.length cap],true,none⟩]) (fun k x=>x.1=false/\x.2=k/\ ∀i,i<k->IS l i=true) (fun c x=>c= .ret/\x.1=false/\ ∃k,k<l.length/\IS l k=false) (false,0) I (by kernel_rfl) (Ft b p cap l hn) (fun _=>rfl) ⟨I,I,fun i hi=>by omega⟩ [] I (fun k x W _ hp=>DS.mk' hR hp 1 I) ?_ ?_ ?_
 ·rintro k ⟨_,_⟩ d L rec hk ⟨rfl,rfl,hok⟩ hrec
  rename_i k
  refine zB<|AY (z:=Hb default default default) I I I (fun W=>by kernel_rfl) fun b4=> ?_
  refine wS 4 I I I<|zC<|CJ 3 hrec I ?_
  refine zH<|zA<|?_
  refine MH (X:=Nat×Nat) (fun x=>[(2, .pointer (some ⟨b2,0,none⟩)),(5, .pointer (some ⟨x.1,0,none⟩)),(6, .pointer (some ⟨x.2,0,none⟩))])
   (fun x=>[⟨b2,4,[.bool false],true,none⟩,⟨b,208,[slv p l.length cap],true,none⟩,B7 d,Bc L rec .busy none,⟨b4,310,(Hb (sd l (prv l.length k)) (sd l k) (sd l (nxt l.length k))).cells.toList,true,none⟩,
    ⟨x.1,312,(spot (w64 ((sd l k).x-(sd l (prv l.length k)).x)) (w64 ((sd l k).y-(sd l (prv l.length k)).y))).cells.toList,true,none⟩,
    ⟨x.2,312,(spot (w64 ((sd l (nxt l.length k)).x-(sd l k).x)) (w64 ((sd l (nxt l.length k)).y-(sd l k).y))).cells.toList,true,none⟩]) 4 Tryz.mixed (by kernel_rfl) ?_ ?_
  ·refine qP I<|qB 4 I I I<|qC I I (fun W _=>B9 (sd l (prv l.length k)) W)<|qP I<|qB 4 I I I<|qC I I (fun W _=>B9 (sd l k) W)<|qC I I (fun W _=>LF _ _ _ _ W)<|qB 4 I I I<|qC I I (fun W _=>Kd (sd l (prv l.length k)) (sd l k) (sd l (nxt l.length k)) W)<|zG<|wX<|RS.cons ?_ (RS.cons ?_ RS.nil)
   ·refine AY (z:=spot 0 0) I I I (fun W=>by kernel_rfl) fun bA=> ?_
    refine zC<|zF<|wX<|RS.cons ?_ RS.nil
    refine AY (z:=spot 0 0) I I I (fun W=>by kernel_rfl) fun bB=> ?_
    refine zC<|zF<|wX<|RS.cons ?_ RS.nil
    refine wS 5 I I I<|zC<|zF<|wX<|RS.cons ?_ RS.nil
    refine wS 6 I I I<|zC<|zF<|?_
    refine B6 I (by((repeat (first|refine B3.same ?_|refine B3.off I ?_));exact tO)) ?_
    exact AR (bA,bB) ⟨I,I,I,tO⟩ [0,1,2,3,4,5,6] (by decide) I
   ·refine AY (z:=spot 0 0) I I I (fun W=>by kernel_rfl) fun bB=> ?_
    refine zC<|zF<|wX<|RS.cons ?_ RS.nil
    refine AY (z:=spot 0 0) I I I (fun W=>by kernel_rfl) fun bA=> ?_
    refine zC<|zF<|wX<|RS.cons ?_ RS.nil
    refine wS 6 I I I<|zC<|zF<|wX<|RS.cons ?_ RS.nil
    refine wS 5 I I I<|zC<|zF<|?_
    refine B6 I (by((repeat (first|refine B3.same ?_|refine B3.off I ?_));exact tO)) ?_
    exact AR (bA,bB) ⟨I,I,I,tO⟩ [0,1,2,3,4,6,5] (by decide) I
  rintro⟨bA,bB⟩
  refine xe<|wP I<|wB 6 I I I<|Aa I<|wB 6 I I I<|wP I<|Kf Tryz.underlying4 I I I I I I ?_
  refine wP I<|B5 30 I (fun h30=> ?_) (fun h30=> ?_)
  ·refine Ac I I ?_
   iterate 6 refine Ac I I ?_
   refine wP I<|xa<|zR I<|xb<|wS 0 I I I<|xc<|zQ<|BA 3 (false,k) hrec I ⟨I,I,k,hk, ?_⟩ [_,_,_] I
   simp[IS,Y6] at h30⊢
   simp[h30]
  ·refine wP I<|wB 5 I I I<|Aa I<|wB 6 I I I<|wP I<|Kf Tryz.underlying4 I I I I I I ?_
   refine wP I<|xa<|Av I (fun h=> ?_) (fun h=> ?_)
   ·refine xb<|wS 0 I I I<|xc<|zQ<|BA 3 (false,k) hrec I ⟨I,I,k,hk, ?_⟩ [_,_,_] I
    simp[IS,Y6] at h⊢
    intro _
    exact h
   ·refine zI<|zN<|BQ 3 (false,k+1) hrec I ⟨I,I,fun i hi=> ?_⟩ [_,_,_] I
    by_cases e:i=k
    ·subst e
     show Y6 _ _ _=true
     unfold Y6
     rw[Bool.and_eq_true,Bool.not_eq_true',Bool.not_eq_true']
     exact⟨h30,h⟩
    ·exact hok i (by show i<k;have:i<k+1:=hi;omega)
 ·rintro⟨_,_⟩ d L rec ⟨rfl,rfl,hok⟩
  refine zN<|xe<|wS 0 I I I<|xc<|C2 2 I ?_
  have hs:shp l=true:=by simp only[shp,Bool.and_eq_true,decide_eq_true_eq,List.all_eq_true];exact⟨h4,fun i hi=>hok i (List.mem_range.1 hi)⟩
  exact Ar tH I (.cell 0 I I I I I) () (by rw[hs]) tO fun W _=>As.nil _ _
 ·rintro⟨_,_⟩ d L rec c ⟨rfl,rfl,k,hk,hf⟩
  refine zO<|zQ<|zP<|C2 2 I ?_
  have hs:=Wp hk hf
  exact Ar tH I (.cell 0 I I I I I) () (by rw[hs]) tO fun W _=>As.nil _ _
def btw (n a b:Int):Bool:=decide (a<=n)&&decide (n<=b)
theorem FV (n a b:Int):Cd Tryz.prog 236 [.int .i64 n, .int .i64 a, .int .i64 b] (.bool (btw n a b)):=by
 intro W
 refine Ab Tryz.func236 I I I<|xb<|wP I<|xg<|A3 I<|B5 10 I (fun h10=> ?_) (fun h10=> ?_)
 ·exact A8 I<|xc<|wR1 I I (by simp_all [btw])
 ·refine Ac I I ?_
  iterate 2 refine Ac I I ?_
  exact Aa I<|xc<|wR1 I I (by simp_all [btw]<;>intros<;>omega)
def rgd (s:Sd):Bool:=(if s.gable then s.rise==0&&s.run==0 else btw s.rise 1 48&&btw s.run 1 48)&&(btw s.x 0 65536&&btw s.y 0 65536&&btw s.plate 0 65536&&btw s.over 0 65536)
def num (s:Sd):Nat->Int
 |0=>s.x
 |1=>s.y
 |2=>s.plate
 |_=>s.over
theorem OR (s:Sd):Cd Tryz.prog 194 [s.val] (.bool (rgd s)):=by
 intro W
 refine Ab Tryz.func194 I I I ?_
 (refine EX ?_;refine CK ?_)
 refine wF I I fun _=>wP I<|xa<|?_
 rename_i b1
 refine F2 (X:=Unit) (fun _=>[(1, .pointer (some ⟨b1,0,none⟩))]) (fun _=>[⟨b1,79,s.cells,true,none⟩]) (fun _=>(if s.gable then s.rise==0&&s.run==0 else btw s.rise 1 48&&btw s.run 1 48)=true) ?_ ?_
 ·(refine EX ?_;refine CK ?_)
  refine wP I<|wB 0 I I I<|xa<|Av I (fun hg=> ?_) (fun hg=> ?_)
  ·(refine EX ?_;refine CK ?_)
   refine wP I<|wB 0 I I I<|Aa I<|B5 10 I (fun h10=> ?_) (fun h10=> ?_)
   ·refine Ac I I ?_
    iterate 2 refine Ac I I ?_
    exact wP I<|xa<|zR I<|xb<|wP I<|xc<|zP<|wR1 I I (by simp_all [rgd])
   ·refine wP I<|wB 0 I I I<|Aa I<|xa<|Av I (fun h14=> ?_) (fun h14=> ?_)
    ·exact xb<|wP I<|xc<|zP<|wR1 I I (by simp_all [rgd])
    ·exact zI<|Au () (by simp_all) ⟨I,tO⟩ [] I
  ·(refine EX ?_;refine CK ?_)
   refine wP I<|wB 0 I I I<|wC I I (fun W _=>FV _ _ _ W)<|Aa I<|B5 19 I (fun h19=> ?_) (fun h19=> ?_)
   ·refine Ac I I ?_
    iterate 3 refine Ac I I ?_
    exact wP I<|xa<|zR I<|xb<|wP I<|xc<|zP<|wR1 I I (by simp_all [rgd])
   ·refine wP I<|wB 0 I I I<|wC I I (fun W _=>FV _ _ _ W)<|Aa I<|xa<|Av I (fun h14=> ?_) (fun h14=> ?_)
    ·exact xb<|wP I<|xc<|zP<|wR1 I I (by simp_all [rgd])
    ·exact zI<|Au () (by simp_all) ⟨I,tO⟩ [] I
 ·intro _ hg
  refine xd<|wP I<|wB 0 I I I<|wP I<|wB 0 I I I<|wP I<|wB 0 I I I<|wP I<|wB 0 I I I<|EQ (.int .i64 0) tH I I I I I (fun W=>by kernel_rfl) I I (by rfl) (by rfl) I fun b33=> ?_
  refine Aa I<|xa<|zH<|?_
  refine A6 (X:=Nat) (fun k=>[(33, .slice (some ⟨b33,0,none⟩) 4 4),(34, .int .i64 4),(35, .int .i64 (k:Nat))]) (fun _=>[⟨b1,79,s.cells,true,none⟩,⟨b33,3,[.int .i64 s.x, .int .i64 s.y, .int .i64 s.plate, .int .i64 s.over],true,none⟩])
   (fun k=>k<=4/\ ∀i,i<k->btw (num s i) 0 65536=true) (fun k=>4-k) 0 ⟨by omega,fun i hi=>by omega⟩ ⟨rfl,rfl,rfl,trivial⟩ [] rfl ?_
  rintro k ⟨hk,hin⟩
  (refine EX ?_;refine CK ?_)
  refine wP I<|xa<|F2 (X:=Unit) (fun _=>[(33, .slice (some ⟨b33,0,none⟩) 4 4),(34, .int .i64 4),(35, .int .i64 (k:Nat))]) (fun _=>[⟨b1,79,s.cells,true,none⟩,⟨b33,3,[.int .i64 s.x, .int .i64 s.y, .int .i64 s.plate, .int .i64 s.over],true,none⟩]) (fun _=>k<4) ?_ ?_
  ·skip
   refine Av I (fun h=> ?_) (fun h=> ?_)
   ·exact zI<|Au () (by simp at h;omega) ⟨I,I,I,tO⟩ [] I
   ·refine xf<|xe<|wP I<|xc<|?_
    have:k=4:=by simp at h;omega
    subst this
    exact wR1 I I (by have h0:=hin 0 (by omega);have h1:=hin 1 (by omega);have h2:=hin 2 (by omega);have h3:=hin 3 (by omega);simp only[num] at h0 h1 h2 h3;simp[rgd,h0,h1,h2,h3,hg])
  ·intro _ hk
   refine zA<|zH<|xb<|wJ ?_
   refine OU (v:= .int .i64 (num s k)) I I I I (fun W hp=>Lc (k:=1) tH I I I (by
    match k,hk with
    |0,_=>rfl
    |1,_=>rfl
    |2,_=>rfl
    |3,_=>rfl) W hp) ?_
   refine wP I<|xg<|wP I<|wC I I (fun W _=>FV _ _ _ W)<|wP I<|xa<|Av I (fun h=> ?_) (fun h=> ?_)
   ·refine xb<|wP I<|xc<|xi<|?_
    have h:btw (num s k) 0 65536=false:=by simpa using h
    have hr:rgd s=false:=by
     match k,hk with
     |0,_=>simp only[num] at h;simp[rgd,h]
     |1,_=>simp only[num] at h;simp[rgd,h]
     |2,_=>simp only[num] at h;simp[rgd,h]
     |3,_=>simp only[num] at h;simp[rgd,h]
    exact wR1 I I (by rw[hr])
   ·refine zI<|xj<|Aa I<|zC<|Ax (k+1) ⟨hk,fun i hi=> ?_⟩ (by omega) ⟨I,I,congrArg (fun z=>some (Value.int .i64 z)) (BO (x:=(k:Int)+1) (by omega) (by omega)),tO⟩ [] I
    by_cases e:i=k
    ·subst e;simpa using h
    ·exact hin i (by omega)
def J8 {α:Type} (f:α->Bool):List α->Nat->Int
 |[],_=> -1
 |x::l,k=>if f x=true then(k:Int) else J8 f l (k+1)
theorem LS {α:Type} (f:α->Bool): ∀(l:List α) (k:Nat),decide (J8 f l k≥0)=l.any f
 |[],k=>by simp[J8]
 |x::l,k=>by
  unfold J8
  by_cases h:f x=true
  ·rw[if_pos h,List.any_cons,h,Bool.true_or,decide_eq_true_iff];omega
  ·rw[if_neg h,LS f l (k+1),List.any_cons]
   simp[h]
theorem MW (g:Nat) (hE:Bm Tryz.prog g=true) (f:Sd->Bool) (hf: ∀s,Cd Tryz.prog g [s.val] (.bool (f s))) (W:World) (p:Option Addr) (cap:Nat) (l:List Sd) (hn:l.length<4611686018427387904) (hR:Dk W p l):
  Ag Tryz.prog 234 #[slv p l.length cap, .func (.func g) #[] #[]] W (fun _:Unit=> .int .i64 (J8 f l 0)) (fun _=>True) (fun _=>[]):=by
 refine Ab Tryz.func234 I I I<|xb<|wP I<|xa<|xd<|Ae I<|xa<|zH<|?_
 refine A6 (X:=Nat) (fun k=>[(0,slv p l.length cap),(1, .func (.func g) #[] #[]),(7, .int .i64 (l.length:Nat)),(8, .int .i64 (k:Nat))]) (fun _=>[])
  (fun k=>k<=l.length/\J8 f l 0=J8 f (l.drop k) k) (fun k=>l.length-k) 0 ⟨Nat.zero_le _,rfl⟩ ⟨rfl,rfl,rfl,rfl,trivial⟩ [] rfl ?_
 rintro k ⟨hk,hi⟩
 refine xb<|wP I<|xa<|zA<|Av I (fun h=> ?_) (fun h=> ?_)
 rotate_left
 ·refine xf<|xe<|wP I<|xc<|?_
  have e:k=l.length:=by simp at h;omega
  rw[e,List.drop_length] at hi
  exact wR1 I I (by rw[hi];rfl)
 ·have hk:k<l.length:=by simp at h;omega
  clear h
  obtain⟨b,off,rfl,hrow⟩:=hR.row hk
  refine xh<|Aa I<|xg<|Ae I<|wJ ?_
  refine wL 0 I I (fun W hp=>(hrow k hk).hp hp) I<|BK (g:=g) (v:= .bool (f (sd l k))) I I I I I I hE (fun W _=>hf (sd l k) W)<|?_
  have hd:l.drop k=sd l k::l.drop (k+1):=by
   rw[List.drop_eq_getElem_cons hk];simp[sd,hk]
  have hstep:J8 f (l.drop k) k=if f (sd l k)=true then(k:Int) else J8 f (l.drop (k+1)) (k+1):=by rw[hd];rfl
  rw[hstep] at hi
  refine xa<|Av I (fun h=> ?_) (fun h=> ?_)
  ·refine xb<|Aa I<|xc<|xi<|?_
   rw[if_pos h] at hi
   exact wR1 I I (by rw[hi])
  ·refine zI<|xj<|Aa I<|zC<|?_
   rw[if_neg (by rw[h];decide)] at hi
   exact Ax (k+1) ⟨hk,hi⟩ (by omega) ⟨I,I,I,congrArg (fun z=>some (Value.int .i64 z)) (BO (x:=(k:Int)+1) (by omega) (by omega)),tO⟩ [] I
theorem Kr (g:Nat) (hE:Bm Tryz.prog g=true) (f:Sd->Bool) (hf: ∀s,Cd Tryz.prog g [s.val] (.bool (f s))) (W:World) (p:Option Addr) (cap:Nat) (l:List Sd) (hn:l.length<4611686018427387904) (hR:Dk W p l):
  Ag Tryz.prog 191 #[slv p l.length cap, .func (.func g) #[] #[]] W (fun _:Unit=> .bool (l.any f)) (fun _=>True) (fun _=>[]):=by
 exact Ab Tryz.func191 I I I<|xb<|wP I<|xg<|Aa I<|wC I I (fun W hp=>MW g hE f hf W p cap l hn (hR.hp hp))<|Aa I<|xc<|wR1 I I (by rw[LS])
theorem Nr (g:Nat) (hE:Bm Tryz.prog g=true) (f:List Sd->Bool) (hf: ∀W p cap l,l.length<4611686018427387904->Dk W p l->Ag Tryz.prog g #[slv p l.length cap] W (fun _:Unit=> .bool (f l)) (fun _=>True) (fun _=>[])) (W:World) (p:Option Addr) (cap:Nat) (rs:List (List Sd)) (hn:rs.length<4611686018427387904) (hl: ∀l∈rs,l.length<4611686018427387904) (hR:C6 W p rs):
  Ag Tryz.prog 237 #[slv p rs.length cap, .func (.func g) #[] #[]] W (fun _:Unit=> .int .i64 (J8 f rs 0)) (fun _=>True) (fun _=>[]):=by
 refine Ab Tryz.func237 I I I<|xb<|wP I<|xa<|xd<|Ae I<|xa<|zH<|?_
 refine A6 (X:=Nat) (fun k=>[(0,slv p rs.length cap),(1, .func (.func g) #[] #[]),(7, .int .i64 (rs.length:Nat)),(8, .int .i64 (k:Nat))]) (fun _=>[])
  (fun k=>k<=rs.length/\J8 f rs 0=J8 f (rs.drop k) k) (fun k=>rs.length-k) 0 ⟨Nat.zero_le _,rfl⟩ ⟨rfl,rfl,rfl,rfl,trivial⟩ [] rfl ?_
 rintro k ⟨hk,hi⟩
 refine xb<|wP I<|xa<|zA<|Av I (fun h=> ?_) (fun h=> ?_)
 rotate_left
 ·refine xf<|xe<|wP I<|xc<|?_
  have e:k=rs.length:=by simp at h;omega
  rw[e,List.drop_length] at hi
  exact wR1 I I (by rw[hi];rfl)
 ·have hk:k<rs.length:=by simp at h;omega
  clear h
  obtain⟨b,off,rfl,hrow⟩:=hR.row hk
  obtain⟨q,cap2,hq1,hq2⟩:=hrow k hk
  refine xh<|Aa I<|xg<|Ae I<|wJ ?_
  refine wL 0 I I (fun W hp=>hq1.hp hp) I<|BK (g:=g) (v:= .bool (f (rg rs k))) I I I I I I hE (fun W hp=>hf W q cap2 (rg rs k) (hl _ (List.mem_of_getElem? (CO hk))) (hq2.hp hp))<|?_
  have hd:rs.drop k=rg rs k::rs.drop (k+1):=by
   rw[List.drop_eq_getElem_cons hk];simp[rg,hk]
  have hstep:J8 f (rs.drop k) k=if f (rg rs k)=true then(k:Int) else J8 f (rs.drop (k+1)) (k+1):=by rw[hd];rfl
  rw[hstep] at hi
  refine xa<|Av I (fun h=> ?_) (fun h=> ?_)
  ·refine xb<|Aa I<|xc<|xi<|?_
   rw[if_pos h] at hi
   exact wR1 I I (by rw[hi])
  ·refine zI<|xj<|Aa I<|zC<|?_
   rw[if_neg (by rw[h];decide)] at hi
   exact Ax (k+1) ⟨hk,hi⟩ (by omega) ⟨I,I,I,congrArg (fun z=>some (Value.int .i64 z)) (BO (x:=(k:Int)+1) (by omega) (by omega)),tO⟩ [] I
theorem JV (g:Nat) (hE:Bm Tryz.prog g=true) (f:List Sd->Bool) (hf: ∀W p cap l,l.length<4611686018427387904->Dk W p l->Ag Tryz.prog g #[slv p l.length cap] W (fun _:Unit=> .bool (f l)) (fun _=>True) (fun _=>[])) (W:World) (p:Option Addr) (cap:Nat) (rs:List (List Sd)) (hn:rs.length<4611686018427387904) (hl: ∀l∈rs,l.length<4611686018427387904) (hR:C6 W p rs):
  Ag Tryz.prog 195 #[slv p rs.length cap, .func (.func g) #[] #[]] W (fun _:Unit=> .bool (rs.any f)) (fun _=>True) (fun _=>[]):=by
 exact Ab Tryz.func195 I I I<|xb<|wP I<|xg<|Aa I<|wC I I (fun W hp=>Nr g hE f hf W p cap rs hn hl (hR.below (Nat.le_refl _) hp.below))<|Aa I<|xc<|wR1 I I (by rw[LS])
theorem O4 (s:Sd):Cd Tryz.prog 193 [s.val] (.bool (!rgd s)):=by
 intro W
 exact Ab Tryz.func193 I I I<|xb<|wF I I fun _=>wP I<|xg<|wB 0 I I I<|wC I I (fun W _=>(OR ..))<|Aa I<|xc<|wR1 I I I
theorem Po (W:World) (p:Option Addr) (cap:Nat) (l:List Sd) (hn:l.length<4611686018427387904) (hR:Dk W p l):
  Ag Tryz.prog 196 #[slv p l.length cap] W (fun _:Unit=> .bool (!shp l)) (fun _=>True) (fun _=>[]):=by
 exact Ab Tryz.func196 I I I<|xb<|wP I<|xg<|wP I<|wC I I (fun W hp=>P0 W p cap l hn (hR.hp hp))<|Aa I<|xc<|wR1 I I I
def LG (t u:Sd) (px py:Int):Bool:=(w64 (u.x-t.x)==0)&&decide (t.x>px)&& !(decide (t.y>py)==decide (u.y>py))
def EE (l:List Sd) (px py:Int):Nat->Bool
 |0=>false
 |k+1=>if LG (sd l k) (sd l (nxt l.length k)) px py=true then !EE l px py k else EE l px py k
theorem O7 (W:World) (p:Option Addr) (cap:Nat) (l:List Sd) (px py:Int) (hn:l.length<4611686018427387904) (hR:Dk W p l):
  Ag Tryz.prog 245 #[slv p l.length cap,spot px py] W (fun _:Unit=> .bool (EE l px py l.length)) (fun _=>True) (fun _=>[]):=by
 refine Ab Tryz.func245 I I I<|xb<|wF I I fun _=>wP I<|xg<|?_
 rename_i b3
 refine AY (z:= .bool false) I I I (fun W=>by kernel_rfl) fun b5=> ?_
 refine wS 1 I I I<|xa<|xd<|wP I<|wD (X:=Nat) I I (fun W _=>EN p l.length cap W) ?_
 intro b _
 refine xa<|zH<|Eh (X:=Bool×Nat) (fun x=>[⟨b3,312,(spot px py).cells.toList,true,none⟩,⟨b5,4,[.bool x.1],true,none⟩,⟨b,208,[slv p l.length cap],true,none⟩]) (fun k x=>x.2=k/\x.1=EE l px py k) (fun _ _=>False) (false,0) I (by kernel_rfl) (Ft b p cap l hn) (fun _=>rfl) ⟨I,I⟩ [] I (fun k x W _ hp=>DS.mk' hR hp 2 I) ?_ ?_ (fun _ _ _ _ _ h=>h.elim)
 ·rintro j ⟨i,k⟩ d L rec hk ⟨hj,hi⟩ hrec
  obtain rfl:k=j:=hj
  obtain rfl:i=EE l px py k:=hi
  refine zB<|AY (z:=Hb default default default) I I I (fun W=>by kernel_rfl) fun b7=> ?_
  refine wS 5 I I I<|zC<|CJ 4 hrec I ?_
  refine zH<|xb<|wP I<|wB 5 I I I<|wC I I (fun W _=>B9 (sd l k) W)<|AY (z:=spot 0 0) I I I (fun W=>by kernel_rfl) fun b8=> ?_
  refine wS 6 I I I<|xg<|wB 5 I I I<|wC I I (fun W _=>Kd (sd l (prv l.length k)) (sd l k) (sd l (nxt l.length k)) W)<|Ae I<|?_
  have no:LG (sd l k) (sd l (nxt l.length k)) px py=false->EE l px py (k+1)=EE l px py k:=fun h=>by simp[EE,h]
  have yes:LG (sd l k) (sd l (nxt l.length k)) px py=true->EE l px py (k+1)= !EE l px py k:=fun h=>by simp[EE,h]
  refine B5 20 I (fun h20=> ?_) (fun h20=> ?_)
  ·refine wP I<|wB 6 I I I<|wP I<|wB 0 I I I<|Ae I<|B5 27 I (fun h27=> ?_) (fun h27=> ?_)
   ·refine wP I<|wB 6 I I I<|wP I<|wB 0 I I I<|Ae I<|wB 5 I I I<|wP I<|wB 0 I I I<|wP I<|Kf Tryz.underlying4 I I I I I I ?_
    refine wP I<|xa<|Av I (fun h=> ?_) (fun h=> ?_)
    ·exact zB<|wB 1 I I I<|wP I<|wS 1 I I I<|zC<|zN<|BQ 4 (!EE l px py k,k+1) hrec I ⟨I,(yes (by simp_all [LG])).symm⟩ [_,_] I
    ·exact zI<|zN<|BQ 4 (EE l px py k,k+1) hrec I ⟨I,(no (by simp_all [LG])).symm⟩ [_,_] I
   ·refine Ac I I ?_
    iterate 11 refine Ac I I ?_
    exact wP I<|xa<|zS I<|zI<|zN<|BQ 4 (EE l px py k,k+1) hrec I ⟨I,(no (by simp_all [LG]<;>(intros;omega))).symm⟩ [_,_] I
  ·refine Ac I I ?_
   iterate 4 refine Ac I I ?_
   refine Aa I<|?_
   iterate 12 refine Ac I I ?_
   exact wP I<|xa<|zS I<|zI<|zN<|BQ 4 (EE l px py k,k+1) hrec I ⟨I,(no (by simp_all [LG])).symm⟩ [_,_] I
 ·rintro⟨i,j⟩ d L rec ⟨hj,hi⟩
  obtain rfl:j=l.length:=hj
  obtain rfl:i=EE l px py l.length:=hi
  refine zN<|xe<|wB 1 I I I<|wP I<|xc<|C2 3 I ?_
  exact wR1 I I I
def IJ (rs:List (List Sd)) (i k:Nat):Bool:=(k==i||i==0)||(EE (rg rs k) (sd (rg rs i) 0).x (sd (rg rs i) 0).y (rg rs k).length==(k==0))
def Gk (rs:List (List Sd)) (i:Nat):Bool:=(decide (JT (rg rs i) (rg rs i).length>0)==(i==0))&&(List.range rs.length).all (IJ rs i)
def plc (rs:List (List Sd)):Bool:=(List.range rs.length).all (Gk rs)
theorem EW {n:Nat} {f:Nat->Bool} {k:Nat} (hk:k<n) (h:f k=false):(List.range n).all f=false:=Bool.eq_false_iff.2 fun h2=>by
 have:=List.all_eq_true.1 h2 k (List.mem_range.2 hk)
 rw[h] at this;cases this
theorem DL (a b:Nat):((a:Int)==(b:Int))=(a==b):=by
 by_cases h:a=b
 ·subst h;rw[beq_self_eq_true,beq_self_eq_true]
 ·have h1:(a:Int)≠b:=by omega
  rw[beq_eq_false_iff_ne.2 h1,beq_eq_false_iff_ne.2 h]
theorem Qh (W:World) (p:Option Addr) (cap:Nat) (rs:List (List Sd)) (hn:rs.length<4611686018427387904) (hl: ∀l∈rs,l.length<4611686018427387904) (hne: ∀l∈rs,l≠[]) (hR:C6 W p rs):
  Ag Tryz.prog 199 #[slv p rs.length cap] W (fun _:Unit=> .bool (plc rs)) (fun _=>True) (fun _=>[]):=by
 refine Ab Tryz.func199 I I I<|xb<|wP I<|xa<|xd<|Ae I<|xa<|zH<|?_
 refine A6 (X:=Nat) (fun i=>[(0,slv p rs.length cap),(7,slv p rs.length cap),(8, .int .i64 (rs.length:Nat)),(9, .int .i64 (i:Nat))]) (fun _=>[])
  (fun i=>i<=rs.length/\ ∀j,j<i->Gk rs j=true) (fun i=>rs.length-i) 0 ⟨Nat.zero_le _,fun j hj=>absurd hj (Nat.not_lt_zero _)⟩ ⟨rfl,rfl,rfl,rfl,trivial⟩ [] rfl ?_
 rintro i ⟨hi,hok⟩
 refine xb<|wP I<|xa<|zA<|Av I (fun h=> ?_) (fun h=> ?_)
 rotate_left
 ·have e:i=rs.length:=by simp at h;omega
  subst e
  refine xf<|xe<|wP I<|xc<|?_
  have:plc rs=true:=List.all_eq_true.2 fun j hj=>hok j (List.mem_range.1 hj)
  exact wR1 I I (by rw[this])
 have hi:i<rs.length:=by simp at h;omega
 clear h
 obtain⟨b,off,rfl,hrow⟩:=hR.row hi
 obtain⟨q,cap2,hq1,hq2⟩:=hrow i hi
 have hli:=hl _ (List.mem_of_getElem? (CO hi))
 have hnei:0<(rg rs i).length:=List.length_pos_iff.2 (hne _ (List.mem_of_getElem? (CO hi)))
 refine xh<|wP I<|wJ ?_
 refine wL 0 I I (fun W hp=>hq1.hp hp) I<|Aa I<|xa<|xd<|wP I<|wC I I (fun W hp=>Uh W q cap2 (rg rs i) hli (hq2.hp hp))<|Ae I<|Kf Tryz.underlying4 I I I I I I ?_
 refine xa<|Av I (fun h=> ?_) (fun h=> ?_)
 ·refine xb<|wP I<|xc<|zP<|xi<|?_
  have hf:plc rs=false:=EW hi (by
   unfold Gk
   rw[show(decide (JT (rg rs i) (rg rs i).length>0)==(i==0))=false by
    have h':=h
    rw[show((i:Int)==0)=(i==0) from DL i 0] at h'
    simpa using h']
   rfl)
  exact wR1 I I (by rw[hf])
 have hA:(decide (JT (rg rs i) (rg rs i).length>0)==(i==0))=true:=by
  have h':=h
  rw[show((i:Int)==0)=(i==0) from DL i 0] at h'
  simpa using h'
 clear h
 refine zI<|xe<|Ae I<|xa<|zH<|?_
 refine A6 (X:=Nat) (fun k=>[(0,slv (some ⟨b,off,none⟩) rs.length cap),(7,slv (some ⟨b,off,none⟩) rs.length cap),(8, .int .i64 (rs.length:Nat)),(9, .int .i64 (i:Nat)),(3, .int .i64 (i:Nat)),(4,slv q (rg rs i).length cap2),(20,slv (some ⟨b,off,none⟩) rs.length cap),(21, .int .i64 (rs.length:Nat)),(22, .int .i64 (k:Nat))]) (fun _=>[])
  (fun k=>k<=rs.length/\ ∀j,j<k->IJ rs i j=true) (fun k=>rs.length-k) 0 ⟨Nat.zero_le _,fun j hj=>absurd hj (Nat.not_lt_zero _)⟩ ⟨rfl,rfl,rfl,rfl,rfl,rfl,rfl,rfl,rfl,trivial⟩ [] rfl ?_
 rintro k ⟨hk,hokk⟩
 refine xb<|wP I<|xa<|zA<|Av I (fun h=> ?_) (fun h=> ?_)
 rotate_left
 ·have e:k=rs.length:=by simp at h;omega
  subst e
  refine xf<|xj<|Aa I<|zC<|Ax (i+1) ⟨hi,fun j hj=> ?_⟩ (by omega) ⟨I,I,I,congrArg (fun z=>some (Value.int .i64 z)) (BO (x:=(i:Int)+1) (by omega) (by omega)),tO⟩ [] I
  by_cases e:j=i
  ·subst e
   unfold Gk
   rw[hA,Bool.true_and]
   exact List.all_eq_true.2 fun m hm=>hokk m (List.mem_range.1 hm)
  ·exact hok j (by omega)
 have hk:k<rs.length:=by simp at h;omega
 clear h
 obtain⟨q2,cap3,hq3,hq4⟩:=hrow k hk
 have hlk:=hl _ (List.mem_of_getElem? (CO hk))
 have next:IJ rs i k=true-> ∀j,j<k+1->IJ rs i j=true:=fun h j hj=>by
  by_cases e:j=k
  ·subst e;exact h
  ·exact hokk j (by omega)
 refine xh<|wP I<|wJ ?_
 refine wL 0 I I (fun W hp=>hq3.hp hp) I<|Aa I<|xa<|zA<|F2 (X:=Unit) (fun _=>[(0,slv (some ⟨b,off,none⟩) rs.length cap),(7,slv (some ⟨b,off,none⟩) rs.length cap),(8, .int .i64 (rs.length:Nat)),(9, .int .i64 (i:Nat)),(3, .int .i64 (i:Nat)),(4,slv q (rg rs i).length cap2),(5, .int .i64 (k:Nat)),(6,slv q2 (rg rs k).length cap3),(20,slv (some ⟨b,off,none⟩) rs.length cap),(21, .int .i64 (rs.length:Nat)),(22, .int .i64 (k:Nat)),(33, .bool (k==i||i==0))]) (fun _=>[]) (fun _=>True) ?_ ?_
 ·refine zB<|A3 I<|B5 30 I (fun h30=> ?_) (fun h30=> ?_)
  ·have e:(k==i||i==0)=true:=by
    have:(k==i)=true:=by rw[<-DL];exact h30
    rw[this];rfl
   iterate 2 refine Ac I I ?_
   exact wP I<|zC<|Au () tO ⟨I,I,I,I,I,I,I,I,I,I,I,by rw[e];rfl,tO⟩ [] I
  ·have e:(k==i||i==0)=((i:Int)==0):=by
    have:(k==i)=false:=by rw[<-DL];exact h30
    rw[this,Bool.false_or];exact(DL i 0).symm
   exact Ae I<|zC<|Au () tO ⟨I,I,I,I,I,I,I,I,I,I,I,by rw[e];rfl,tO⟩ [] I
 intro _ _
 refine Av I (fun h=> ?_) (fun h=> ?_)
 ·exact zJ<|zK<|zL<|zE<|zB<|Aa I<|zC<|Ax (k+1) ⟨hk,next (by unfold IJ;rw[h];rfl)⟩ (by omega) ⟨I,I,I,I,I,I,I,I,congrArg (fun z=>some (Value.int .i64 z)) (BO (x:=(k:Int)+1) (by omega) (by omega)),tO⟩ [] I
 obtain⟨b3,off3,rfl,hrow3⟩:=hq2.row hnei
 refine zI<|xe<|Aa I<|wJ ?_
 refine wL 0 I I (fun W hp=>(hrow3 0 hnei).hp hp) I<|wC I I (fun W _=>(B9 ..))<|wC I I (fun W hp=>O7 W q2 cap3 (rg rs k) _ _ hlk (hq4.hp hp))<|Aa I<|Kf Tryz.underlying4 I I I I I I ?_
 refine xa<|Av I (fun h2=> ?_) (fun h2=> ?_)
 ·refine xb<|wP I<|xc<|zQ<|zP<|zP<|zQ<|xi<|?_
  have hf:plc rs=false:=EW hi (by
   unfold Gk
   rw[EW hk (by
    unfold IJ
    rw[h,Bool.false_or]
    have h':=h2
    rw[show((k:Int)==0)=(k==0) from DL k 0] at h'
    simpa using h'),Bool.and_false])
  exact wR1 I I (by rw[hf])
 ·refine zI<|xj<|Aa I<|zC<|Ax (k+1) ⟨hk,next ?_⟩ (by omega) ⟨I,I,I,I,I,I,I,I,congrArg (fun z=>some (Value.int .i64 z)) (BO (x:=(k:Int)+1) (by omega) (by omega)),tO⟩ [] I
  unfold IJ
  rw[h,Bool.false_or]
  have h':=h2
  rw[show((k:Int)==0)=(k==0) from DL k 0] at h'
  simpa using h'
def N6 (s t u:Sd):Bool:=decide (w64 (w64 (w64 (t.x-s.x)*w64 (u.y-t.y))-w64 (w64 (t.y-s.y)*w64 (u.x-t.x)))>0)
def NS (s t u:Sd):Bool:=N6 s t u||(!t.gable&& !s.gable&&(t.plate==s.plate))
def D6 (l:List Sd) (k:Nat):Bool:=NS (sd l (prv l.length k)) (sd l k) (sd l (nxt l.length k))
def CW (l:List Sd) (b:Bool):Nat->Bool
 |0=>b
 |k+1=>CW l b k|| !(sd l k).gable
def CB (rs:List (List Sd)):Nat->Bool
 |0=>false
 |k+1=>CW (rg rs k) (CB rs k) (rg rs k).length
def Hz (l:List Sd):Bool:=(List.range l.length).all (D6 l)
def jnd (rs:List (List Sd)):Bool:=rs.all Hz&&CB rs rs.length
theorem Ql (W:World) (p:Option Addr) (cap:Nat) (rs:List (List Sd)) (hn:rs.length<4611686018427387904) (hl: ∀l∈rs,l.length<4611686018427387904) (hR:C6 W p rs):
  Ag Tryz.prog 200 #[slv p rs.length cap] W (fun _:Unit=> .bool (jnd rs)) (fun _=>True) (fun _=>[]):=by
 refine Ab Tryz.func200 I I I<|xb<|AY (z:= .bool false) I I I (fun W=>by kernel_rfl) fun b2=> ?_
 refine xg<|AY (z:= .bool false) I I I (fun W=>by kernel_rfl) fun b3=> ?_
 refine wS 1 I I I<|xa<|xd<|Ae I<|xa<|zH<|NO ?_
 refine LN (X:=Nat×Bool×List Nat) (fun x=>x.2.2.map C7) (fun x=>[(2, .pointer (some ⟨b2,0,none⟩)),(3, .pointer (some ⟨b3,0,none⟩)),(8,slv p rs.length cap),(9, .int .i64 (rs.length:Nat)),(10, .int .i64 (x.1:Nat))])
  (fun x=>[⟨b2,4,[.bool false],true,none⟩,⟨b3,4,[.bool x.2.1],true,none⟩,bag x.2.2]) (fun x=>x.1<=rs.length/\x.2.1=CB rs x.1/\ ∀i,i<x.1->Hz (rg rs i)=true) (fun x=>rs.length-x.1) (0,false,[])
  ⟨Nat.zero_le _,rfl,fun i hi=>absurd hi (Nat.not_lt_zero _)⟩ rfl ⟨rfl,rfl,rfl,rfl,rfl,trivial⟩ [] rfl ?_
 rintro⟨k,sm,ds⟩ ⟨hk,hsm,hok⟩
 have hk:k<=rs.length:=hk
 obtain rfl:sm=CB rs k:=hsm
 refine xb<|wP I<|xa<|zA<|Av I (fun h=> ?_) (fun h=> ?_)
 rotate_left
 ·refine xf<|xe<|wB 1 I I I<|wS 0 I I I<|xc<|Hv 2 ds I ?_
  have e:k=rs.length:=by simp at h;omega
  subst e
  have hj:jnd rs=CB rs rs.length:=by
   have:rs.all Hz=true:=List.all_eq_true.2 fun l hl=>by
    obtain⟨i,hi,rfl⟩:=List.getElem_of_mem hl
    have:=hok i hi
    rwa [show rg rs i=rs[i] by simp[rg,hi]] at this
   simp[jnd,this]
  exact Ar tH I (.cell 0 I I I I I) () (by rw[hj]) tO fun W _=>As.nil _ _
 have hk:k<rs.length:=by simp at h;omega
 obtain⟨b',off,rfl,hrow⟩:=hR.row hk
 obtain⟨q,cap2,hq1,hq2⟩:=hrow k hk
 have hlk:(rg rs k).length<4611686018427387904:=hl _ (List.mem_of_getElem? (CO hk))
 refine xh<|wJ ?_
 refine wL 0 I I (fun W hp=>hq1.hp hp) I<|wP I<|xg<|wP I<|wD (X:=Nat) I I (fun W _=>EN q (rg rs k).length cap2 W) ?_
 intro b _
 refine xa<|zH<|?_
 refine Eh (X:=Bool×Nat) (fun x=>[⟨b2,4,[.bool false],true,none⟩,⟨b3,4,[.bool x.1],true,none⟩,bag ds,⟨b,208,[slv q (rg rs k).length cap2],true,none⟩])
  (fun j x=>x.2=j/\x.1=CW (rg rs k) (CB rs k) j/\ ∀i,i<j->D6 (rg rs k) i=true) (fun c _=>c= .ret/\ ∃j,j<(rg rs k).length/\D6 (rg rs k) j=false) (CB rs k,0) rfl (by kernel_rfl) (Ft b q cap2 (rg rs k) hlk) (fun _=>rfl)
  ⟨rfl,rfl,fun i hi=>absurd hi (Nat.not_lt_zero _)⟩ [] rfl (fun k x W _ hp=>DS.mk' hq2 hp 3 rfl) ?_ ?_ ?_
 ·rintro j' ⟨sm,j⟩ d L rec hj ⟨e1,e2,hin⟩ hrec
  obtain rfl:j=j':=e1
  obtain rfl:sm=CW (rg rs k) (CB rs k) j:=e2
  refine zB<|AY (z:=Hb default default default) I I I (fun W=>by kernel_rfl) fun b7=> ?_
  refine wS 6 I I I<|zC<|CJ 5 hrec I ?_
  refine Jq ?_
  refine F2 (X:=Unit) (fun _=>[(2, .pointer (some ⟨b2,0,none⟩)),(3, .pointer (some ⟨b3,0,none⟩)),(7, .pointer (some ⟨b7,0,none⟩))])
   (fun _=>[⟨b2,4,[.bool false],true,none⟩,⟨b3,4,[.bool (CW (rg rs k) (CB rs k) (j+1))],true,none⟩,bag ds,⟨b,208,[slv q (rg rs k).length cap2],true,none⟩,B7 d,Bc L rec .busy none,
    ⟨b7,310,(Hb (sd (rg rs k) (prv (rg rs k).length j)) (sd (rg rs k) j) (sd (rg rs k) (nxt (rg rs k).length j))).cells.toList,true,none⟩]) (fun _=>True) ?_ ?_
  ·refine CK ?_
   refine wB 1 I I I<|wP I<|B5 19 I (fun h19=> ?_) (fun h19=> ?_)
   ·refine Ac I I ?_
    iterate 3 refine Ac I I ?_
    refine wP I<|wS 1 I I I<|zC<|Au () tO ⟨I,I,I,tO⟩ [] ?_
    have h19:CW (rg rs k) (CB rs k) j=true:=h19
    have e:CW (rg rs k) (CB rs k) (j+1)=true:=by simp[CW,h19]
    rw[e];rfl
   ·refine Aa I<|wB 6 I I I<|Aa I<|wS 1 I I I<|zC<|Au () tO ⟨I,I,I,tO⟩ [] ?_
    have h19:CW (rg rs k) (CB rs k) j=false:=h19
    have e:CW (rg rs k) (CB rs k) (j+1)= !(sd (rg rs k) j).gable:=by simp[CW,h19]
    rw[e];rfl
  intro _ _
  refine xb<|wB 6 I I I<|wC I I (fun W _=>Ue (sd (rg rs k) (prv (rg rs k).length j)) (sd (rg rs k) j) (sd (rg rs k) (nxt (rg rs k).length j)) W)<|Aa I<|?_
  have good:D6 (rg rs k) j=true-> ∀i,i<j+1->D6 (rg rs k) i=true:=fun hg i hi=>by
   by_cases e:i=j
   ·subst e;exact hg
   ·exact hin i (by show i<j;omega)
  refine B5 28 I (fun h28=> ?_) (fun h28=> ?_)
  ·refine Aa I<|wB 6 I I I<|wP I<|B5 32 I (fun h32=> ?_) (fun h32=> ?_)
   ·refine Ac I I ?_
    iterate 2 refine Ac I I ?_
    refine Aa I<|?_
    iterate 7 refine Ac I I ?_
    exact Aa I<|xa<|zR I<|xb<|wS 0 I I I<|xc<|zQ<|BA 5 (CW (rg rs k) (CB rs k) (j+1),j+1) hrec I ⟨I,j,hj,by simp_all [D6,NS,N6]⟩ [_] I
   ·refine Aa I<|wB 6 I I I<|Aa I<|B5 37 I (fun h37=> ?_) (fun h37=> ?_)
    ·refine Ac I I ?_
     iterate 6 refine Ac I I ?_
     exact Aa I<|xa<|zR I<|xb<|wS 0 I I I<|xc<|zQ<|BA 5 (CW (rg rs k) (CB rs k) (j+1),j+1) hrec I ⟨I,j,hj,by simp_all [D6,NS,N6]⟩ [_] I
    ·refine Aa I<|wB 6 I I I<|Aa I<|wB 6 I I I<|Ae I<|xa<|Av I (fun h=> ?_) (fun h=> ?_)
     ·exact xb<|wS 0 I I I<|xc<|zQ<|BA 5 (CW (rg rs k) (CB rs k) (j+1),j+1) hrec I ⟨I,j,hj,by simp_all [D6,NS,N6]⟩ [_] I
     ·exact zI<|zN<|BQ 5 (CW (rg rs k) (CB rs k) (j+1),j+1) hrec I ⟨I,I,good (by simp_all [D6,NS,N6])⟩ [_] I
  ·refine Ac I I ?_
   iterate 16 refine Ac I I ?_
   exact wP I<|xa<|zS I<|zI<|zN<|BQ 5 (CW (rg rs k) (CB rs k) (j+1),j+1) hrec I ⟨I,I,good (by simp_all [D6,NS,N6])⟩ [_] I
 ·rintro⟨sm,j⟩ d L rec ⟨e1,e2,hin⟩
  obtain rfl:j=(rg rs k).length:=e1
  obtain rfl:sm=CW (rg rs k) (CB rs k) (rg rs k).length:=e2
  refine zN<|xj<|Aa I<|zC<|TW 2 4 I I ?_
  refine J1 (X:=Nat×Bool×List Nat) (k+1,CW (rg rs k) (CB rs k) (rg rs k).length,d::ds) ?_ ?_ I ?_ [0,1,2] (by decide) I
  rotate_left
  ·show rs.length-(k+1)<rs.length-k;omega
  ·exact⟨I,I,I,I,congrArg (fun z=>some (Value.int .i64 z)) (BO (x:=(k:Int)+1) (by omega) (by omega)),tO⟩
  refine⟨hk,I,fun i hi=> ?_⟩
  by_cases e:i=k
  ·subst e
   exact List.all_eq_true.2 fun x hx=>hin x (List.mem_range.1 hx)
  ·exact hok i (by show i<k;have:i<k+1:=hi;omega)
 ·rintro⟨sm,j'⟩ d L rec c ⟨rfl,j,hj,hf⟩
  refine zO<|zQ<|xi<|TW 2 4 I I ?_
  refine Hv 2 (d::ds) I ?_
  have hj:jnd rs=false:=by
   have h1:Hz (rg rs k)=false:=Bool.eq_false_iff.2 fun h2=>by
    have:=List.all_eq_true.1 h2 j (List.mem_range.2 hj)
    rw[hf] at this;cases this
   have:rs.all Hz=false:=Bool.eq_false_iff.2 fun h2=>by
    have:=List.all_eq_true.1 h2 _ (List.mem_of_getElem? (CO hk))
    rw[h1] at this;cases this
   simp[jnd,this]
  exact Ar tH I (.cell 0 I I I I I) () (by rw[hj]) tO fun W _=>As.nil _ _
abbrev Sb (p:Option Addr) (n cap:Nat):Value:= .agg #[slv p n cap]
def chk (rs:List (List Sd)):Int:=
 if rs.any (fun l=>l.length==0)=true then 5
 else if tot rs=0 then 5
 else if tot rs>24 then 4
 else if rs.flatten.any (fun s=> !rgd s)=true then 2
 else if rs.any (fun l=> !shp l)=true then 14
 else if crs rs=true then 15
 else if (!plc rs|| !jnd rs)=true then 14
 else 0
theorem IL {rs:List (List Sd)} {l:List Sd} (h:l∈rs):l.length<=tot rs:=by
 unfold tot
 induction rs with
 |nil=>cases h
 |cons x rs ih=>
  rw[List.map_cons,List.sum_cons]
  rcases List.mem_cons.1 h with rfl|h
  ·omega
  ·have:=ih h;omega
theorem ER (W:World) (p:Option Addr) (cap:Nat) (rs:List (List Sd)) (hn:rs.length<4611686018427387904) (hT:tot rs<1099511627776) (hR:C6 W p rs):
  Ag Tryz.prog 141 #[Sb p rs.length cap] W (fun _:Unit=> .int .i64 (chk rs)) (fun _=>True) (fun _=>[]):=by
 have hl: ∀l∈rs,l.length<4611686018427387904:=fun l h=>by have:=IL h;omega
 refine Ab Tryz.func141 I I I<|xb<|wF I I fun _=>wP I<|zC<|?_
 rename_i b1
 refine xe<|wP I<|xa<|xd<|wP I<|wB 0 I I I<|Aa I<|xa<|zH<|?_
 refine A6 (X:=Nat) (fun k=>[(1, .pointer (some ⟨b1,0,none⟩)),(3, .int .i64 (tot (rs.take k):Nat)),(7,slv p rs.length cap),(8, .int .i64 (rs.length:Nat)),(9, .int .i64 (k:Nat))]) (fun _=>[⟨b1,66,[slv p rs.length cap],true,none⟩])
  (fun k=>k<=rs.length/\ ∀j,j<k->(rg rs j).length≠0) (fun k=>rs.length-k) 0 ⟨Nat.zero_le _,fun j hj=>absurd hj (Nat.not_lt_zero _)⟩ ⟨rfl,rfl,rfl,rfl,rfl,trivial⟩ [] rfl ?_
 rintro k ⟨hk,hok⟩
 refine xb<|wP I<|xa<|zA<|Av I (fun h=> ?_) (fun h=> ?_)
 ·have hk:k<rs.length:=by simp at h;omega
  clear h
  obtain⟨b,off,rfl,hrow⟩:=hR.row hk
  obtain⟨q,cap2,hq1,hq2⟩:=hrow k hk
  refine xh<|wJ ?_
  refine wL 0 I I (fun W hp=>hq1.hp hp) I<|wP I<|xa<|xd<|Ae I<|xa<|Av I (fun h=> ?_) (fun h=> ?_)
  ·refine xb<|wP I<|xc<|zP<|xi<|?_
   have he:rs.any (fun l=>l.length==0)=true:=List.any_eq_true.2 ⟨_,List.mem_of_getElem? (CO hk),by have h':((((rg rs k).length:Nat):Int)==0)=true:=h;rw[beq_iff_eq] at h'⊢;omega⟩
   exact wR1 I I (by unfold chk;rw[if_pos he])
  have hz:(rg rs k).length≠0:=by
   have h':((((rg rs k).length:Nat):Int)==0)=false:=h
   rw[beq_eq_false_iff_ne] at h';omega
  clear h
  refine zI<|zE<|zB<|A8 I<|zC<|?_
  have hs:w64 ((tot (rs.take k):Nat)+((rg rs k).length:Nat))=(tot (rs.take (k+1)):Nat):=by
   have h1:=Cm hk
   have h2:=EO rs (k+1)
   rw[AC (by omega) (by omega)];omega
  refine xj<|Ao 3 _ I (congrArg (Value.int .i64) hs)<|Aa I<|zC<|Ax (k+1) ⟨hk,fun j hj=> ?_⟩ (by omega) ⟨I,I,I,I,congrArg (fun z=>some (Value.int .i64 z)) (BO (x:=(k:Int)+1) (by omega) (by omega)),tO⟩ [] I
  by_cases e:j=k
  ·subst e;exact hz
  ·exact hok j (by omega)
 have e:k=rs.length:=by simp at h;omega
 subst e
 clear h
 rw[List.take_length]
 have hne: ∀l∈rs,l≠[]:=fun l hl e=>by
  obtain⟨i,hi,e2⟩:=List.getElem_of_mem hl
  have:=hok i hi
  rw[show rg rs i=rs[i] by simp[rg,hi],e2,e] at this
  exact this I
 have he:rs.any (fun l=>l.length==0)=false:=Bool.eq_false_iff.2 fun h2=>by
  obtain⟨l,h3,h4⟩:=List.any_eq_true.1 h2
  rw[beq_iff_eq] at h4
  exact hne l h3 (List.length_eq_zero_iff.1 h4)
 have hN: ¬(rs.any (fun l=>l.length==0)=true):=by rw[he];decide
 refine xf<|zE<|zA<|zH<|xb<|Ae I<|xa<|Av I (fun h=> ?_) (fun h=> ?_)
 ·refine xb<|wP I<|xc<|zQ<|zP<|?_
  have h0:tot rs=0:=by have h':(((tot rs:Nat):Int)==0)=true:=h;rw[beq_iff_eq] at h';omega
  exact wR1 I I (by unfold chk;rw[if_neg hN,if_pos h0])
 have h0: ¬tot rs=0:=by have h':(((tot rs:Nat):Int)==0)=false:=h;rw[beq_eq_false_iff_ne] at h';omega
 clear h
 refine xb<|Ae I<|xa<|Av I (fun h=> ?_) (fun h=> ?_)
 ·refine xb<|wP I<|xc<|zQ<|zP<|?_
  have h1:tot rs>24:=by have h':decide (((tot rs:Nat):Int)>24)=true:=h;rw[decide_eq_true_iff] at h';omega
  exact wR1 I I (by unfold chk;rw[if_neg hN,if_neg h0,if_pos h1])
 have h1: ¬tot rs>24:=by have h':decide (((tot rs:Nat):Int)>24)=false:=h;rw[decide_eq_false_iff_not] at h';omega
 clear h
 refine xb<|wP I<|wB 0 I I I<|wD (X:=Vec) I I (fun W hp=>Jl W p cap rs hn hT (hR.below (Nat.le_refl _) hp.below) hne) ?_
 intro V hV
 obtain⟨q,cq,eV,hVR⟩:=Vec.ring hV
 have hfl:rs.flatten.length<4611686018427387904:=by rw[HK];omega
 refine Ao 30 _ I eV<|wC I I (fun W hp=>Kr 193 (by kernel_rfl) (fun s=> !rgd s) O4 W q cq rs.flatten hfl (hVR hp 1 I))<|wP I<|xa<|Av I (fun h=> ?_) (fun h=> ?_)
 ·exact xb<|wP I<|xc<|zQ<|zP<|wR1 I I (by unfold chk;rw[if_neg hN,if_neg h0,if_neg h1,if_pos h])
 have h2: ¬(rs.flatten.any (fun s=> !rgd s)=true):=by rw[h];decide
 clear h
 refine xb<|wP I<|wB 0 I I I<|wC I I (fun W hp=>JV 196 (by kernel_rfl) (fun l=> !shp l) Po W p cap rs hn hl (hR.below (Nat.le_refl _) hp.below))<|wP I<|xa<|Av I (fun h=> ?_) (fun h=> ?_)
 ·exact xb<|wP I<|xc<|zQ<|zP<|wR1 I I (by unfold chk;rw[if_neg hN,if_neg h0,if_neg h1,if_neg h2,if_pos h])
 have h3: ¬(rs.any (fun l=> !shp l)=true):=by rw[h];decide
 clear h
 refine xb<|wP I<|wB 0 I I I<|wC I I (fun W hp=>L5 W p cap rs hn hT hl (hR.below (Nat.le_refl _) hp.below))<|wP I<|xa<|Av I (fun h=> ?_) (fun h=> ?_)
 ·exact xb<|wP I<|xc<|zQ<|zP<|wR1 I I (by unfold chk;rw[if_neg hN,if_neg h0,if_neg h1,if_neg h2,if_neg h3,if_pos h])
 have h4: ¬(crs rs=true):=by rw[h];decide
 clear h
 refine xb<|wP I<|wB 0 I I I<|wC I I (fun W hp=>Qh W p cap rs hn hl hne (hR.below (Nat.le_refl _) hp.below))<|Aa I<|B5 45 I (fun h45=> ?_) (fun h45=> ?_)
 ·have h5:(!plc rs|| !jnd rs)=true:=by have h':(!plc rs)=true:=h45;rw[h'];rfl
  iterate 4 refine Ac I I ?_
  exact Aa I<|xa<|zR I<|xb<|wP I<|xc<|zQ<|zP<|wR1 I I (by unfold chk;rw[if_neg hN,if_neg h0,if_neg h1,if_neg h2,if_neg h3,if_neg h4,if_pos h5])
 ·have h':(!plc rs)=false:=h45
  refine wP I<|wB 0 I I I<|wC I I (fun W hp=>Ql W p cap rs hn hl (hR.below (Nat.le_refl _) hp.below))<|Ae I<|xa<|Av I (fun h=> ?_) (fun h=> ?_)
  ·refine xb<|wP I<|xc<|zQ<|zP<|?_
   have h5:(!plc rs|| !jnd rs)=true:=by rw[h',h];rfl
   exact wR1 I I (by unfold chk;rw[if_neg hN,if_neg h0,if_neg h1,if_neg h2,if_neg h3,if_neg h4,if_pos h5])
  ·refine zI<|zN<|xe<|wP I<|xc<|?_
   have h5: ¬((!plc rs|| !jnd rs)=true):=by rw[h',h];decide
   exact wR1 I I (by unfold chk;rw[if_neg hN,if_neg h0,if_neg h1,if_neg h2,if_neg h3,if_neg h4,if_neg h5])
theorem C6.hp {W0 W:World} {bxs:List Bx} {p:Option Addr} {rs:List (List Sd)} (h:C6 W0 p rs) (hp:Hp W0 bxs W):C6 W p rs:=h.below (Nat.le_refl _) hp.below
theorem Ln {rs:List (List Sd)} (h:chk rs=0):(∀l∈rs,l≠[])/\tot rs<=24/\tot rs≠0:=by
 unfold chk at h
 split at h
 ·cases h
 ·rename_i h1
  split at h
  ·cases h
  ·rename_i h2
   split at h
   ·cases h
   ·rename_i h3
    refine⟨fun l hl e=>h1 (List.any_eq_true.2 ⟨l,hl,by rw[e];rfl⟩),by omega,h2⟩
theorem YA (W:World) (p:Option Addr) (cap:Nat) (rs:List (List Sd)) (hn:rs.length<4611686018427387904) (hR:C6 W p rs) (hc:chk rs=0):
  Ag Tryz.prog 212 #[Sb p rs.length cap] W (fun V:Vec=> .tuple #[V.val rs.flatten.length, .int .i64 0]) (fun V=>V.OK 7 rs.flatten.length (cellsOf rs.flatten)) (fun V=>[V.bx 79 (cellsOf rs.flatten)]):=by
 obtain⟨hne,hT,_⟩:=Ln hc
 refine Ab Tryz.func212 I I I<|xb<|wF I I fun _=>Aa I<|xa<|xd<|wB 0 I I I<|wC I I (fun W hp=>(ER W p cap rs hn (by omega) (hR.hp hp)).cast (by rw[hc]))<|wP I<|xa<|zS I<|zI<|xe<|wP I<|wB 0 I I I<|wD (X:=Vec) I I (fun W hp=>Jl W p cap rs hn (by omega) (hR.hp hp) hne) ?_
 intro V hV
 exact Aa I<|xc<|An tH I (.tmp I) (.tmp I) V I hV fun W hp=>As.of_hp1 hp 1 I
theorem Wr (W:World) (p:Option Addr) (cap:Nat) (rs:List (List Sd)) (hn:rs.length<4611686018427387904) (hT:tot rs<1099511627776) (hR:C6 W p rs) (hc:chk rs≠0):
  Ag Tryz.prog 212 #[Sb p rs.length cap] W (fun _:Unit=> .tuple #[.slice none 0 0, .int .i64 1]) (fun _=>True) (fun _=>[]):=by
 refine Ab Tryz.func212 I I I<|xb<|wF I I fun _=>Aa I<|xa<|xd<|wB 0 I I I<|wC I I (fun W hp=>ER W p cap rs hn hT (hR.hp hp))<|wP I<|xa<|Av I (fun h=> ?_) (fun h=> ?_)
 ·exact xb<|Aa I<|xc<|zP<|wR2 I I I
 ·exact absurd (by have h':(chk rs !=0)=false:=h;simpa using h') hc
end
section
open Go Go.RowKit Go.Am
theorem Ok {rs:List (List Sd)} (h:chk rs=0):(∀l∈rs, ∀s∈l,rgd s=true)/\(∀l∈rs,shp l=true)/\crs rs=false/\plc rs=true/\jnd rs=true:=by
 unfold chk at h
 split at h
 ·cases h
 split at h
 ·cases h
 split at h
 ·cases h
 split at h
 ·cases h
 rename_i h2
 split at h
 ·cases h
 rename_i h3
 split at h
 ·cases h
 rename_i h4
 split at h
 ·cases h
 rename_i h5
 refine⟨fun l hl s hs=> ?_,fun l hl=> ?_,by simpa using h4, ?_, ?_⟩
 ·cases hr:rgd s with
  |true=>rfl
  |false=>exact absurd (List.any_eq_true.2 ⟨s,List.mem_flatten.2 ⟨l,hl,hs⟩,by rw[hr];rfl⟩) h2
 ·cases hr:shp l with
  |true=>rfl
  |false=>exact absurd (List.any_eq_true.2 ⟨l,hl,by rw[hr];rfl⟩) h3
 ·cases hp:plc rs with
  |true=>rfl
  |false=>rw[hp] at h5;exact absurd rfl h5
 ·cases hp:jnd rs with
  |true=>rfl
  |false=>rw[hp] at h5;exact absurd (by simp) h5
end
section
open Go Go.RowKit Go.Am Go.Lib
set_option maxRecDepth 10000
abbrev Tg (b:Nat) (l:List Nat):List Value:=l.map fun j=> .pointer (some ⟨b,j,none⟩)
theorem T3 (s:Sd) {j:Nat} (hj:j=0\/j=1\/j=2\/j=3\/j=5\/j=6) (v:Int):BD s.cells j [.int .i64 v]=(Vl s j v).cells:=by
 rcases hj with rfl|rfl|rfl|rfl|rfl|rfl<;>rfl
theorem OO {l:List Nat} {b g:Nat} {e:TypeId} {W0 W:World} {bxs:List Bx} (hp:Hp W0 bxs W) (k:Nat) (hk:nth bxs k=some ⟨g,e,Tg b l,true,none⟩) {i:Nat} (hi:i<l.length):Al W g (0+i*1) [.pointer (some ⟨b,l.getD i 0,none⟩)]:=by
 have h:=Al.of_bx hp k hk rfl
 refine⟨h.lt,fun j u hu=> ?_⟩
 have hj:j=0:=by have:=(List.getElem?_eq_some_iff.1 hu).1;simp at this;omega
 subst hj
 have:=h.get (i*1+0) u (by
  show(Tg b l)[i*1+0]? =some u
  rw[show i*1+0=i by omega,List.getElem?_map,List.getElem?_eq_getElem hi, <-hu,List.getD_eq_getElem?_getD,List.getElem?_eq_getElem hi];rfl)
 rw[Nat.zero_add] at this⊢
 exact this
theorem Km (a b:List UInt8):((⟨a.toArray⟩:ByteArray).toList==(⟨b.toArray⟩:ByteArray).toList)=decide (a=b):=by
 rw[AL,AL]
 by_cases h:a=b
 ·rw[dT h,beq_iff_eq];exact h
 ·rw[dF h,beq_eq_false_iff_ne];exact h
section
variable {r:Option Nat} {n:Nat} {P:Program} {N:Nat} {D:List Deferred} {ops:List Oper} {Q:Exit->Act->World->Prop} {o:Oper} {rest:List Oper} {env:Env} {A:World->Prop}
theorem AE {d:Nat} {x:Operand} {a:Addr} (hg:Aj ops N env o=some true) (hd:o.dst=some d) (ho:o.op= .nilCheck x) (hx:evO N env x=some (.pointer (some a)))
  (h:WL r n P N D ops Q rest ((d, .pointer (some a))::env) A):WL r n P N D ops Q (o::rest) env A:=
 Bf hg hd (fun c e=>by rw[ho] at e;cases e) (fun ρ W hρ _=>by simp[execOp,ho,hρ _ _ hx]) h
end
def dK (l:List UInt8) (x:Sd×Bool):Prop:=(∃s,FI l=some s/\x=(s,true))\/(FI l=none/\x.2=false)
theorem Ui (W:World) (l:List UInt8) (hl:l.length<=100000) (hv:AQ W) (ht:AZ W):
  Ag Tryz.prog 145 #[str l] W (fun x:Sd×Bool=> .tuple #[x.1.val, .bool x.2]) (dK l) (fun _=>[]):=by
 refine Ab Tryz.func145 I I I<|xb<|wG I I fun _=>wP I<|zC<|?_
 rename_i b2
 refine xe<|wG I I fun _=>zC<|?_
 rename_i b4
 refine xe<|wP I<|wD (X:=Nat) I I (fun W hp=>CL W l (by omega) (hv.hp hp)) ?_
 intro g _
 have hjs:=HZ 32 l
 have hws: ∀w∈AI 32 l,w.length<=100000:=fun w hw=>by
  have h1:w.length<=(join (AI 32 l) [32]).length:=by
   generalize AI 32 l=ws at hw⊢
   induction ws with
   |nil=>cases hw
   |cons a r ih=>
    rcases List.mem_cons.1 hw with rfl|hw
    ·rw[join_cons,List.length_append];omega
    ·cases r with
     |nil=>cases hw
     |cons c r=>
      have:=ih hw
      rw[Gm,List.length_append,List.length_cons];omega
  rw[hjs] at h1
  omega
 obtain⟨ws,hwsd⟩: ∃ws,ws=AI 32 l:=⟨_,rfl⟩
 rw[<-hwsd] at hws⊢
 refine wP I<|xg<|Bb I<|?_
 (refine Ai Tryz.hZ tH rfl rfl rfl rfl rfl rfl rfl rfl rfl rfl rfl ?_;intro)
 refine wP I<|zC<|?_
 rename_i b19
 have hG0: ∀b:Bool,(ws.length=5/\ws[2]? =some Fb↔b=true)->b=EY l:=fun b h=>by
  unfold EY
  rw[<-hwsd]
  cases b with
  |true=>exact(dT (h.2 rfl)).symm
  |false=>exact(dF (fun e=>by have:=h.1 e;cases this)).symm
 refine Le ?_
 refine F2 (X:=Bool×Nat×List Value) (fun x=>[(2, .pointer (some ⟨b2,0,none⟩)),(3, .bool false),(4, .pointer (some ⟨b4,0,none⟩)),(5, .slice (some ⟨g,0,none⟩) (wsG x.1 ws).length ws.length),(6, .slice (some ⟨x.2.1,0,none⟩) (BJ x.1).length (BJ x.1).length)])
  (fun x=>[⟨b2,79,(G2 false [] 0).cells,true,none⟩,⟨b4,79,(G2 x.1 (wsG x.1 ws) 0).cells,true,none⟩,⟨g,9,ss (wsG x.1 ws)++x.2.2,true,none⟩,⟨x.2.1,246,Tg b4 (BJ x.1),true,none⟩]) (fun x=>x.1=EY l) ?_ ?_
 ·refine xb<|A3 I<|B5 23 I (fun h23=> ?_) (fun h23=> ?_)
  ·refine wP I ?_
   have h5:ws.length=5:=by { have h':((ws.length:Int)==5)=true:=h23;rw[beq_iff_eq] at h';omega }
   refine wJ ?_
   refine wL 0 I I (fun W hp=>Oj hp 2 I (show 2<ws.length by omega)) I<|Aa I<|xa<|?_
   have hget:ws[2]? =some (ws.getD 2 []):=by rw[List.getD_eq_getElem?_getD,List.getElem?_eq_getElem (show 2<ws.length by omega)];rfl
   refine Av I (fun hx=> ?_) (fun hx=> ?_)
   ·have hx':ws.getD 2 []=Fb:=by
     have h':((⟨(ws.getD 2 []).toArray⟩:ByteArray).toList==(⟨Fb.toArray⟩:ByteArray).toList)=true:=hx
     rw[Km,decide_eq_true_iff] at h'
     exact h'
    have hl4:(wsG true ws).length=4:=by show(ws.take 2++ws.drop 3).length=4;rw[List.length_append,List.length_take,List.length_drop];omega
    refine xb<|wP I<|wS 1 I I I<|xg<|wP I<|?_
    refine Mh (X:=Unit) (val:=fun _=> .slice (some ⟨g,0,none⟩) 4 5) (Φ:=fun _=>True) (capt:=[]) (vs:=[.slice (some ⟨g,0,none⟩) 5 5, .int .i64 2, .int .i64 3]) 2 (B:=⟨g,9,ss ws++[],true,none⟩) (L1:=[]) (L2:=[]) (b:=g) (ob:= .cells (ss ws++[]).toArray 9 (0,0))
     (fun _=>⟨g,9,ss (ws.take 2++ws.drop 3)++[str []],true,none⟩) (g':=fun _=>g) (o':=fun _=> .cells (ss (ws.take 2++ws.drop 3)++[str []]).toArray 9 (0,0))
     rfl rfl rfl rfl rfl (by rw[<-h5];rfl) (by kernel_rfl) rfl rfl (fun _ _=>rfl) (fun W1 hp=>Px h5 (hp.own.cell 2 ⟨g,9,ss ws++[],true,none⟩ rfl (g, .cells (ss ws++[]).toArray 9 (0,0)) (List.mem_cons_self ..)).1) ?_
    intro _ _
    refine wP I<|xa<|zB<|A3 I<|?_
    (refine Ai Tryz.hZ tH rfl rfl rfl rfl rfl rfl rfl rfl rfl rfl rfl ?_;intro)
    refine wP I<|zC<|?_
    rename_i b36
    exact Jp (true,b36,[str []]) (hG0 true ⟨fun _=>rfl,fun _=>⟨h5,by rw[hget,hx']⟩⟩) ⟨I,I,I,(by show some (Value.slice (some ⟨g,0,none⟩) 4 5)=some (.slice (some ⟨g,0,none⟩) (wsG true ws).length ws.length);rw[hl4,h5]),I,tO⟩ [0,1,2,4] (by decide) I
   ·have hx':ws.getD 2 []≠Fb:=by
     have h':((⟨(ws.getD 2 []).toArray⟩:ByteArray).toList==(⟨Fb.toArray⟩:ByteArray).toList)=false:=hx
     rw[Km,decide_eq_false_iff_not] at h'
     exact h'
    exact zI<|Jp (false,b19,[]) (hG0 false ⟨fun h=>absurd (Option.some.inj (hget.symm.trans h.2)) hx',fun h=>by cases h⟩) ⟨rfl,rfl,rfl,rfl,rfl,trivial⟩ [0,1,2,3] (by decide) rfl
  ·refine Ac I I ?_
   iterate 3 refine Ac I I ?_
   refine wP rfl<|xa<|zS rfl<|zI<|Jp (false,b19,[]) (hG0 false ⟨fun h=> ?_,fun h=>by cases h⟩) ⟨rfl,rfl,rfl,rfl,rfl,trivial⟩ [0,1,2,3] (by decide) rfl
   have h':((ws.length:Int)==5)=false:=h23
   rw[h.1] at h';cases h'
 rintro⟨G,bf,junk⟩ hG
 change G=EY l at hG
 obtain⟨wg,hwg⟩: ∃wg,wg=wsG G ws:=⟨_,rfl⟩
 have hwgl: ∀w∈wg,w.length<=100000:=fun w hw=>by
  rw[hwg] at hw
  unfold wsG at hw
  split at hw
  ·rcases List.mem_append.1 hw with hw|hw
   ·exact hws w (List.mem_of_mem_take hw)
   ·exact hws w (List.mem_of_mem_drop hw)
  ·exact hws w hw
 have ewg:wsG (EY l) (AI 32 l)=wg:=by rw[hwg, <-hG, <-hwsd]
 rw[<-hwg]
 refine xd<|A8 I<|xa<|Av I (fun hx=> ?_) (fun hx=> ?_)
 ·have hne:wg.length≠(BJ G).length:=fun e=>by
   have h':((wg.length:Int) !=((BJ G).length:Nat))=true:=hx
   rw[bne_iff_ne] at h';omega
  refine xb<|wB 1 I I I<|wS 0 I I I<|wP I<|xc<|zP<|An tH I (.cell 0 I I I I I) (.tmp I) (G2 G wg 0,false) I (.inr ⟨VJ ?_,I⟩) fun W _=>As.nil _ _
  rw[ewg, <-hG];exact hne
 have hlen:wg.length=(BJ G).length:=by
  have h':((wg.length:Int) !=((BJ G).length:Nat))=false:=hx
  rw[bne_eq_false_iff_eq] at h';omega
 clear hx
 refine zI<|zE<|xd<|Ae I<|xa<|zH<|?_
 refine A6 (X:=Nat) (fun k=>[(2, .pointer (some ⟨b2,0,none⟩)),(3, .bool false),(4, .pointer (some ⟨b4,0,none⟩)),(5, .slice (some ⟨g,0,none⟩) wg.length ws.length),(43, .slice (some ⟨bf,0,none⟩) (BJ G).length (BJ G).length),(44, .int .i64 ((BJ G).length:Nat)),(45, .int .i64 (k:Nat))])
  (fun k=>[⟨b2,79,(G2 false [] 0).cells,true,none⟩,⟨b4,79,(G2 G wg k).cells,true,none⟩,⟨g,9,ss wg++junk,true,none⟩,⟨bf,246,Tg b4 (BJ G),true,none⟩])
  (fun k=>k<=(BJ G).length/\ ∀j,j<k->D3 (wg.getD j [])≠none) (fun k=>(BJ G).length-k) 0 ⟨Nat.zero_le _,fun j hj=>absurd hj (Nat.not_lt_zero _)⟩ ⟨rfl,rfl,rfl,rfl,rfl,rfl,rfl,trivial⟩ [] rfl ?_
 rintro k ⟨hk,hall⟩
 have ho7:(BJ G).length<=6:=by cases G<;>decide
 refine xb<|wP I<|xa<|zA<|Av I (fun h=> ?_) (fun h=> ?_)
 rotate_left
 ·have e:k=(BJ G).length:=by have h':decide ((k:Int)<((BJ G).length:Nat))=false:=h;rw[decide_eq_false_iff_not] at h';omega
  refine xf<|xe<|wB 1 I I I<|wS 0 I I I<|wP I<|xc<|An tH I (.cell 0 I I I I I) (.tmp I) (G2 G wg k,true) I (.inl ⟨_, ?_,I⟩) fun W _=>As.nil _ _
  have:=Wv (l:=l) (by rw[ewg, <-hG];exact hlen) (fun j hj=>by rw[ewg];rw[<-hG] at hj;exact hall j (by omega))
  rw[this,ewg, <-hG,e]
 have hk:k<(BJ G).length:=by have h':decide ((k:Int)<((BJ G).length:Nat))=true:=h;rw[decide_eq_true_iff] at h';omega
 clear h
 have hkw:k<wg.length:=by omega
 have hoff:=Wi G hk
 have hwk:(wg.getD k []).length<=100000:=hwgl _ (by rw[List.getD_eq_getElem?_getD,List.getElem?_eq_getElem hkw];exact List.getElem_mem hkw)
 have hbad0:D3 (wg.getD k [])=none->FI l=none:=fun h=>W5 (k:=k) (by rw[ewg];exact hkw) (by rw[ewg];exact h)
 obtain⟨w,hw⟩: ∃w,w=wg.getD k []:=⟨_,rfl⟩
 have hat: ∀ {bxs:List Bx} {W1:World},Hp W bxs W1->nth bxs 2=some ⟨g,9,ss wg++junk,true,none⟩->Al W1 g (0+k*1) [str w]:=fun hp h2=>by rw[hw];exact Oj hp 2 h2 hkw
 rw[<-hw] at hwk hbad0
 have hstep: ∀n,D3 w=some n->(G2 G wg (k+1))=Vl (G2 G wg k) ((BJ G).getD k 0) n:=fun n h=>by
  show Vl (G2 G wg k) ((BJ G).getD k 0) ((D3 (wg.getD k [])).getD 0)=_
  rw[<-hw,h];rfl
 refine xh<|wP I<|wJ ?_
 refine wL 0 I I (fun W hp=>OO hp 3 I hk) I<|Aa I<|xg<|Aa I<|wJ ?_
 refine wL 0 I I (fun W hp=>hat hp I) I<|wD (X:=Int×Value) I I (fun W hp=>EA W w (by omega) (hv.hp hp)) ?_
 rintro⟨z,ev⟩ hz
 refine A8 I<|zC<|?_
 rcases hz with⟨n,hn,e⟩|⟨hno,a,ha⟩
 rotate_left
 ·have hbad:FI l=none:=hbad0 (YS hno)
  change ev=_ at ha
  subst ha
  refine zE<|zA<|zA<|zU<|qP rfl<|CD (v:= .bool true) rfl rfl (fun c e=>by cases e) (fun ρ W hρ _=>C4 Tryz.underlying104 rfl (hρ _ _ rfl) (hρ _ _ rfl) (.inr ⟨⟨_,_,rfl⟩,rfl⟩) W) ?_
  refine qP I ?_
  iterate 2 refine Cy I I ?_
  refine AO I<|?_
  iterate 6 refine Cy I I ?_
  refine AO I<|?_
  iterate 7 refine Cy I I ?_
  exact qP I<|zD<|xa<|zR I<|xb<|wB 1 I I I<|wS 0 I I I<|wP I<|xc<|zP<|xi<|An tH I (.cell 0 I I I I I) (.tmp I) (G2 G wg k,false) I (.inr ⟨hbad,I⟩) fun W _=>As.nil _ _
 injection e with e1 e2
 subst e1 e2
 have hnum:=ZU hn
 obtain⟨hb1,hb2⟩:=atoiAll_bounds hn
 refine zE<|zA<|zA<|zU<|qP rfl<|CD (v:= .bool false) rfl rfl (fun c e=>by cases e) (fun ρ W hρ _=>C4 Tryz.underlying104 rfl (hρ _ _ rfl) (hρ _ _ rfl) (.inl ⟨rfl,rfl⟩) W) ?_
 refine Ct I<|?_
 by_cases c1:z<0
 ·have hbad:FI l=none:=hbad0 (by rw[hnum,if_pos (.inl c1)])
  refine qU 62 true I (dT c1)<|AO I<|?_
  iterate 6 refine Cy I I ?_
  refine AO I<|?_
  iterate 7 refine Cy I I ?_
  exact qP I<|zD<|xa<|zR I<|xb<|wB 1 I I I<|wS 0 I I I<|wP I<|xc<|zP<|xi<|An tH I (.cell 0 I I I I I) (.tmp I) (G2 G wg k,false) I (.inr ⟨hbad,I⟩) fun W _=>As.nil _ _
 refine qU 62 false I (dF c1)<|E7 I<|qJ ?_
 refine qL 0 I I (fun W hp=>hat hp I) I<|AO I<|?_
 have hsz:(⟨w.toArray⟩:ByteArray).size=w.length:=by show w.toArray.size=_;simp
 by_cases c2:9<w.length
 ·have hbad:FI l=none:=hbad0 (by rw[hnum,if_pos (.inr (.inl c2))])
  refine qU 70 true I (show decide (((⟨w.toArray⟩:ByteArray).size:Int)>9)=true by rw[hsz,decide_eq_true_iff];omega)<|AO I<|?_
  iterate 7 refine Cy I I ?_
  exact qP I<|zD<|xa<|zR I<|xb<|wB 1 I I I<|wS 0 I I I<|wP I<|xc<|zP<|xi<|An tH I (.cell 0 I I I I I) (.tmp I) (G2 G wg k,false) I (.inr ⟨hbad,I⟩) fun W _=>As.nil _ _
 refine qU 70 false I (show decide (((⟨w.toArray⟩:ByteArray).size:Int)>9)=false by rw[hsz,decide_eq_false_iff_not];omega)<|Ct I<|qC I I (fun W hp=>AF z hb1 hb2 W (ht.hp hp))<|AO I<|qJ ?_
 refine qL 0 I I (fun W hp=>hat hp I) I<|qP I<|?_
 by_cases c3:itoa z=w
 rotate_left
 ·have hbad:FI l=none:=hbad0 (by rw[hnum,if_pos (.inr (.inr c3))])
  exact qU 79 true I (show(!((⟨(itoa z).toArray⟩:ByteArray).toList==(⟨w.toArray⟩:ByteArray).toList))=true by rw[Km,dF c3];rfl)<|qP I<|zD<|xa<|zR I<|xb<|wB 1 I I I<|wS 0 I I I<|wP I<|xc<|zP<|xi<|An tH I (.cell 0 I I I I I) (.tmp I) (G2 G wg k,false) I (.inr ⟨hbad,I⟩) fun W _=>As.nil _ _
 refine qU 79 false I (show(!((⟨(itoa z).toArray⟩:ByteArray).toList==(⟨w.toArray⟩:ByteArray).toList))=false by rw[Km,dT c3];rfl) ?_
 have hsome:D3 w=some z:=by
  rw[hnum,if_neg]
  rintro(h|h|h)
  ·exact c1 h
  ·exact c2 h
  ·exact h c3
 refine qP I<|zD<|xa<|zS I<|zI<|zE<|zB<|Aa I<|AE I I I I<|?_
 refine BT 1 (G2 G wg (k+1)).cells tH I I I I I I I I I I (by show(BJ G).getD k 0+1<=7;omega) (by rw[hstep z hsome];exact T3 _ hoff z) ?_
 refine zC<|xj<|Aa I<|zC<|?_
 exact Ax (k+1) ⟨hk,fun j hj=>by
  by_cases e:j=k
  ·subst e;rw[<-hw,hsome];exact fun h=>by cases h
  ·exact hall j (by omega)⟩ (by omega) ⟨I,I,I,I,I,I,congrArg (fun z=>some (Value.int .i64 z)) (BO (x:=(k:Int)+1) (by omega) (by omega)),tO⟩ [] I
end
end Go.Proofs.YtidgbjcdppjknaaGreatDoor
