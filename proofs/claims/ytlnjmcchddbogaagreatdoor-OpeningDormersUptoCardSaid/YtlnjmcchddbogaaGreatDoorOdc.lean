/-
  Lemmas that the theorem openingDormers_upto_card needs (part 3 of 8).
-/
import Derived.Test.YtlnjmcchddbogaaGreatDoorOdb
import Derived.Sort.Grow
set_option maxHeartbeats 64000000
namespace Go.Proofs.YtlnjmcchddbogaaGreatDoor
section
open Go Go.RowKit Go.Am Go.Lib
set_option maxRecDepth 10000
theorem DW (l p:List UInt8):Be Tryz.prog 185 [str l,str p] (.tuple #[str (trimPrefix l p), .bool (hasPrefix l p)]):=by
 intro W
 refine Ae.of1 ((Tryz.strings_CutPrefix ⟨l.toArray⟩ ⟨p.toArray⟩ W).mono ?_)
 rintro e w' ⟨rfl,rfl⟩
 exact⟨I,Below.refl _ _⟩
theorem Ms (n:Int):hasPrefix (itoa n) [45]=decide (n<0):=by
 unfold itoa
 split
 ·rename_i h
  rw[dT h];rfl
 ·rename_i h
  rw[dF h]
  obtain⟨b,r,hb,h3,h4⟩:=CU n.toNat
  rw[hb]
  have:(45:UInt8)≠b:=fun e=>by rw[<-e] at h3;exact absurd h3 (by decide)
  simp[hasPrefix,List.isPrefixOf,this]
theorem R7 (s:List UInt8) (W:World):Ae Tryz.prog 194 #[str s] W (fun b:Nat=> .func (.func 269) #[] #[.pointer (some ⟨b,0,none⟩)]) (fun _=>True) (fun b=>[⟨b,9,[str s],true,none⟩]):=by
 refine Ab Tryz.func194 I I I<|xb<|?_
 refine Ov rfl rfl rfl rfl ?_;intro b
 exact wP I<|xf<|Aa I<|xc<|A3 tH I (.tmp I) b I tO fun W hp=>Au.of_hp hp
abbrev dgs (n k:Nat):Nat:=n/10^k%10
theorem Uh (b n:Nat) (hn:(decDigits n).length<4611686018427387904):
  Wx Tryz.prog 269 [.pointer (some ⟨b,0,none⟩)] (decDigits n).length (fun k=>[.int .i64 (k:Nat), .int .i64 (dgs n k:Nat)]) (fun W=>Aj W b 0 [str (decDigits n)]):=by
 refine⟨fun y J Jx hNeed hdr hY W hJ=> ?_⟩
 obtain⟨l,hl⟩: ∃l,decDigits n=l:=⟨_,rfl⟩
 have hget: ∀k,k<l.length->l[l.length-1-k]? =some (UInt8.ofNat (48+dgs n k)):=fun k hk=>by
  have:=Yf (n:=n) (i:=k) (by rw[hl];exact hk)
  rwa [hl] at this
 rw[hl] at hn hY hNeed⊢
 refine Da (args:=[.func (.yield y) #[] #[], .pointer (some ⟨b,0,none⟩)]) (J0:=J 0) Tryz.func269 I I I hJ ?_
 refine xb<|wL 0 I I (fun W hp=>hNeed 0 W hp) I<|wP I<|wV 5 (l.length:Nat) I (congrArg (fun n:Nat=>(n:Int)) (A5 l))<|wP I<|xa<|zH<|Di (X:=Nat) (fun k=>[(0, .func (.yield y) #[] #[]),(1, .pointer (some ⟨b,0,none⟩)),(5, .int .i64 (l.length:Nat)),(6, .int .i64 (k:Nat))]) J (fun k=>k<=l.length) (fun k=>l.length-k) 0 (Nat.zero_le _) ⟨I,I,I,I,tO⟩ (fun W h=>h) ?_
 intro k hk
 refine xb<|wP I<|xl<|Ag I (fun hc=> ?_) (fun hc=> ?_)
 ·have hk':k<l.length:=by simp at hc;omega
  clear hc
  have hd10:dgs n k<10:=Nat.mod_lt _ (by omega)
  refine xh<|Aa I<|xf<|Aa I<|wL 0 I I (fun W hp=>hNeed k W hp) I<|wL 0 I I (fun W hp=>hNeed k W hp) I<|wP I<|wV 13 (l.length:Nat) I (congrArg (fun n:Nat=>(n:Int)) (A5 l))<|Ad I<|wV 16 ((l.length-1-k:Nat):Int) I (by show w64 (w64 ((l.length:Int)-1)-k)=_;rw[Ar (x:=(l.length:Int)-1) (by omega) (by omega),Ar (by omega) (by omega)];omega)<|Bc (l.length-1-k) tH I I I I I I I I (hget k hk')<|Ap 17 (.int .u8 ((48+dgs n k:Nat):Int)) I (congrArg (Value.int .u8) (congrArg (fun n:Nat=>(n:Int)) (DJ hd10)))<|?_
  refine wP I<|Ap 18 (.int .u8 (dgs n k:Nat)) I (congrArg (Value.int .u8) (by show IntKind.u8.wrap (((48+dgs n k:Nat):Int)-48)=_;rw[show((48+dgs n k:Nat):Int)-48=(dgs n k:Nat) by omega,SD (by omega) (by omega)]))<|LE Tryz.underlying5 Tryz.underlying3 I I I I ?_
  refine wV 19 (dgs n k:Nat) I (BN (by omega))<|E7 (A1:=J (k+1)) (A2:=Jx) I I I I I I (fun W hp=>hY k W hk' hp) ?_ ?_
  ·exact wP I<|xa<|zS I<|zI<|xi<|Aa I<|zC<|Dh (k+1) hk' (by omega) ⟨I,I,I,congrArg (fun z=>some (Value.int .i64 z)) (A0 (by omega)),tO⟩ (fun W h=>h)
  ·exact wP I<|xa<|zR I<|zO<|xj<|Cp I (fun W h=>h)
 ·have hk':k=l.length:=by simp at hc;omega
  subst hk'
  exact xg<|FK I fun W h=>h
theorem Cm (W:World) (n:Int) (hn:(decDigits n.natAbs).length<=1000000):
  Ae Tryz.prog 133 #[str (itoa n)] W (fun x:NV=> .agg #[.bool (decide (n<0)),B8 x (lbs bs n.natAbs).length]) (fun x=>C0 x (lbs bs n.natAbs)) (fun x=>[BM x (lbs bs n.natAbs)]):=by
 obtain⟨m,hm⟩: ∃m,n.natAbs=m:=⟨_,rfl⟩
 obtain⟨L,hL⟩: ∃L,(decDigits m).length=L:=⟨_,rfl⟩
 obtain⟨K,hK⟩: ∃K,K=(L+8)/9:=⟨_,rfl⟩
 rw[hm] at hn⊢
 rw[hL] at hn
 refine Ab Tryz.func133 I I I<|xb<|wG I I fun _=>zC<|?_
 rename_i b2
 refine xn<|wP I<|wC I I (fun W _=>DW (itoa n) [45] W)<|Ap 11 (.tuple #[str (decDigits m), .bool (decide (n<0))]) I (by rw[Bf,Ms,hm])<|Ak I<|xf<|Ad I<|wV 16 (L:Nat) I (congrArg (fun n:Nat=>(n:Int)) ((A5 _).trans hL))<|Aa I<|wV 18 ((L+8:Nat):Int) I (by show w64 (w64 ((L:Int)+9)-1)=_;rw[Ar (x:=(L:Int)+9) (by omega) (by omega),Ar (by omega) (by omega)];omega)<|Ef I I I I I (by decide) ?_
 refine wV 19 (K:Nat) I (by show w64 (((L+8:Nat):Int).tdiv ((9:Nat):Int))=_;rw[DR, <-hK];exact BN (by omega)) ?_
 refine Cr Tryz.vec172 K I I I I I I I (by simp only[maxLen];omega) (by omega) ?_
 intro g
 have ez:Cf (Value.cells (.int .i64 0)).toList K=nI (List.replicate K 0)++[]:=by rw[List.append_nil];exact Gx K
 rw[ez]
 refine An Tryz.hZ tH I I I I I I I I ?_
 refine wG I I fun _=>wS 2 I I I<|zC<|?_
 rename_i b5
 refine xn<|wG I I fun _=>wS 3 I I I<|zC<|?_
 rename_i b6
 refine zE<|xd<|wP I<|wD (X:=Nat) I I (fun W _=>R7 (decDigits m) W) ?_
 intro b7 _
 refine xa<|zH<|?_
 refine EQ (X:=List Nat×Nat) (fun x=>[⟨b2,174,[.bool false, .slice none 0 0],true,none⟩,⟨g,3,nI x.1++[],true,none⟩,⟨b5,174,[.bool (decide (n<0)),slv (some ⟨g,0,none⟩) K K],true,none⟩,⟨b6,3,[.int .i64 (x.2:Nat)],true,none⟩,⟨b7,9,[str (decDigits m)],true,none⟩])
  (fun k x=>x.1.length=K/\(∀y∈x.1,y<bs)/\lv bs x.1=m%10^k/\(k%9≠0->x.2=10^(k%9))) (fun _ _=>False) (List.replicate K 0,1) rfl (by kernel_rfl) (Uh b7 m (by omega)) (fun _=>rfl)
  ⟨List.length_replicate,Is (by decide) K,by rw[Fx];show 0=m%10^0;rw[Nat.pow_zero,Nat.mod_one],fun h=>absurd rfl h⟩ [] rfl (fun k x W _ hp=>Aj.of_bx hp 4 rfl rfl) ?_ ?_ (fun _ _ _ _ _ h=>h.elim)
 ·rintro k ⟨l,u⟩ d Lo rec hk ⟨hl,hlb,hlv,hu⟩ hrec
  have hl:l.length=K:=hl
  rw[hL] at hk
  have hj:k/9<l.length:=by rw[hl];omega
  obtain⟨o,ho⟩: ∃o,lim l (k/9)=o:=⟨_,rfl⟩
  have hlo:l[k/9]? =some o:=by rw[DM hj,ho]
  obtain⟨dg,hdg⟩: ∃x,dgs m k=x:=⟨_,rfl⟩
  have hd10:dg<10:=by rw[<-hdg];exact Nat.mod_lt _ (by omega)
  obtain⟨q1,q2,q3⟩:=WP (w:=9) (B:=bs) (n:=m) (by decide) (by decide) hlb hlv hlo hdg.symm
  have h10:10^(k%9)<=100000000:=by
   have:10^(k%9)<=10^8:=Nat.pow_le_pow_right (by omega) (by omega)
   simpa using this
  have hdu:dg*10^(k%9)<=1000000000:=by
   have:=Nat.mul_le_mul (Nat.le_of_lt hd10) h10
   omega
  have q2':o+dg*10^(k%9)<1000000000:=q2
  refine xb<|wP I<|xa<|zB<|wP I<|zC<|BU 6 hrec I ?_
  refine zH<|xd<|wP I<|FC I I I I I (by decide) ?_
  refine wP I<|xa<|AA (X:=Unit) (fun _=>[(2,Ai b2),(5,Ai b5),(6,Ai b6),(7, .int .i64 (k:Nat)),(8, .int .i64 (dg:Nat))]) (fun _=>[⟨b2,174,[.bool false, .slice none 0 0],true,none⟩,⟨g,3,nI l++[],true,none⟩,⟨b5,174,[.bool (decide (n<0)),slv (some ⟨g,0,none⟩) K K],true,none⟩,⟨b6,3,[.int .i64 ((10^(k%9):Nat):Int)],true,none⟩,⟨b7,9,[str (decDigits m)],true,none⟩,BL d,Bp Lo rec .busy none]) (fun _=>True) ?_ ?_
  ·refine Ag I (fun hc=> ?_) (fun hc=> ?_)
   ·have hk0:k%9=0:=by
     have h':(((k:Nat):Int).tmod ((9:Nat):Int)==0)=true:=hc
     rw[Tr,beq_iff_eq] at h';omega
    exact zB<|wS 3 I I I<|zC<|Ao () tO ⟨I,I,I,I,congrArg (fun n:Nat=>some (Value.int .i64 (n:Int))) hdg,tO⟩ [] (by rw[hk0];rfl)
   ·have hk0:k%9≠0:=by
     have h':(((k:Nat):Int).tmod ((9:Nat):Int)==0)=false:=hc
     rw[Tr,beq_eq_false_iff_ne] at h';omega
    exact zI<|Ao () tO ⟨I,I,I,I,congrArg (fun n:Nat=>some (Value.int .i64 (n:Int))) hdg,tO⟩ [] (by rw[<-hu hk0];rfl)
  ·intro _ _
   refine zA<|zU<|qP I<|qB 2 I I I<|qP I<|Kr I I I I I (by decide) ?_
   refine qV 32 ((k/9:Nat):Int) I (by show w64 (((k:Nat):Int).tdiv ((9:Nat):Int))=_;rw[DR];exact BN (by omega))<|qJ ?_
   refine qL 0 I I (fun W' hp=>Aj.of_intsX hp 1 I hj ho) I<|qP I<|qB 3 I I I<|Ay I<|qV 38 ((o+dg*10^(k%9):Nat):Int) I (by show w64 ((o:Int)+w64 ((dg:Int)*((10^(k%9):Nat):Int)))=_;rw[Cx (by omega),AU (by omega)])<|qJ ?_
   refine UQ ?_
   refine AG 1 (nI (l.set (k/9) (o+dg*10^(k%9)))++[]) tH I I I I I I I I I I (by show 0+(k/9)*1+1<=(nI l++[]).length;rw[List.append_nil,BJ];omega) (CH hj _) ?_
   refine xa<|zB<|wB 3 I I I<|wP I<|wV 41 ((10^(k%9)*10:Nat):Int) I (Cx (Nat.lt_of_le_of_lt (Nat.mul_le_mul_right 10 h10) (by decide)))<|wS 3 I I I<|zC<|zN<|?_
   refine By 6 (l.set (k/9) (o+dg*10^(k%9)),10^(k%9)*10) hrec I ⟨by rw[List.length_set];exact hl,Dd hlb q2,q3,fun h=> ?_⟩ [] I
   show 10^(k%9)*10=10^((k+1)%9)
   rw[show(k+1)%9=k%9+1 by omega,Nat.pow_succ]
 ·rintro⟨l,u⟩ d Lo rec ⟨hl,hlb,hlv,_⟩
  have hl:l.length=K:=hl
  have hlv:lv bs l=m%10^(decDigits m).length:=hlv
  rw[hL] at hlv
  have hmL:m<10^L:=by rw[<-hL];exact Fq m
  rw[Nat.mod_eq_of_lt hmL] at hlv
  have hV0:(⟨some g,K,[]⟩:Vec).OK 1 l.length (nI l):=⟨Fg _,(fun h=>by cases h),fun _=>⟨by show _<=K;omega,by show K<=maxLen;simp only[maxLen];omega,by show(nI l).length+0=K*1;rw[BJ];omega⟩⟩
  obtain⟨j',hV2,he⟩:=Hg hV0 hlb
  refine zN<|xn<|wP I<|wB 2 I I I<|Ap 43 (slv (some ⟨g,0,none⟩) l.length K) I (by rw[hl])<|wC I I (fun W hp=>D3 W _ K _ (A6.of_bx hp 1 I) hlb (by omega) (by omega))<|wP I<|wS 2 I I I<|xf<|wB 2 I I I<|wS 0 I I I<|xc<|?_
  rw[hlv] at hV2 he
  refine Co 5 I ?_
  exact A3 tH I (.cell 0 I I I I I) ((g,K,j'):NV) (by rw[hlv];rfl) hV2 fun W hp=>Au.of_hp1 hp 1 (by show some (⟨g,3,nI l++[],true,none⟩:Bx)=some ⟨g,3,nI (lbs bs m)++j',true,none⟩;rw[he])
def AH (W:World):Prop:= ∃m,W.cell? ⟨4,0,none⟩=some (.int .i64 m)
theorem SR {W0 W:World} {b:Nat} {v:Value} (h:W0.cell? ⟨b,0,none⟩=some v) (hb:Below W0.heap.size W0 W):W.cell? ⟨b,0,none⟩=some v:=by
 have hlt:b<W0.heap.size:=by
  obtain⟨c,e,fr,h1,_⟩:=Sort.cells_of_cell? h
  exact(Array.getElem?_eq_some_iff.1 h1).1
 have e:=hb.block b hlt
 unfold World.cell? at h⊢
 simp only at h⊢
 rw[e]
 exact h
theorem AH.below {W0 W:World} (h:AH W0) (hb:Below W0.heap.size W0 W):AH W:=by
 obtain⟨m,h1⟩:=h
 exact⟨m,SR h1 hb⟩
theorem AH.hp {W0 W:World} {bxs:List Bx} (h:AH W0) (hp:Hp W0 bxs W):AH W:=h.below hp.below
theorem Te (W:World) (l:List UInt8) (hl:l.length<=4000000000) (hv:AH W):
  Ae Tryz.prog 251 #[str l,str [47]] W (fun _:Unit=> .tuple #[str (cut l [47]).1,str (cut l [47]).2.1, .bool (cut l [47]).2.2]) (fun _=>True) (fun _=>[]):=by
 obtain⟨m,hm⟩:=hv
 have hsz:(⟨l.toArray⟩:ByteArray).size=l.length:=by show l.toArray.size=_;simp
 refine Ae.of1 ((Tryz.strings_Cut ⟨l.toArray⟩ ⟨#[47]⟩ m W (by rw[hsz];omega) hm).mono ?_)
 rintro e W' ⟨rfl,n,rfl⟩
 refine⟨I, ?_⟩
 have:=Pj W n #[]
 rwa [Sort.grow_empty] at this
def okB (s:List UInt8):Prop:=ldn s=s.length/\s≠[]/\(1<s.length->s[0]? ≠some 48)
instance (s:List UInt8):Decidable (okB s):=by unfold okB;infer_instance
theorem Y0 (s:List UInt8):(dgN s=0\/dgN s<s.length)↔ ¬okB s:=by
 have hle:=Kw s
 unfold dgN okB
 by_cases h:1<ldn s/\s[0]? =some 48
 ·rw[if_pos h]
  exact⟨fun _ hk=>hk.2.2 (by omega) h.2,fun _=> .inl I⟩
 ·rw[if_neg h]
  constructor
  ·rintro(h1|h1) ⟨h2,h3,_⟩
   ·exact h3 (List.length_eq_zero_iff.1 (by omega))
   ·omega
  ·intro hk
   by_cases h1:ldn s=0
   ·exact .inl h1
   ·by_cases h2:ldn s<s.length
    ·exact .inr h2
    ·exact absurd ⟨by omega,fun e=>h1 (by rw[e];rfl),fun h3 h4=>h ⟨by omega,h4⟩⟩ hk
theorem WM {x:List UInt8}:H0 x=none↔ ¬(okB (trimPrefix x [45])/\ ¬(hasPrefix x [45]=true/\trimPrefix x [45]=[48])):=by
 unfold H0 okB
 constructor
 ·intro h hc
  rw[if_pos ⟨hc.1.1,hc.1.2.1,hc.1.2.2,hc.2⟩] at h
  cases h
 ·intro h
  exact if_neg fun hc=>h ⟨⟨hc.1,hc.2.1,hc.2.2.1⟩,hc.2.2.2⟩
abbrev Lf (a b:List UInt8):Value:= .agg #[str a,str b]
def Nu (a:List UInt8):Value:=match frm a with
 |none=> .tuple #[Lf [] [], .bool false]
 |some (z,d)=> .tuple #[Lf (itoa z) (decDigits d), .bool true]
theorem iA {a:List UInt8} (h:H0 (cut a [47]).1=none):Nu a= .tuple #[Lf [] [], .bool false]:=by
 have e:frm a=none:=by unfold frm;rw[h]
 rw[Nu,e]
theorem gP {a:List UInt8} (h:H0 (cut a [47]).1≠none) (hf:(cut a [47]).2.2=false):Nu a= .tuple #[Lf (cut a [47]).1 [49], .bool true]:=by
 cases hi:H0 (cut a [47]).1 with
 |none=>exact absurd hi h
 |some z=>
  have e:frm a=some (z,1):=by unfold frm;rw[hi];exact if_pos hf
  rw[Nu,e,Hn.1 hi]
  show Value.tuple #[Lf (itoa z) (decDigits 1), .bool true]=_
  rw[G0]
theorem gT {a:List UInt8} (h:H0 (cut a [47]).1≠none) (hf: ¬(cut a [47]).2.2=false) (hk:okB (cut a [47]).2.1/\(cut a [47]).2.1≠[48]/\(cut a [47]).2.1≠[49]):Nu a= .tuple #[Lf (cut a [47]).1 (cut a [47]).2.1, .bool true]:=by
 cases hi:H0 (cut a [47]).1 with
 |none=>exact absurd hi h
 |some z=>
  have e:frm a=some (z,AP (cut a [47]).2.1):=by unfold frm;rw[hi];exact(if_neg hf).trans (if_pos ⟨hk.1.1,hk.1.2.1,hk.1.2.2,hk.2.1,hk.2.2⟩)
  rw[Nu,e]
  show Value.tuple #[Lf (itoa z) (decDigits (AP _)), .bool true]=_
  rw[GA _ rfl (L4 hk.1), <-Hn.1 hi]
theorem g9 {a:List UInt8} (h:H0 (cut a [47]).1≠none) (hf: ¬(cut a [47]).2.2=false) (hk: ¬(okB (cut a [47]).2.1/\(cut a [47]).2.1≠[48]/\(cut a [47]).2.1≠[49])):Nu a= .tuple #[Lf [] [], .bool false]:=by
 cases hi:H0 (cut a [47]).1 with
 |none=>exact absurd hi h
 |some z=>
  have e:frm a=none:=by unfold frm;rw[hi];exact(if_neg hf).trans (if_neg fun hc=>hk ⟨⟨hc.1,hc.2.1,hc.2.2.1⟩,hc.2.2.2⟩)
  rw[Nu,e]
theorem VO (a:List UInt8):(cut a [47]).1.length<=a.length/\(cut a [47]).2.1.length<=a.length:=by
 rcases Hc 47 a with h|⟨x,y,rfl,hx⟩
 ·rw[Fs h];exact⟨Nat.le_refl _,Nat.zero_le _⟩
 ·rw[GY y hx,List.length_append,List.length_cons]
  constructor<;>simp<;>omega
theorem AW (a b:List UInt8):((⟨a.toArray⟩:ByteArray).toList==(⟨b.toArray⟩:ByteArray).toList)=decide (a=b):=by
 by_cases h:a=b
 ·subst h;simp
 ·rw[dF h,beq_eq_false_iff_ne]
  intro e;exact h (by simpa using e)
theorem Po (a:List UInt8) (hl:a.length<=4000000000) (W:World) (hv:AH W):
  Ae Tryz.prog 180 #[str a] W (fun _:Unit=>Nu a) (fun _=>True) (fun _=>[]):=by
 obtain⟨hx1,hy1⟩:=VO a
 refine Ab Tryz.func180 I I I<|xb<|wG I I fun _=>wP I<|zC<|?_
 rename_i b2
 refine xn<|wP I<|wC I I (fun W hp=>Te W a hl (hv.hp hp))<|AE I<|wP I<|zC<|?_
 have hA:= @iA a
 have hB:= @gP a
 have hC:= @gT a
 have hD:= @g9 a
 obtain⟨x,hx⟩: ∃x,(cut a [47]).1=x:=⟨_,rfl⟩
 obtain⟨y,hy⟩: ∃y,(cut a [47]).2.1=y:=⟨_,rfl⟩
 obtain⟨f,hf⟩: ∃f,(cut a [47]).2.2=f:=⟨_,rfl⟩
 rw[hx] at hx1
 rw[hy] at hy1
 simp only[hx,hy,hf] at hA hB hC hD⊢
 obtain⟨o,ho⟩: ∃o,trimPrefix x [45]=o:=⟨_,rfl⟩
 obtain⟨p,hp⟩: ∃p,hasPrefix x [45]=p:=⟨_,rfl⟩
 have hol:o.length<=x.length:=by rw[<-ho,AZ];split;rw[List.length_drop];omega;exact Nat.le_refl _
 have hN:= @WM x
 rw[ho,hp] at hN
 refine xn<|wP I<|wC I I (fun W _=>(DW x [45] W).cast (by rw[ho,hp]))<|Ak I<|xk<|wP I<|wC I I (fun W _=>JV o (by omega) W)<|wP I<|zC<|?_
 have hdg:=Y0 o
 have hdl:dgN o<=o.length:=by unfold dgN;split;exact Nat.zero_le _;exact Kw o
 obtain⟨n,hn⟩: ∃n,dgN o=n:=⟨_,rfl⟩
 rw[hn] at hdg hdl
 rw[hn]
 refine zE<|zA<|AA (X:=Bool) (fun c=>[(2,Ai b2),(4,str x),(5,str y),(6, .bool f),(38, .bool c)]) (fun _=>[⟨b2,122,[str [],str []],true,none⟩]) (fun c=>(c=true↔H0 x=none)) ?_ ?_
 ·refine zB<|wP I<|?_
  by_cases h0:n=0
  ·refine Ap 24 (.int .i64 0) I (by rw[h0];rfl)<|Aa I<|?_
   iterate 4 refine Af I I ?_
   refine Aa I<|?_
   iterate 5 refine Af I I ?_
   exact wP I<|zC<|Ao true ⟨fun _=>hN.2 fun h=>hdg.1 (.inl h0) h.1,fun _=>rfl⟩ ⟨I,I,I,I,I,tO⟩ [] I
  ·refine wP I<|wU 25 false I (by rw[beq_eq_false_iff_ne];omega)<|At I<|Ap 29 (.int .i64 (o.length:Nat)) I (congrArg (fun n:Nat=>Value.int .i64 (n:Int)) (A5 o))<|wP I<|?_
   by_cases h1:n<o.length
   ·refine wU 30 true I (dT (by omega))<|Aa I<|?_
    iterate 5 refine Af I I ?_
    exact wP I<|zC<|Ao true ⟨fun _=>hN.2 fun h=>hdg.1 (.inr h1) h.1,fun _=>rfl⟩ ⟨I,I,I,I,I,tO⟩ [] I
   ·have hok:okB o:=Decidable.byContradiction fun h=>(hdg.2 h).elim h0 h1
    refine wU 30 false I (dF (by omega))<|At I<|?_
    cases p with
    |false=>
     iterate 2 refine Af I I ?_
     exact wP rfl<|wP rfl<|zC<|Ao false ⟨fun h=>(by cases h),fun h=>absurd h fun h=>hN.1 h ⟨hok,fun h=>(by cases h.1)⟩⟩ ⟨rfl,rfl,rfl,rfl,rfl,trivial⟩ [] rfl
    |true=>
     refine Aa I<|wU 36 (decide (o=[48])) I (AW o [48])<|Aa I<|zC<|?_
     exact Ao (decide (o=[48])) (by
      rw[decide_eq_true_iff,hN]
      exact⟨fun h h2=>h2.2 ⟨I,h⟩,fun h=>Decidable.byContradiction fun h2=>h ⟨hok,fun h3=>h2 h3.2⟩⟩) ⟨I,I,I,I,I,tO⟩ [] I
 ·intro c hc
  refine Ag I (fun hcc=> ?_) (fun hcc=> ?_)
  ·refine xb<|An Tryz.hZ tH I I I I I I I I ?_
   exact wS 0 I I I<|wP I<|xo<|A4 tH I (.cell 0 I I I I I) (.tmp I) () (hA (hc.1 hcc)).symm tO fun W _=>Au.nil _ _
  ·have hi:H0 x≠none:=fun h=>by rw[hc.2 h] at hcc;cases hcc
   have hB:=hB hi
   have hC:=hC hi
   have hD:=hD hi
   refine xe<|xd<|Aa I<|?_
   cases f with
   |false=>
    refine xa<|zR I<|xb<|wP I<|An Tryz.hZ tH I I I I I I I I ?_
    exact wS 0 I I I<|wP I<|xo<|A4 tH I (.cell 0 I I I I I) (.tmp I) () (hB I).symm tO fun W _=>Au.nil _ _
   |true=>
    have hC:=hC (by decide)
    have hD:=hD (by decide)
    refine xa<|zS I<|xe<|xd<|wP I<|wC I I (fun W _=>JV y (by omega) W)<|wP I<|zC<|?_
    have hdg:=Y0 y
    have hdl:dgN y<=y.length:=by unfold dgN;split;exact Nat.zero_le _;exact Kw y
    obtain⟨n,hn⟩: ∃n,dgN y=n:=⟨_,rfl⟩
    rw[hn] at hdg hdl
    rw[hn]
    refine zE<|zA<|AA (X:=Bool) (fun c=>[(2,Ai b2),(4,str x),(5,str y),(61, .bool c)]) (fun _=>[⟨b2,122,[str [],str []],true,none⟩]) (fun c=>(c=false↔(okB y/\y≠[48]/\y≠[49]))) ?_ ?_
    ·refine zB<|wP I<|?_
     by_cases h0:n=0
     ·refine Ap 46 (.int .i64 0) I (by rw[h0];rfl)<|Aa I<|?_
      iterate 4 refine Af I I ?_
      refine Aa I<|?_
      iterate 2 refine Af I I ?_
      refine Aa I<|?_
      iterate 2 refine Af I I ?_
      exact wP rfl<|zC<|Ao true ⟨fun h=>(by cases h),fun h=>absurd h.1 (hdg.1 (.inl h0))⟩ ⟨rfl,rfl,rfl,rfl,trivial⟩ [] rfl
     ·refine wP I<|wU 47 false I (by rw[beq_eq_false_iff_ne];omega)<|At I<|Ap 51 (.int .i64 (y.length:Nat)) I (congrArg (fun n:Nat=>Value.int .i64 (n:Int)) (A5 y))<|wP I<|?_
      by_cases h1:n<y.length
      ·refine wU 52 true I (dT (by omega))<|Aa I<|?_
       iterate 2 refine Af I I ?_
       refine Aa I<|?_
       iterate 2 refine Af I I ?_
       exact wP rfl<|zC<|Ao true ⟨fun h=>(by cases h),fun h=>absurd h.1 (hdg.1 (.inr h1))⟩ ⟨rfl,rfl,rfl,rfl,trivial⟩ [] rfl
      ·have hok:okB y:=Decidable.byContradiction fun h=>(hdg.2 h).elim h0 h1
       refine wU 52 false I (dF (by omega))<|At I<|?_
       by_cases h2:y=[48]
       ·refine wU 56 true I ((AW y [48]).trans (dT h2))<|Aa I<|?_
        iterate 2 refine Af I I ?_
        exact wP rfl<|zC<|Ao true ⟨fun h=>(by cases h),fun h=>absurd h2 h.2.1⟩ ⟨rfl,rfl,rfl,rfl,trivial⟩ [] rfl
       ·refine wU 56 false I ((AW y [48]).trans (dF h2))<|At I<|wU 60 (decide (y=[49])) I (AW y [49])<|wP I<|zC<|?_
        exact Ao (decide (y=[49])) (by
         rw[decide_eq_false_iff_not]
         exact⟨fun h=>⟨hok,h2,h⟩,fun h=>h.2.2⟩) ⟨I,I,I,I,tO⟩ [] I
    ·intro c hc
     refine Ag I (fun hcc=> ?_) (fun hcc=> ?_)
     ·refine xb<|An Tryz.hZ tH I I I I I I I I ?_
      exact wS 0 rfl rfl rfl<|wP rfl<|xo<|A4 tH rfl (.cell 0 rfl rfl rfl rfl rfl) (.tmp rfl) () (hD fun h=>by rw[hc.2 h] at hcc;cases hcc).symm trivial fun W _=>Au.nil _ _
     ·refine xm<|Aa I<|An Tryz.hZ tH I I I I I I I I ?_
      exact wS 0 I I I<|wP I<|xc<|A4 tH I (.cell 0 I I I I I) (.tmp I) () (hC (hc.1 hcc)).symm tO fun W _=>Au.nil _ _
theorem Yw (z:Int) {d:Nat} (hd:d≠0):(mkRat z d).num=z/((Nat.gcd z.natAbs d:Nat):Int)/\(mkRat z d).den=d/Nat.gcd z.natAbs d:=by
 rw[mkRat,dif_neg hd,Rat.normalize_eq]
 exact⟨I,I⟩
theorem IN {z:Int} {d:Nat} (hd:d≠0) (h:d/Nat.gcd z.natAbs d=1):Ac (mkRat z d)=itoa (z/((Nat.gcd z.natAbs d:Nat):Int)):=by
 obtain⟨h1,h2⟩:=Yw z hd
 rw[Ac,F1,h2,h1,if_pos h]
theorem K4 {z:Int} {d:Nat} (hd:d≠0) (h: ¬d/Nat.gcd z.natAbs d=1):Ac (mkRat z d)=itoa (z/((Nat.gcd z.natAbs d:Nat):Int))++[47]++itoa ((d/Nat.gcd z.natAbs d:Nat):Int):=by
 obtain⟨h1,h2⟩:=Yw z hd
 rw[Ac,F1,h2,h1,if_neg h,Ce];simp
theorem RL (n:Int) (h0: -1000000000000000000<n) (h1:n<1000000000000000000):(itoa n).length<=20:=by
 have h:=Cy 18 n.natAbs (by decide) (by
  have:(10:Nat)^18=1000000000000000000:=by decide
  omega)
 unfold itoa
 split
 ·rw[List.length_cons];omega
 ·rw[show n.toNat=n.natAbs by omega];omega
theorem RB (z d:Int) (hd:d≠0) (hz:z.natAbs<1000000000000000000) (hd2:d.natAbs<1000000000000000000) (W:World) (ht:A9 W):
  Ae Tryz.prog 123 #[HK z d] W (fun _:Unit=>str (Ac (mkRat (if d<0 then -z else z) d.natAbs))) (fun _=>True) (fun _=>[]):=by
 refine Ab Tryz.func123 I I I<|xb<|wF I I fun _=>wP I<|zC<|?_
 rename_i b1
 refine zE<|xd<|wP I<|wB 0 I I I<|wP I<|xa<|AA (X:=Unit) (fun _=>[(1,Ai b1)]) (fun _=>[⟨b1,118,[.int .i64 (if d<0 then -z else z), .int .i64 ((d.natAbs:Nat):Int)],true,none⟩]) (fun _=>True) ?_ ?_
 ·refine Ag I (fun hc=> ?_) (fun hc=> ?_)
  ·have hc:=of_decide_eq_true hc
   refine zB<|wP I<|wB 0 I I I<|wP I<|wV 11 (-z) I (by show w64 (0-z)=_;rw[Ar (by omega) (by omega)];omega)<|wP I<|wB 0 I I I<|wP I<|wV 14 ((d.natAbs:Nat):Int) I (by show w64 (0-d)=_;rw[Ar (by omega) (by omega)];omega)<|wP I<|wS 0 I I I<|wP I<|wS 0 I I I<|zC<|?_
   rw[if_pos hc]
   exact Ao () tO ⟨I,tO⟩ [] I
  ·have hc:=of_decide_eq_false hc
   refine zI ?_
   rw[if_neg hc,show((d.natAbs:Nat):Int)=d by omega]
   exact Ao () tO ⟨I,tO⟩ [] I
 ·intro _ _
  obtain⟨x,hx⟩: ∃x,(if d<0 then -z else z)=x:=⟨_,rfl⟩
  obtain⟨e,he⟩: ∃e,d.natAbs=e:=⟨_,rfl⟩
  rw[hx,he]
  have he0:e≠0:=by omega
  have hxa:x.natAbs<1000000000000000000:=by rw[<-hx];split<;>omega
  obtain⟨g,hg⟩: ∃g,Nat.gcd x.natAbs e=g:=⟨_,rfl⟩
  have hg0:0<g:=by rw[<-hg];exact Nat.gcd_pos_of_pos_right _ (by omega)
  obtain⟨k,hk⟩: ∃k,x=(g:Int)*k:=Int.natAbs_dvd_natAbs.1 (by rw[Int.natAbs_natCast, <-hg];exact Nat.gcd_dvd_left ..)
  obtain⟨m,hm⟩: ∃m,e=g*m:=by rw[<-hg];exact Nat.gcd_dvd_right ..
  have hkx:k.natAbs<=x.natAbs:=by rw[hk,Int.natAbs_mul];exact Nat.le_mul_of_pos_left _ (by omega)
  have hme:m<=e:=by rw[hm];exact Nat.le_mul_of_pos_left _ hg0
  have hq1:x/(g:Int)=k:=by rw[hk];exact Int.mul_ediv_cancel_left _ (by omega)
  have hq2:e/g=m:=by rw[hm];exact Nat.mul_div_cancel_left _ hg0
  have ht1:x.tdiv (g:Int)=k:=by rw[hk];exact Int.mul_tdiv_cancel_left _ (by omega)
  have ht2:((e:Nat):Int).tdiv (g:Int)=(m:Nat):=by rw[hm,Int.natCast_mul];exact Int.mul_tdiv_cancel_left _ (by omega)
  refine xb<|wP I<|wB 0 I I I<|wP I<|wB 0 I I I<|wP I<|wV 21 (-x) I (by show w64 (0-x)=_;rw[Ar (by omega) (by omega)];omega)<|wP I<|wV 22 ((x.natAbs:Nat):Int) I (by show(if -x>x then -x else x)=_;split<;>omega)<|wP I<|wB 0 I I I<|wC I I (fun W _=>(NG x.natAbs e (by omega) (by omega) W).cast (by rw[hg]))<|wP I<|xl<|zU<|qP I<|qB 0 I I I<|qP I<|Kr I I I I I (by omega) ?_
  refine qV 29 k I (by rw[ht1];exact Ar (by omega) (by omega))<|qP I<|qB 0 I I I<|qP I<|Kr I I I I I (by omega) ?_
  refine qV 33 ((m:Nat):Int) I (by rw[ht2];exact Ar (by omega) (by omega))<|Ay I<|zD<|xk<|Aa I<|?_
  by_cases hm1:m=1
  ·exact wU 35 true I (by rw[hm1];rfl)<|xa<|zR I<|xb<|wP I<|wC I I (fun W hp=>Bt k (by omega) (by omega) W (ht.hp hp))<|wP I<|xo<|wR1 I I (by rw[IN he0 (by rw[hg,hq2,hm1]),hg,hq1])
  ·refine wU 35 false I (by rw[beq_eq_false_iff_ne];omega)<|xa<|zS I<|xm<|wP I<|wC I I (fun W hp=>Bt k (by omega) (by omega) W (ht.hp hp))<|Ci I I I I I (Nat.le_trans (RL k (by omega) (by omega)) (by decide)) (by decide) ?_
   refine wP I<|wC I I (fun W hp=>Bt (m:Nat) (by omega) (by omega) W (ht.hp hp))<|?_
   refine Ci I I I I I (by have:=RL k (by omega) (by omega);rw[List.length_append];show _+1<=_;omega) (Nat.le_trans (RL (m:Nat) (by omega) (by omega)) (by decide)) ?_
   exact wP I<|xc<|wR1 I I (by rw[K4 he0 (by rw[hg,hq2];exact hm1),hg,hq1,hq2])
structure BS where
 p:Value
 v:Value
 g:Option (Nat×Array Value×Nat×Nat)
def BS.zero:BS:=⟨.pointer none, .slice none 0 0,none⟩
def BS.b1 (x:BS) (b:Nat):Bx:=⟨b,298,[x.p,x.v],true,none⟩
def BS.b2 (x:BS):Bx:=match x.g with
 |none=>Gf
 |some (g,cur,f1,f2)=>⟨g,0,[],true,some (.obj (.cells cur 5 (f1,f2)))⟩
structure BS.OK (x:BS) (b:Nat) (l:List UInt8):Prop where
 p:x.p= .pointer none\/x.p=Ai b
 row:(x.g=none/\x.v= .slice none 0 0/\l=[])\/ ∃g cap cur f1 f2,x.g=some (g,cur,f1,f2)/\x.v= .slice (some ⟨g,0,none⟩) l.length cap/\f2<=l.length/\l.length<=cap/\cap<=maxLen/\cur.size=cap/\cur.toList.take l.length=Lib.byteCells l/\g≠b
theorem BS.OK.zero (b:Nat):BS.zero.OK b []:=⟨.inl rfl, .inl ⟨rfl,rfl,rfl⟩⟩
theorem YV {W0 W:World} {bxs:List Bx} {b:Nat} {x:BS} {l:List UInt8} (hp:Hp W0 bxs W) (i j:Nat) (hi:nth bxs i=some (x.b1 b)) (hj:nth bxs j=some x.b2) (hx:x.OK b l):Lib.IsBuilderF 298 5 W0.heap.size b (Lib.byteCells l) W:=by
 rw[Bv] at hi hj
 have h1:=hp.at_ i _ hi rfl
 have hb1:W.heap[b]? =some (.cells #[x.p,x.v] 298 (0,0)):=h1.1
 have hat:Lib.BuilderAtF 298 5 W0.heap.size b x.p (Lib.byteCells l) W:=by
  refine⟨h1.2,x.v,hb1, ?_, ?_⟩
  ·rw[Lib.byteCells_length]
   refine⟨by rw[Lib.byteCells_length,Nat.mul_one], ?_⟩
   rcases hx.row with⟨_,hv,hl⟩|⟨g,cap,cur,f1,f2,hg,hv,h3,h4,h5,h6,h7,_⟩
   ·exact .inl ⟨hv,by rw[hl];rfl⟩
   ·obtain⟨p,v,gg⟩:=x
    simp only at hg hv
    subst hg
    have h2:=hp.at_ j _ hj rfl
    exact .inr ⟨g,cap,cur,(f1,f2),hv,h2.2,h2.1,by simpa using h3,h4,h5,by simpa using h6,by simpa using h7⟩
  ·rcases hx.row with⟨_,hv,_⟩|⟨g,cap,cur,f1,f2,hg,hv,_,_,_,_,_,h8⟩
   ·rw[hv];simp[Value.ownBlock]
   ·rw[hv];simpa[Value.ownBlock] using h8
 rcases hx.p with e|e
 ·rw[e] at hat;exact .inl hat
 ·rw[e] at hat;exact .inr hat
def Sy (B:Bx):Bool:=match B.raw with
 |none=> !B.on|| !(Nat.beq B.ty 5)
 |some (.obj (.cells ..))=> !B.on
 |some (.obj _)=>true
 |some (.grp l)=>l.all fun p=>match p.2 with| .cells .. =>false|_=>true
theorem Ws {B:Bx} (h:Sy B=true) {q:Nat×Obj} (hq:q∈B.blk): ∀c fz,q.2≠ .cells c 5 fz:=by
 intro c fz e
 obtain⟨b,ty,cells,on,raw⟩:=B
 cases on with
 |false=>cases hq
 |true=>
  cases raw with
  |none=>
   obtain rfl:=List.mem_singleton.1 hq
   have e':(Obj.cells cells.toArray ty (0,0))= .cells c 5 fz:=e
   injection e' with _ e2 _
   subst e2
   exact absurd h (by simp[Sy])
  |some r=>
   cases r with
   |obj o=>
    obtain rfl:=List.mem_singleton.1 hq
    have e':o= .cells c 5 fz:=e
    subst e'
    exact absurd h (by simp[Sy])
   |grp l=>
    have hq':q∈l:=hq
    have:=List.all_eq_true.1 h q hq'
    rw[e] at this
    cases this
def Jd (i j:Nat):Nat->List Bx->Bool
 |_,[]=>true
 |k,B::l=>(Nat.beq k i||Nat.beq k j||Sy B)&&Jd i j (k+1) l
theorem O5 {i j:Nat}: ∀ {l:List Bx} {k m:Nat} {B:Bx},Jd i j k l=true->l[m]? =some B->k+m≠i->k+m≠j->Sy B=true
 |[],_,_,_,_,h,_,_=>by simp at h
 |C::l,k,0,B,h,hm,hi,hj=>by
  obtain rfl:C=B:=by simpa using hm
  simp only[Jd,Bool.and_eq_true,Bool.or_eq_true] at h
  rcases h.1 with(h|h)|h
  ·exact absurd (Nat.eq_of_beq_eq_true h) (by simpa using hi)
  ·exact absurd (Nat.eq_of_beq_eq_true h) (by simpa using hj)
  ·exact h
 |C::l,k,m+1,B,h,hm,hi,hj=>by
  simp only[Jd,Bool.and_eq_true] at h
  exact O5 (k:=k+1) h.2 (by simpa using hm) (by omega) (by omega)
theorem Nc {W0 W W':World} {bxs:List Bx} {b:Nat} {x:BS} {l:List UInt8} {p:Value} (hp:Hp W0 bxs W) (i j:Nat) (hij:Nat.beq i j=false) (hi:nth bxs i=some (x.b1 b)) (hj:nth bxs j=some x.b2) (hr:Jd i j 0 bxs=true) (hpp:p= .pointer none\/p=Ai b)
  (hat:Lib.BuilderAtF 298 5 W0.heap.size b p (Lib.byteCells l) W') (hb:Below W0.heap.size W W') (ho:Lib.OthersKept 5 (some b) W W'):
  ∃x':BS,x'.OK b l/\Below W0.heap.size W0 W'/\Au W0 W' ((bxs.set i (x'.b1 b)).set j x'.b2):=by
 rw[Bv] at hi hj
 have hij':i≠j:=fun e=>by rw[e,Nat.beq_refl] at hij;cases hij
 obtain⟨hB,v,hbk,hown,hne⟩:=hat
 rw[Lib.byteCells_length] at hown
 have hi2:i<bxs.length:=(List.getElem?_eq_some_iff.1 hi).1
 have hj2:j<bxs.length:=(List.getElem?_eq_some_iff.1 hj).1
 obtain⟨x',hx',hv1,h2⟩: ∃x':BS,x'.OK b l/\(x'.p=p/\x'.v=v)/\ ∀q∈x'.b2.blk,W'.heap[q.1]? =some q.2/\W0.heap.size<=q.1/\q.1≠b/\(∃c fz,q.2= .cells c 5 fz)/\(x'.b2.blk.map (·.1)).Nodup:=by
  rcases hown.2 with⟨rfl,hn⟩|⟨g,cap,cur,fz,rfl,hbg,hg,hf,hnc,hcm,hcs,htake⟩
  ·refine⟨⟨p, .slice none 0 0,none⟩,⟨hpp, .inl ⟨rfl,rfl,List.length_eq_zero_iff.1 hn⟩⟩,⟨rfl,rfl⟩,fun q hq=>by cases hq⟩
  ·have hgb:g≠b:=fun e=>hne (by rw[e];rfl)
   refine⟨⟨p, .slice (some ⟨g,0,none⟩) l.length cap,some (g,cur,fz.1,fz.2)⟩,⟨hpp, .inr ⟨g,cap,cur,fz.1,fz.2,I,I,by simpa using hf,hnc,hcm,by simpa using hcs,by simpa using htake,hgb⟩⟩,⟨I,I⟩,fun q hq=> ?_⟩
   obtain rfl:=List.mem_singleton.1 hq
   exact⟨hg,hbg,hgb,⟨cur,_,I⟩,List.nodup_cons.2 ⟨List.not_mem_nil,List.nodup_nil⟩⟩
 have hother: ∀(k:Nat) (C:Bx),k≠i->k≠j->bxs[k]? =some C-> ∀q∈C.blk,W'.heap[q.1]? =some q.2/\W0.heap.size<=q.1/\q.1≠b/\ ∀c fz,q.2≠ .cells c 5 fz:=fun k C h3 h4 hk q hq=>by
  have h5:=hp.own.cell k C hk q hq
  have h6:=Ws (O5 hr hk (by omega) (by omega)) hq
  have h7:q.1≠b:=fun e=>hp.own.apart k i C (x.b1 b) hk hi h3 q hq (b,_) (List.mem_cons_self ..) e
  exact⟨ho q.1 q.2 h5.1 (fun e=>h7 (Option.some.inj e)) h6,h5.2,h7,h6⟩
 have hget: ∀(k:Nat) (C:Bx),((bxs.set i (x'.b1 b)).set j x'.b2)[k]? =some C->(k=j/\C=x'.b2)\/(k=i/\k≠j/\C=x'.b1 b)\/(k≠i/\k≠j/\bxs[k]? =some C):=fun k C h=>by
  rcases Er h with h|⟨h3,h⟩
  ·exact .inl h
  ·rcases Er h with⟨h4,h5⟩|⟨h4,h⟩
   ·exact .inr (.inl ⟨h4,h3,h5⟩)
   ·exact .inr (.inr ⟨h4,h3,h⟩)
 have hb1: ∀q∈(x'.b1 b).blk,q=(b, .cells #[p,v] 298 (0,0)):=fun q hq=>by
  obtain rfl:=List.mem_singleton.1 hq
  show(b,Obj.cells #[x'.p,x'.v] _ _)=_
  rw[hv1.1,hv1.2];rfl
 refine⟨x',hx',hp.below.trans hb,fun k C hk q hq=> ?_,fun k C hk=> ?_,fun k m C E hk hm hne q hq q' hq'=> ?_⟩
 ·rcases hget k C hk with⟨rfl,rfl⟩|⟨rfl,_,rfl⟩|⟨h3,h4,hk⟩
  ·exact⟨(h2 q hq).1,(h2 q hq).2.1⟩
  ·rw[hb1 q hq];exact⟨hbk,hB⟩
  ·have:=hother k C h3 h4 hk q hq
   exact⟨this.1,this.2.1⟩
 ·rcases hget k C hk with⟨rfl,rfl⟩|⟨rfl,_,rfl⟩|⟨h3,h4,hk⟩
  ·cases hbl:x'.b2.blk with
   |nil=>exact List.nodup_nil
   |cons q r=>
    rw[<-hbl]
    exact(h2 q (by rw[hbl];exact List.mem_cons_self ..)).2.2.2.2
  ·exact List.nodup_cons.2 ⟨List.not_mem_nil,List.nodup_nil⟩
  ·exact hp.own.nd k C hk
 ·have e2: ∀q∈x'.b2.blk, ∀(k:Nat) (C:Bx),k≠i->k≠j->bxs[k]? =some C-> ∀q'∈C.blk,q.1≠q'.1:=fun q hq k C h3 h4 hk q' hq' e=>by
   have ha:=h2 q hq
   have hb:=hother k C h3 h4 hk q' hq'
   obtain⟨c,fz,hc⟩:=ha.2.2.2.1
   have:some q.2=some q'.2:=by rw[<-ha.1, <-hb.1,e]
   exact hb.2.2.2 c fz ((Option.some.inj this).symm.trans hc)
  rcases hget k C hk with⟨rfl,rfl⟩|⟨rfl,h5,rfl⟩|⟨h3,h4,hk'⟩<;>rcases hget m E hm with⟨rfl,rfl⟩|⟨rfl,h6,rfl⟩|⟨h7,h8,hm'⟩
  ·exact absurd I hne
  ·rw[hb1 q' hq'];exact(h2 q hq).2.2.1
  ·exact e2 q hq m E h7 h8 hm' q' hq'
  ·rw[hb1 q hq];exact fun e=>(h2 q' hq').2.2.1 e.symm
  ·exact absurd I hne
  ·rw[hb1 q hq];exact fun e=>(hother m E h7 h8 hm' q' hq').2.2.1 e.symm
  ·exact fun e=>e2 q' hq' k C h3 h4 hk' q hq e.symm
  ·rw[hb1 q' hq'];exact(hother k C h3 h4 hk' q hq).2.2.1
  ·exact hp.own.apart k m C E hk' hm' hne q hq q' hq'
section
variable {r:Option Nat} {n:Nat} {W0:World} {N:Nat} {D:List Deferred} {ops:List Oper} {Q:Exit->Act->World->Prop} {o:Oper} {rest:List Oper} {env:Env} {bxs:List Bx}
theorem QQ (i j:Nat) {x:BS} {b:Nat} {l:List UInt8} (s:List UInt8) {c:Call} {f:Operand} {d:Nat} (hij:Nat.beq i j=false) (hi:nth bxs i=some (x.b1 b)) (hj:nth bxs j=some x.b2) (hr:Jd i j 0 bxs=true) (hx:x.OK b l) (hl:l.length+s.length<=1000000)
  (hg:Aw ops N env o=some true) (hd:o.dst=some d) (ho:o.op= .call c) (hc:c.callee= .value f) (hf:evO N env f=some (.func (.func 266) #[] #[])) (ha:Cn (evO N env) c.args.toList=some [Ai b,str s])
  (h: ∀x':BS,x'.OK b (l++s)->WL r n Tryz.prog N D ops Q rest ((d, .tuple #[.int .i64 (s.length:Nat), .nilIface])::env) (Hp W0 ((bxs.set i (x'.b1 b)).set j x'.b2))):WL r n Tryz.prog N D ops Q (o::rest) env (Hp W0 bxs):=by
 refine OZ (X:=BS) (val:=fun _=> .tuple #[.int .i64 (s.length:Nat), .nilIface]) (Φ:=fun x'=>x'.OK b (l++s)) (capt:=[]) (vs:=[Ai b,str s]) (fun x'=>(bxs.set i (x'.b1 b)).set j x'.b2) hg hd ho hc hf ha (by kernel_rfl) (fun W hp=> ?_) h
 refine(Tryz.Builder_WriteString_k W0.heap.size b (Lib.byteCells l) ⟨s.toArray⟩ W (YV hp i j hi hj hx) (by rw[Lib.byteCells_length];show _+s.toArray.size<=_;rw[List.size_toArray];omega) hp.below.size).mono ?_
 rintro e W' ⟨rfl,hat,hb,hk⟩
 have e1:Lib.byteCells l++strCells ⟨s.toArray⟩=Lib.byteCells (l++s):=by simp[Lib.byteCells,strCells]
 rw[e1] at hat
 obtain⟨x',h1,h2,h3⟩:=Nc hp i j hij hi hj hr (.inr rfl) hat hb hk
 exact⟨x',congrArg (fun z:Nat=>Ending.returned (.tuple #[.int .i64 (z:Int), .nilIface])) (A5 s),h1,h2,h3⟩
theorem ZA (i j:Nat) {x:BS} {b:Nat} {l:List UInt8} (ch:UInt8) {c:Call} {f:Operand} {d:Nat} (hij:Nat.beq i j=false) (hi:nth bxs i=some (x.b1 b)) (hj:nth bxs j=some x.b2) (hr:Jd i j 0 bxs=true) (hx:x.OK b l) (hl:l.length+1<=1000000)
  (hg:Aw ops N env o=some true) (hd:o.dst=some d) (ho:o.op= .call c) (hc:c.callee= .value f) (hf:evO N env f=some (.func (.func 265) #[] #[])) (ha:Cn (evO N env) c.args.toList=some [Ai b, .int .u8 (ch.toNat:Nat)])
  (h: ∀x':BS,x'.OK b (l++[ch])->WL r n Tryz.prog N D ops Q rest ((d, .nilIface)::env) (Hp W0 ((bxs.set i (x'.b1 b)).set j x'.b2))):WL r n Tryz.prog N D ops Q (o::rest) env (Hp W0 bxs):=by
 refine OZ (X:=BS) (val:=fun _=> .nilIface) (Φ:=fun x'=>x'.OK b (l++[ch])) (capt:=[]) (vs:=[Ai b, .int .u8 (ch.toNat:Nat)]) (fun x'=>(bxs.set i (x'.b1 b)).set j x'.b2) hg hd ho hc hf ha (by kernel_rfl) (fun W hp=> ?_) h
 refine(Tryz.Builder_WriteByte_k W0.heap.size b (Lib.byteCells l) ch.toNat W (YV hp i j hi hj hx) (by rw[Lib.byteCells_length];omega) hp.below.size).mono ?_
 rintro e W' ⟨rfl,hat,hb,hk⟩
 have e1:Lib.byteCells l++[.int .u8 (ch.toNat:Int)]=Lib.byteCells (l++[ch]):=by simp[Lib.byteCells]
 rw[e1] at hat
 obtain⟨x',h1,h2,h3⟩:=Nc hp i j hij hi hj hr (.inr rfl) hat hb hk
 exact⟨x',I,h1,h2,h3⟩
theorem ZG (i j:Nat) {x:BS} {b:Nat} {l:List UInt8} {c:Call} {f:Operand} {d:Nat} (hij:Nat.beq i j=false) (hi:nth bxs i=some (x.b1 b)) (hj:nth bxs j=some x.b2) (hr:Jd i j 0 bxs=true) (hx:x.OK b l)
  (hg:Aw ops N env o=some true) (hd:o.dst=some d) (ho:o.op= .call c) (hc:c.callee= .value f) (hf:evO N env f=some (.func (.func 268) #[] #[])) (ha:Cn (evO N env) c.args.toList=some [Ai b])
  (h: ∀x':BS,x'.OK b l->WL r n Tryz.prog N D ops Q rest ((d,str l)::env) (Hp W0 ((bxs.set i (x'.b1 b)).set j x'.b2))):WL r n Tryz.prog N D ops Q (o::rest) env (Hp W0 bxs):=by
 refine OZ (X:=BS) (val:=fun _=>str l) (Φ:=fun x'=>x'.OK b l) (capt:=[]) (vs:=[Ai b]) (fun x'=>(bxs.set i (x'.b1 b)).set j x'.b2) hg hd ho hc hf ha (by kernel_rfl) (fun W hp=> ?_) h
 refine(Tryz.Builder_String_any_k W0.heap.size b l W (YV hp i j hi hj hx) hp.below.size).mono ?_
 rintro e W' ⟨rfl,hat,hb,hk⟩
 rcases hat with hat|hat
 ·obtain⟨x',h1,h2,h3⟩:=Nc hp i j hij hi hj hr (.inl rfl) hat hb hk
  exact⟨x',I,h1,h2,h3⟩
 ·obtain⟨x',h1,h2,h3⟩:=Nc hp i j hij hi hj hr (.inr rfl) hat hb hk
  exact⟨x',I,h1,h2,h3⟩
end
theorem E4 (p:Option Addr) (n cap:Nat) (W:World):Ae Tryz.prog 258 #[slv p n cap] W (fun b:Nat=> .func (.func 305) #[] #[.pointer (some ⟨b,0,none⟩)]) (fun _=>True) (fun b=>[⟨b,172,[slv p n cap],true,none⟩]):=by
 refine Ab Tryz.func258 I I I<|xb<|?_
 refine Ov rfl rfl rfl rfl ?_;intro b
 exact wP I<|xf<|Aa I<|xc<|A3 tH I (.tmp I) b I tO fun W hp=>Au.of_hp hp
structure XH (b:Nat) (p:Option Addr) (cap:Nat) (l:List Nat) (W:World):Prop where
 var:Aj W b 0 [slv p l.length cap]
 ints:A6 W p l
theorem GQ (b:Nat) (p:Option Addr) (cap:Nat) (l:List Nat) (hn:l.length<4611686018427387904):
  Wx Tryz.prog 305 [.pointer (some ⟨b,0,none⟩)] l.length (fun k=>[.int .i64 ((l.length-1-k:Nat):Int), .int .i64 (lim l (l.length-1-k):Nat)]) (XH b p cap l):=by
 refine⟨fun y J Jx hNeed hdr hY W hJ=> ?_⟩
 refine Da (args:=[.func (.yield y) #[] #[], .pointer (some ⟨b,0,none⟩)]) (J0:=J 0) Tryz.func305 I I I hJ ?_
 refine xb<|wL 0 I I (fun W hp=>(hNeed 0 W hp).var) I<|Aa I<|wV 6 ((l.length:Int)-1-(0:Nat)) I (by show w64 ((l.length:Int)-1)=_;rw[Ar (by omega) (by omega)];omega)<|wP I<|xa<|zH<|Di (X:=Nat) (fun k=>[(0, .func (.yield y) #[] #[]),(1, .pointer (some ⟨b,0,none⟩)),(3, .int .i64 ((l.length:Int)-1-(k:Nat)))]) J (fun k=>k<=l.length) (fun k=>l.length-k) 0 (Nat.zero_le _) ⟨I,I,I,tO⟩ (fun W h=>h) ?_
 intro k hk
 refine xd<|Aa I<|xa<|Ag I (fun hc=> ?_) (fun hc=> ?_)
 ·have hk':k<l.length:=by simp at hc;omega
  clear hc
  have hi:l.length-1-k<l.length:=by omega
  have e1:(l.length:Int)-1-(k:Nat)=((l.length-1-k:Nat):Int):=by omega
  obtain⟨b2,off,rfl,hrow⟩: ∃b2 off,p=some ⟨b2,off,none⟩/\ ∀W,J k W->Aj W b2 (off+(l.length-1-k)*1) [.int .i64 (lim l (l.length-1-k):Nat)]:=by
   obtain⟨b2,off,e,_⟩:=(hNeed 0 W hJ).ints.row hi
   refine⟨b2,off,e,fun W hW=> ?_⟩
   obtain⟨b3,off3,e',h⟩:=(hNeed k W hW).ints.row hi
   rw[e] at e'
   cases e'
   exact h _ hi
  refine xh<|Aa I<|wV 12 ((l.length-1-k:Nat):Int) I e1<|wL 0 I I (fun W hp=>(hNeed k W hp).var) I<|wP I<|wV 14 ((l.length-1-k:Nat):Int) I e1<|wJ ?_
  refine wL 0 I I (fun W hp=>hrow W hp) I<|E7 (A1:=J (k+1)) (A2:=Jx) I I I I I I (fun W hp=>hY k W hk' hp) ?_ ?_
  ·exact wP I<|xa<|zS I<|zI<|xi<|Ad I<|zC<|Dh (k+1) hk' (by omega) ⟨I,I,congrArg (fun z=>some (Value.int .i64 z)) (by show w64 ((l.length:Int)-1-(k:Nat)-1)=_;rw[Ar (by omega) (by omega)];omega),tO⟩ (fun W h=>h)
  ·exact wP I<|xa<|zR I<|zO<|xj<|Cp I (fun W h=>h)
 ·have hk':k=l.length:=by simp at hc;omega
  subst hk'
  exact xg<|FK I fun W h=>h
def sg (mi:Bool) (m:Nat):Int:=if mi then -(m:Int) else m
def sgn (mi:Bool):List UInt8:=if mi then[45] else[]
theorem IX (m:Nat):itoa (m:Int)=decDigits m:=by
 unfold itoa
 rw[if_neg (by omega)];rfl
theorem aL {mi:Bool} {m:Nat} (hm:m≠0):itoa (sg mi m)=sgn mi++decDigits m:=by
 cases mi with
 |false=>exact IX m
 |true=>
  unfold itoa sg
  rw[if_pos rfl,if_pos (by omega)]
  show 45::decDigits (-(m:Int)).natAbs=_
  rw[Int.natAbs_neg,Int.natAbs_natCast];rfl
theorem KU (mi:Bool):sg mi 0=0:=by cases mi<;>rfl
theorem Mz (c:UInt8): ∀n,repeatL [c] n=List.replicate n c
 |0=>rfl
 |n+1=>by
  have:=Mz c n
  simp_all [repeatL,List.replicate_succ]
theorem Rz (n:Nat) (hn:n<=1000000):Be Tryz.prog 267 [str [48], .int .i64 (n:Nat)] (str (List.replicate n 48)):=by
 intro W
 refine Ae.of1 ((Tryz.strings_Repeat ⟨#[48]⟩ n W (by omega) (by show 1*n<=_;omega)).mono ?_)
 rintro e w' ⟨rfl,hb⟩
 refine⟨?_,hb⟩
 show Ending.returned (str (repeatL [48] n))=_
 rw[Mz]
theorem OF {m:Nat} (hm:m≠0):0<(lbs bs m).length:=by
 rcases Nat.eq_zero_or_pos (lbs bs m).length with h|h
 ·exact absurd ((DG bs2).1 (List.length_eq_zero_iff.1 h)) hm
 ·exact h
def wrt (mi:Bool) (m K k:Nat):List UInt8:=if k=0 then sgn mi else sgn mi++decDigits (m/bs^(K-k))
theorem ZI {mi:Bool} {m K:Nat} (hK:(lbs bs m).length=K) (hm:m≠0):wrt mi m K 0++decDigits (lim (lbs bs m) (K-1))=wrt mi m K 1:=by
 have h1:=AJ bs2 m
 have h0:=OF hm
 rw[hK] at h1 h0
 have h2:m/bs^(K-1)<bs:=Nat.div_lt_of_lt_mul (by rw[<-Nat.pow_succ,show(K-1).succ=K by omega];exact h1)
 show sgn mi++_=sgn mi++_
 rw[Bo bs2,Nat.mod_eq_of_lt h2]
theorem XA {mi:Bool} {m K k:Nat} (hK:(lbs bs m).length=K) (hm:m≠0) (h0:0<k) (hk:k<K):(wrt mi m K k++List.replicate (9-(decDigits (lim (lbs bs m) (K-1-k))).length) 48)++decDigits (lim (lbs bs m) (K-1-k))=wrt mi m K (k+1):=by
 have h1:=RJ bs2 hm
 rw[hK] at h1
 unfold wrt
 rw[if_neg (by omega),if_neg (by omega),List.append_assoc,List.append_assoc]
 congr 1
 have hq:m/bs^(K-k)≠0:=by
  have h2:bs^(K-k)<=bs^(K-1):=Nat.pow_le_pow_right (by decide) (by omega)
  have h3:0<bs^(K-k):=Nat.pow_pos (by decide)
  have:=Nat.div_pos (Nat.le_trans h2 h1) h3
  omega
 have h9:bs=10^9:=by decide
 have hl:=Bk bs2 (Br bs2 m) (K-1-k)
 have:=S8 _ hq 9 (lim (lbs bs m) (K-1-k)) (by omega) (by rw[<-h9];exact hl)
 unfold pad at this
 rw[<-this, <-h9,Bo bs2]
 have h4:m/bs^(K-k)=m/bs^(K-1-k)/bs:=by
  rw[Nat.div_div_eq_div_mul, <-Nat.pow_succ,show(K-1-k).succ=K-k by omega]
 rw[h4,show K-(k+1)=K-1-k by omega]
 congr 1
 have:=Nat.mod_add_div (m/bs^(K-1-k)) bs
 omega
theorem ZS {mi:Bool} {m K k:Nat} (hK:(lbs bs m).length=K) (hK2:K<=10000):(wrt mi m K k).length<=100000:=by
 have hs:(sgn mi).length<=1:=by cases mi<;>decide
 unfold wrt
 split
 ·omega
 ·have h1:=AJ bs2 m
  rw[hK] at h1
  have h9:bs^K=10^(9*K):=by rw[show bs=10^9 by decide, <-Nat.pow_mul]
  rw[h9] at h1
  have h2:m/bs^(K-k)<10^(9*K+1):=Nat.lt_of_le_of_lt (Nat.div_le_self ..) (Nat.lt_of_lt_of_le h1 (Nat.pow_le_pow_right (by decide) (by omega)))
  have:=Cy (9*K+1) _ (by omega) h2
  rw[List.length_append];omega
theorem Tb (W:World) (p:Option Addr) (cap:Nat) (mi:Bool) (m:Nat) (hA:A6 W p (lbs bs m)) (hK2:(lbs bs m).length<=10000) (ht:A9 W):
  Ae Tryz.prog 192 #[.agg #[.bool mi,slv p (lbs bs m).length cap]] W (fun _:Unit=>str (itoa (sg mi m))) (fun _=>True) (fun _=>[]):=by
 obtain⟨K,hK⟩: ∃K,(lbs bs m).length=K:=⟨_,rfl⟩
 rw[hK] at hK2
 refine Ab Tryz.func192 I I I<|xb<|wF I I fun _=>wP I<|zC<|?_
 rename_i b1
 refine zE<|xd<|wP I<|wB 0 I I I<|Aa I<|xa<|?_
 by_cases hm:m=0
 ·have h0:(lbs bs m).length=0:=by rw[hm,Bg];rfl
  refine Bh 10 (.bool true) I (congrArg Value.bool (by rw[h0];rfl)) ?_
  exact zR I<|xb<|wP I<|xo<|wR1 I I (by rw[hm,KU,CC])
 ·have h0:=OF hm
  refine Bh 10 (.bool false) I (congrArg Value.bool (by rw[beq_eq_false_iff_ne];omega)) ?_
  refine zS I<|xm<|wG I I fun _=>zC<|?_
  rename_i b3
  refine zE<|xd<|NB ?_
  refine wP I<|wB 0 I I I<|xa<|AA (X:=BS) (fun _=>[(1,Ai b1),(3,Ai b3)]) (fun x=>[⟨b1,174,[.bool mi,slv p (lbs bs m).length cap],true,none⟩,x.b1 b3,x.b2]) (fun x=>x.OK b3 (sgn mi)) ?_ ?_
  ·refine Ag I (fun hc=> ?_) (fun hc=> ?_)
   ·refine zB<|ZA (x:=BS.zero) (l:=[]) 1 2 45 I I I I (BS.OK.zero b3) (by decide) I I I I I I ?_
    intro x' hx'
    exact zC<|Ao x' (by rw[hc];exact hx') ⟨I,I,tO⟩ [] I
   ·exact zI<|Ao BS.zero (by rw[hc];exact BS.OK.zero b3) ⟨I,I,tO⟩ [] I
  ·intro x0 hx0
   refine xd<|wP I<|wB 0 I I I<|wD (X:=Nat) I I (fun W _=>E4 p (lbs bs m).length cap W) ?_
   intro b16 _
   refine xa<|zH<|?_
   refine EQ (X:=BS) (fun x=>[⟨b1,174,[.bool mi,slv p (lbs bs m).length cap],true,none⟩,x.b1 b3,x.b2,⟨b16,172,[slv p (lbs bs m).length cap],true,none⟩])
    (fun k x=>x.OK b3 (wrt mi m K k)) (fun _ _=>False) x0 rfl (by kernel_rfl) (GQ b16 p cap (lbs bs m) (by omega)) (fun _=>rfl) hx0 [] rfl (fun k x W _ hp=>⟨Aj.of_bx hp 3 rfl rfl,hA.hp hp⟩) ?_ ?_ (fun _ _ _ _ _ h=>h.elim)
   ·rintro k x d Lo rec hk hx hrec
    rw[hK] at hk
    have hwl:=ZS (mi:=mi) (k:=k) hK hK2
    obtain⟨v,hv⟩: ∃v,lim (lbs bs m) (K-1-k)=v:=⟨_,rfl⟩
    have hvb:v<bs:=by rw[<-hv];exact Bk bs2 (Br bs2 m) _
    have hvb':v<1000000000:=hvb
    have hvl:(decDigits v).length<=9:=Cy 9 v (by omega) hvb
    refine xb<|wP I<|xa<|zB<|wP I<|zC<|BU 5 hrec I ?_
    refine Bh 5 (.int .i64 (v:Nat)) I (by rw[hK,hv]) ?_
    refine Bh 4 (.int .i64 ((K-1-k:Nat):Int)) I (by rw[hK]) ?_
    refine zH<|xb<|wP I<|wC I I (fun W hp=>(Bt (v:Nat) (by omega) (by omega) W (ht.hp hp)).cast (by rw[IX]))<|wP I<|xk<|Aa I<|wB 0 I I I<|wP I<|Ap 24 (.int .i64 (K:Nat)) I (congrArg (fun n:Nat=>Value.int .i64 (n:Int)) hK)<|wP I<|wV 25 ((K-1:Nat):Int) I (by show w64 ((K:Int)-1)=_;rw[Ar (by omega) (by omega)];omega)<|wP I<|xa<|?_
    by_cases hk0:k=0
    ·subst hk0
     refine Bh 26 (.bool false) I (congrArg Value.bool (by rw[decide_eq_false_iff_not];omega)) ?_
     refine zS I<|xe<|zB<|wP I<|QQ (x:=x) (l:=wrt mi m K 0) 1 2 (decDigits v) I I I I hx (by omega) I I I I I I ?_
     intro x' hx'
     have e:=ZI (mi:=mi) hK hm
     rw[show K-1-0=K-1 by omega] at hv
     rw[hv] at e
     rw[e] at hx'
     exact zC<|zN<|By 5 x' hrec I hx' [] I
    ·refine Bh 26 (.bool true) I (congrArg Value.bool (by rw[decide_eq_true_iff];omega)) ?_
     refine zR I<|zB<|Aa I<|wV 28 ((decDigits v).length:Nat) I (congrArg (fun n:Nat=>(n:Int)) (A5 _))<|wP I<|wV 29 ((9-(decDigits v).length:Nat):Int) I (by show w64 (9-((decDigits v).length:Int))=_;rw[Ar (by omega) (by omega)];omega)<|wC I I (fun W _=>Rz (9-(decDigits v).length) (by omega) W)<|?_
     refine QQ (x:=x) (l:=wrt mi m K k) 1 2 (List.replicate (9-(decDigits v).length) 48) I I I I hx (by rw[List.length_replicate];omega) I I I I I I ?_
     intro x1 hx1
     refine xa<|zB<|wP I<|?_
     refine QQ (x:=x1) (l:=wrt mi m K k++List.replicate (9-(decDigits v).length) 48) 1 2 (decDigits v) I I I I hx1 (by rw[List.length_append,List.length_replicate];omega) I I I I I I ?_
     intro x' hx'
     have e:=XA (mi:=mi) hK hm (by omega) hk
     rw[hv] at e
     rw[e] at hx'
     exact zC<|zN<|By 5 x' hrec I hx' [] I
   ·rintro x d Lo rec hx
    rw[hK] at hx
    have e:wrt mi m K K=itoa (sg mi m):=by
     unfold wrt
     rw[if_neg (by omega),Nat.sub_self,Nat.pow_zero,Nat.div_one,aL hm]
    rw[e] at hx
    refine zN<|xn<|ZG (x:=x) (l:=itoa (sg mi m)) 1 2 I I I I hx I I I I I I ?_
    intro x' hx'
    refine wP I<|xc<|Co 4 I ?_
    exact wR1 I I I
def mxd:Nat:=300
def Bw:Nat:=10^mxd
theorem Ih {m:Nat}:(decDigits m).length<=300↔m<Bw:=by
 constructor
 ·intro h
  exact Nat.lt_of_lt_of_le (Fq m) (Nat.pow_le_pow_right (by decide) (show(decDigits m).length<=mxd from h))
 ·intro h
  exact(Cy mxd m (by decide) h:(decDigits m).length<=mxd)
theorem Ur (mi:Bool) (m:Nat):(sg mi m).natAbs=m:=by
 cases mi with
 |false=>rfl
 |true=>show(-(m:Int)).natAbs=m;rw[Int.natAbs_neg,Int.natAbs_natCast]
def Mi (z:Int):Value:=if z.natAbs<Bw then .tuple #[str (itoa z), .int .i64 0] else .tuple #[str [], .int .i64 4]
theorem CF (W:World) (p:Option Addr) (cap:Nat) (mi:Bool) (m:Nat) (hA:A6 W p (lbs bs m)) (hK2:(lbs bs m).length<=10000) (ht:A9 W):
  Ae Tryz.prog 131 #[.agg #[.bool mi,slv p (lbs bs m).length cap]] W (fun _:Unit=>Mi (sg mi m)) (fun _=>True) (fun _=>[]):=by
 refine Ab Tryz.func131 I I I<|xb<|wF I I fun _=>Aa I<|xf<|wB 0 I I I<|wC I I (fun W hp=>Tb W p cap mi m (hA.hp hp) hK2 (ht.hp hp))<|wP I<|xk<|wP I<|wC I I (fun W _=>BH (itoa (sg mi m)) [45] W)<|Ap 8 (str (decDigits m)) I (by rw[Bf,Ur])<|wP I<|wV 9 ((decDigits m).length:Nat) I (congrArg (fun n:Nat=>(n:Int)) (A5 _))<|wP I<|?_
 refine xa<|?_
 by_cases h:m<Bw
 ·have h1:=Ih.2 h
  refine Bh 10 (.bool false) I (congrArg Value.bool (by rw[decide_eq_false_iff_not];omega)) ?_
  exact zS I<|xm<|Ad I<|xc<|wR2 I I (by rw[Mi,if_pos (by rw[Ur];exact h)])
 ·have h1: ¬(decDigits m).length<=300:=fun e=>h (Ih.1 e)
  refine Bh 10 (.bool true) I (congrArg Value.bool (by rw[decide_eq_true_iff];omega)) ?_
  exact zR I<|xb<|Aa I<|xo<|wR2 I I (by rw[Mi,if_neg (by rw[Ur];exact h)])
theorem En {B n i:Nat}:n/B^i=n/B^(i+1)*B+n/B^i%B:=by
 have h1:n/B^(i+1)=n/B^i/B:=by rw[Nat.pow_succ,Nat.div_div_eq_div_mul]
 rw[h1]
 have:=Nat.mod_add_div (n/B^i) B
 rw[Nat.mul_comm];omega
theorem Qo {a b m:Nat} (h:a/m<b/m):a<b:=by
 rcases Nat.lt_or_ge a b with h1|h1
 ·exact h1
 ·exact absurd (Nat.div_le_div_right (c:=m) h1) (by omega)
theorem M6 {a b:Nat} (h:(lbs bs a).length<(lbs bs b).length):a<b:=by
 rcases Nat.lt_or_ge a b with h1|h1
 ·exact h1
 ·have:=(BZ bs2 (n:=b)).2 (Nat.lt_of_le_of_lt h1 (AJ bs2 a))
  omega
def Ys (a b:Nat) (c:Int):Prop:=(c<0↔a<b)/\(c=0↔a=b)
theorem Yu {a b i:Nat} (h:a/bs^(i+1)=b/bs^(i+1)) (hne:lim (lbs bs a) i≠lim (lbs bs b) i):Ys a b ((lim (lbs bs a) i:Int)-lim (lbs bs b) i):=by
 rw[Bo bs2,Bo bs2] at hne⊢
 have e1:=En (B:=bs) (n:=a) (i:=i)
 have e2:=En (B:=bs) (n:=b) (i:=i)
 rw[h] at e1
 rcases Nat.lt_or_ge (a/bs^i%bs) (b/bs^i%bs) with h1|h1
 ·have h2:a<b:=Qo (m:=bs^i) (by omega)
  exact⟨⟨fun _=>h2,fun _=>by omega⟩,⟨fun _=>by omega,fun _=>by omega⟩⟩
 ·have h2:b<a:=Qo (m:=bs^i) (by omega)
  exact⟨⟨fun _=>by omega,fun _=>by omega⟩,⟨fun _=>by omega,fun _=>by omega⟩⟩
theorem JM (W:World) (p q:Option Addr) (cap cap2 a b:Nat) (hA:A6 W p (lbs bs a)) (hB:A6 W q (lbs bs b)) (hna:(lbs bs a).length<=1000000) (hnb:(lbs bs b).length<=1000000):
  Ae Tryz.prog 193 #[slv p (lbs bs a).length cap,slv q (lbs bs b).length cap2] W (fun c:Int=> .int .i64 c) (Ys a b) (fun _=>[]):=by
 refine Ab Tryz.func193 I I I<|xb<|wF I I fun _=>wG I I fun _=>zC<|?_
 rename_i b3 b4
 refine zE<|xd<|Aa I<|wB 0 I I I<|Aa I<|xa<|?_
 by_cases hlen:(lbs bs a).length=(lbs bs b).length
 ·refine Bh 11 (.bool false) I (congrArg Value.bool (by rw[bne_eq_false_iff_eq];omega)) ?_
  refine zS I<|xe<|xd<|wP I<|wD (X:=Nat) I I (fun W _=>E4 p (lbs bs a).length cap W) ?_
  intro b18 _
  refine xa<|zH<|?_
  obtain⟨K,hK⟩: ∃K,(lbs bs a).length=K:=⟨_,rfl⟩
  have hKb:(lbs bs b).length=K:=by omega
  refine EQ (X:=Int) (fun x=>[⟨b3,172,[slv q (lbs bs b).length cap2],true,none⟩,⟨b4,3,[.int .i64 x],true,none⟩,⟨b18,172,[slv p (lbs bs a).length cap],true,none⟩])
   (fun k _=>a/bs^(K-k)=b/bs^(K-k)) (fun c x=>c= .ret/\Ys a b x) 0 rfl (by kernel_rfl) (GQ b18 p cap (lbs bs a) (by omega)) (fun _=>rfl)
   (by have h1:=AJ bs2 a;have h2:=AJ bs2 b;rw[hK] at h1;rw[hKb] at h2;rw[Nat.sub_zero,Nat.div_eq_of_lt h1,Nat.div_eq_of_lt h2]) [] rfl (fun k x W _ hp=>⟨Aj.of_bx hp 2 rfl rfl,hA.hp hp⟩) ?_ ?_ ?_
  ·rintro k x d Lo rec hk hx hrec
   rw[hK] at hk
   have hi:K-1-k<(lbs bs b).length:=by omega
   have hup:a/bs^(K-1-k+1)=b/bs^(K-1-k+1):=by rw[show K-1-k+1=K-k by omega];exact hx
   obtain⟨qb,qo,rfl,hrow⟩:=hB.row hi
   refine xb<|wP I<|xa<|zB<|wP I<|zC<|BU 4 hrec I ?_
   refine Bh 5 (.int .i64 ((K-1-k:Nat):Int)) I (by rw[hK]) ?_
   refine Bh 6 (.int .i64 (lim (lbs bs a) (K-1-k):Nat)) I (by rw[hK]) ?_
   refine zH<|xb<|wP I<|wB 0 I I I<|wP I<|wJ ?_
   refine wL 0 I I (fun W' hp=>(hrow (K-1-k) hi).hp hp) I<|wP I<|xa<|?_
   by_cases hne:lim (lbs bs a) (K-1-k)=lim (lbs bs b) (K-1-k)
   ·refine Bh 26 (.bool false) I (congrArg Value.bool (by rw[bne_eq_false_iff_eq,hne])) ?_
    refine zS I<|zI<|zN<|By 4 x hrec I ?_ [] I
    show a/bs^(K-(k+1))=b/bs^(K-(k+1))
    rw[Bo bs2,Bo bs2] at hne
    rw[show K-(k+1)=K-1-k by omega,En (n:=a),En (n:=b),hup,hne]
   ·refine Bh 26 (.bool true) I (congrArg Value.bool (by rw[bne_iff_ne];omega)) ?_
    refine zR I<|xb<|wP I<|wB 0 I I I<|wP I<|wJ ?_
    refine wL 0 I I (fun W' hp=>(hrow (K-1-k) hi).hp hp) I ?_
    have h1:=Bk bs2 (Br bs2 a) (K-1-k)
    have h2:=Bk bs2 (Br bs2 b) (K-1-k)
    have h1':lim (lbs bs a) (K-1-k)<1000000000:=h1
    have h2':lim (lbs bs b) (K-1-k)<1000000000:=h2
    exact wP I<|wV 32 ((lim (lbs bs a) (K-1-k):Int)-lim (lbs bs b) (K-1-k)) I (Ar (by omega) (by omega))<|wS 1 I I I<|xc<|zQ<|DF 4 ((lim (lbs bs a) (K-1-k):Int)-lim (lbs bs b) (K-1-k)) hrec I ⟨I,Yu hup hne⟩ [] I
  ·rintro x d Lo rec hx
   rw[hK,Nat.sub_self,Nat.pow_zero,Nat.div_one,Nat.div_one] at hx
   refine zN<|xn<|wS 1 I I I<|xc<|Co 3 I ?_
   exact A3 tH I (.cell 1 I I I I I) (0:Int) I ⟨⟨fun h=>by omega,fun h=>by omega⟩,⟨fun _=>hx,fun _=>rfl⟩⟩ fun W _=>Au.nil _ _
  ·rintro x d Lo rec c ⟨rfl,hx⟩
   refine zO<|zQ<|zP<|Co 3 I ?_
   exact A3 tH I (.cell 1 I I I I I) x I hx fun W _=>Au.nil _ _
 ·refine Bh 11 (.bool true) I (congrArg Value.bool (by rw[bne_iff_ne];omega)) ?_
  refine zR I<|xb<|Aa I<|wB 0 I I I<|Aa I<|wV 16 (((lbs bs a).length:Int)-(lbs bs b).length) I (Ar (by omega) (by omega))<|wS 1 I I I<|xo<|A3 tH I (.cell 1 I I I I I) (((lbs bs a).length:Int)-(lbs bs b).length) I ?_ fun W _=>Au.nil _ _
  rcases Nat.lt_or_ge (lbs bs a).length (lbs bs b).length with h|h
  ·have:=M6 h
   exact⟨⟨fun _=>this,fun _=>by omega⟩,⟨fun _=>by omega,fun _=>by omega⟩⟩
  ·have:=M6 (a:=b) (b:=a) (by omega)
   exact⟨⟨fun _=>by omega,fun _=>by omega⟩,⟨fun _=>by omega,fun _=>by omega⟩⟩
theorem YG (r:Nat):lv bs [r]=r:=by show r+bs*0=r;rw[Nat.mul_zero,Nat.add_zero]
theorem GG (W:World) (p:Option Addr) (cap a dv:Nat) (hA:A6 W p (lbs bs a)) (hna:(lbs bs a).length<=1000000) (hd0:0<dv) (hd1:dv<bs):
  Ae Tryz.prog 257 #[slv p (lbs bs a).length cap, .int .i64 (dv:Nat)] W (fun x:NV×NV=> .tuple #[B8 x.1 (lbs bs (a/dv)).length,B8 x.2 (lbs bs (a%dv)).length]) (fun x=>C0 x.1 (lbs bs (a/dv))/\C0 x.2 (lbs bs (a%dv))) (fun x=>[BM x.1 (lbs bs (a/dv)),BM x.2 (lbs bs (a%dv))]):=by
 obtain⟨K,hK⟩: ∃K,(lbs bs a).length=K:=⟨_,rfl⟩
 have hd1':dv<1000000000:=hd1
 have hal:=AJ bs2 a
 rw[hK] at hna hal
 refine Ab Tryz.func257 I I I<|xb<|wF I I fun _=>wG I I fun _=>wP I<|zC<|?_
 rename_i b3 b4
 refine xn<|Aa I<|?_
 refine Cr Tryz.vec172 K I I I I I (congrArg (fun n:Nat=>(n:Int)) hK) (congrArg (fun n:Nat=>(n:Int)) hK) (by simp only[maxLen];omega) (by omega) ?_
 intro g
 have ez:Cf (Value.cells (.int .i64 0)).toList K=nI (List.replicate K 0)++[]:=by rw[List.append_nil];exact Gx K
 rw[ez]
 refine wS 1 I I I<|xf<|wG I I fun _=>wS 3 I I I<|zC<|?_
 rename_i b6
 refine zE<|xd<|wP I<|wD (X:=Nat) I I (fun W _=>E4 p (lbs bs a).length cap W) ?_
 intro b13 _
 refine xa<|zH<|?_
 refine EQ (X:=List Nat×Nat×Nat) (fun x=>[⟨b3,3,[.int .i64 (dv:Nat)],true,none⟩,⟨b4,172,[slv (some ⟨g,0,none⟩) K K],true,none⟩,⟨g,3,nI x.1++[],true,none⟩,⟨b6,3,[.int .i64 (x.2.2:Nat)],true,none⟩,⟨b13,172,[slv p (lbs bs a).length cap],true,none⟩])
  (fun k x=>x.1.length=K/\(∀y∈x.1,y<bs)/\lv bs x.1=bs^(K-k)*x.2.1/\a/bs^(K-k)=x.2.1*dv+x.2.2/\x.2.2<dv) (fun _ _=>False) (List.replicate K 0,0,0) rfl (by kernel_rfl) (GQ b13 p cap (lbs bs a) (by omega)) (fun _=>rfl)
  ⟨List.length_replicate,Is (by decide) K,by rw[Fx];show 0=bs^(K-0)*0;rw[Nat.mul_zero],by show a/bs^(K-0)=0*dv+0;rw[Nat.sub_zero,Nat.div_eq_of_lt hal];omega,hd0⟩ [] rfl (fun k x W _ hp=>⟨Aj.of_bx hp 4 rfl rfl,hA.hp hp⟩) ?_ ?_ (fun _ _ _ _ _ h=>h.elim)
 ·rintro k ⟨l,qh,rs⟩ d Lo rec hk ⟨hl,hlb,hlv,hq,hr⟩ hrec
  have hl:l.length=K:=hl
  have hlv:lv bs l=bs^(K-k)*qh:=hlv
  have hq:a/bs^(K-k)=qh*dv+rs:=hq
  have hr:rs<dv:=hr
  rw[hK] at hk
  have hi:K-1-k<l.length:=by rw[hl];omega
  obtain⟨v,hv⟩: ∃v,lim (lbs bs a) (K-1-k)=v:=⟨_,rfl⟩
  have hvb:v<bs:=by rw[<-hv];exact Bk bs2 (Br bs2 a) _
  have hvb':v<1000000000:=hvb
  have hve:v=a/bs^(K-1-k)%bs:=by rw[<-hv];exact Bo bs2 a _
  obtain⟨n,hn⟩: ∃n,n=v+rs*bs:=⟨_,rfl⟩
  have hrs:rs*1000000000<=999999999*1000000000:=Nat.mul_le_mul_right _ (by omega)
  have hn63:n<2000000000000000000:=by rw[hn];show v+rs*1000000000<_;omega
  have hnq:=Ui (B:=bs) (d:=dv) hvb hr hn
  have hnq':n/dv<1000000000:=hnq
  have hs:=Kn (B:=bs) (d:=dv) (q:=qh) (r:=rs) (i:=K-1-k) (by rw[show K-1-k+1=K-k by omega];exact hq) (n:=n) (by rw[hn,hve])
  have hzero:l[K-1-k]? =some 0:=by
   rw[DM hi,CI bs2 _ hlb,hlv,show K-k=K-1-k+1 by omega,Nat.pow_succ,Nat.mul_assoc,Nat.mul_div_cancel_left _ (Nat.pow_pos (by decide)),Nat.mul_mod_right]
  have hset:=IR (B:=bs) (n/dv) hzero
  rw[Nat.mul_zero,Nat.add_zero,hlv,show K-k=K-1-k+1 by omega,Nat.pow_succ,Nat.mul_assoc, <-Nat.mul_add] at hset
  refine xb<|wP I<|xa<|zB<|wP I<|zC<|BU 6 hrec I ?_
  refine Bh 7 (.int .i64 ((K-1-k:Nat):Int)) I (by rw[hK]) ?_
  refine Bh 8 (.int .i64 (v:Nat)) I (by rw[hK,hv]) ?_
  refine zH<|xb<|wP I<|wB 3 I I I<|Aa I<|wV 19 (n:Nat) I (by show w64 ((v:Int)+w64 ((rs:Int)*((1000000000:Nat):Int)))=_;rw[Cx (by omega),AU (by omega)];exact congrArg (fun n:Nat=>(n:Int)) hn.symm)<|wP I<|xa<|?_
  refine Lz (X:=Unit) (fun _=>[]) (fun _=>[⟨b3,3,[.int .i64 (dv:Nat)],true,none⟩,⟨b4,172,[slv (some ⟨g,0,none⟩) K K],true,none⟩,⟨g,3,nI (l.set (K-1-k) (n/dv))++[],true,none⟩,⟨b6,3,[.int .i64 ((n%dv:Nat):Int)],true,none⟩,⟨b13,172,[slv p (lbs bs a).length cap],true,none⟩,BL d,Bp Lo rec .busy none])
   2 [⟨b3,3,[.int .i64 (dv:Nat)],true,none⟩,⟨b4,172,[slv (some ⟨g,0,none⟩) K K],true,none⟩,Gf,Gf,⟨b13,172,[slv p (lbs bs a).length cap],true,none⟩,BL d,Bp Lo rec .busy none] Tryz.mixed (by kernel_rfl) ?_ ?_
  ·refine qB 1 I I I<|Ay I<|qB 0 I I I<|Kr I I I I I (by omega) ?_
   refine qV 24 ((n/dv:Nat):Int) I (by rw[DR];exact BN (by omega))<|qP I<|qB 0 I I I<|DO I I I I I (by omega) ?_
   refine qJ ?_
   refine BR<|wX<|wZ<|?_
   refine AG 2 (nI (l.set (K-1-k) (n/dv))++[]) tH I I I I I I I I I I (by show 0+(K-1-k)*1+1<=(nI l++[]).length;rw[List.append_nil,BJ];omega) (CH hi _) ?_
   refine zC<|Ah<|wX<|wZ<|wS 3 I I I<|zC<|Ah<|?_
   refine AF I (by((repeat (first|refine AK.same ?_|refine AK.off I ?_));exact tO)) ?_
   exact A7 () tO [0,1,2,3,4,5,6] (by decide) I
  intro _
  refine zN ?_
  refine By 6 (l.set (K-1-k) (n/dv),bs*qh+n/dv,n%dv) hrec I ⟨by rw[List.length_set];exact hl,Dd hlb hnq, ?_, ?_,Nat.mod_lt _ hd0⟩ [] I
  ·show lv bs _=bs^(K-(k+1))*_
   rw[hset,show K-(k+1)=K-1-k by omega]
  ·show a/bs^(K-(k+1))=(bs*qh+n/dv)*dv+n%dv
   rw[show K-(k+1)=K-1-k by omega,hs,Nat.mul_comm qh]
 ·rintro⟨l,qh,rs⟩ d Lo rec ⟨hl,hlb,hlv,hq,hr⟩
  have hl:l.length=K:=hl
  have hr:rs<dv:=hr
  have hlv:lv bs l=bs^(K-(lbs bs a).length)*qh:=hlv
  have hq:a/bs^(K-(lbs bs a).length)=qh*dv+rs:=hq
  rw[hK,Nat.sub_self,Nat.pow_zero] at hlv hq
  rw[Nat.one_mul] at hlv
  rw[Nat.div_one] at hq
  have e1:a/dv=qh:=by rw[hq,Nat.mul_comm,Nat.mul_add_div hd0,Nat.div_eq_of_lt hr,Nat.add_zero]
  have e2:a%dv=rs:=by rw[hq,Nat.mul_comm,Nat.mul_add_mod,Nat.mod_eq_of_lt hr]
  have hV0:(⟨some g,K,[]⟩:Vec).OK 1 l.length (nI l):=⟨Fg _,(fun h=>by cases h),fun _=>⟨by show _<=K;omega,by show K<=maxLen;simp only[maxLen];omega,by show(nI l).length+0=K*1;rw[BJ];omega⟩⟩
  obtain⟨j',hV2,he⟩:=Hg hV0 hlb
  have hrb: ∀y∈[rs],y<bs:=fun y hy=>by obtain rfl:=List.mem_singleton.1 hy;exact Nat.lt_trans hr hd1
  refine zN<|zE<|zA<|?_
  refine Lz (X:=Nat) (fun bR=>[(4,Ai b4),(5,slv (some ⟨bR,0,none⟩) (lbs bs (lv bs [rs])).length 1)]) (fun bR=>[⟨b3,3,[.int .i64 (dv:Nat)],true,none⟩,⟨b4,172,[slv (some ⟨g,0,none⟩) (lbs bs (lv bs l)).length K],true,none⟩,⟨g,3,nI l++[],true,none⟩,⟨b6,3,[.int .i64 (rs:Nat)],true,none⟩,⟨b13,172,[slv p (lbs bs a).length cap],true,none⟩,BL d,Bp Lo rec .exhausted none,⟨bR,3,nI [rs]++[],true,none⟩])
   4 [⟨b3,3,[.int .i64 (dv:Nat)],true,none⟩,⟨b4,172,[slv (some ⟨g,0,none⟩) K K],true,none⟩,⟨g,3,nI l++[],true,none⟩,⟨b6,3,[.int .i64 (rs:Nat)],true,none⟩,⟨b13,172,[slv p (lbs bs a).length cap],true,none⟩,BL d,Bp Lo rec .exhausted none] Tryz.mixed (by kernel_rfl) ?_ ?_
  ·refine qB 1 I I I<|Fa 29 (slv (some ⟨g,0,none⟩) l.length K) I (by rw[hl])<|qC I I (fun W hp=>D3 W _ K _ (A6.of_bx hp 2 I) hlb (by omega) (by omega))<|qB 3 I I I<|BR<|wX<|wZ<|As Tryz.hZ tH I I I I I I I I I I I fun bR=> ?_
   refine zC<|Ah<|wX<|wZ<|wC I I (fun W hp=>D3 W _ 1 [rs] (A6.of_bx (junk:=[]) hp 7 I) hrb (Nat.le_refl _) (by show 1<_;omega))<|zC<|Ah<|wX<|wZ<|wS 1 I I I<|zC<|Ah<|wY<|wZ<|wP I<|zC<|Ah<|AR I (by kernel_rfl) ?_
   exact A7 bR ⟨I,I,tO⟩ [0,1,2,3,4,5,6,7] (by decide) I
  intro bR
  have hR0:(⟨some bR,1,[]⟩:Vec).OK 1 [rs].length (nI [rs]):=⟨rfl,(fun h=>by cases h),fun _=>⟨Nat.le_refl _,(show 1<=maxLen by decide),rfl⟩⟩
  obtain⟨j2,hR2,he2⟩:=Hg hR0 hrb
  refine zE<|zO<|?_
  rw[hlv] at hV2 he
  rw[YG] at hR2 he2
  rw[<-e1] at hV2 he
  have he2':nI [rs]++[]=nI (lbs bs (a%dv))++j2:=by rw[e2];exact he2
  rw[<-e2] at hR2
  refine Co 5 I ?_
  refine A4 tH I (.cell 1 I I I I I) (.tmp I) (((g,K,j'),(bR,1,j2)):NV×NV) (by rw[hlv,YG, <-e1, <-e2]) ⟨hV2,hR2⟩ fun W hp=> ?_
  refine(hp.pick (l:=[⟨g,3,nI l++[],true,none⟩,⟨bR,3,nI [rs]++[],true,none⟩]) [2,7] (by decide) I).own.sub id ?_ (fun _ _ _ _ _ _ h=>h)
  intro k B hk _
  rw[he,he2']
  exact hk
theorem Z2 {U B j n:Nat} (hn:2<=n) (h:U<B^(j+n+1)):U/B^(j+n)%B*B+U/B^(j+n-1)%B=U/B^(j+n-1)/\U/B^(j+n-2)=U/B^(j+n-1)*B+U/B^(j+n-2)%B:=by
 have e1:=En (B:=B) (n:=U) (i:=j+n-1)
 have e2:=En (B:=B) (n:=U) (i:=j+n-2)
 rw[show j+n-1+1=j+n by omega] at e1
 rw[show j+n-2+1=j+n-1 by omega] at e2
 have h3:U/B^(j+n)<B:=Nat.div_lt_of_lt_mul (by rw[<-Nat.pow_succ];exact h)
 rw[Nat.mod_eq_of_lt h3]
 exact⟨e1.symm,e2⟩
theorem YL {U V B j n q r v1 v2:Nat} (hn:2<=n) (hB:2<=B) (hv1:v1=V/B^(n-1)) (hv2:v2=V/B^(n-2)%B) (htop:U/B^(j+n-1)=q*v1+r)
  (hc:q*v2>r*B+U/B^(j+n-2)%B):U/B^j/V<q:=by
 have e2:=En (B:=B) (n:=U) (i:=j+n-2)
 rw[show j+n-2+1=j+n-1 by omega,htop] at e2
 have e3:=En (B:=B) (n:=V) (i:=n-2)
 rw[show n-2+1=n-1 by omega, <-hv1, <-hv2] at e3
 have hm:0<B^(n-2):=Nat.pow_pos (by omega)
 have hV:(v1*B+v2)*B^(n-2)<=V:=by rw[<-e3];exact Nat.div_mul_le_self ..
 refine Uj (V9 (m:=B^(n-2)) hV hm (top:=U/B^(j+n-2)) ?_ ?_)
 ·rw[Nat.div_div_eq_div_mul, <-Nat.pow_add,show j+(n-2)=j+n-2 by omega]
 ·rw[e2,Nat.mul_add,Nat.add_mul,Nat.mul_assoc]
  omega
theorem Xr {U V B j n v1:Nat} (hn:2<=n) (hB:2<=B) (hv1:v1=V/B^(n-1)) (h1:0<v1):U/B^j/V<=U/B^(j+n-1)/v1:=by
 rcases Nat.lt_or_ge (U/B^(j+n-1)/v1) (U/B^j/V) with h|h
 ·exfalso
  have hm:0<B^(n-1):=Nat.pow_pos (by omega)
  have hV:v1*B^(n-1)<=V:=by rw[hv1];exact Nat.div_mul_le_self ..
  have h2:U/B^(j+n-1)<U/B^j/V*v1:=Nat.lt_mul_of_div_lt h h1
  have h3:=Uj (V9 hV hm (top:=U/B^(j+n-1)) (W:=U/B^j) (q:=U/B^j/V) (by rw[Nat.div_div_eq_div_mul, <-Nat.pow_add,show j+(n-1)=j+n-1 by omega]) h2)
  omega
 ·exact h
theorem OX (W:World) (p q:Option Addr) (cap cap2 j:Nat) (u v:List Nat) (hA:A6 W p u) (hB:A6 W q v) (hub: ∀y∈u,y<bs) (hvb: ∀y∈v,y<bs) (hn:2<=v.length) (hju:j+v.length<u.length) (hl:u.length<=1000000)
  (hU:lv bs u<lv bs v*bs^(j+1)) (hv1:499999999<=lv bs v/bs^(v.length-1)):
  Ae Tryz.prog 259 #[slv p u.length cap,slv q v.length cap2, .int .i64 (j:Nat)] W (fun x:Nat=> .int .i64 (x:Nat)) (fun x=>lv bs u/bs^j/lv bs v<=x/\x<=2100000000) (fun _=>[]):=by
 obtain⟨n,hn'⟩: ∃n,v.length=n:=⟨_,rfl⟩
 obtain⟨U,hU'⟩: ∃x,lv bs u=x:=⟨_,rfl⟩
 obtain⟨V,hV'⟩: ∃x,lv bs v=x:=⟨_,rfl⟩
 have hVlt:=Gu bs2 hvb
 rw[hn',hV'] at hVlt
 rw[hn'] at hn hju hv1
 rw[hU',hV'] at hU
 rw[hV'] at hv1
 have hUlt:U<bs^(j+n+1):=by
  have h1:V*bs^(j+1)<=bs^n*bs^(j+1):=Nat.mul_le_mul_right _ (by omega)
  rw[<-Nat.pow_add,show n+(j+1)=j+n+1 by omega] at h1
  omega
 obtain⟨hd1,hd2⟩:=Z2 hn hUlt
 obtain⟨top,htop⟩: ∃t,U/bs^(j+n-1)=t:=⟨_,rfl⟩
 obtain⟨v1,hv1'⟩: ∃t,V/bs^(n-1)=t:=⟨_,rfl⟩
 obtain⟨v2,hv2'⟩: ∃t,V/bs^(n-2)%bs=t:=⟨_,rfl⟩
 obtain⟨u2,hu2'⟩: ∃t,U/bs^(j+n-2)%bs=t:=⟨_,rfl⟩
 obtain⟨u1,hu1'⟩: ∃t,U/bs^(j+n-1)%bs=t:=⟨_,rfl⟩
 obtain⟨u0,hu0'⟩: ∃t,U/bs^(j+n)%bs=t:=⟨_,rfl⟩
 have hu2b:u2<1000000000:=by rw[<-hu2'];exact Nat.mod_lt _ (by decide)
 have hu1b:u1<1000000000:=by rw[<-hu1'];exact Nat.mod_lt _ (by decide)
 have hu0b:u0<1000000000:=by rw[<-hu0'];exact Nat.mod_lt _ (by decide)
 have hv2b:v2<1000000000:=by rw[<-hv2'];exact Nat.mod_lt _ (by decide)
 have hv1b:v1<1000000000:=by rw[<-hv1'];exact Nat.div_lt_of_lt_mul (by rw[<-Nat.pow_succ,show(n-1).succ=n by omega];exact hVlt)
 rw[hv1'] at hv1
 rw[hu0',hu1',htop] at hd1
 have hd1:u0*1000000000+u1=top:=hd1
 have htop18:top<1000000000000000000:=by omega
 have lu: ∀i,i<u.length->lim u i=U/bs^i%bs:=fun i _=>by rw[CI bs2 i hub,hU']
 have lvv: ∀i,lim v i=V/bs^i%bs:=fun i=>by rw[CI bs2 i hvb,hV']
 have lv1:lim v (n-1)=v1:=by
  rw[lvv,hv1',Nat.mod_eq_of_lt hv1b]
 obtain⟨pb,po,rfl,hrow⟩:=hA.row (show j<u.length by omega)
 obtain⟨qb,qo,rfl,hrow2⟩:=hB.row (show 0<v.length by omega)
 have ru0: ∀W' bx,Hp W bx W'->Aj W' pb (po+(j+n)*1) [.int .i64 (u0:Nat)]:=fun W' bx hp=>by have:=(hrow (j+n) (by omega)).hp hp;rwa [lu _ (by omega),hu0'] at this
 have ru1: ∀W' bx,Hp W bx W'->Aj W' pb (po+(j+n-1)*1) [.int .i64 (u1:Nat)]:=fun W' bx hp=>by have:=(hrow (j+n-1) (by omega)).hp hp;rwa [lu _ (by omega),hu1'] at this
 have ru2: ∀W' bx,Hp W bx W'->Aj W' pb (po+(j+n-2)*1) [.int .i64 (u2:Nat)]:=fun W' bx hp=>by have:=(hrow (j+n-2) (by omega)).hp hp;rwa [lu _ (by omega),hu2'] at this
 have rv1: ∀W' bx,Hp W bx W'->Aj W' qb (qo+(n-1)*1) [.int .i64 (v1:Nat)]:=fun W' bx hp=>by have:=(hrow2 (n-1) (by omega)).hp hp;rwa [lv1] at this
 have rv2: ∀W' bx,Hp W bx W'->Aj W' qb (qo+(n-2)*1) [.int .i64 (v2:Nat)]:=fun W' bx hp=>by have:=(hrow2 (n-2) (by omega)).hp hp;rwa [lvv,hv2'] at this
 have hq0:=Xr (U:=U) (V:=V) (B:=bs) (j:=j) hn bs2 hv1'.symm (by omega)
 rw[htop] at hq0
 have hq2:top/v1<=2100000000:=by
  have:top/v1<=top/499999999:=Nat.div_le_div_left hv1 (by decide)
  omega
 have hqB:U/bs^j/V<1000000000:=by
  refine Nat.div_lt_of_lt_mul (Nat.div_lt_of_lt_mul ?_)
  have:bs^j*(V*1000000000)=V*bs^(j+1):=by rw[Nat.pow_succ];show _=V*(bs^j*1000000000);grind
  omega
 refine Ab Tryz.func259 I I I ?_
 rw[hn']
 refine xb<|wP I<|xf<|Ad I<|xl<|zU<|Cd I<|qV 16 ((j+n:Nat):Int) I (AU (by omega))<|qJ ?_
 refine qL 0 I I (fun W' hp=>ru0 W' _ hp) I<|Mc I<|qV 24 ((j+n-1:Nat):Int) I (by show w64 (w64 ((j:Int)+n)-1)=_;rw[AU (by omega),Ar (by omega) (by omega)];omega)<|qJ ?_
 refine qL 0 I I (fun W' hp=>ru1 W' _ hp) I<|qP I<|qV 27 (top:Nat) I (by show w64 (w64 ((u0:Int)*((1000000000:Nat):Int))+u1)=_;rw[Cx (by omega),AU (by omega),hd1])<|qP I<|zD<|xl<|zU<|Cd I<|qV 31 ((n-1:Nat):Int) I (by show w64 ((n:Int)-1)=_;rw[Ar (by omega) (by omega)];omega)<|qJ ?_
 refine qL 0 I I (fun W' hp=>rv1 W' _ hp) I<|Kr I I I I I (by omega) ?_
 refine qV 34 ((top/v1:Nat):Int) I (by rw[DR];exact BN (by omega))<|Cd I<|qV 38 ((n-1:Nat):Int) I (by show w64 ((n:Int)-1)=_;rw[Ar (by omega) (by omega)];omega)<|qJ ?_
 refine qL 0 I I (fun W' hp=>rv1 W' _ hp) I<|DO I I I I I (by omega) ?_
 refine Ay I<|zD<|xa<|GR (X:=Nat) (fun x=>[(9, .int .i64 (x:Nat))]) (fun _=>[]) (fun x=>U/bs^j/V<=x/\x<=2100000000) ?_ ?_
 ·refine ID ?_
  refine Av (X:=Nat×Nat) (fun x=>[(0,slv (some ⟨pb,po,none⟩) u.length cap),(1,slv (some ⟨qb,qo,none⟩) n cap2),(2, .int .i64 (j:Nat)),(7, .int .i64 (n:Nat)),(9, .int .i64 (x.1:Nat)),(10, .int .i64 (x.2:Nat))]) (fun _=>[])
   (fun x=>U/bs^j/V<=x.1/\x.1<=2100000000/\top=x.1*v1+x.2/\x.2<1000000000) (fun x=>x.1) (top/v1,top%v1) ⟨hq0,hq2,by show top=top/v1*v1+top%v1;rw[Nat.mul_comm];exact(Nat.div_add_mod top v1).symm,by have:=Nat.mod_lt top (show v1>0 by omega);show top%v1<_;omega⟩ ⟨rfl,rfl,rfl,rfl,rfl,rfl,trivial⟩ [] rfl ?_
  rintro⟨x,rr⟩ ⟨hx1,hx2,hx3,hx4⟩
  have hx1:U/bs^j/V<=x:=hx1
  have hx2:x<=2100000000:=hx2
  have hx3:top=x*v1+rr:=hx3
  have hx4:rr<1000000000:=hx4
  refine zA<|zA<|zU<|Ay I<|?_
  by_cases hc1:1000000000<=x
  ·refine qU 43 true I (dT (by omega))<|qP I<|?_
   iterate 22 refine Bi I I ?_
   refine qP I<|zD<|xa<|zR I<|xe<|zH<|zA<|zU<|Mc I<|qV 73 ((n-1:Nat):Int) I (by show w64 ((n:Int)-1)=_;rw[Ar (by omega) (by omega)];omega)<|qJ ?_
   refine qL 0 I I (fun W' hp=>rv1 W' _ hp) I<|AY I<|qV 9 ((x-1:Nat):Int) I (by show w64 ((x:Int)-1)=_;rw[Ar (by omega) (by omega)];omega)<|qV 10 ((rr+v1:Nat):Int) I (AU (by omega))<|zD<|xf<|Aa I<|xa<|?_
   have hx5:x*v1=(x-1)*v1+v1:=by rw[<-Nat.succ_mul];congr 1;omega
   refine Ag I (fun hc=> ?_) (fun hc=> ?_)
   ·exact zJ<|zM I<|zK<|zL<|Ao (x-1) ⟨by omega,by omega⟩ ⟨I,tO⟩ [] I
   ·have hc':rr+v1<1000000000:=by
     have h':decide (((rr+v1:Nat):Int)≥1000000000)=false:=hc
     rw[decide_eq_false_iff_not] at h';omega
    exact zI<|zN<|Al (x-1,rr+v1) ⟨by show _<=x-1;omega,by show x-1<=_;omega,by show top=(x-1)*v1+(rr+v1);omega,hc'⟩ (by show x-1<x;omega) ⟨I,I,I,I,I,I,tO⟩ [] I
  ·refine qU 43 false I (dF (by omega)) ?_
   have hxv:x*v2<=999999999*999999999:=Nat.mul_le_mul (by omega) (by omega)
   refine AY I<|qU 46 true I (dT (by omega))<|GM I<|qV 51 ((n-2:Nat):Int) I (by show w64 ((n:Int)-2)=_;rw[Ar (by omega) (by omega)];omega)<|qJ ?_
   refine qL 0 I I (fun W' hp=>rv2 W' _ hp) I ?_
   iterate 8 refine qP I ?_
   refine qV 61 ((j+n-2:Nat):Int) I (by show w64 (w64 ((j:Int)+n)-2)=_;rw[AU (by omega),Ar (by omega) (by omega)];omega)<|qJ ?_
   refine qL 0 I I (fun W' hp=>ru2 W' _ hp) I<|Ay I<|?_
   refine Fa 65 (.bool (decide (x*v2>rr*1000000000+u2))) I (congrArg Value.bool (by
    show decide (w64 ((x:Int)*v2)>w64 (w64 ((rr:Int)*((1000000000:Nat):Int))+u2))=_
    rw[Cx (by omega),Cx (by omega),AU (by omega)]
    exact decide_eq_decide.2 (by omega))) ?_
   refine Ay I<|zD<|xa<|Ag I (fun hc=> ?_) (fun hc=> ?_)
   ·have hc':x*v2>rr*1000000000+u2:=of_decide_eq_true hc
    have hlt:=YL (U:=U) (V:=V) (B:=bs) (j:=j) (q:=x) (r:=rr) hn bs2 hv1'.symm hv2'.symm (by rw[htop,hx3]) (by rw[hu2'];exact hc')
    have hx0:0<x:=Nat.lt_of_le_of_lt (Nat.zero_le _) hlt
    refine xe<|zH<|zA<|zU<|Mc I<|qV 73 ((n-1:Nat):Int) I (by show w64 ((n:Int)-1)=_;rw[Ar (by omega) (by omega)];omega)<|qJ ?_
    refine qL 0 I I (fun W' hp=>rv1 W' _ hp) I<|AY I<|qV 9 ((x-1:Nat):Int) I (by show w64 ((x:Int)-1)=_;rw[Ar (by omega) (by omega)];omega)<|qV 10 ((rr+v1:Nat):Int) I (AU (by omega))<|zD<|xf<|Aa I<|xa<|?_
    have hx5:x*v1=(x-1)*v1+v1:=by rw[<-Nat.succ_mul];congr 1;omega
    refine Ag I (fun hc2=> ?_) (fun hc2=> ?_)
    ·exact zJ<|zM I<|zK<|zL<|Ao (x-1) ⟨by omega,by omega⟩ ⟨I,tO⟩ [] I
    ·have hc':rr+v1<1000000000:=by
      have h':decide (((rr+v1:Nat):Int)≥1000000000)=false:=hc2
      rw[decide_eq_false_iff_not] at h';omega
     exact zI<|zN<|Al (x-1,rr+v1) ⟨by show _<=x-1;omega,by show x-1<=_;omega,by show top=(x-1)*v1+(rr+v1);omega,hc'⟩ (by show x-1<x;omega) ⟨I,I,I,I,I,I,tO⟩ [] I
   ·exact xg<|Ao x ⟨hx1,hx2⟩ ⟨I,tO⟩ [] I
 ·rintro x hx
  refine xb<|Aa I<|xc<|?_
  rw[hU',hV']
  exact A3 tH I (.tmp I) x I hx fun W _=>Au.nil _ _
theorem Ry {W W1:World} {g b off:Nat} {c:List Value} {l:List Bx} (h:Aj W b off c) (hne:b≠g) (hp:Hp (Bn W) (Bd (A8 W g)::l) W1):Aj W1 b off c:=by
 have hm:(b,W.heap[b]'h.lt)∈A8 W g:=Ee.2 ⟨hne,Array.getElem?_eq_getElem h.lt⟩
 have h1:=hp.own.cell 0 _ rfl (b,W.heap[b]'h.lt) hm
 have e:W1.heap[b]? =W.heap[b]? :=by rw[h1.1,Array.getElem?_eq_getElem h.lt]
 refine⟨(Array.getElem?_eq_some_iff.1 h1.1).1,fun j u hu=> ?_⟩
 have h2:=h.get j u hu
 unfold World.cell? at h2⊢
 simp only at h2⊢
 rw[e]
 exact h2
theorem A6.others {W W1:World} {g:Nat} {q:Option Addr} {v:List Nat} {l:List Bx} (h:A6 W q v) (hne: ∀b off,q=some ⟨b,off,none⟩->b≠g) (hp:Hp (Bn W) (Bd (A8 W g)::l) W1):A6 W1 q v:=by
 rcases h with h|⟨b,off,h1,h2⟩
 ·exact .inl h
 ·exact .inr ⟨b,off,h1,Ry h2 (hne b off h1) hp⟩
structure Wy (u v:List Nat) (j x:Nat) (y:List Nat×Nat):Prop where
 len:y.1.length=u.length
 lt: ∀z∈y.1,z<bs
 val:lv bs y.1+bs^j*(x*lv bs v)=lv bs u+bs^(j+(v.length+1))*y.2
 drop:y.1.drop (j+(v.length+1))=u.drop (j+(v.length+1))
structure ZP (u v:List Nat) (j x:Nat) (y:List Nat×Nat):Prop where
 len:y.1.length=u.length
 lt: ∀z∈y.1,z<bs
 val:lv bs y.1+bs^(j+(v.length+1))*y.2=lv bs u+bs^j*(x*lv bs v)
 drop:y.1.drop (j+(v.length+1))=u.drop (j+(v.length+1))
theorem WW {u v:List Nat} {j x:Nat} {y z:List Nat×Nat} (hu: ∀a∈u,a<bs) (h1:Wy u v j x y) (h2:ZP y.1 v j x z):z.1=u:=by
 have hv:lv bs z.1+bs^(j+(v.length+1))*z.2=lv bs u+bs^(j+(v.length+1))*y.2:=h2.val.trans h1.val
 have hm:=congrArg (· %bs^(j+(v.length+1))) hv
 simp only[Nat.add_mul_mod_self_left] at hm
 rw[<-RX bs2 h2.lt, <-RX bs2 hu] at hm
 have ht:=fF bs2 (fun a ha=>h2.lt a (List.mem_of_mem_take ha)) (fun a ha=>hu a (List.mem_of_mem_take ha)) (by rw[List.length_take,List.length_take,h2.len,h1.len]) hm
 rw[<-List.take_append_drop (j+(v.length+1)) z.1,ht,h2.drop,h1.drop,List.take_append_drop]
theorem ZW {u v:List Nat} {j x:Nat} {y:List Nat×Nat} (h:Wy u v j x y) (h0:y.2=0):lv bs y.1+bs^j*(x*lv bs v)=lv bs u:=by
 have:=h.val
 rw[h0,Nat.mul_zero] at this
 exact this
theorem Yq {u v:List Nat} {j x:Nat} {y:List Nat×Nat} (hu: ∀a∈u,a<bs) (h:Wy u v j x y) (h0:0<y.2) (hU:lv bs u<bs^(j+(v.length+1))):lv bs u/bs^j/lv bs v<x:=by
 obtain⟨m,hm⟩: ∃m,m=j+(v.length+1):=⟨_,rfl⟩
 have hval:=h.val
 have hdrop:=h.drop
 rw[<-hm] at hval hdrop hU
 have e1:lv bs y.1=lv bs (y.1.take m)+bs^(y.1.take m).length*lv bs (y.1.drop m):=by rw[<-FW,List.take_append_drop]
 have e2:lv bs u=lv bs (u.take m)+bs^(u.take m).length*lv bs (u.drop m):=by rw[<-FW,List.take_append_drop]
 have el:(y.1.take m).length=(u.take m).length:=by rw[List.length_take,List.length_take,h.len]
 rw[hdrop,el] at e1
 have hy:=Gu bs2 (l:=y.1.take m) fun a ha=>h.lt a (List.mem_of_mem_take ha)
 have hlm:bs^(y.1.take m).length<=bs^m:=Nat.pow_le_pow_right (by decide) (by rw[List.length_take];omega)
 have hc:bs^m*1<=bs^m*y.2:=Nat.mul_le_mul_left _ h0
 refine Uj (Nat.div_lt_of_lt_mul ?_)
 obtain⟨A,hA⟩: ∃A,bs^(u.take m).length*lv bs (u.drop m)=A:=⟨_,rfl⟩
 have e3:lv bs (u.take m)=lv bs u:=by rw[RX bs2 hu,Nat.mod_eq_of_lt hU]
 rw[hA] at e1 e2
 omega
theorem UL (W:World) (g cap cap2 j x:Nat) (junk:List Value) (q:Option Addr) (u v:List Nat) (hg:W.heap[g]? =some (.cells (nI u++junk).toArray 3 (0,0))) (hB:A6 W q v) (hne: ∀b off,q=some ⟨b,off,none⟩->b≠g)
  (hub: ∀a∈u,a<bs) (hvb: ∀a∈v,a<bs) (hju:j+v.length<u.length) (hl:u.length<=1000000) (hx:x<=2100000000):
  Calls Tryz.prog 260 #[slv (some ⟨g,0,none⟩) u.length cap,slv q v.length cap2, .int .i64 (j:Nat), .int .i64 (x:Nat)] W fun e W'=> ∃y:List Nat×Nat,e= .returned ((fun y:List Nat×Nat=> .bool (decide ((y.2:Int)>0))) y)/\Wy u v j x y/\Pg W W' g ((fun _=>g) y) ((fun y:List Nat×Nat=> .cells (nI y.1++junk).toArray 3 (0,0)) y):=by
 have key:Calls Tryz.prog 260 [slv (some ⟨g,0,none⟩) u.length cap,slv q v.length cap2, .int .i64 (j:Nat), .int .i64 (x:Nat)].toArray W fun e W'=> ∃y:List Nat×Nat,e= .returned ((fun y:List Nat×Nat=> .bool (decide ((y.2:Int)>0))) y)/\Wy u v j x y/\Below (Bn W).heap.size (Bn W) W'/\Au (Bn W) W' ((fun y:List Nat×Nat=>[Bd (A8 W g),⟨g,3,nI y.1++junk,true,none⟩]) y):=by
  refine CY (X:=List Nat×Nat) (val:=fun y=> .bool (decide ((y.2:Int)>0))) (Φ:=Wy u v j x) (nb:=fun y=>[Bd (A8 W g),⟨g,3,nI y.1++junk,true,none⟩]) (Hp.enterT (B:=⟨g,3,nI u++junk,true,none⟩) I hg) Tryz.func260 I I I ?_
  obtain⟨n,hn⟩: ∃n,v.length=n:=⟨_,rfl⟩
  rw[hn] at hju⊢
  have hVn:lv bs v<bs^(n+1):=by
   have h1:=Gu bs2 hvb
   rw[hn] at h1
   exact Nat.lt_of_lt_of_le h1 (Nat.pow_le_pow_right (by decide) (by omega))
  refine xb<|wP I<|xf<|wP I<|xk<|Ad I<|wV 14 ((n+1:Nat):Int) I (A0 (by omega))<|wP I<|xa<|zH<|?_
  refine Av (X:=Nat×List Nat×Nat) (fun y=>[(0,slv (some ⟨g,0,none⟩) u.length cap),(1,slv q n cap2),(2, .int .i64 (j:Nat)),(3, .int .i64 (x:Nat)),(9, .int .i64 (y.2.2:Nat)),(14, .int .i64 ((n+1:Nat):Int)),(15, .int .i64 (y.1:Nat))]) (fun y=>[Bd (A8 W g),⟨g,3,nI y.2.1++junk,true,none⟩])
   (fun y=>y.1<=n+1/\y.2.1.length=u.length/\(∀a∈y.2.1,a<bs)/\y.2.2<=3000000000/\lv bs y.2.1+bs^j*(x*(lv bs v%bs^y.1))=lv bs u+bs^(j+y.1)*y.2.2/\y.2.1.drop (j+(n+1))=u.drop (j+(n+1))) (fun y=>n+1-y.1) (0,u,0) ⟨Nat.zero_le _,rfl,hub,Nat.zero_le _,by show lv bs u+bs^j*(x*(lv bs v%bs^0))=lv bs u+bs^(j+0)*0;rw[Nat.pow_zero,Nat.mod_one];simp,rfl⟩ ⟨rfl,rfl,rfl,rfl,rfl,rfl,rfl,trivial⟩ [] rfl ?_
  rintro⟨i,l,c⟩ ⟨hi,hll,hlb,hcb,hval,hdr⟩
  have hi:i<=n+1:=hi
  have hll:l.length=u.length:=hll
  have hcb:c<=3000000000:=hcb
  refine xb<|wP I<|xl<|Ag I (fun hc=> ?_) (fun hc=> ?_)
  ·have hi':i<n+1:=by simp at hc;omega
   clear hc
   have hji:j+i<l.length:=by omega
   obtain⟨o,ho⟩: ∃o,lim l (j+i)=o:=⟨_,rfl⟩
   obtain⟨y,hy⟩: ∃y,lim v i=y:=⟨_,rfl⟩
   have hob:o<1000000000:=by rw[<-ho];exact Bk bs2 hlb _
   have hyb:y<1000000000:=by rw[<-hy];exact Bk bs2 hvb _
   have hlo:l[j+i]? =some o:=by rw[DM hji,ho]
   have hyy:y=lv bs v/bs^i%bs:=by rw[<-hy];exact CI bs2 i hvb
   have hxy:x*y<=2100000000*999999999:=Nat.mul_le_mul hx (by omega)
   have exy:(x:Int)*y=((x*y:Nat):Int):=(Int.natCast_mul x y).symm
   obtain⟨xy,hxyv⟩: ∃t,x*y=t:=⟨_,rfl⟩
   rw[hxyv] at hxy exy
   refine xh<|Aa I<|xl<|zU<|Cd I<|qV 21 ((j+i:Nat):Int) I (AU (by omega))<|qJ ?_
   refine qL 0 I I (fun W' hp=>Aj.of_intsX hp 1 I hji ho) I<|GM I<|qC I I (fun W' hp=>Jj W' q cap2 n v i y (hB.others hne hp) hn (by omega) hy)<|Ay I<|qV 31 ((o:Int)-c-xy) I (by show w64 (w64 ((o:Int)-c)-w64 ((x:Int)*y))=_;rw[exy,BN (by omega),Ar (x:=(o:Int)-c) (by omega) (by omega),Ar (by omega) (by omega)])<|qP I<|zD<|xf<|wP I<|xk<|Aa I<|?_
   refine xa<|?_
   refine AA (X:=Nat×Nat) (fun z=>[(0,slv (some ⟨g,0,none⟩) u.length cap),(1,slv q n cap2),(2, .int .i64 (j:Nat)),(3, .int .i64 (x:Nat)),(9, .int .i64 (z.1:Nat)),(10, .int .i64 (i:Nat)),(11, .int .i64 ((o:Int)-c-xy)),(14, .int .i64 ((n+1:Nat):Int)),(15, .int .i64 (i:Nat))]) (fun _=>[Bd (A8 W g),⟨g,3,nI l++junk,true,none⟩])
    (fun z=>z.2<1000000000/\z.2+c+xy=o+1000000000*z.1/\z.1<=3000000000) ?_ ?_
   ·refine Ag I (fun hc=> ?_) (fun hc=> ?_)
    ·have hc':o<c+xy:=by
      have h':decide ((o:Int)-c-xy<0)=true:=hc
      rw[decide_eq_true_iff] at h';omega
     obtain⟨dd,hdd⟩: ∃t,c+xy-o=t:=⟨_,rfl⟩
     refine zB<|At I<|?_
     refine Ap 37 (.int .i64 ((dd+999999999:Nat):Int)) I (congrArg (Value.int .i64) (by
      show w64 (w64 (w64 (0-((o:Int)-c-xy))+1000000000)-1)=_
      rw[Ar (x:=0-((o:Int)-c-xy)) (by omega) (by omega),Ar (x:=0-((o:Int)-c-xy)+1000000000) (by omega) (by omega),Ar (by omega) (by omega)]
      omega)) ?_
     refine Ef I I I I I (by decide) ?_
     exact wV 38 (((dd+999999999)/1000000000:Nat):Int) I (by show w64 (((dd+999999999:Nat):Int).tdiv ((1000000000:Nat):Int))=_;rw[DR];exact BN (by omega))<|wP I<|zC<|Ao ((dd+999999999)/1000000000,(dd+999999999)/1000000000*1000000000-dd) ⟨by show(dd+999999999)/1000000000*1000000000-dd<_;omega,by show(dd+999999999)/1000000000*1000000000-dd+c+xy=o+1000000000*((dd+999999999)/1000000000);omega,by show(dd+999999999)/1000000000<=_;omega⟩ ⟨I,I,I,I,I,I,I,I,I,tO⟩ [] I
    ·have hc':c+xy<=o:=by
      have h':decide ((o:Int)-c-xy<0)=false:=hc
      rw[decide_eq_false_iff_not] at h';omega
     exact zI<|Ao (0,o-c-xy) ⟨by show o-c-xy<_;omega,by show o-c-xy+c+xy=o+1000000000*0;omega,Nat.zero_le _⟩ ⟨I,I,I,I,I,I,I,I,I,tO⟩ [] I
   ·rintro⟨c',nn⟩ ⟨hn1,hn2,hn3⟩
    have hn1:nn<1000000000:=hn1
    have hn2:nn+c+xy=o+1000000000*c':=hn2
    have hn3:c'<=3000000000:=hn3
    have hstep:=Xt (B:=bs) (n:=nn) (c':=c') hlo hval (by rw[<-hyy,hxyv];exact hn2)
    refine zB<|At I<|wV 42 ((j+i:Nat):Int) I (AU (by omega))<|At I<|?_
    refine Ap 46 (.int .i64 (nn:Nat)) I (congrArg (Value.int .i64) (by
     show w64 (((o:Int)-c-xy)+w64 ((c':Int)*((1000000000:Nat):Int)))=_
     rw[Cx (by omega),Ar (by omega) (by omega)]
     omega)) ?_
    refine wJ ?_
    refine AG 1 (nI (l.set (j+i) nn)++junk) tH I I I I I I I I I I (by show 0+(j+i)*1+1<=(nI l++junk).length;rw[List.length_append,BJ];omega) (CH hji nn) ?_
    exact zC<|xi<|Aa I<|zC<|Al (i+1,l.set (j+i) nn,c') ⟨hi',by rw[List.length_set];exact hll,Dd hlb hn1,hn3,hstep,by rw[List.drop_set_of_lt (by omega)];exact hdr⟩ (by show n+1-(i+1)<n+1-i;omega) ⟨I,I,I,I,I,I,congrArg (fun z=>some (Value.int .i64 z)) (A0 (by omega)),tO⟩ [] I
  ·have hi':i=n+1:=by simp at hc;omega
   subst hi'
   have hval:lv bs l+bs^j*(x*(lv bs v%bs^(n+1)))=lv bs u+bs^(j+(n+1))*c:=hval
   rw[Nat.mod_eq_of_lt hVn] at hval
   refine xg<|xn<|Ad I<|xc<|?_
   refine A3 tH I (.tmp I) (l,c) I ⟨hll,hlb,by rw[hn];exact hval,by rw[hn];exact hdr⟩ fun W1 hp=> ?_
   exact(hp.pick (l:=[Bd (A8 W g),⟨g,3,nI l++junk,true,none⟩]) [0,1] (by decide) I).own
 refine key.mono ?_
 rintro e W' ⟨y,he,hy,hb,hn'⟩
 exact⟨y,he,hy,HP hg I hb hn'⟩
theorem Px (W:World) (g cap cap2 j x:Nat) (junk:List Value) (q:Option Addr) (u v:List Nat) (hg:W.heap[g]? =some (.cells (nI u++junk).toArray 3 (0,0))) (hB:A6 W q v) (hne: ∀b off,q=some ⟨b,off,none⟩->b≠g)
  (hub: ∀a∈u,a<bs) (hvb: ∀a∈v,a<bs) (hju:j+v.length<u.length) (hl:u.length<=1000000) (hx:x<=2100000000):
  Calls Tryz.prog 261 #[slv (some ⟨g,0,none⟩) u.length cap,slv q v.length cap2, .int .i64 (j:Nat), .int .i64 (x:Nat)] W fun e W'=> ∃y:List Nat×Nat,e= .returned ((fun _:List Nat×Nat=>slv (some ⟨g,0,none⟩) u.length cap) y)/\ZP u v j x y/\Pg W W' g ((fun _=>g) y) ((fun y:List Nat×Nat=> .cells (nI y.1++junk).toArray 3 (0,0)) y):=by
 have key:Calls Tryz.prog 261 [slv (some ⟨g,0,none⟩) u.length cap,slv q v.length cap2, .int .i64 (j:Nat), .int .i64 (x:Nat)].toArray W fun e W'=> ∃y:List Nat×Nat,e= .returned ((fun _:List Nat×Nat=>slv (some ⟨g,0,none⟩) u.length cap) y)/\ZP u v j x y/\Below (Bn W).heap.size (Bn W) W'/\Au (Bn W) W' ((fun y:List Nat×Nat=>[Bd (A8 W g),⟨g,3,nI y.1++junk,true,none⟩]) y):=by
  refine CY (X:=List Nat×Nat) (val:=fun _=>slv (some ⟨g,0,none⟩) u.length cap) (Φ:=ZP u v j x) (nb:=fun y=>[Bd (A8 W g),⟨g,3,nI y.1++junk,true,none⟩]) (Hp.enterT (B:=⟨g,3,nI u++junk,true,none⟩) I hg) Tryz.func261 I I I ?_
  obtain⟨n,hn⟩: ∃n,v.length=n:=⟨_,rfl⟩
  rw[hn] at hju⊢
  have hVn:lv bs v<bs^(n+1):=by
   have h1:=Gu bs2 hvb
   rw[hn] at h1
   exact Nat.lt_of_lt_of_le h1 (Nat.pow_le_pow_right (by decide) (by omega))
  refine xb<|wP I<|xf<|wP I<|xk<|Ad I<|wV 14 ((n+1:Nat):Int) I (A0 (by omega))<|wP I<|xa<|zH<|?_
  refine Av (X:=Nat×List Nat×Nat) (fun y=>[(0,slv (some ⟨g,0,none⟩) u.length cap),(1,slv q n cap2),(2, .int .i64 (j:Nat)),(3, .int .i64 (x:Nat)),(9, .int .i64 (y.2.2:Nat)),(14, .int .i64 ((n+1:Nat):Int)),(15, .int .i64 (y.1:Nat))]) (fun y=>[Bd (A8 W g),⟨g,3,nI y.2.1++junk,true,none⟩])
   (fun y=>y.1<=n+1/\y.2.1.length=u.length/\(∀a∈y.2.1,a<bs)/\y.2.2<=3000000000/\lv bs y.2.1+bs^(j+y.1)*y.2.2=lv bs u+bs^j*(x*(lv bs v%bs^y.1))/\y.2.1.drop (j+(n+1))=u.drop (j+(n+1))) (fun y=>n+1-y.1) (0,u,0) ⟨Nat.zero_le _,rfl,hub,Nat.zero_le _,by show lv bs u+bs^(j+0)*0=lv bs u+bs^j*(x*(lv bs v%bs^0));rw[Nat.pow_zero,Nat.mod_one];simp,rfl⟩ ⟨rfl,rfl,rfl,rfl,rfl,rfl,rfl,trivial⟩ [] rfl ?_
  rintro⟨i,l,c⟩ ⟨hi,hll,hlb,hcb,hval,hdr⟩
  have hi:i<=n+1:=hi
  have hll:l.length=u.length:=hll
  have hcb:c<=3000000000:=hcb
  refine xb<|wP I<|xl<|Ag I (fun hc=> ?_) (fun hc=> ?_)
  ·have hi':i<n+1:=by simp at hc;omega
   clear hc
   have hji:j+i<l.length:=by omega
   obtain⟨o,ho⟩: ∃o,lim l (j+i)=o:=⟨_,rfl⟩
   obtain⟨y,hy⟩: ∃y,lim v i=y:=⟨_,rfl⟩
   have hob:o<1000000000:=by rw[<-ho];exact Bk bs2 hlb _
   have hyb:y<1000000000:=by rw[<-hy];exact Bk bs2 hvb _
   have hlo:l[j+i]? =some o:=by rw[DM hji,ho]
   have hyy:y=lv bs v/bs^i%bs:=by rw[<-hy];exact CI bs2 i hvb
   have hxy:x*y<=2100000000*999999999:=Nat.mul_le_mul hx (by omega)
   obtain⟨nn,hnn⟩: ∃t,t=o+x*y+c:=⟨_,rfl⟩
   have hstep:=Kq (B:=bs) (n:=nn) hlo hval (by rw[<-hyy];exact hnn)
   have hn3:nn/1000000000<=3000000000:=by omega
   refine xh<|Aa I<|xl<|zU<|Cd I<|qV 21 ((j+i:Nat):Int) I (AU (by omega))<|qJ ?_
   refine qL 0 I I (fun W' hp=>Aj.of_intsX hp 1 I hji ho) I<|AY I<|qC I I (fun W' hp=>Jj W' q cap2 n v i y (hB.others hne hp) hn (by omega) hy)<|Cd I<|qV 31 (nn:Nat) I (by show w64 (w64 ((o:Int)+w64 ((x:Int)*y))+c)=_;rw[Cx (by omega),AU (by omega),AU (by omega),hnn])<|qP I<|zD<|xa<|zB<|At I<|wV 35 ((j+i:Nat):Int) I (AU (by omega))<|wP I<|FC I I I I I (by decide) ?_
   refine wP I<|Ef I I I I I (by decide) ?_
   refine wV 39 ((nn/bs:Nat):Int) I (by show w64 ((nn:Int).tdiv ((bs:Nat):Int))=_;rw[DR];exact BN (Nat.lt_of_le_of_lt hn3 (by decide)))<|wJ ?_
   refine AG 1 (nI (l.set (j+i) (nn%bs))++junk) tH I I I I I I I I I I (by show 0+(j+i)*1+1<=(nI l++junk).length;rw[List.length_append,BJ];omega) (CH hji (nn%bs)) ?_
   exact wP I<|zC<|xi<|Aa I<|zC<|Al (i+1,l.set (j+i) (nn%bs),nn/bs) ⟨hi',by rw[List.length_set];exact hll,Dd hlb (Nat.mod_lt _ (by decide)),hn3,hstep,by rw[List.drop_set_of_lt (by omega)];exact hdr⟩ (by show n+1-(i+1)<n+1-i;omega) ⟨I,I,I,I,I,I,congrArg (fun z=>some (Value.int .i64 z)) (A0 (by omega)),tO⟩ [] I
  ·have hi':i=n+1:=by simp at hc;omega
   subst hi'
   have hval:lv bs l+bs^(j+(n+1))*c=lv bs u+bs^j*(x*(lv bs v%bs^(n+1))):=hval
   rw[Nat.mod_eq_of_lt hVn] at hval
   refine xg<|xn<|Aa I<|xc<|?_
   refine A3 tH I (.tmp I) (l,c) I ⟨hll,hlb,by rw[hn];exact hval,by rw[hn];exact hdr⟩ fun W1 hp=> ?_
   exact(hp.pick (l:=[Bd (A8 W g),⟨g,3,nI l++junk,true,none⟩]) [0,1] (by decide) I).own
 refine key.mono ?_
 rintro e W' ⟨y,he,hy,hb,hn'⟩
 exact⟨y,he,hy,HP hg I hb hn'⟩
theorem Z6 {f:Nat} (h0:0<f) (h1:f<bs):lbs bs f=[f]:=by
 rw[Hw bs2 (by omega),Nat.mod_eq_of_lt h1,Nat.div_eq_of_lt h1,Bg]
theorem Lm {a b:Nat} (h:a<=b):(lbs bs a).length<=(lbs bs b).length:=(BZ bs2).2 (Nat.lt_of_le_of_lt h (AJ bs2 b))
theorem Xo {t f:Nat} (ht:2<=t) (hf:1<=f) (h:1000000000<f*t+t):499999999<=(t-1)*f:=by
 obtain⟨t',rfl⟩: ∃t',t=t'+2:=⟨t-2,by omega⟩
 obtain⟨f',rfl⟩: ∃f',f=f'+1:=⟨f-1,by omega⟩
 rw[show t'+2-1=t'+1 by omega]
 have e1:(f'+1)*(t'+2)=f'*t'+2*f'+t'+2:=by grind
 have e2:(t'+1)*(f'+1)=f'*t'+f'+t'+1:=by grind
 rw[e1] at h
 rw[e2]
 omega
theorem Zp {b n f:Nat} (hn:(lbs bs b).length=n) (hn1:1<=n) (hf:f=bs/(lim (lbs bs b) (n-1)+1)):1<=f/\f<bs/\(lbs bs (b*f)).length=n/\499999999<=b*f/bs^(n-1):=by
 have hb0:b≠0:=fun e=>by rw[e,Bg] at hn;simp at hn;omega
 have h1:=RJ bs2 hb0
 have h2:=AJ bs2 b
 rw[hn] at h1 h2
 have hlt:b/bs^(n-1)<bs:=Nat.div_lt_of_lt_mul (by rw[<-Nat.pow_succ,show(n-1).succ=n by omega];exact h2)
 rw[Bo bs2,Nat.mod_eq_of_lt hlt] at hf
 obtain⟨m,hm⟩: ∃m,bs^(n-1)=m:=⟨_,rfl⟩
 have hm0:0<m:=by rw[<-hm];exact Nat.pow_pos (by decide)
 rw[hm] at h1 hlt hf
 obtain⟨t,ht⟩: ∃t,b/m=t:=⟨_,rfl⟩
 rw[ht] at hlt hf
 have ht1:1<=t:=by rw[<-ht];exact Nat.div_pos h1 hm0
 have hbt:b<(t+1)*m:=by rw[<-ht];exact Nat.lt_mul_of_div_lt (Nat.lt_succ_self _) hm0
 have hbt2:t*m<=b:=by rw[<-ht];exact Nat.div_mul_le_self ..
 have hft:f*(t+1)<=bs:=by rw[hf];exact Nat.div_mul_le_self ..
 have hf1:1<=f:=by rw[hf];exact Nat.div_pos (by omega) (by omega)
 have hfb:f<bs:=by
  have:f*2<=f*(t+1):=Nat.mul_le_mul_left _ (by omega)
  omega
 have hpn:bs^n=bs*m:=by rw[<-hm,Nat.mul_comm, <-Nat.pow_succ,show(n-1).succ=n by omega]
 have hu:b*f<bs^n:=by
  have h3:b*f<(t+1)*m*f:=Nat.mul_lt_mul_of_pos_right hbt (by omega)
  have h4:(t+1)*m*f=f*(t+1)*m:=by grind
  have h5:=Nat.mul_le_mul_right m hft
  rw[hpn];omega
 refine⟨hf1,hfb, ?_, ?_⟩
 ·have h3:=(BZ bs2).2 hu
  have h4:=Lm (Nat.le_mul_of_pos_right b hf1)
  omega
 ·rw[hm,Nat.le_div_iff_mul_le hm0]
  have h3:=Nat.lt_succ_of_le (Nat.le_refl (bs/(t+1)))
  have h4:bs<(f+1)*(t+1):=by rw[hf];exact Nat.lt_mul_of_div_lt h3 (by omega)
  have h5:=Xo (t:=t+1) (f:=f) (by omega) hf1 (by
   have:(f+1)*(t+1)=f*(t+1)+(t+1):=by rw[Nat.add_mul,Nat.one_mul]
   have h9:bs=1000000000:=rfl
   omega)
  rw[Nat.add_sub_cancel] at h5
  have h6:t*m*f<=b*f:=Nat.mul_le_mul_right _ hbt2
  have h7:=Nat.mul_le_mul_right m h5
  have h8:t*f*m=t*m*f:=by grind
  omega
theorem eH {a b f Q R:Nat} (hf:0<f) (h:a*f=Q*(b*f)+R) (hR:R<b*f):a/b=Q/\R/f=a%b:=by
 have h1:Q*b*f<=a*f:=by rw[h,Nat.mul_assoc];omega
 have h2:Q*b<=a:=Nat.le_of_mul_le_mul_right h1 hf
 obtain⟨r,rfl⟩: ∃r,a=Q*b+r:=⟨a-Q*b,by omega⟩
 have h3:R=r*f:=by
  rw[Nat.add_mul,Nat.mul_assoc] at h
  omega
 subst h3
 have h4:r<b:=Nat.lt_of_mul_lt_mul_right hR
 rw[Nat.mul_div_cancel _ hf]
 have e:Q*b+r=b*Q+r:=by rw[Nat.mul_comm]
 rw[e]
 exact⟨by rw[Nat.mul_add_div (by omega),Nat.div_eq_of_lt h4,Nat.add_zero],by rw[Nat.mul_add_mod,Nat.mod_eq_of_lt h4]⟩
theorem Yt {U V L L' Q x j:Nat} (h:U=Q*V*bs^(j+1)+L) (hx:L/bs^j/V<=x) (hV:0<V) (hL:L'+bs^j*(x*V)=L):U=(bs*Q+x)*V*bs^j+L'/\L'<V*bs^j:=by
 have hp:0<bs^j:=Nat.pow_pos (by decide)
 constructor
 ·rw[h, <-hL,Nat.pow_succ];grind
 ·have h1:L/bs^j<(x+1)*V:=Nat.lt_mul_of_div_lt (Nat.lt_succ_of_le hx) hV
  have h2:L<(x+1)*V*bs^j:=Nat.lt_mul_of_div_lt h1 hp
  have h3:(x+1)*V*bs^j=bs^j*(x*V)+V*bs^j:=by grind
  omega
theorem Yy {V L L' x j:Nat} (hL:L'+bs^j*(x*V)=L) (h:L<V*bs^(j+1)):x<bs:=by
 rcases Nat.lt_or_ge x bs with h1|h1
 ·exact h1
 ·have h2:bs^j*(bs*V)<=bs^j*(x*V):=Nat.mul_le_mul_left _ (Nat.mul_le_mul_right _ h1)
  have h3:V*bs^(j+1)=bs^j*(bs*V):=by rw[Nat.pow_succ];grind
  omega
theorem K6 (W:World) (p q:Option Addr) (cap a f:Nat) (hA:A6 W p (lbs bs a)) (hF:A6 W q [f]) (hna:(lbs bs a).length<=1000000) (h0:0<f) (h1:f<bs):
  Ae Tryz.prog 155 #[slv p (lbs bs a).length cap,slv q 1 1] W (fun x:NV=>B8 x (lbs bs (a*f)).length) (fun x=>C0 x (lbs bs (a*f))) (fun x=>[BM x (lbs bs (a*f))]):=by
 have e:=Z6 h0 h1
 have:=Mx W p q cap 1 a f hA (by rw[e];exact hF) hna (by rw[e];show 1<=1000000;decide)
 rwa [e] at this
structure W5 (b:Nat) (p:Option Addr) (cap n k:Nat) (W:World):Prop where
 var:Aj W b 0 [slv p n cap]
 int: ∀b2 off,p=some ⟨b2,off,none⟩->k<n->Aj W b2 (off+(n-1-k)*1) [.int .i64 0]
theorem NQ (b b2 off:Nat) (cap n:Nat) (hn:n<4611686018427387904):
  S4 Tryz.prog 305 [.pointer (some ⟨b,0,none⟩)] n (fun k=>[.int .i64 ((n-1-k:Nat):Int), .int .i64 0]) (W5 b (some ⟨b2,off,none⟩) cap n):=by
 refine⟨fun y J Jx hNeed hdr hY W hJ=> ?_⟩
 refine Da (args:=[.func (.yield y) #[] #[], .pointer (some ⟨b,0,none⟩)]) (J0:=J 0) Tryz.func305 I I I hJ ?_
 refine xb<|wL 0 I I (fun W hp=>(hNeed 0 W hp).var) I<|Aa I<|wV 6 ((n:Int)-1-(0:Nat)) I (by show w64 ((n:Int)-1)=_;rw[Ar (by omega) (by omega)];omega)<|wP I<|xa<|zH<|Di (X:=Nat) (fun k=>[(0, .func (.yield y) #[] #[]),(1, .pointer (some ⟨b,0,none⟩)),(3, .int .i64 ((n:Int)-1-(k:Nat)))]) J (fun k=>k<=n) (fun k=>n-k) 0 (Nat.zero_le _) ⟨I,I,I,tO⟩ (fun W h=>h) ?_
 intro k hk
 refine xd<|Aa I<|xa<|Ag I (fun hc=> ?_) (fun hc=> ?_)
 ·have hk':k<n:=by simp at hc;omega
  clear hc
  have e1:(n:Int)-1-(k:Nat)=((n-1-k:Nat):Int):=by omega
  refine xh<|Aa I<|wV 12 ((n-1-k:Nat):Int) I e1<|wL 0 I I (fun W hp=>(hNeed k W hp).var) I<|wP I<|wV 14 ((n-1-k:Nat):Int) I e1<|wJ ?_
  refine wL 0 I I (fun W hp=>(hNeed k W hp).int b2 off I hk') I<|E7 (A1:=J (k+1)) (A2:=Jx) I I I I I I (fun W hp=>hY k W hk' hp) ?_ ?_
  ·exact wP I<|xa<|zS I<|zI<|xi<|Ad I<|zC<|Dh (k+1) hk' (by omega) ⟨I,I,congrArg (fun z=>some (Value.int .i64 z)) (by show w64 ((n:Int)-1-(k:Nat)-1)=_;rw[Ar (by omega) (by omega)];omega),tO⟩ (fun W h=>h)
  ·exact wP I<|xa<|zR I<|zO<|xj<|Cp I (fun W h=>h)
 ·have hk':k=n:=by simp at hc;omega
  subst hk'
  exact xg<|FK I fun W h=>h
def dvV (p:Option Addr) (cap a b:Nat) (x:Vec×Option NV):Value:= .tuple #[x.1.val (lbs bs (a/b)).length,match x.2 with
 |none=>slv p (lbs bs a).length cap
 |some R=>B8 R (lbs bs (a%b)).length]
def gX (a b:Nat) (x:Vec×Option NV):Prop:=x.1.OK 1 (lbs bs (a/b)).length (nI (lbs bs (a/b)))/\match x.2 with
 |none=>a<b
 |some R=>C0 R (lbs bs (a%b))
def dvB (a b:Nat) (x:Vec×Option NV):List Bx:=x.1.bx 3 (nI (lbs bs (a/b)))::match x.2 with
 |none=>[]
 |some R=>[BM R (lbs bs (a%b))]
theorem aM {l:List Nat} (h: ∀x∈l,x<bs): ∀x∈l++[0],x<bs:=fun x hx=>by
 rcases List.mem_append.1 hx with hx|hx
 ·exact h x hx
 ·rw[List.mem_singleton.1 hx];decide
theorem ZT (l:List Nat):lv bs (l++[0])=lv bs l:=by
 rw[FW]
 show lv bs l+bs^l.length*(0+bs*0)=_
 simp
theorem KB (W:World) (p q:Option Addr) (cap cap2 a b:Nat) (hA:A6 W p (lbs bs a)) (hB:A6 W q (lbs bs b)) (hb:b≠0) (hna:(lbs bs a).length<=100000) (hnb:(lbs bs b).length<=100000):
  Ae Tryz.prog 186 #[slv p (lbs bs a).length cap,slv q (lbs bs b).length cap2] W (dvV p cap a b) (gX a b) (dvB a b):=by
 refine Ab Tryz.func186 I I I<|xb<|wG I I fun _=>wP I<|zC<|?_
 rename_i b4
 refine zE<|xd<|Aa I<|wD (X:=Int) I I (fun W' hp=>JM W' p q cap cap2 a b (hA.hp hp) (hB.hp hp) (by omega) (by omega)) ?_
 intro c hc
 refine wP I<|xa<|?_
 by_cases hab:a<b
 ·refine Bh 14 (.bool true) I (congrArg Value.bool (dT (hc.1.2 hab))) ?_
  refine zR I<|xb<|wP I<|wS 0 I I I<|wP I<|xo<|A4 tH I (.cell 0 I I I I I) (.tmp I) (Vec.empty,none) I ⟨?_,hab⟩ fun W' hp=> ?_
  ·rw[Nat.div_eq_of_lt hab,Bg];exact Vec.OK.empty 1
  ·exact Own.one (fun p hp=>by cases hp) List.nodup_nil
 have hba:b<=a:=by omega
 refine Bh 14 (.bool false) I (congrArg Value.bool (dF (fun h=>hab (hc.1.1 h)))) ?_
 refine zS I<|xe<|xd<|Ad I<|xa<|?_
 by_cases hone:(lbs bs b).length=1
 ·refine Bh 18 (.bool true) I (congrArg Value.bool (by rw[hone];rfl)) ?_
  have hblt:=AJ bs2 b
  rw[hone,Nat.pow_one] at hblt
  obtain⟨qb,qo,rfl,hrow⟩:=hB.row (show 0<(lbs bs b).length by omega)
  have hb0:lim (lbs bs b) 0=b:=by rw[Bo bs2,Nat.pow_zero,Nat.div_one,Nat.mod_eq_of_lt hblt]
  have hrb: ∀W' bx,Hp W bx W'->Aj W' qb (qo+0*1) [.int .i64 (b:Nat)]:=fun W' bx hp=>by
   have:=(hrow 0 (by omega)).hp hp
   rwa [hb0] at this
  refine zR I<|xb<|Aa I<|wJ ?_
  refine wL 0 I I (fun W' hp=>hrb W' _ hp) I<|wD (X:=NV×NV) I I (fun W' hp=>GG W' p cap a b (hA.hp hp) (by omega) (by omega) hblt) ?_
  rintro⟨V1,V2⟩ ⟨hV1,hV2⟩
  refine Aa I<|wS 0 I I I<|wP I<|xo<|A4 tH I (.cell 0 I I I I I) (.tmp I) (nvV V1,some V2) I ⟨hV1,hV2⟩ fun W' hp=> ?_
  exact(hp.pick (l:=[BM V1 (lbs bs (a/b)),BM V2 (lbs bs (a%b))]) [1,2] (by decide) I).own
 obtain⟨n,hn⟩: ∃n,(lbs bs b).length=n:=⟨_,rfl⟩
 have hn0:=OF hb
 rw[hn] at hone hn0
 refine Bh 18 (.bool false) I (congrArg Value.bool (by rw[hn,beq_eq_false_iff_ne];omega)) ?_
 obtain⟨qb,qo,rfl,hrow⟩:=hB.row (show n-1<(lbs bs b).length by omega)
 obtain⟨f,hf⟩: ∃f,f=bs/(lim (lbs bs b) (n-1)+1):=⟨_,rfl⟩
 obtain⟨hf1,hf2,hvn,hnorm⟩:=Zp hn (by omega) hf
 have hbtl:lim (lbs bs b) (n-1)<1000000000:=Bk bs2 (Br bs2 b) _
 refine zS I<|xm<|Ad I<|Ap 28 (.int .i64 (n:Nat)) I (congrArg (fun n:Nat=>Value.int .i64 (n:Int)) hn)<|wP I<|wV 29 ((n-1:Nat):Int) I (by show w64 ((n:Int)-1)=_;rw[Ar (by omega) (by omega)];omega)<|wJ ?_
 refine wL 0 I I (fun W' hp=>(hrow (n-1) (by omega)).hp hp) I<|wP I<|wV 32 ((lim (lbs bs b) (n-1)+1:Nat):Int) I (A0 (by omega))<|Ef I I I I I (by omega) ?_
 refine wV 33 (f:Nat) I (by show w64 (((bs:Nat):Int).tdiv ((lim (lbs bs b) (n-1)+1:Nat):Int))=_;rw[DR, <-hf];exact BN (Nat.lt_trans hf2 (by decide)))<|wP I<|zC<|?_
 have hF1:a*f≠0:=Nat.mul_ne_zero (by omega) (by omega)
 have hF2:b*f≠0:=Nat.mul_ne_zero hb (by omega)
 refine xn<|Aa I<|As Tryz.hZ tH I I I I I I I I I I I fun bF=> ?_
 refine wD (X:=NV) I I (fun W' hp=>K6 W' p _ cap a f (hA.hp hp) (A6.of_bx (l:=[f]) (junk:=[]) hp 1 I) (by omega) hf1 hf2) ?_
 intro V1 hV1
 refine As Tryz.hZ tH I I I I I I I I I I I fun bZ=> ?_
 have hua:(lbs bs a).length<=(lbs bs (a*f)).length:=Lm (Nat.le_mul_of_pos_right a hf1)
 have hua2:(lbs bs (a*f)).length<=(lbs bs a).length+1:=(BZ bs2).2 (by
  rw[Nat.pow_succ]
  have h1:=AJ bs2 a
  exact Nat.mul_lt_mul'' h1 hf2)
 obtain⟨M,hM⟩: ∃M,(lbs bs (a*f)).length=M:=⟨_,rfl⟩
 rw[hM] at hua hua2
 refine AN (V:=nvV V1) (len:=(lbs bs (a*f)).length) (xs:=nI (lbs bs (a*f))) 2 3 Tryz.vec172 (M+1) (nI (lbs bs (a*f)++[0])) I I I I I I I I I I I hV1 I I (by rw[hM]) (Kz (lbs bs (a*f)) [0]).symm (by simp only[maxLen];omega) (by omega) I ?_
 intro gu cu ju hVu
 refine Aa I<|As Tryz.hZ tH I I I I I I I I I I I fun bG=> ?_
 refine wD (X:=NV) I I (fun W' hp=>K6 W' (some ⟨qb,qo,none⟩) _ cap2 b f (hB.hp hp) (A6.of_bx (l:=[f]) (junk:=[]) hp 4 I) (by omega) hf1 hf2) ?_
 rintro⟨gv,cv,jv⟩ hVv
 refine wG I I fun _=>wG I I fun _=>wS 6 I I I<|wS 7 I I I<|zC<|?_
 rename_i b7 b8
 obtain⟨u0,hu0⟩: ∃l,lbs bs (a*f)++[0]=l:=⟨_,rfl⟩
 obtain⟨v,hv⟩: ∃l,lbs bs (b*f)=l:=⟨_,rfl⟩
 have hul:u0.length=M+1:=by rw[<-hu0,List.length_append,hM];rfl
 have hvl:v.length=n:=by rw[<-hv];exact hvn
 have hub: ∀x∈u0,x<bs:=by rw[<-hu0];exact aM (Br bs2 _)
 have hvb: ∀x∈v,x<bs:=by rw[<-hv];exact Br bs2 _
 have huv:lv bs u0=a*f:=by rw[<-hu0,ZT,Mj bs2]
 have hvv:lv bs v=b*f:=by rw[<-hv];exact Mj bs2 _
 have hnM:n<=M:=by
  have:=Lm hba
  omega
 have hcv:v.length<=cv:=by have:=(hVv.cap (by simp)).1;rw[hv] at this;exact this
 rw[hu0,hv]
 rw[hu0] at hVu
 refine zE<|zA<|zH<|?_
 refine Av (X:=Unit) (fun _=>[(0,slv p (lbs bs a).length cap),(4,Ai b4),(6, .int .i64 (f:Nat)),(7,Ai b7),(8,Ai b8)]) (fun _=>[⟨b4,172,[.slice none 0 0],true,none⟩,⟨bF,3,[.int .i64 (f:Nat)],true,none⟩,⟨gu,3,nI u0++ju,true,none⟩,⟨bZ,3,[.int .i64 0],true,none⟩,⟨bG,3,[.int .i64 (f:Nat)],true,none⟩,⟨gv,3,nI v++jv,true,none⟩,⟨b7,172,[slv (some ⟨gu,0,none⟩) (M+1) cu],true,none⟩,⟨b8,172,[slv (some ⟨gv,0,none⟩) v.length cv],true,none⟩])
  (fun _=>True) (fun _=>0) () trivial ⟨rfl,rfl,rfl,rfl,rfl,trivial⟩ [] rfl ?_
 intro _ _
 refine xd<|wB 6 I I I<|At I<|wV 48 (((lbs bs a).length+1:Nat):Int) I (A0 (by omega))<|wP I<|xa<|Bh 49 (.bool false) I (congrArg Value.bool (dF (by omega))) ?_
 refine zS I<|xg<|xn<|?_
 obtain⟨K,hK⟩: ∃K,K=M+1-n:=⟨_,rfl⟩
 refine wB 6 I I I<|wP I<|wB 7 I I I<|Aa I<|wV 57 (K:Nat) I (by show w64 (((M+1:Nat):Int)-(v.length:Nat))=_;rw[hvl,Ar (by omega) (by omega)];omega)<|?_
 refine Cr Tryz.vec172 K I I I I I I I (by simp only[maxLen];omega) (by omega) ?_
 intro gq
 have ez:Cf (Value.cells (.int .i64 0)).toList K=nI (List.replicate K 0)++[]:=by rw[List.append_nil];exact Gx K
 rw[ez]
 refine wS 0 I I I<|xk<|wB 0 I I I<|wD (X:=Nat) I I (fun W _=>E4 _ K K W) ?_
 intro bI _
 refine xa<|zH<|?_
 refine Qm (X:=List Nat×List Nat×Nat) (fun x=>[⟨b4,172,[slv (some ⟨gq,0,none⟩) K K],true,none⟩,⟨bF,3,[.int .i64 (f:Nat)],true,none⟩,⟨gu,3,nI x.2.1++ju,true,none⟩,⟨bZ,3,[.int .i64 0],true,none⟩,⟨bG,3,[.int .i64 (f:Nat)],true,none⟩,⟨gv,3,nI v++jv,true,none⟩,⟨b7,172,[slv (some ⟨gu,0,none⟩) (M+1) cu],true,none⟩,⟨b8,172,[slv (some ⟨gv,0,none⟩) v.length cv],true,none⟩,⟨gq,3,nI x.1++[],true,none⟩,⟨bI,172,[slv (some ⟨gq,0,none⟩) K K],true,none⟩])
  (fun k x=>(x.1.length=K/\(∀y∈x.1,y<bs)/\lv bs x.1=bs^(K-k)*x.2.2)/\x.2.1.length=M+1/\(∀y∈x.2.1,y<bs)/\a*f=x.2.2*(b*f)*bs^(K-k)+lv bs x.2.1/\lv bs x.2.1<b*f*bs^(K-k)) (fun _ _=>False) (List.replicate K 0,u0,0) rfl (by kernel_rfl) (NQ bI gq 0 K K (by omega)) (fun _=>rfl)
  ⟨⟨List.length_replicate,Is (by decide) K,by rw[Fx];show 0=bs^(K-0)*0;rw[Nat.mul_zero]⟩,hul,hub,by show a*f=0*(b*f)*bs^(K-0)+lv bs u0;rw[huv];omega, ?_⟩ [] rfl ?_ ?_ ?_ (fun _ _ _ _ _ h=>h.elim)
 ·show lv bs u0<b*f*bs^(K-0)
  have h1:=AJ bs2 (a*f)
  have h2:=RJ bs2 hF2
  rw[hM] at h1
  rw[hvn] at h2
  have h3:bs^(n-1)*bs^K<=b*f*bs^K:=Nat.mul_le_mul_right _ h2
  rw[<-Nat.pow_add,show n-1+K=M by omega] at h3
  rw[huv,Nat.sub_zero];omega
 ·rintro k ⟨ql,ul,Q⟩ W' ⟨⟨hql,hqb,hqv⟩,_⟩ hp
  have hql:ql.length=K:=hql
  have hqv:lv bs ql=bs^(K-k)*Q:=hqv
  refine⟨Aj.of_bx hp 9 I I,fun b2 off e hk=> ?_⟩
  cases e
  refine Aj.of_intsX hp 8 I (by omega) ?_
  rw[CI bs2 _ hqb,hqv,show K-k=K-1-k+1 by omega,Nat.pow_succ,Nat.mul_assoc,Nat.mul_div_cancel_left _ (Nat.pow_pos (by decide)),Nat.mul_mod_right]
 ·rintro k ⟨ql,ul,Q⟩ d Lo rec hk ⟨⟨hql,hqb,hqv⟩,hull,hulb,hU,hUs⟩ hrec
  have hql:ql.length=K:=hql
  have hqv:lv bs ql=bs^(K-k)*Q:=hqv
  have hull:ul.length=M+1:=hull
  have hU:a*f=Q*(b*f)*bs^(K-k)+lv bs ul:=hU
  have hUs:lv bs ul<b*f*bs^(K-k):=hUs
  have hulb: ∀y∈ul,y<bs:=hulb
  have hqb: ∀y∈ql,y<bs:=hqb
  obtain⟨j,hj⟩: ∃j,K-1-k=j:=⟨_,rfl⟩
  have hjK:j<ql.length:=by omega
  rw[show K-k=j+1 by omega] at hqv hU hUs
  have hju:j+v.length<ul.length:=by omega
  have hUm:lv bs ul<bs^(j+(v.length+1)):=by
   have h1:=Gu bs2 hvb
   rw[hvv] at h1
   have h2:b*f*bs^(j+1)<=bs^v.length*bs^(j+1):=Nat.mul_le_mul_right _ (by omega)
   rw[<-Nat.pow_add,show v.length+(j+1)=j+(v.length+1) by omega] at h2
   omega
  refine zB<|wP I<|zC<|BU 11 hrec I ?_
  refine Bh 9 (.int .i64 (j:Nat)) I (by rw[hj]) ?_
  refine zH<|xb<|wB 6 I I I<|wB 7 I I I<|wP I<|Ap 63 (slv (some ⟨gu,0,none⟩) ul.length cu) I (by rw[hull])<|?_
  refine wD (X:=Nat) I I (fun W' hp=>OX W' _ _ cu cv j ul v (A6.of_bx hp 2 I) (A6.of_bx hp 5 I) hulb hvb (by omega) hju (by omega) (by rw[hvv];exact hUs) (by rw[hvv,hvl];exact hnorm)) ?_
  rintro x0 ⟨hx0,hx0b⟩
  rw[List.append_nil]
  refine wP I<|xl<|zH<|?_
  refine Av (X:=Nat) (fun x=>[(7,Ai b7),(8,Ai b8),(4,Ai b4),(9, .int .i64 (j:Nat)),(10, .int .i64 (x:Nat))]) (fun _=>[⟨b4,172,[slv (some ⟨gq,0,none⟩) K K],true,none⟩,⟨bF,3,[.int .i64 (f:Nat)],true,none⟩,⟨gu,3,nI ul++ju,true,none⟩,⟨bZ,3,[.int .i64 0],true,none⟩,⟨bG,3,[.int .i64 (f:Nat)],true,none⟩,⟨gv,3,nI v++jv,true,none⟩,⟨b7,172,[slv (some ⟨gu,0,none⟩) (M+1) cu],true,none⟩,⟨b8,172,[slv (some ⟨gv,0,none⟩) v.length cv],true,none⟩,⟨gq,3,nI ql++[],true,none⟩,⟨bI,172,[slv (some ⟨gq,0,none⟩) K K],true,none⟩,BL d,Bp Lo rec .busy none])
   (fun x=>lv bs ul/bs^j/lv bs v<=x/\x<=2100000000) (fun x=>x) x0 ⟨hx0,hx0b⟩ ⟨rfl,rfl,rfl,rfl,rfl,trivial⟩ [] rfl ?_
  rintro x ⟨hx1,hx2⟩
  have hgv: ∀W' bx,Hp W bx W'->nth bx 2=some (⟨gu,3,nI ul++ju,true,none⟩:Bx)->nth bx 5=some (⟨gv,3,nI v++jv,true,none⟩:Bx)->gv≠gu:=fun W' bx hp h2 h5=>by
   rw[Bv] at h2 h5
   exact hp.own.apart 5 2 _ _ h5 h2 (by decide) (gv,_) (List.mem_cons_self ..) (gu,_) (List.mem_cons_self ..)
  refine xd<|wB 6 I I I<|wB 7 I I I<|Aa I<|Ap 67 (slv (some ⟨gu,0,none⟩) ul.length cu) I (by rw[hull])<|?_
  refine F7 (X:=List Nat×Nat) (L1:=[]) (L2:=[]) (capt:=[]) 2 (fun y=>⟨gu,3,nI y.1++ju,true,none⟩) rfl rfl rfl rfl rfl rfl (by kernel_rfl) rfl rfl (fun _ _=>rfl) (fun W' hp=>UL W' gu cu cv j x ju (some ⟨gv,0,none⟩) ul v (hp.at_ 2 _ rfl rfl).1 (A6.of_bx hp 5 rfl) (fun b off e=>by cases e;exact hgv W' _ hp rfl rfl) hulb hvb hju (by omega) hx2) ?_
  rintro⟨ul1,c1⟩ hT1
  refine xa<|Ag I (fun hc1=> ?_) (fun hc1=> ?_)
  ·have hc1':0<c1:=by
    have h':decide ((c1:Int)>0)=true:=hc1
    rw[decide_eq_true_iff] at h';omega
   have hfar:=Yq hulb hT1 hc1' hUm
   have hl1:ul1.length=ul.length:=hT1.len
   refine xe<|zH<|xb<|wB 6 I I I<|wB 7 I I I<|Aa I<|Ap 72 (slv (some ⟨gu,0,none⟩) ul1.length cu) I (by rw[hl1,hull])<|?_
   refine F7 (X:=List Nat×Nat) (L1:=[]) (L2:=[]) (capt:=[]) 2 (fun y=>⟨gu,3,nI y.1++ju,true,none⟩) I I I I I I (by kernel_rfl) I I (fun _ _=>rfl) (fun W' hp=>Px W' gu cu cv j x ju (some ⟨gv,0,none⟩) ul1 v (hp.at_ 2 _ I I).1 (A6.of_bx hp 5 I) (fun b off e=>by
    cases e
    exact hp.own.apart 5 2 _ _ I I (by decide) (gv,_) (List.mem_cons_self ..) (gu,_) (List.mem_cons_self ..)) hT1.lt hvb (by omega) (by omega) hx2) ?_
   rintro⟨ul2,c2⟩ hT2
   have e2:=WW hulb hT1 hT2
   have e2':ul2=ul:=e2
   subst e2'
   exact Ap 76 (slv (some ⟨gu,0,none⟩) (M+1) cu) I (by rw[hl1,hull])<|wS 6 I I I<|xa<|zB<|Aa I<|wV 78 ((x-1:Nat):Int) I (by show w64 ((x:Int)-1)=_;rw[Ar (by omega) (by omega)];have:=Nat.lt_of_le_of_lt (Nat.zero_le _) hfar;omega)<|wP I<|zC<|zN<|Al (x-1) ⟨Nat.le_sub_one_of_lt hfar,by omega⟩ (by have:=Nat.lt_of_le_of_lt (Nat.zero_le _) hfar;omega) ⟨I,I,I,I,I,tO⟩ [] I
  ·have hc1':c1=0:=by
    have h':decide ((c1:Int)>0)=false:=hc1
    rw[decide_eq_false_iff_not] at h';omega
   have hok:=ZW hT1 hc1'
   have hok':lv bs ul1+bs^j*(x*(b*f))=lv bs ul:=by rw[<-hvv];exact hok
   rw[hvv] at hx1
   have hxb:=Yy hok' hUs
   have hxb':x<1000000000:=hxb
   obtain⟨hr1,hr2⟩:=Yt hU hx1 (by omega) hok'
   have hzero:ql[j]? =some 0:=by
    rw[DM hjK,CI bs2 _ hqb,hqv,Nat.pow_succ,Nat.mul_assoc,Nat.mul_div_cancel_left _ (Nat.pow_pos (by decide)),Nat.mul_mod_right]
   have hset:=IR (B:=bs) x hzero
   rw[Nat.mul_zero,Nat.add_zero,hqv,Nat.pow_succ,Nat.mul_assoc, <-Nat.mul_add] at hset
   refine xg<|zE<|zB<|wB 0 I I I<|Aa I<|wJ ?_
   refine AG 8 (nI (ql.set j x)++[]) tH I I I I I I I I I I (by show 0+j*1+1<=(nI ql++[]).length;rw[List.append_nil,BJ];omega) (CH hjK x) ?_
   refine zC<|zN<|?_
   refine By 11 (ql.set j x,ul1,bs*Q+x) hrec I ⟨⟨by rw[List.length_set];exact hql,Dd hqb hxb, ?_⟩,by rw[hT1.len];exact hull,hT1.lt, ?_, ?_⟩ [] I
   ·show lv bs (ql.set j x)=bs^(K-(k+1))*(bs*Q+x)
    rw[hset,show K-(k+1)=j by omega]
   ·show a*f=(bs*Q+x)*(b*f)*bs^(K-(k+1))+lv bs ul1
    rw[show K-(k+1)=j by omega];exact hr1
   ·show lv bs ul1<b*f*bs^(K-(k+1))
    rw[show K-(k+1)=j by omega];exact hr2
 ·rintro⟨ql,ul,Q⟩ d Lo rec ⟨⟨hql,hqb,hqv⟩,hull,hulb,hU,hUs⟩
  have hql:ql.length=K:=hql
  have hqv:lv bs ql=bs^(K-K)*Q:=hqv
  have hull:ul.length=M+1:=hull
  have hU:a*f=Q*(b*f)*bs^(K-K)+lv bs ul:=hU
  have hUs:lv bs ul<b*f*bs^(K-K):=hUs
  have hulb: ∀y∈ul,y<bs:=hulb
  have hqb: ∀y∈ql,y<bs:=hqb
  rw[Nat.sub_self,Nat.pow_zero] at hqv hU hUs
  rw[Nat.one_mul] at hqv
  rw[Nat.mul_one] at hU hUs
  obtain⟨e1,e2⟩:=eH (show 0<f by omega) hU hUs
  have hul2:(lbs bs (lv bs ul)).length<=M+1:=by
   have:=(BZ bs2).2 (Gu bs2 hulb)
   omega
  have hV0:(⟨some gq,K,[]⟩:Vec).OK 1 ql.length (nI ql):=⟨Fg _,(fun h=>by cases h),fun _=>⟨by show _<=K;omega,by show K<=maxLen;simp only[maxLen];omega,by show(nI ql).length+0=K*1;rw[BJ];omega⟩⟩
  obtain⟨j',hV2,he⟩:=Hg hV0 hqb
  rw[hqv, <-e1] at hV2 he
  refine zN<|xn<|wB 6 I I I<|Ap 84 (slv (some ⟨gu,0,none⟩) ul.length cu) I (by rw[hull])<|wC I I (fun W' hp=>D3 W' _ cu _ (A6.of_bx hp 2 I) hulb (by have:=(hVu.cap (by simp)).1;have h9:M+1<=cu:=this;omega) (by omega))<|wP I<|wD (X:=NV×NV) I I (fun W' hp=>GG W' _ cu (lv bs ul) f ((A6.of_bx hp 2 I).trim hulb) (by omega) (by omega) hf2) ?_
  rintro⟨R1,R2⟩ ⟨hR1, -⟩
  refine At I<|xf<|wB 0 I I I<|Ap 90 (slv (some ⟨gq,0,none⟩) ql.length K) I (by rw[hql])<|wC I I (fun W' hp=>D3 W' _ K _ (A6.of_bx hp 8 I) hqb (by omega) (by omega))<|wP I<|wS 0 I I I<|wP I<|xc<|?_
  rw[e2] at hR1
  refine Co 10 I ?_
  refine A4 tH I (.cell 0 I I I I I) (.tmp I) ((⟨some gq,K,j'⟩:Vec),some R1) ?_ ⟨hV2,hR1⟩ fun W' hp=> ?_
  ·show Value.tuple #[slv (some ⟨gq,0,none⟩) (lbs bs (lv bs ql)).length K,B8 R1 (lbs bs (lv bs ul/f)).length]= .tuple #[slv (some ⟨gq,0,none⟩) (lbs bs (a/b)).length K,B8 R1 (lbs bs (a%b)).length]
   rw[hqv, <-e1,e2]
  ·have h:=(hp.pick (l:=[⟨gq,3,nI ql++[],true,none⟩,BM R1 (lbs bs (lv bs ul/f))]) [8,12] (by decide) rfl).own
   rw[he,e2] at h
   exact h
def mns (x y c:Nat):Nat×Nat:=if y+c<=x then(x-y-c,0) else(x+bs-y-c,1)
def pls (x y c:Nat):Nat×Nat:=((x+y+c)%bs,(x+y+c)/bs)
theorem SM (x y c:Nat) (hx:x<bs) (hy:y<bs) (hc:c<=1):Be Tryz.prog 189 [.int .i64 (x:Nat), .int .i64 (y:Nat), .int .i64 (c:Nat)] (.tuple #[.int .i64 ((mns x y c).1:Nat), .int .i64 ((mns x y c).2:Nat)]):=by
 intro W
 have hxb:x<1000000000:=hx
 have hyb:y<1000000000:=hy
 have e0:w64 (w64 ((x:Int)-y)-c)=(x:Int)-y-c:=by
  rw[Ar (x:=(x:Int)-y) (by omega) (by omega),Ar (by omega) (by omega)]
 refine Ab Tryz.func189 I I I<|xb<|Aa I<|xk<|Ak I<|wV 13 ((x:Int)-y-c) I e0<|wP I<|xf<|Aa I<|zC<|?_
 refine zE<|Ag I (fun h=> ?_) (fun h=> ?_)
 ·have h:y+c<=x:=by simp at h;omega
  refine xb<|Ad I<|xo<|wR2 I I ?_
  unfold mns
  rw[if_pos h]
  show Value.tuple #[.int .i64 ((x:Int)-y-c), .int .i64 0]= .tuple #[.int .i64 ((x-y-c:Nat):Int), .int .i64 0]
  rw[show(x:Int)-y-c=((x-y-c:Nat):Int) by omega]
 ·have h: ¬y+c<=x:=by simp at h;omega
  refine xm<|Ak I<|wV 21 ((x:Int)-y-c) I e0<|Ad I<|xc<|wR2 I I ?_
  unfold mns
  rw[if_neg h]
  show Value.tuple #[.int .i64 (w64 ((x:Int)-y-c+1000000000)), .int .i64 1]= .tuple #[.int .i64 ((x+bs-y-c:Nat):Int), .int .i64 1]
  rw[Ar (by omega) (by omega),show(x:Int)-y-c+1000000000=((x+bs-y-c:Nat):Int) by show _=((x+1000000000-y-c:Nat):Int);omega]
theorem NY {x y c:Nat} (hx:x<bs) (hy:y<bs) (hc:c<=1):(mns x y c).1<bs/\(mns x y c).2<=1/\(mns x y c).1+y+c=x+bs*(mns x y c).2:=by
 unfold mns
 split
 ·exact⟨by show x-y-c<bs;omega,Nat.zero_le _,by show x-y-c+y+c=x+bs*0;omega⟩
 ·exact⟨by show x+bs-y-c<bs;omega,Nat.le_refl _,by show x+bs-y-c+y+c=x+bs*1;omega⟩
theorem fE {x y c:Nat} (hx:x<bs) (hy:y<bs) (hc:c<=1):(pls x y c).1<bs/\(pls x y c).2<=1:=by
 refine⟨Nat.mod_lt _ (by decide), ?_⟩
 show(x+y+c)/bs<=1
 have:(x+y+c)/bs<2:=Nat.div_lt_of_lt_mul (by omega)
 omega
def CR (pf:Nat->Nat->Nat->Nat×Nat) (la lb:List Nat):Nat->List Nat×Nat
 |0=>([],0)
 |i+1=>((CR pf la lb i).1++[(pf (lim la i) (lim lb i) (CR pf la lb i).2).1],(pf (lim la i) (lim lb i) (CR pf la lb i).2).2)
theorem Hs (pf:Nat->Nat->Nat->Nat×Nat) (la lb:List Nat): ∀i,(CR pf la lb i).1.length=i
 |0=>rfl
 |i+1=>by show(_++[_]).length=_;rw[List.length_append,Hs pf la lb i];rfl
theorem NF {pf:Nat->Nat->Nat->Nat×Nat} {la lb:List Nat} (hpf: ∀x y c,x<bs->y<bs->c<=1->(pf x y c).1<bs/\(pf x y c).2<=1) (ha: ∀x∈la,x<bs) (hb: ∀x∈lb,x<bs): ∀i,(∀x∈(CR pf la lb i).1,x<bs)/\(CR pf la lb i).2<=1
 |0=>⟨fun x hx=>(by cases hx),Nat.zero_le _⟩
 |i+1=>by
  obtain⟨h1,h2⟩:=NF hpf ha hb i
  obtain⟨h3,h4⟩:=hpf (lim la i) (lim lb i) (CR pf la lb i).2 (Bk bs2 ha i) (Bk bs2 hb i) h2
  refine⟨fun x hx=> ?_,h4⟩
  rcases List.mem_append.1 hx with hx|hx
  ·exact h1 x hx
  ·obtain rfl:=List.mem_singleton.1 hx;exact h3
theorem WN {a b m:Nat} (ha:a<bs^m) (hb:b<bs^m):lv bs (CR pls (lbs bs a) (lbs bs b) (m+1)).1=a+b:=by
 have h: ∀i,lv bs (CR pls (lbs bs a) (lbs bs b) i).1+bs^i*(CR pls (lbs bs a) (lbs bs b) i).2=a%bs^i+b%bs^i:=by
  intro i
  induction i with
  |zero=>show 0+bs^0*0=a%bs^0+b%bs^0;rw[Nat.pow_zero];omega
  |succ i ih=>exact Qh (Hs _ _ _ i) ih (by rw[Bo bs2,Bo bs2])
 exact XN bs2 (h (m+1)) ha hb
theorem U3 {a b m:Nat} (ha:a<bs^m) (hb:b<=a):lv bs (CR mns (lbs bs a) (lbs bs b) (m+1)).1=a-b:=by
 have hok:=fun i=>NF (pf:=mns) (fun x y c h1 h2 h3=>⟨(NY h1 h2 h3).1,(NY h1 h2 h3).2.1⟩) (Br bs2 a) (Br bs2 b) i
 have h: ∀i,lv bs (CR mns (lbs bs a) (lbs bs b) i).1+b%bs^i=a%bs^i+bs^i*(CR mns (lbs bs a) (lbs bs b) i).2:=by
  intro i
  induction i with
  |zero=>show 0+b%bs^0=a%bs^0+bs^0*0;rw[Nat.pow_zero];omega
  |succ i ih=>
   refine Pi (Hs _ _ _ i) ih ?_
   have:=(NY (Bk bs2 (Br bs2 a) i) (Bk bs2 (Br bs2 b) i) (hok i).2).2.2
   rw[<-Bo bs2 b i, <-Bo bs2 a i]
   exact this
 refine QG bs2 (Hs _ _ _ _) (hok (m+1)).1 (h (m+1)) (Nat.lt_of_lt_of_le ha (Nat.pow_le_pow_right (by decide) (by omega))) hb
theorem JW (W:World) (p q:Option Addr) (cap cap2:Nat) (la lb:List Nat) (g:Nat) (pf:Nat->Nat->Nat->Nat×Nat) (hE:AS Tryz.prog g=true)
  (hg: ∀x y c,x<bs->y<bs->c<=1->Be Tryz.prog g [.int .i64 (x:Nat), .int .i64 (y:Nat), .int .i64 (c:Nat)] (.tuple #[.int .i64 ((pf x y c).1:Nat), .int .i64 ((pf x y c).2:Nat)]))
  (hpf: ∀x y c,x<bs->y<bs->c<=1->(pf x y c).1<bs/\(pf x y c).2<=1)
  (hA:A6 W p la) (hB:A6 W q lb) (hla: ∀x∈la,x<bs) (hlb: ∀x∈lb,x<bs) (hna:la.length<=1000000) (hnb:lb.length<=1000000) (o:List Nat) (ho:o=(CR pf la lb (max la.length lb.length+1)).1):
  Ae Tryz.prog 187 #[slv p la.length cap,slv q lb.length cap2, .func (.func g) #[] #[]] W (fun x:NV=>B8 x (lbs bs (lv bs o)).length) (fun x=>C0 x (lbs bs (lv bs o))) (fun x=>[BM x (lbs bs (lv bs o))]):=by
 obtain⟨m,hm⟩: ∃m,m=max la.length lb.length:=⟨_,rfl⟩
 have hmx:(if (lb.length:Int)>(la.length:Int) then(lb.length:Int) else(la.length:Int))=(m:Int):=by
  rw[hm];split<;>omega
 have hm6:m<=1000000:=by omega
 refine Ab Tryz.func187 I I I<|xb<|wP I<|xf<|wP I<|xf<|wP I<|xk<|Ak I<|?_
 refine wV 16 (m:Nat) I hmx<|wP I<|wV 17 ((m+1:Nat):Int) I (by show w64 ((m:Int)+1)=_;rw[Ar (by omega) (by omega)];omega)<|NB ?_
 refine wP I<|xa<|zH<|?_
 refine Av (X:=Nat×Vec) (fun x=>[(0,slv p la.length cap),(1,slv q lb.length cap2),(2, .func (.func g) #[] #[]),(7,x.2.val x.1),(8, .int .i64 ((CR pf la lb x.1).2:Nat)),(17, .int .i64 ((m+1:Nat):Int)),(18, .int .i64 (x.1:Nat))]) (fun x=>[x.2.bx 3 (nI (CR pf la lb x.1).1)])
  (fun x=>x.1<=m+1/\x.2.OK 1 x.1 (nI (CR pf la lb x.1).1)) (fun x=>m+1-x.1) (0,Vec.empty) ⟨Nat.zero_le _,Vec.OK.empty 1⟩ ⟨rfl,rfl,rfl,rfl,rfl,rfl,rfl,trivial⟩ [] rfl ?_
 rintro⟨i,V⟩ ⟨hi,hV⟩
 obtain⟨h1,h2⟩:=NF hpf hla hlb i
 have h3:=Bk bs2 hla i
 have h4:=Bk bs2 hlb i
 refine xb<|wP I<|xl<|Ag I (fun hc=> ?_) (fun hc=> ?_)
 ·have hi':i<m+1:=by simp at hc;omega
  clear hc
  refine xh<|Aa I<|xf<|Ad I<|wC I I (fun W hp=>Kl W p cap la i (hA.hp hp) (by omega))<|Aa I<|wC I I (fun W hp=>Kl W q cap2 lb i (hB.hp hp) (by omega))<|wP I<|Bz (capt:=[]) I I I I I I hE (fun W _=>hg _ _ _ h3 h4 h2 W)<|Ak I<|?_
  refine xa<|zB<|Aa I<|?_
  (refine As Tryz.hZ tH rfl rfl rfl rfl rfl rfl rfl rfl rfl rfl rfl ?_;intro)
  refine AN (V:=V) (len:=i) (xs:=nI (CR pf la lb i).1) 0 1 Tryz.vec172 (i+1) (nI (CR pf la lb (i+1)).1) I I I I I I I I I I I hV I I I (Kz (CR pf la lb i).1 [(pf (lim la i) (lim lb i) (CR pf la lb i).2).1]).symm (by simp only[maxLen];omega) (by omega) I ?_
  intro g' cap' junk hV'
  exact Ad I<|zC<|xi<|Aa I<|zC<|Al (i+1,(⟨some g',cap',junk⟩:Vec)) ⟨hi',hV'⟩ (by show m+1-(i+1)<m+1-i;omega) ⟨I,I,I,I,I,I,congrArg (fun z=>some (Value.int .i64 z)) (AM (x:=(i:Int)+1) (by omega) (by omega)),tO⟩ [_] I
 ·have hi':i=m+1:=by simp at hc;omega
  subst hi'
  rw[<-hm] at ho
  subst ho
  have hl:(CR pf la lb (m+1)).1.length=m+1:=Hs _ _ _ _
  refine xg<|xn<|?_
  obtain⟨pV,cV,jV⟩:=V
  cases pV with
  |none=>exact absurd (hV.nil rfl) (by omega)
  |some gV=>
  have hV0:(⟨some gV,cV,jV⟩:Vec).OK 1 (CR pf la lb (m+1)).1.length (nI (CR pf la lb (m+1)).1):=by rw[hl];exact hV
  obtain⟨j',hV2,he⟩:=Hg hV0 h1
  exact wP I<|Ap 39 (slv (some ⟨gV,0,none⟩) (CR pf la lb (m+1)).1.length cV) I (by rw[hl];rfl)<|wC I I (fun W hp=>D3 W _ cV _ (A6.of_bx hp 0 I) h1 (by rw[hl];exact(hV.cap (by simp)).1) (by rw[hl];omega))<|wP I<|xc<|A3 tH I (.tmp I) ((gV,cV,j'):NV) I hV2 fun W hp=>Au.of_hp1 hp 0 (by show some (⟨gV,3,nI (CR pf la lb (m+1)).1++jV,true,none⟩:Bx)=some ⟨gV,3,nI (lbs bs (lv bs (CR pf la lb (m+1)).1))++j',true,none⟩;rw[he])
theorem R5 (n:Int) (hlen:(decDigits n.natAbs).length<=300):Be Tryz.prog 190 [str (itoa n)] (.int .i64 0):=by
 intro W
 refine Ab Tryz.func190 I I I<|xb<|wP I<|xf<|wP I<|wC I I (fun W _=>BH (itoa n) [45] W)<|Ap 5 (str (decDigits n.natAbs)) I (by rw[Bf])<|wP I<|xk<|Aa I<|?_
 obtain⟨b,rest,hd,hb1,hb2⟩:=CU n.natAbs
 have hne:((⟨(decDigits n.natAbs).toArray⟩:ByteArray).toList==(⟨#[]⟩:ByteArray).toList)=false:=by
  rw[HY,HY []];simp[F5]
 refine wU 7 false I hne<|Aa I<|Bc 0 tH I I I I I I I I (by rw[hd];rfl)<|wP I<|?_
 have hlen63:(decDigits n.natAbs).length<=9223372036854775807:=by omega
 by_cases hn:n=0
 ·have hb:b.toNat=48:=by
   rw[hn,show Int.natAbs 0=0 from rfl,HT] at hd
   injection hd with hd _
   rw[<-hd];rfl
  refine wU 11 true I (by rw[hb];rfl)<|Ad I<|wU 14 false I (by rw[hn,CC];simp)<|At I<|wC I I (fun W _=>N3 (decDigits n.natAbs) hlen63 W)<|Ap 19 (str []) I (by rw[V4])<|wP I<|wU 20 false I (by simp)<|wP I<|xa<|zS I<|xe<|xd<|Ad I<|?_
  refine xa<|?_
  refine Bh 24 (.bool false) I (congrArg Value.bool (by
   show decide (((⟨(decDigits n.natAbs).toArray⟩:ByteArray).size:Int)>300)=false
   have e:(⟨(decDigits n.natAbs).toArray⟩:ByteArray).size=(decDigits n.natAbs).length:=by show(decDigits n.natAbs).toArray.size=_;simp
   rw[e,decide_eq_false_iff_not];omega)) ?_
  exact zS I<|xm<|wP I<|xc<|wR1 I I I
 ·have hb:b.toNat≠48:=by
   obtain⟨b',r',e1,e2⟩:=Na n.natAbs (by omega)
   rw[hd] at e1
   injection e1 with e1 _
   rw[e1];exact e2
  refine wU 11 false I (by rw[beq_eq_false_iff_ne];omega)<|wP I<|?_
  iterate 2 refine Af I I ?_
  refine At I<|wC I I (fun W _=>N3 (decDigits n.natAbs) hlen63 W)<|Ap 19 (str []) I (by rw[V4])<|wP I<|wU 20 false I (by simp)<|wP I<|xa<|zS I<|xe<|xd<|Ad I<|xa<|?_
  refine Bh 24 (.bool false) I (congrArg Value.bool (by
   show decide (((⟨(decDigits n.natAbs).toArray⟩:ByteArray).size:Int)>300)=false
   have e:(⟨(decDigits n.natAbs).toArray⟩:ByteArray).size=(decDigits n.natAbs).length:=by show(decDigits n.natAbs).toArray.size=_;simp
   rw[e,decide_eq_false_iff_not];omega)) ?_
  exact zS I<|xm<|wP I<|xc<|wR1 I I I
def okN (z:Int):Prop:=z.natAbs<Bw
theorem okN.dd {z:Int} (h:okN z):(decDigits z.natAbs).length<=300:=Ih.2 h
theorem okN.check {z:Int} (h:okN z):Be Tryz.prog 190 [str (itoa z)] (.int .i64 0):=R5 z h.dd
theorem Eo (a b:Int) (ha:okN a) (hb:okN b):Be Tryz.prog 129 [str (itoa a),str (itoa b)] (.int .i64 0):=by
 intro W
 refine Ab Tryz.func129 I I I<|xb<|wP I<|xk<|wP I<|wC I I (fun W _=>ha.check W)<|wP I<|xf<|Aa I<|xa<|zS I<|xe<|zA<|?_
 exact zB<|wP I<|wC I I (fun W _=>hb.check W)<|wP I<|xc<|wR1 I I I
theorem NZ (n:Int):n.natAbs<10^(itoa n).length:=by
 unfold itoa
 split
 ·have:=Fq n.natAbs
  rw[List.length_cons,Nat.pow_succ]
  omega
 ·have:=Fq n.toNat
  rw[show n.natAbs=n.toNat by omega];exact this
theorem Vg {n:Int} {k:Nat} (h:(itoa n).length<=k):n.natAbs<10^k:=Nat.lt_of_lt_of_le (NZ n) (Nat.pow_le_pow_right (by decide) h)
theorem Fh {n:Int} (h:(itoa n).length<=18): -1000000000000000000<n/\n<1000000000000000000:=by
 have:=Vg h
 have h2:n.natAbs<1000000000000000000:=this
 omega
theorem S5 (n:Int):0<(itoa n).length:=by
 unfold itoa
 split
 ·simp
 ·have:=F5 n.toNat
  exact List.length_pos_iff.2 this
theorem EY (a b:Int) (ha:(itoa a).length<=18) (hb:(itoa b).length<=18):Be Tryz.prog 130 [str (itoa a),str (itoa b), .int .i64 18] (.tuple #[.int .i64 a, .int .i64 b, .bool true]):=by
 intro W
 obtain⟨a1,a2⟩:=Fh ha
 obtain⟨b1,b2⟩:=Fh hb
 refine Ab Tryz.func130 I I I<|xb<|Ad I<|xk<|At I<|wU 16 false I (by show decide (((⟨(itoa a).toArray⟩:ByteArray).size:Int)>18)=false;rw[A5,decide_eq_false_iff_not];omega)<|Ak I<|wU 21 false I (by show decide (((⟨(itoa b).toArray⟩:ByteArray).size:Int)>18)=false;rw[A5,decide_eq_false_iff_not];omega)<|wP I<|zC<|?_
 refine zE<|zS I<|xm<|wP I<|wC I I (fun W _=>OM a (by omega) (by omega) W)<|Ak I<|xf<|wP I<|wC I I (fun W _=>OM b (by omega) (by omega) W)<|Ak I<|?_
 refine xl<|zU<|AY I<|Qz I I I I I ?_
 refine Ay I<|Qz I I I I I ?_
 exact Cd I<|zD<|xc<|wR3 I I I
theorem Hf (a b:Int) (h: ¬((itoa a).length<=18/\(itoa b).length<=18)):Be Tryz.prog 130 [str (itoa a),str (itoa b), .int .i64 18] (.tuple #[.int .i64 0, .int .i64 0, .bool false]):=by
 intro W
 refine Ab Tryz.func130 I I I<|xb<|Ad I<|xk<|At I<|?_
 by_cases ha:(itoa a).length<=18
 ·have hb: ¬(itoa b).length<=18:=fun hb=>h ⟨ha,hb⟩
  exact wU 16 false I (by show decide (((⟨(itoa a).toArray⟩:ByteArray).size:Int)>18)=false;rw[A5,decide_eq_false_iff_not];omega)<|Ak I<|wU 21 true I (by show decide (((⟨(itoa b).toArray⟩:ByteArray).size:Int)>18)=true;rw[A5,decide_eq_true_iff];omega)<|wP I<|xa<|zR I<|xb<|Ad I<|xo<|wR3 I I I
 ·refine wU 16 true I (by show decide (((⟨(itoa a).toArray⟩:ByteArray).size:Int)>18)=true;rw[A5,decide_eq_true_iff];omega)<|wP I<|?_
  iterate 4 refine Af I I ?_
  exact wP I<|xa<|zR I<|xb<|Ad I<|xo<|wR3 I I I
theorem WV: ∀k,mxd<=9*k->Bw<=bs^k:=fun k hk=>by
 have h:bs^k=10^(9*k):=by rw[show bs=10^9 by decide, <-Nat.pow_mul]
 rw[h]
 unfold Bw
 exact Nat.pow_le_pow_right (by decide) hk
theorem ER {m:Nat} (h:m<Bw):(lbs bs m).length<=34:=(BZ bs2).2 (Nat.lt_of_lt_of_le h (WV 34 (by decide)))
theorem LG (z:Int): ∃s e,Mi z= .tuple #[str s, .int .i64 e]:=by
 unfold Mi
 split
 ·exact⟨_,_,I⟩
 ·exact⟨_,_,I⟩
theorem G8 {z:Int} (h:okN z):Mi z= .tuple #[str (itoa z), .int .i64 0]:=if_pos h
theorem IZ {z:Int} (h:z.natAbs<10^20):okN z:=Nat.lt_of_lt_of_le h (Nat.pow_le_pow_right (by decide) (show 20<=mxd by decide))
theorem FD (a:Int):sg (decide (a<0)) a.natAbs=a:=by
 unfold sg
 by_cases h:a<0
 ·rw[dT h,if_pos rfl];omega
 ·rw[dF h,if_neg (by decide)];omega
theorem dU (a b:Int):sg (decide (a<0) !=decide (b<0)) (a.natAbs*b.natAbs)=a*b:=by
 have e1:=FD a
 have e2:=FD b
 conv=>rhs;rw[<-e1, <-e2]
 unfold sg
 by_cases ha:a<0<;>by_cases hb:b<0<;>simp[ha,hb,Int.neg_mul,Int.mul_neg]
theorem TU (W:World) (p q:Option Addr) (cap cap2 a b:Nat) (hA:A6 W p (lbs bs a)) (hB:A6 W q (lbs bs b)) (hna:(lbs bs a).length<=1000000) (hnb:(lbs bs b).length<=1000000):
  Ae Tryz.prog 187 #[slv p (lbs bs a).length cap,slv q (lbs bs b).length cap2, .func (.func 188) #[] #[]] W (fun x:NV=>B8 x (lbs bs (a+b)).length) (fun x=>C0 x (lbs bs (a+b))) (fun x=>[BM x (lbs bs (a+b))]):=by
 have h:=JW W p q cap cap2 (lbs bs a) (lbs bs b) 188 pls (by kernel_rfl) (fun x y c h1 h2 h3=>UN x y c h1 h2 h3) (fun x y c h1 h2 h3=>fE h1 h2 h3) hA hB (Br bs2 a) (Br bs2 b) hna hnb _ rfl
 rw[WN (m:=max (lbs bs a).length (lbs bs b).length) (Nat.lt_of_lt_of_le (AJ bs2 a) (Nat.pow_le_pow_right (by decide) (Nat.le_max_left ..))) (Nat.lt_of_lt_of_le (AJ bs2 b) (Nat.pow_le_pow_right (by decide) (Nat.le_max_right ..)))] at h
 exact h
theorem KY (W:World) (p q:Option Addr) (cap cap2 a b:Nat) (hA:A6 W p (lbs bs a)) (hB:A6 W q (lbs bs b)) (hna:(lbs bs a).length<=1000000) (hnb:(lbs bs b).length<=1000000) (hab:b<=a):
  Ae Tryz.prog 187 #[slv p (lbs bs a).length cap,slv q (lbs bs b).length cap2, .func (.func 189) #[] #[]] W (fun x:NV=>B8 x (lbs bs (a-b)).length) (fun x=>C0 x (lbs bs (a-b))) (fun x=>[BM x (lbs bs (a-b))]):=by
 have h:=JW W p q cap cap2 (lbs bs a) (lbs bs b) 189 mns (by kernel_rfl) (fun x y c h1 h2 h3=>SM x y c h1 h2 h3) (fun x y c h1 h2 h3=>⟨(NY h1 h2 h3).1,(NY h1 h2 h3).2.1⟩) hA hB (Br bs2 a) (Br bs2 b) hna hnb _ rfl
 rw[U3 (m:=max (lbs bs a).length (lbs bs b).length) (Nat.lt_of_lt_of_le (AJ bs2 a) (Nat.pow_le_pow_right (by decide) (Nat.le_max_left ..))) hab] at h
 exact h
abbrev Ik (b:Nat) (mi:Bool) (p:Option Addr) (n cap:Nat):Bx:=⟨b,174,[.bool mi,slv p n cap],true,none⟩
theorem Kh (W:World) (p q:Option Addr) (cap cap2 a b:Nat) (mi mj:Bool) (hA:A6 W p (lbs bs a)) (hB:A6 W q (lbs bs b)) (hna:(lbs bs a).length<=1000000) (hnb:(lbs bs b).length<=1000000):
  Ae Tryz.prog 132 #[.agg #[.bool mi,slv p (lbs bs a).length cap], .agg #[.bool mj,slv q (lbs bs b).length cap2]] W (fun x:Bool×Nat×NV=> .agg #[.bool x.1,B8 x.2.2 (lbs bs x.2.1).length]) (fun x=>sg x.1 x.2.1=sg mi a+sg mj b/\C0 x.2.2 (lbs bs x.2.1)/\x.2.1<=a+b) (fun x=>[BM x.2.2 (lbs bs x.2.1)]):=by
 refine Ab Tryz.func132 I I I<|xb<|wF I I fun _=>wF I I fun _=>wG I I fun _=>zC<|?_
 rename_i b2 b3 b4
 refine zE<|zA<|zH<|xb<|wP I<|wB 0 I I I<|wP I<|wB 1 I I I<|EE Tryz.underlying4 I I I I I I ?_
 refine wP I<|xa<|?_
 by_cases hm:mi=mj
 ·refine Bh 5 (.bool true) I (congrArg Value.bool (by rw[hm];simp)) ?_
  refine zR I<|zA<|?_
  refine AV (X:= { x:NV//C0 x (lbs bs (a+b)) }) [true,true,true,true,true,true,false,false,false] (fun _=>[(4,Ai b4)]) (fun x=>[Ik b2 mi p (lbs bs a).length cap,Ik b3 mj q (lbs bs b).length cap2,Ik b4 mi (some ⟨x.1.1,0,none⟩) (lbs bs (a+b)).length x.1.2.1,BM x.1 (lbs bs (a+b))])
   3 [Ik b2 mi p (lbs bs a).length cap,Ik b3 mj q (lbs bs b).length cap2,Gf] Tryz.mixed (by kernel_rfl) ?_ ?_
  ·refine qP I<|qB 0 I I I<|qP I<|qB 0 I I I<|qP I<|qB 1 I I I<|BR<|wX<|wZ<|wD (X:=NV) I I (fun W' hp=>TU W' p q cap cap2 a b (hA.hp hp) (hB.hp hp) hna hnb) (fun x hx=> ?_)
   refine zC<|Ah<|wX<|wZ<|An Tryz.hZ tH I I I I I I I I ?_
   refine zC<|Ah<|wX<|wZ<|wS 2 I I I<|zC<|Ah<|?_
   refine AF I (by((repeat (first|refine AK.same ?_|refine AK.off I ?_));exact tO)) ?_
   exact A7 (⟨x,hx⟩: { x:NV//C0 x (lbs bs (a+b)) }) ⟨I,tO⟩ [0,1,2,3] (by decide) I
  rintro⟨x,hx⟩
  exact zE<|zO<|zQ<|zP<|A3 tH rfl (.cell 2 rfl rfl rfl rfl rfl) (mi,a+b,x) rfl ⟨by subst hm;cases mi<;>simp[sg]<;>omega,hx,Nat.le_refl _⟩ fun W' hp=>Au.of_hp1 hp 3 rfl
 ·refine Bh 5 (.bool false) I (congrArg Value.bool (by simp[hm])) ?_
  refine zS I<|xb<|wP I<|wB 0 I I I<|wP I<|wB 1 I I I<|wD (X:=Int) I I (fun W' hp=>JM W' p q cap cap2 a b (hA.hp hp) (hB.hp hp) hna hnb) ?_
  intro c hc
  refine Aa I<|xa<|?_
  by_cases hab:b<=a
  ·refine Bh 19 (.bool true) I (congrArg Value.bool (dT (by
    rcases Nat.lt_or_ge b a with h|h
    ·have h1:=hc.1;have h2:=hc.2;omega
    ·have h2:=hc.2.2 (by omega);omega))) ?_
   refine zR I<|zA<|?_
   refine AV (X:= { x:NV//C0 x (lbs bs (a-b)) }) [true,true,true,true,true,true,false,false,false] (fun _=>[(4,Ai b4)]) (fun x=>[Ik b2 mi p (lbs bs a).length cap,Ik b3 mj q (lbs bs b).length cap2,Ik b4 mi (some ⟨x.1.1,0,none⟩) (lbs bs (a-b)).length x.1.2.1,BM x.1 (lbs bs (a-b))])
    3 [Ik b2 mi p (lbs bs a).length cap,Ik b3 mj q (lbs bs b).length cap2,Gf] Tryz.mixed (by kernel_rfl) ?_ ?_
   ·refine qP I<|qB 0 I I I<|qP I<|qB 0 I I I<|qP I<|qB 1 I I I<|BR<|wX<|wZ<|wD (X:=NV) I I (fun W' hp=>KY W' p q cap cap2 a b (hA.hp hp) (hB.hp hp) hna hnb hab) (fun x hx=> ?_)
    refine zC<|Ah<|wX<|wZ<|An Tryz.hZ tH I I I I I I I I ?_
    refine zC<|Ah<|wX<|wZ<|wS 2 I I I<|zC<|Ah<|?_
    refine AF I (by((repeat (first|refine AK.same ?_|refine AK.off I ?_));exact tO)) ?_
    exact A7 (⟨x,hx⟩: { x:NV//C0 x (lbs bs (a-b)) }) ⟨I,tO⟩ [0,1,2,3] (by decide) I
   rintro⟨x,hx⟩
   exact zE<|zO<|zQ<|zP<|A3 tH rfl (.cell 2 rfl rfl rfl rfl rfl) (mi,a-b,x) rfl ⟨by cases mi<;>cases mj<;>simp_all [sg]<;>omega,hx,by show a-b<=a+b;omega⟩ fun W' hp=>Au.of_hp1 hp 3 rfl
  ·refine Bh 19 (.bool false) I (congrArg Value.bool (dF (by have h1:=hc.1.2 (by omega);omega))) ?_
   refine zS I<|zI<|zN<|zE<|zA<|?_
   refine AV (X:= { x:NV//C0 x (lbs bs (b-a)) }) [true,true,true,true,true,true,false,false,false] (fun _=>[(4,Ai b4)]) (fun x=>[Ik b2 mi p (lbs bs a).length cap,Ik b3 mj q (lbs bs b).length cap2,Ik b4 mj (some ⟨x.1.1,0,none⟩) (lbs bs (b-a)).length x.1.2.1,BM x.1 (lbs bs (b-a))])
    3 [Ik b2 mi p (lbs bs a).length cap,Ik b3 mj q (lbs bs b).length cap2,Gf] Tryz.mixed (by kernel_rfl) ?_ ?_
   ·refine qP I<|qB 1 I I I<|qP I<|qB 1 I I I<|qP I<|qB 0 I I I<|BR<|wX<|wZ<|wD (X:=NV) I I (fun W' hp=>KY W' q p cap2 cap b a (hB.hp hp) (hA.hp hp) hnb hna (by omega)) (fun x hx=> ?_)
    refine zC<|Ah<|wX<|wZ<|An Tryz.hZ tH I I I I I I I I ?_
    refine zC<|Ah<|wX<|wZ<|wS 2 I I I<|zC<|Ah<|?_
    refine AF I (by((repeat (first|refine AK.same ?_|refine AK.off I ?_));exact tO)) ?_
    exact A7 (⟨x,hx⟩: { x:NV//C0 x (lbs bs (b-a)) }) ⟨I,tO⟩ [0,1,2,3] (by decide) I
   rintro⟨x,hx⟩
   exact zE<|zO<|A3 tH rfl (.cell 2 rfl rfl rfl rfl rfl) (mj,b-a,x) rfl ⟨by cases mi<;>cases mj<;>simp_all [sg]<;>omega,hx,by show b-a<=a+b;omega⟩ fun W' hp=>Au.of_hp1 hp 3 rfl
theorem bD (a b:Nat):(lbs bs (a*b)).length<=(lbs bs a).length+(lbs bs b).length:=(BZ bs2).2 (by
 rw[Nat.pow_add]
 exact Nat.mul_lt_mul'' (AJ bs2 a) (AJ bs2 b))
theorem RK {a b k:Nat} (h:a<=b) (hb:(lbs bs b).length<=k):(lbs bs a).length<=k:=Nat.le_trans (Lm h) hb
theorem VX {a b:Nat} (ha:(lbs bs a).length<=34) (hb:(lbs bs b).length<=34):(lbs bs (a+b)).length<=35:=(BZ bs2).2 (by
 have h1:=(BZ bs2).1 ha
 have h2:=(BZ bs2).1 hb
 have h3:bs^35=bs^34*bs:=Nat.pow_succ ..
 have h4:bs^34*2<=bs^34*bs:=Nat.mul_le_mul_left _ (by decide)
 rw[h3];omega)
theorem VM {a b i j k:Nat} (ha:a<10^i) (hb:b<10^j) (h:i+j<=k):a*b<10^k:=by
 have h1:a*b<10^i*10^j:=Nat.mul_lt_mul'' ha hb
 rw[<-Nat.pow_add] at h1
 exact Nat.lt_of_lt_of_le h1 (Nat.pow_le_pow_right (by decide) h)
theorem Ck (a b:Int) (ha:okN a) (hb:okN b) (W:World) (ht:A9 W):
  Ae Tryz.prog 98 #[str (itoa a),str (itoa b)] W (fun _:Unit=>Mi (a*b)) (fun _=>True) (fun _=>[]):=by
 have hla:=ER ha
 have hlb:=ER hb
 refine Ab Tryz.func98 I I I<|xb<|Aa I<|xk<|Aa I<|wC I I (fun W _=>Eo a b ha hb W)<|wP I<|xf<|Aa I<|xa<|zS I<|zI<|?_
 refine zE<|xd<|Aa I<|Ap 19 (.int .i64 ((itoa a).length:Nat)) I (congrArg (fun n:Nat=>Value.int .i64 (n:Int)) (A5 _))<|Aa I<|Ap 21 (.int .i64 ((itoa b).length:Nat)) I (congrArg (fun n:Nat=>Value.int .i64 (n:Int)) (A5 _))<|?_
 have hia:(itoa a).length<=301:=by
  have:=ha.dd
  unfold itoa
  split
  ·rw[List.length_cons];omega
  ·rw[show a.toNat=a.natAbs by omega];omega
 have hib:(itoa b).length<=301:=by
  have:=hb.dd
  unfold itoa
  split
  ·rw[List.length_cons];omega
  ·rw[show b.toNat=b.natAbs by omega];omega
 refine wP I<|wV 22 (((itoa a).length+(itoa b).length:Nat):Int) I (AU (by omega))<|wP I<|xa<|?_
 by_cases hs:(itoa a).length+(itoa b).length<=18
 ·have hpa:=S5 a
  have hpb:=S5 b
  have hm:(a*b).natAbs<10^18:=by
   rw[Int.natAbs_mul]
   exact VM (NZ a) (NZ b) hs
  have hm':(a*b).natAbs<1000000000000000000:=hm
  refine Bh 23 (.bool true) I (congrArg Value.bool (dT (by omega))) ?_
  refine zR I<|xb<|Aa I<|wC I I (fun W _=>EY a b (by omega) (by omega) W)<|AE I<|wP I<|xf<|wP I<|xa<|zR I<|xb<|Ad I<|?_
  exact wV 34 (a*b) I (Ar (by omega) (by omega))<|wC I I (fun W hp=>Bt (a*b) (by omega) (by omega) W (ht.hp hp))<|Aa I<|xo<|A4 tH I (.tmp I) (.tmp I) () (G8 (IZ (Nat.lt_trans hm (by decide)))).symm tO fun W _=>Au.nil _ _
 ·refine Bh 23 (.bool false) I (congrArg Value.bool (dF (by omega))) ?_
  refine zS I<|xm<|?_
  obtain⟨s,e,hres⟩:=LG (a*b)
  refine wP I ?_
  refine wD (X:=NV) I I (fun W _=>Cm W a (by have:=ha.dd;omega)) ?_
  rintro⟨g1,c1,j1⟩ hV1
  refine wP I ?_
  refine wD (X:=NV) I I (fun W _=>Cm W b (by have:=hb.dd;omega)) ?_
  rintro⟨g2,c2,j2⟩ hV2
  refine wG I I fun _=>wG I I fun _=>wS 2 I I I<|wS 3 I I I<|zC<|?_
  rename_i b10 b11
  refine zE<|zA<|?_
  refine AV (X:=Unit) [true,true,true,true,true,true,true,true,true,false,false,false,false,false,false,false] (fun _=>[(4,str s),(5, .int .i64 e)]) (fun _=>[])
   7 [BM (g1,c1,j1) (lbs bs a.natAbs),BM (g2,c2,j2) (lbs bs b.natAbs),Ik b10 (decide (a<0)) (some ⟨g1,0,none⟩) (lbs bs a.natAbs).length c1,Ik b11 (decide (b<0)) (some ⟨g2,0,none⟩) (lbs bs b.natAbs).length c2] Tryz.mixed (by kernel_rfl) ?_ ?_
  ·refine qP I<|qB 2 I I I<|qP I<|qB 3 I I I<|Vc Tryz.underlying4 I I I I I I ?_
   refine qP I<|qB 2 I I I<|qP I<|qB 3 I I I<|BR<|wX<|wZ<|wD (X:=NV) I I (fun W' hp=>Mx W' _ _ c1 c2 a.natAbs b.natAbs (A6.of_bx hp 0 I) (A6.of_bx hp 1 I) (by omega) (by omega)) (fun x hx=> ?_)
   refine zC<|Ah<|wX<|wZ<|An Tryz.hZ tH I I I I I I I I ?_
   refine zC<|Ah<|wX<|wZ<|wC I I (fun W' hp=>(CF W' (some ⟨x.1,0,none⟩) x.2.1 (decide (a<0) !=decide (b<0)) (a.natAbs*b.natAbs) (A6.of_bx hp 4 I) (by have:=bD a.natAbs b.natAbs;omega) (ht.hp hp)).cast (by rw[dU,hres]))<|zC<|Ah<|wX<|RS.cons ?_ (RS.cons ?_ (RS.nil))
   ·refine wP I<|zC<|Ah<|wX<|wZ<|wP I<|zC<|Ah<|wX<|wZ<|wP I<|zC<|Ah<|wX<|wZ<|wP I<|zC<|Ah<|?_
    refine AF I (by((repeat (first|refine AK.same ?_|refine AK.off I ?_));exact tO)) ?_
    exact A7 () ⟨I,I,tO⟩ [] (by decide) I
   ·refine wP I<|zC<|Ah<|wX<|wZ<|wP I<|zC<|Ah<|wX<|wZ<|wP I<|zC<|Ah<|wX<|wZ<|wP I<|zC<|Ah<|?_
    refine AF I (by((repeat (first|refine AK.same ?_|refine AK.off I ?_));exact tO)) ?_
    exact A7 () ⟨I,I,tO⟩ [] (by decide) I
  intro _
  exact zE<|zO<|wR2 I I hres.symm
theorem XP (mi:Bool) (m:Nat):sg (!mi) m= -sg mi m:=by cases mi<;>simp[sg]
theorem SO (a b:Int) (ha:okN a) (hb:okN b) (W:World) (ht:A9 W):
  Ae Tryz.prog 76 #[str (itoa a),str (itoa b)] W (fun _:Unit=>Mi (a+b)) (fun _=>True) (fun _=>[]):=by
 have hla:=ER ha
 have hlb:=ER hb
 refine Ab Tryz.func76 I I I<|xb<|Aa I<|xk<|Aa I<|wC I I (fun W _=>Eo a b ha hb W)<|wP I<|xf<|Aa I<|xa<|zS I<|zI<|?_
 refine zE<|xd<|Aa I<|?_
 by_cases hs:(itoa a).length<=18/\(itoa b).length<=18
 ·obtain⟨a1,a2⟩:=Fh hs.1
  obtain⟨b1,b2⟩:=Fh hs.2
  have hm:(a+b).natAbs<10^20:=by
   have:(a+b).natAbs<100000000000000000000:=by omega
   exact this
  refine wC I I (fun W _=>EY a b hs.1 hs.2 W)<|AE I<|wP I<|xf<|wP I<|xa<|zR I<|xb<|Ad I<|wV 26 (a+b) I (Ar (by omega) (by omega))<|wC I I (fun W hp=>Bt (a+b) (by omega) (by omega) W (ht.hp hp))<|Aa I<|?_
  exact xo<|A4 tH I (.tmp I) (.tmp I) () (G8 (IZ hm)).symm tO fun W _=>Au.nil _ _
 ·obtain⟨s,e,hres⟩:=LG (a+b)
  refine wC I I (fun W _=>Hf a b hs W)<|AE I<|wP I<|xf<|wP I<|xa<|zS I<|xm<|wP I<|?_
  refine wD (X:=NV) I I (fun W _=>Cm W a (by have:=ha.dd;omega)) ?_
  rintro⟨g1,c1,j1⟩ hV1
  refine wP I ?_
  refine wD (X:=NV) I I (fun W _=>Cm W b (by have:=hb.dd;omega)) ?_
  rintro⟨g2,c2,j2⟩ hV2
  refine wD (X:=Bool×Nat×NV) I I (fun W' hp=>Kh W' _ _ c1 c2 a.natAbs b.natAbs (decide (a<0)) (decide (b<0)) (A6.of_bx hp 0 I) (A6.of_bx hp 1 I) (by omega) (by omega)) ?_
  rintro⟨mk,k,x⟩ ⟨hk1,hk2,hk3⟩
  have hk1:sg mk k=sg (decide (a<0)) a.natAbs+sg (decide (b<0)) b.natAbs:=hk1
  rw[FD,FD] at hk1
  have hk3:k<=a.natAbs+b.natAbs:=hk3
  exact wC I I (fun W' hp=>(CF W' (some ⟨x.1,0,none⟩) x.2.1 mk k (A6.of_bx hp 2 I) (by have:=RK hk3 (VX hla hlb);omega) (ht.hp hp)).cast (by rw[hk1,hres]))<|At I<|xc<|wR2 I I hres.symm
theorem NN (a b:Int) (ha:okN a) (hb:okN b) (W:World) (ht:A9 W):
  Ae Tryz.prog 78 #[str (itoa a),str (itoa b)] W (fun _:Unit=>Mi (a-b)) (fun _=>True) (fun _=>[]):=by
 have hla:=ER ha
 have hlb:=ER hb
 refine Ab Tryz.func78 I I I<|xb<|Aa I<|xk<|Aa I<|wC I I (fun W _=>Eo a b ha hb W)<|wP I<|xf<|Aa I<|xa<|zS I<|zI<|?_
 refine zE<|xd<|Aa I<|?_
 by_cases hs:(itoa a).length<=18/\(itoa b).length<=18
 ·obtain⟨a1,a2⟩:=Fh hs.1
  obtain⟨b1,b2⟩:=Fh hs.2
  have hm:(a-b).natAbs<10^20:=by
   have:(a-b).natAbs<100000000000000000000:=by omega
   exact this
  refine wC I I (fun W _=>EY a b hs.1 hs.2 W)<|AE I<|wP I<|xf<|wP I<|xa<|zR I<|xb<|Ad I<|wV 27 (a-b) I (Ar (by omega) (by omega))<|wC I I (fun W hp=>Bt (a-b) (by omega) (by omega) W (ht.hp hp))<|Aa I<|?_
  exact xo<|A4 tH I (.tmp I) (.tmp I) () (G8 (IZ hm)).symm tO fun W _=>Au.nil _ _
 ·obtain⟨s,e,hres⟩:=LG (a-b)
  refine wC I I (fun W _=>Hf a b hs W)<|AE I<|wP I<|xf<|wP I<|xa<|zS I<|xm<|wP I<|?_
  refine wD (X:=NV) I I (fun W _=>Cm W b (by have:=hb.dd;omega)) ?_
  rintro⟨g2,c2,j2⟩ hV2
  refine wG I I fun _=>wS 1 I I I<|zC<|?_
  rename_i b10
  refine xn<|wP I<|wB 1 I I I<|Aa I<|wS 1 I I I<|xl<|?_
  refine AV (X:=Unit) [true,false,true,false,false,false,false,false,false] (fun _=>[(4,str s),(5, .int .i64 e)]) (fun _=>[])
   7 [BM (g2,c2,j2) (lbs bs b.natAbs),Ik b10 (!(decide (b<0))) (some ⟨g2,0,none⟩) (lbs bs b.natAbs).length c2] Tryz.mixed (by kernel_rfl) ?_ ?_
  ·refine qP I<|qB 1 I I I<|BR<|wX<|wZ<|?_
   refine wD (X:=NV) I I (fun W _=>Cm W a (by have:=ha.dd;omega)) (fun y hy=> ?_)
   refine zC<|Ah<|wX<|wZ<|wD (X:=Bool×Nat×NV) I I (fun W' hp=>Kh W' _ _ y.2.1 c2 a.natAbs b.natAbs (decide (a<0)) (!(decide (b<0))) (A6.of_bx hp 2 I) (A6.of_bx hp 0 I) (by omega) (by omega)) (fun x hx=> ?_)
   refine zC<|Ah<|wX<|wZ<|wC I I (fun W' hp=>(CF W' (some ⟨x.2.2.1,0,none⟩) x.2.2.2.1 x.1 x.2.1 (A6.of_bx hp 3 I) (by have:=RK hx.2.2 (VX hla hlb);omega) (ht.hp hp)).cast (by rw[hx.1,FD,XP,FD, <-Int.sub_eq_add_neg,hres]))<|zC<|Ah<|wX<|RS.cons ?_ (RS.cons ?_ (RS.nil))
   ·refine wP I<|zC<|Ah<|wX<|wZ<|wP I<|zC<|Ah<|wX<|wZ<|wP I<|zC<|Ah<|wX<|wZ<|wP I<|zC<|Ah<|?_
    refine AF I (by((repeat (first|refine AK.same ?_|refine AK.off I ?_));exact tO)) ?_
    exact A7 () ⟨I,I,tO⟩ [] (by decide) I
   ·refine wP I<|zC<|Ah<|wX<|wZ<|wP I<|zC<|Ah<|wX<|wZ<|wP I<|zC<|Ah<|wX<|wZ<|wP I<|zC<|Ah<|?_
    refine AF I (by((repeat (first|refine AK.same ?_|refine AK.off I ?_));exact tO)) ?_
    exact A7 () ⟨I,I,tO⟩ [] (by decide) I
  intro _
  exact zE<|zO<|wR2 I I hres.symm
def Hb (a b:Int):Int:=if a<b then -1 else if a=b then 0 else 1
theorem P6 (a b:Int):compareInt a b=Hb a b:=by
 unfold compareInt Hb
 repeat split
 all_goals first|rfl|omega
theorem Km (a b:Int):Be Tryz.prog 114 [.int .i64 a, .int .i64 b] (.int .i64 (Hb a b)):=by
 intro W
 refine Ae.of1 ((Tryz.cmp_Compare_int a b W).mono ?_)
 rintro e w' ⟨rfl,rfl⟩
 exact⟨by rw[P6],Below.refl _ _⟩
theorem I8 (a b:Int) (ha:okN a) (hb:okN b) (W:World):
  Ae Tryz.prog 116 #[str (itoa a),str (itoa b)] W (fun _:Unit=> .tuple #[.int .i64 (Hb a b), .int .i64 0]) (fun _=>True) (fun _=>[]):=by
 have hla:=ER ha
 have hlb:=ER hb
 refine Ab Tryz.func116 I I I<|xb<|Aa I<|xk<|Aa I<|wC I I (fun W _=>Eo a b ha hb W)<|wP I<|xf<|Aa I<|xa<|zS I<|zI<|?_
 refine zE<|xd<|Aa I<|?_
 by_cases hs:(itoa a).length<=18/\(itoa b).length<=18
 ·refine wC I I (fun W _=>EY a b hs.1 hs.2 W)<|AE I<|wP I<|xf<|wP I<|xa<|zR I<|xb<|Aa I<|wC I I (fun W _=>Km a b W)<|Aa I<|zC<|?_
  exact zE<|zO<|zP<|wR2 I I I
 ·refine wC I I (fun W _=>Hf a b hs W)<|AE I<|wP I<|xf<|wP I<|xa<|zS I<|xm<|wP I<|?_
  refine wD (X:=NV) I I (fun W _=>Cm W a (by have:=ha.dd;omega)) ?_
  rintro⟨g1,c1,j1⟩ hV1
  refine wP I ?_
  refine wD (X:=NV) I I (fun W _=>Cm W b (by have:=hb.dd;omega)) ?_
  rintro⟨g2,c2,j2⟩ hV2
  refine wG I I fun _=>wG I I fun _=>wS 2 I I I<|wS 3 I I I<|zC<|?_
  rename_i b10 b11
  refine xn<|wP I<|wB 3 I I I<|Aa I<|wS 3 I I I<|xk<|wB 2 I I I<|wB 3 I I I<|wD (X:=Bool×Nat×NV) I I (fun W' hp=>Kh W' _ _ c1 c2 a.natAbs b.natAbs (decide (a<0)) (!(decide (b<0))) (A6.of_bx hp 0 I) (A6.of_bx hp 1 I) (by omega) (by omega)) ?_
  rintro⟨mk,k,x⟩ ⟨hk1,hk2,hk3⟩
  have hk1:sg mk k=sg (decide (a<0)) a.natAbs+sg (!(decide (b<0))) b.natAbs:=hk1
  rw[FD,XP,FD] at hk1
  refine wG I I fun _=>wS 5 I I I<|zC<|?_
  rename_i b12
  refine zE<|zH<|xb<|wP I<|wB 5 I I I<|Ad I<|xa<|?_
  by_cases hz:k=0
  ·have hab:a=b:=by subst hz;rw[KU] at hk1;omega
   refine Bh 41 (.bool true) I (congrArg Value.bool (by rw[hz,Bg];rfl)) ?_
   exact zR I<|xb<|Aa I<|xc<|zQ<|zP<|wR2 I I (by unfold Hb;rw[if_neg (by omega),if_pos hab])
  ·have h0:=OF hz
   refine Bh 41 (.bool false) I (congrArg Value.bool (by rw[beq_eq_false_iff_ne];show((lbs bs k).length:Int)≠0;omega)) ?_
   refine zS I<|xb<|wP I<|wB 5 I I I<|wP I<|xa<|?_
   cases mk with
   |true=>
    have hab:a<b:=by
     have:sg true k= -(k:Int):=rfl
     omega
    exact zR I<|xb<|Aa I<|xc<|zQ<|zP<|wR2 I I (by unfold Hb;rw[if_pos hab])
   |false=>
    have hab:b<a:=by
     have:sg false k=(k:Int):=rfl
     omega
    exact zS I<|zI<|zN<|xn<|Aa I<|xc<|wR2 I I (by unfold Hb;rw[if_neg (by omega),if_neg (by omega)])
theorem YY (x y:Int):Int.gcd y (x.tmod y)=Int.gcd x y:=by
 unfold Int.gcd
 rw[Int.natAbs_tmod,Nat.gcd_comm x.natAbs,Nat.gcd_rec y.natAbs x.natAbs,Nat.gcd_comm]
theorem eJ {a b:Int} {n:Nat} (ha:a.natAbs<n) (hb:b.natAbs<n):Int.gcd a b<n:=by
 unfold Int.gcd
 by_cases h:a.natAbs=0
 ·rw[h,Nat.gcd_zero_left];exact hb
 ·exact Nat.lt_of_le_of_lt (Nat.gcd_le_left _ (by omega)) ha
theorem Vh (a b:Int) (ha:okN a) (hb:okN b) (W:World) (ht:A9 W):
  Ae Tryz.prog 126 #[str (itoa a),str (itoa b)] W (fun _:Unit=> .tuple #[str (decDigits (Int.gcd a b)), .int .i64 0]) (fun _=>True) (fun _=>[]):=by
 have hla:=ER ha
 have hlb:=ER hb
 refine Ab Tryz.func126 I I I<|xb<|Aa I<|xk<|Aa I<|wC I I (fun W _=>Eo a b ha hb W)<|wP I<|xf<|Aa I<|xa<|zS I<|zI<|?_
 refine zE<|xd<|Aa I<|?_
 by_cases hs:(itoa a).length<=18/\(itoa b).length<=18
 ·obtain⟨a1,a2⟩:=Fh hs.1
  obtain⟨b1,b2⟩:=Fh hs.2
  refine wC I I (fun W _=>EY a b hs.1 hs.2 W)<|AE I<|wP I<|xf<|wP I<|xa<|zR I<|zA<|zH<|Av (X:=Int×Int) (fun x=>[(7, .int .i64 x.1),(8, .int .i64 x.2)]) (fun _=>[]) (fun x=>(-1000000000000000000<x.1/\x.1<1000000000000000000)/\(-1000000000000000000<x.2/\x.2<1000000000000000000)/\Int.gcd x.1 x.2=Int.gcd a b) (fun x=>x.2.natAbs) (a,b) ⟨⟨a1,a2⟩,⟨b1,b2⟩,I⟩ ⟨I,I,tO⟩ [] I ?_
  rintro⟨x,y⟩ ⟨⟨hx1,hx2⟩,⟨hy1,hy2⟩,hg⟩
  have hx1: -1000000000000000000<x:=hx1
  have hx2:x<1000000000000000000:=hx2
  have hy1: -1000000000000000000<y:=hy1
  have hy2:y<1000000000000000000:=hy2
  have hg:Int.gcd x y=Int.gcd a b:=hg
  refine xd<|Aa I<|xa<|?_
  by_cases hy:y=0
  ·refine Bh 29 (.bool false) I (congrArg Value.bool (by rw[hy];rfl)) ?_
   refine zS I<|xg<|xn<|?_
   have hgx:(if w64 (0-x)>x then w64 (0-x) else x)=((Int.gcd a b:Nat):Int):=by
    rw[<-hg,hy,Int.gcd_zero_right,Ar (by omega) (by omega)]
    split<;>omega
   have hgb:Int.gcd a b<1000000000000000000:=eJ (by omega) (by omega)
   exact At I<|wV 37 ((Int.gcd a b:Nat):Int) I hgx<|wC I I (fun W hp=>(Bt ((Int.gcd a b:Nat):Int) (by omega) (by omega) W (ht.hp hp)).cast (by rw[IX]))<|Aa I<|xo<|wR2 I I I
  ·refine Bh 29 (.bool true) I (congrArg Value.bool (by rw[bne_iff_ne];exact hy)) ?_
   refine zR I<|xe<|zH<|zU<|AY I<|DO I I I I I hy ?_
   refine Ay I<|zD<|zC<|zN<|?_
   have hr:(x.tmod y).natAbs=x.natAbs%y.natAbs:=Int.natAbs_tmod ..
   have hr2:x.natAbs%y.natAbs<y.natAbs:=Nat.mod_lt _ (by omega)
   exact Al (y,x.tmod y) ⟨⟨hy1,hy2⟩,⟨by show _<x.tmod y;omega,by show x.tmod y<_;omega⟩,by show Int.gcd y (x.tmod y)=_;rw[YY];exact hg⟩ (by show(x.tmod y).natAbs<y.natAbs;omega) ⟨I,I,tO⟩ [] I
 ·refine wC I I (fun W _=>Hf a b hs W)<|AE I<|wP I<|xf<|wP I<|xa<|zS I<|xm<|wP I<|?_
  refine wD (X:=NV) I I (fun W _=>Cm W a (by have:=ha.dd;omega)) ?_
  rintro⟨g1,c1,j1⟩ hV1
  refine Aa I<|?_
  refine wD (X:=NV) I I (fun W _=>Cm W b (by have:=hb.dd;omega)) ?_
  rintro⟨g2,c2,j2⟩ hV2
  refine Ad I<|xl<|zH<|?_
  refine NR (X:=(Nat×NV)×Nat×NV) (fun _=>[]) (fun x=>[(10,B8 x.1.2 (lbs bs x.1.1).length),(11,B8 x.2.2 (lbs bs x.2.1).length)]) (fun x=>[BM x.1.2 (lbs bs x.1.1),BM x.2.2 (lbs bs x.2.1)])
   (fun x=>x.1.1<Bw/\x.2.1<Bw/\Nat.gcd x.1.1 x.2.1=Int.gcd a b) (fun x=>x.2.1) ((a.natAbs,g1,c1,j1),b.natAbs,g2,c2,j2) ⟨ha,hb,rfl⟩ rfl ⟨rfl,rfl,trivial⟩ [] rfl ?_
  rintro⟨⟨m,A⟩,n,B⟩ ⟨hm,hn,hg⟩
  have hm:m<Bw:=hm
  have hn:n<Bw:=hn
  have hg:Nat.gcd m n=Int.gcd a b:=hg
  have hlm:=ER hm
  have hln:=ER hn
  refine xd<|Ad I<|xa<|?_
  by_cases h0:n=0
  ·refine Bh 47 (.bool false) I (congrArg Value.bool (by rw[h0,Bg];rfl)) ?_
   refine zS I<|xg<|xn<|?_
   have hgm:m=Int.gcd a b:=by rw[<-hg,h0,Nat.gcd_zero_right]
   have hz:Mi (sg false m)= .tuple #[str (decDigits (Int.gcd a b)), .int .i64 0]:=by
    have e:sg false m=((m:Nat):Int):=rfl
    rw[e,G8 (show okN ((m:Nat):Int) from hm),IX,hgm]
   refine wP I<|An Tryz.hZ tH I I I I I I I I ?_
   exact wC I I (fun W' hp=>(CF W' _ A.2.1 false m (A6.of_bx hp 0 I) (by omega) (ht.hp hp)).cast hz)<|At I<|xc<|wR2 I I I
  ·have hk:=OF h0
   refine Bh 47 (.bool true) I (congrArg Value.bool (dT (by show((lbs bs n).length:Int)>0;omega))) ?_
   refine zR I<|xe<|zH<|xb<|Aa I<|wD (X:=Vec×Option NV) I I (fun W' hp=>KB W' _ _ A.2.1 B.2.1 m n (A6.of_bx hp 0 I) (A6.of_bx hp 1 I) h0 (by omega) (by omega)) ?_
   rintro⟨V,R⟩ ⟨hV,hR⟩
   cases R with
   |none=>
    have hR:m<n:=hR
    exact Ak I<|xa<|zB<|At I<|zC<|zN<|Lg ((n,B),m,A) ⟨hn,hm,by show Nat.gcd n m=_;rw[Nat.gcd_comm];exact hg⟩ hR I ⟨I,I,tO⟩ [1,0] (by decide) I
   |some R=>
    refine Ak I<|xa<|zB<|At I<|zC<|zN<|?_
    have hmn:m%n<n:=Nat.mod_lt _ (by omega)
    exact Lg ((n,B),m%n,R) ⟨hn,Nat.lt_trans hmn hn,by show Nat.gcd n (m%n)=_;rw[Nat.gcd_comm, <-Nat.gcd_rec,Nat.gcd_comm];exact hg⟩ hmn I ⟨I,I,tO⟩ [1,3] (by decide) I
theorem Y2 {g:Int} (hg:0<g):itoa g≠[48]:=by
 intro e
 have h:=IX g.toNat
 rw[show((g.toNat:Nat):Int)=g by omega,e] at h
 obtain⟨b,r,h1,h2⟩:=Na g.toNat (by omega)
 rw[h1] at h
 injection h with h3 _
 rw[<-h3] at h2
 exact h2 I
theorem OD (g k:Int) (hg:0<g) (ha:okN (g*k)) (hb:okN g) (W:World) (ht:A9 W):
  Ae Tryz.prog 127 #[str (itoa (g*k)),str (itoa g)] W (fun _:Unit=> .tuple #[str (itoa k),str [48], .int .i64 0]) (fun _=>True) (fun _=>[]):=by
 obtain⟨a,hav⟩: ∃a,g*k=a:=⟨_,rfl⟩
 have hka:k.natAbs<=a.natAbs:=by
  rw[<-hav,Int.natAbs_mul]
  exact Nat.le_mul_of_pos_left _ (by omega)
 have hk:okN k:=by rw[hav] at ha;exact Nat.lt_of_le_of_lt hka ha
 have hna:a.natAbs=g.natAbs*k.natAbs:=by rw[<-hav,Int.natAbs_mul]
 have hq:a.tdiv g=k:=by rw[<-hav];exact Int.mul_tdiv_cancel_left _ (by omega)
 have hr:a.tmod g=0:=by rw[<-hav,Int.mul_comm];exact Int.mul_tmod_left ..
 rw[hav] at ha⊢
 have hla:=ER ha
 have hlb:=ER hb
 refine Ab Tryz.func127 I I I<|xb<|Ad I<|xk<|Aa I<|wC I I (fun W _=>Eo a g ha hb W)<|wP I<|xf<|Aa I<|xa<|zS I<|?_
 refine xe<|xd<|Aa I<|?_
 refine Ap 28 (.bool false) I (congrArg Value.bool (by
  rw[HY,HY [48],beq_eq_false_iff_ne]
  exact Y2 hg)) ?_
 refine xa<|zS I<|xe<|xd<|Aa I<|?_
 by_cases hs:(itoa a).length<=18/\(itoa g).length<=18
 ·obtain⟨a1,a2⟩:=Fh hs.1
  obtain⟨b1,b2⟩:=Fh hs.2
  refine wC I I (fun W _=>EY a g hs.1 hs.2 W)<|AE I<|wP I<|xf<|wP I<|xa<|zR I<|zA<|zU<|Ay I<|Kr I I I I I (by omega) ?_
  refine qV 39 k I (by rw[hq];exact Ar (by omega) (by omega))<|Ay I<|DO I I I I I (by omega) ?_
  refine qV 42 0 I hr<|Ay I<|zD<|xk<|Ad I<|?_
  iterate 5 refine Af I I ?_
  exact wP I<|xa<|zS I<|xm<|wP I<|wC I I (fun W hp=>Bt k (by omega) (by omega) W (ht.hp hp))<|wP I<|wC I I (fun W hp=>(Bt 0 (by decide) (by decide) W (ht.hp hp)).cast (by rw[CC]))<|Ad I<|xo<|wR3 I I I
 ·refine wC I I (fun W _=>Hf a g hs W) ?_
  have hg0:g.natAbs≠0:=by omega
  have eq:a.natAbs/g.natAbs=k.natAbs:=by rw[hna];exact Nat.mul_div_cancel_left _ (by omega)
  have er:a.natAbs%g.natAbs=0:=by rw[hna];exact Nat.mul_mod_right ..
  have hgf:decide (g<0)=false:=dF (by omega)
  have esg:sg (decide (a<0) !=decide (g<0)) k.natAbs=k:=by
   rw[hgf,Bool.bne_false]
   have h1:=FD k
   by_cases h0:k=0
   ·subst h0;exact KU _
   ·have:decide (a<0)=decide (k<0):=by
     rw[<-hav]
     apply decide_eq_decide.2
     constructor
     ·intro h
      by_cases h2:k<0
      ·exact h2
      ·have:=Int.mul_nonneg (Int.le_of_lt hg) (show 0<=k by omega);omega
     ·intro h
      exact Int.mul_neg_of_pos_of_neg hg h
    rw[this];exact h1
  refine AE I<|wP I<|xf<|wP I<|xa<|zS I<|xm<|wP I<|?_
  refine wD (X:=NV) I I (fun W _=>Cm W a (by have:=ha.dd;omega)) ?_
  rintro⟨g1,c1,j1⟩ hV1
  refine wP I ?_
  refine wD (X:=NV) I I (fun W _=>Cm W g (by have:=hb.dd;omega)) ?_
  rintro⟨g2,c2,j2⟩ hV2
  refine wG I I fun _=>wG I I fun _=>wS 2 I I I<|wS 3 I I I<|zC<|?_
  rename_i b13 b14
  refine xn<|wP I<|wB 2 I I I<|wP I<|wB 3 I I I<|wD (X:=Vec×Option NV) I I (fun W' hp=>KB W' _ _ c1 c2 a.natAbs g.natAbs (A6.of_bx hp 0 I) (A6.of_bx hp 1 I) hg0 (by omega) (by omega)) ?_
  rintro⟨V,R⟩ ⟨hV,hR⟩
  obtain⟨p1,cp1,hv1, -,hI1⟩:=Yg hV
  obtain⟨p2,cp2,hv2,hI2⟩: ∃p2 cp2,dvV (some ⟨g1,0,none⟩) c1 a.natAbs g.natAbs (V,R)= .tuple #[slv p1 (lbs bs (a.natAbs/g.natAbs)).length cp1,slv p2 0 cp2]/\ ∀W',A6 W' p2 (lbs bs 0):=by
   cases R with
   |none=>
    have hR:a.natAbs<g.natAbs:=hR
    have h0:a.natAbs=0:=by rw[<-er,Nat.mod_eq_of_lt hR]
    refine⟨some ⟨g1,0,none⟩,c1, ?_,fun W'=> .inl Bg⟩
    show Value.tuple #[V.val _,slv (some ⟨g1,0,none⟩) (lbs bs a.natAbs).length c1]=_
    rw[hv1,h0,Bg];rfl
   |some R=>
    refine⟨some ⟨R.1,0,none⟩,R.2.1, ?_,fun W'=> .inl Bg⟩
    show Value.tuple #[V.val _,B8 R (lbs bs (a.natAbs%g.natAbs)).length]=_
    rw[hv1,er,Bg];rfl
  refine Ap 70 (.tuple #[slv p1 (lbs bs (a.natAbs/g.natAbs)).length cp1,slv p2 0 cp2]) I hv2<|Ak I<|xk<|wP I<|wB 2 I I I<|wP I<|wB 3 I I I<|EE Tryz.underlying4 I I I I I I ?_
  have hbx: ∃bxr,dvB a.natAbs g.natAbs (V,R)=V.bx 3 (nI (lbs bs (a.natAbs/g.natAbs)))::bxr:=⟨_,rfl⟩
  obtain⟨bxr,hbxr⟩:=hbx
  rw[hbxr]
  refine AI 77 I (fun h77=> ?_) (fun h77=> ?_)
  ·refine Ak I<|xa<|zS I<|xm<|wP I<|wB 2 I I I<|wP I<|wB 3 I I I<|EE Tryz.underlying4 I I I I I I ?_
   refine wP I<|An Tryz.hZ tH I I I I I I I I ?_
   refine wC I I (fun W' hp=>(CF W' p1 cp1 (decide (a<0) !=decide (g<0)) (a.natAbs/g.natAbs) (hI1 hp 4 I) (by rw[eq];have:=RK hka hla;omega) (ht.hp hp)).cast (by rw[eq,esg,G8 hk]))<|Ak I<|xf<|wP I<|wB 3 I I I<|wP I<|An Tryz.hZ tH I I I I I I I I ?_
   refine Bz (v:= .tuple #[str [48], .int .i64 0]) I I I I I I (by kernel_rfl) (fun W' hp=>by
    have h:=CF W' p2 cp2 (decide (g<0)) 0 (hI2 W') (by rw[Bg];decide) (ht.hp hp)
    rw[Bg,KU,G8 (show okN 0 from Nat.pow_pos (by decide)),CC] at h
    exact h) ?_
   refine Ak I<|xk<|AE I<|xa<|zS I<|xm<|Ak I<|?_
   exact xc<|wR3 I I I
  ·refine wP I ?_
   iterate 3 refine Af I I ?_
   refine wP I<|xa<|zS I<|xm<|wP I<|wB 2 I I I<|wP I<|wB 3 I I I<|EE Tryz.underlying4 I I I I I I ?_
   refine wP I<|An Tryz.hZ tH I I I I I I I I ?_
   refine wC I I (fun W' hp=>(CF W' p1 cp1 (decide (a<0) !=decide (g<0)) (a.natAbs/g.natAbs) (hI1 hp 4 I) (by rw[eq];have:=RK hka hla;omega) (ht.hp hp)).cast (by rw[eq,esg,G8 hk]))<|Ak I<|xf<|wP I<|wB 3 I I I<|wP I<|An Tryz.hZ tH I I I I I I I I ?_
   refine Bz (v:= .tuple #[str [48], .int .i64 0]) I I I I I I (by kernel_rfl) (fun W' hp=>by
    have h:=CF W' p2 cp2 (decide (g<0)) 0 (hI2 W') (by rw[Bg];decide) (ht.hp hp)
    rw[Bg,KU,G8 (show okN 0 from Nat.pow_pos (by decide)),CC] at h
    exact h) ?_
   refine Ak I<|xk<|AE I<|xa<|zS I<|xm<|Ak I<|?_
   exact xc<|wR3 I I I
def rdR (a:List UInt8):(List UInt8×List UInt8)×Int:=match frm a with
 |none=>(([],[]),11)
 |some (z,d)=>if z.natAbs<Bw/\d<Bw then(if Nat.gcd z.natAbs d=1 then((itoa z,decDigits d),0) else(([],[]),11)) else(([],[]),4)
def rdV (a:List UInt8):Value:= .tuple #[Lf (rdR a).1.1 (rdR a).1.2, .int .i64 (rdR a).2]
theorem ZV {a:List UInt8} (h:frm a=none):rdV a= .tuple #[Lf [] [], .int .i64 11]:=by
 have e:rdR a=(([],[]),11):=by unfold rdR;rw[h]
 rw[rdV,e]
theorem VB {a:List UInt8} {z:Int} {d:Nat} (h:frm a=some (z,d)) (hl: ¬(z.natAbs<Bw/\d<Bw)):rdV a= .tuple #[Lf [] [], .int .i64 4]:=by
 have e:rdR a=(([],[]),4):=by unfold rdR;rw[h];exact if_neg hl
 rw[rdV,e]
theorem dI {a:List UInt8} {z:Int} {d:Nat} (h:frm a=some (z,d)) (hl:z.natAbs<Bw/\d<Bw) (hg:Nat.gcd z.natAbs d≠1):rdV a= .tuple #[Lf [] [], .int .i64 11]:=by
 have e:rdR a=(([],[]),11):=by unfold rdR;rw[h];exact(if_pos hl).trans (if_neg hg)
 rw[rdV,e]
theorem Vw {a:List UInt8} {z:Int} {d:Nat} (h:frm a=some (z,d)) (hl:z.natAbs<Bw/\d<Bw) (hg:Nat.gcd z.natAbs d=1):rdV a= .tuple #[Lf (itoa z) (decDigits d), .int .i64 0]:=by
 have e:rdR a=((itoa z,decDigits d),0):=by unfold rdR;rw[h];exact(if_pos hl).trans (if_pos hg)
 rw[rdV,e]
theorem V8 {a:List UInt8} {z:Int} {d:Nat} (h:frm a=some (z,d)):(decDigits z.natAbs).length<=a.length/\(decDigits d).length<=a.length+1:=by
 obtain⟨h1,h2⟩:=Nt h
 have h3:(decDigits z.natAbs).length<=(itoa z).length:=by
  unfold itoa
  split
  ·rw[List.length_cons];omega
  ·rename_i hz;rw[show z.toNat=z.natAbs by omega];exact Nat.le_refl _
 rw[h2]
 unfold F1
 split
 ·rename_i e;rw[e,G0];exact⟨h3,by simp⟩
 ·rw[List.length_append,List.length_cons];omega
theorem Oq (z:Int) (d:Nat) (hz:z.natAbs<Bw) (hd:d<Bw) (W:World) (ht:A9 W):
  Ae Tryz.prog 126 #[str (itoa z),str (decDigits d)] W (fun _:Unit=> .tuple #[str (decDigits (Nat.gcd z.natAbs d)), .int .i64 0]) (fun _=>True) (fun _=>[]):=by
 have h:=Vh z (d:Nat) hz (by show Int.natAbs _<_;rw[Int.natAbs_natCast];exact hd) W ht
 rw[Ce,show Int.gcd z (d:Nat)=Nat.gcd z.natAbs d by rw[Int.gcd,Int.natAbs_natCast]] at h
 exact h
theorem Cu (a:List UInt8) (hl:a.length<=4000000000) (W:World) (hv:AH W) (ht:A9 W):
  Ae Tryz.prog 115 #[str a] W (fun _:Unit=>rdV a) (fun _=>True) (fun _=>[]):=by
 refine Ab Tryz.func115 I I I<|xb<|wG I I fun _=>wP I<|zC<|?_
 rename_i b2
 refine xn<|wP I<|?_
 cases hf:frm a with
 |none=>
  refine wC I I (fun W hp=>(Po a hl W (hv.hp hp)).cast (by rw[Nu,hf]))<|Ad I<|wG I I fun _=>wS 1 I I I<|wP I<|xk<|Aa I<|xa<|zR I<|xb<|An Tryz.hZ tH I I I I I I I I ?_
  exact wS 0 I I I<|wP I<|xo<|A4 tH I (.cell 0 I I I I I) (.tmp I) () (ZV hf).symm tO fun W _=>Au.nil _ _
 |some x=>
  obtain⟨z,d⟩:=x
  obtain⟨hd1,hap⟩:=Nt hf
  obtain⟨hz2,hd2⟩:=V8 hf
  refine wC I I (fun W hp=>(Po a hl W (hv.hp hp)).cast (by rw[Nu,hf]))<|Ad I<|wG I I fun _=>wS 1 I I I<|wP I<|zC<|?_
  rename_i b4
  refine zE<|xd<|Aa I<|xa<|zS I<|xe<|xd<|wP I<|?_
  cases hn:F6 a with
  |some y=>
   obtain⟨z',d'⟩:=y
   obtain⟨e1,e2,e3,e4⟩:=LP.1 hn
   rw[hf] at e1
   injection e1 with e1
   injection e1 with ez ed
   subst ez;subst ed
   have hlt: ∀n,n<100000000->n<Bw:=fun n h=>Nat.lt_of_lt_of_le (Nat.lt_of_lt_of_le h (show 100000000<=10^8 by decide)) (Nat.pow_le_pow_right (by decide) (show 8<=mxd by decide))
   exact wC I I (fun W _=>(AT a (by omega) W).cast (by rw[Ec,hn]))<|Ad I<|wG I I fun _=>wS 2 I I I<|wP I<|xf<|wP I<|xa<|zR I<|xb<|wB 1 I I I<|wS 0 I I I<|wP I<|xo<|A4 tH I (.cell 0 I I I I I) (.tmp I) () (Vw hf ⟨hlt _ e2,hlt _ e3⟩ e4).symm tO fun W _=>Au.nil _ _
  |none=>
   refine wC I I (fun W _=>(AT a (by omega) W).cast (by rw[Ec,hn]))<|Ad I<|wG I I fun _=>wS 2 I I I<|wP I<|zC<|?_
   rename_i b6
   refine xn<|wP I<|xa<|zS I<|xe<|xd<|wP I<|wB 1 I I I<|wC I I (fun W _=>(BH (itoa z) [45] W).cast (by rw[Bf]))<|wP I<|Ap 28 (.int .i64 ((decDigits z.natAbs).length:Nat)) I (congrArg (fun n:Nat=>Value.int .i64 (n:Int)) (A5 _))<|wP I<|?_
   by_cases hzl:z.natAbs<Bw
   ·have hz3:=Ih.2 hzl
    refine wU 29 false I (dF (by omega))<|Aa I<|wB 1 I I I<|wP I<|Ap 33 (.int .i64 ((decDigits d).length:Nat)) I (congrArg (fun n:Nat=>Value.int .i64 (n:Int)) (A5 _))<|wP I<|?_
    by_cases hdl:d<Bw
    ·have hd3:=Ih.2 hdl
     refine wU 34 false I (dF (by omega))<|wP I<|xa<|zS I<|xe<|xd<|wP I<|wB 1 I I I<|wP I<|?_
     by_cases h1:d=1
     ·exact wU 39 true I ((AW _ [49]).trans (dT (by rw[h1,G0])))<|xa<|zR I<|xb<|wB 1 I I I<|wS 0 I I I<|wP I<|xo<|A4 tH I (.cell 0 I I I I I) (.tmp I) () (Vw hf ⟨hzl,hdl⟩ (by rw[h1,Nat.gcd_one_right])).symm tO fun W _=>Au.nil _ _
     ·refine wU 39 false I ((AW _ [49]).trans (dF (fun e=>h1 (by have:=congrArg AP e;rw[BX] at this;exact this))))<|xa<|zS I<|xe<|xd<|wP I<|wB 1 I I I<|wP I<|wB 1 I I I<|wC I I (fun W hp=>Oq z d hzl hdl W (ht.hp hp))<|Ak I<|xf<|Ak I<|?_
      by_cases hg:Nat.gcd z.natAbs d=1
      ·exact wU 53 false I (by show(!_)=false;rw[AW,hg,G0];rfl)<|wP I<|xa<|zS I<|xm<|wB 1 I I I<|wS 0 I I I<|wP I<|xc<|A4 tH I (.cell 0 I I I I I) (.tmp I) () (Vw hf ⟨hzl,hdl⟩ hg).symm tO fun W _=>Au.nil _ _
      ·refine wU 53 true I (by show(!_)=true;rw[AW,dF (fun e=>hg (by have:=congrArg AP e;rw[BX] at this;exact this))];rfl)<|wP I<|xa<|zR I<|xb<|An Tryz.hZ tH I I I I I I I I ?_
       exact wS 0 I I I<|wP I<|xo<|A4 tH I (.cell 0 I I I I I) (.tmp I) () (dI hf ⟨hzl,hdl⟩ hg).symm tO fun W _=>Au.nil _ _
    ·have hd3: ¬(decDigits d).length<=300:=fun h=>hdl (Ih.1 h)
     refine wU 34 true I (dT (by omega))<|wP I<|xa<|zR I<|xb<|An Tryz.hZ tH I I I I I I I I ?_
     exact wS 0 I I I<|wP I<|xo<|A4 tH I (.cell 0 I I I I I) (.tmp I) () (VB hf fun h=>hdl h.2).symm tO fun W _=>Au.nil _ _
   ·have hz3: ¬(decDigits z.natAbs).length<=300:=fun h=>hzl (Ih.1 h)
    refine wU 29 true I (dT (by omega))<|wP I<|?_
    iterate 4 refine Af I I ?_
    refine wP I<|xa<|zR I<|xb<|An Tryz.hZ tH I I I I I I I I ?_
    exact wS 0 I I I<|wP I<|xo<|A4 tH I (.cell 0 I I I I I) (.tmp I) () (VB hf fun h=>hzl h.1).symm tO fun W _=>Au.nil _ _
theorem E9 (z:Int):hasPrefix (itoa z) [45]=decide (z<0):=by
 rw[Bj]
 refine decide_eq_decide.2 ?_
 unfold itoa
 split
 ·rename_i h;exact⟨fun _=>h,fun _=>rfl⟩
 ·rename_i h
  obtain⟨b,r,hb,h3,h4⟩:=CU z.toNat
  rw[hb]
  constructor
  ·intro e
   have e:b=45:=by simpa using e
   rw[e] at h3;exact absurd h3 (by decide)
  ·intro h5;exact absurd h5 h
theorem Ki {z:Int}:itoa z=[48]↔z=0:=by
 constructor
 ·intro h
  have h2:=Bf z
  rw[h] at h2
  have h3:=congrArg AP h2
  rw[BX] at h3
  have h4:AP (trimPrefix [48] [45])=0:=by decide
  rw[h4] at h3;omega
 ·rintro rfl;exact CC
theorem Ex {z:Int} (h:okN z):(itoa z).length<=301:=by
 have h2:=Ih.2 h
 unfold itoa
 split
 ·rw[List.length_cons];omega
 ·rename_i hz;rw[show z.toNat=z.natAbs by omega];omega
theorem IC (z:Int) (hz:okN z):Be Tryz.prog 125 [str (itoa z)] (str (itoa (-z))):=by
 intro W
 refine Ab Tryz.func125 I I I<|xb<|wP I<|xk<|Aa I<|?_
 by_cases h0:z=0
 ·exact wU 6 true I ((AW _ [48]).trans (dT (Ki.2 h0)))<|xa<|zR I<|xb<|Aa I<|xo<|wR1 I I (by rw[h0];rfl)
 ·refine wU 6 false I ((AW _ [48]).trans (dF fun e=>h0 (Ki.1 e)))<|xa<|zS I<|xe<|xd<|wP I<|?_
  by_cases hn:z<0
  ·exact wC I I (fun W _=>(DW (itoa z) [45] W).cast (by rw[Bf,E9,dT hn]))<|Ak I<|xf<|wP I<|xa<|zR I<|xb<|Aa I<|xo<|wR1 I I (by rw[itoa,if_neg (by omega),show(-z).toNat=z.natAbs by omega])
  ·refine wC I I (fun W _=>(DW (itoa z) [45] W).cast (by rw[Bf,E9,dF hn]))<|Ak I<|xf<|wP I<|xa<|zS I<|xm<|wP I<|Ci I I I I I (by decide) (Nat.le_trans (Ex hz) (by decide)) ?_
   refine wP I<|xc<|?_
   exact A3 tH I (.tmp I) () (by
    rw[show itoa (-z)=45::decDigits (-z).natAbs by rw[itoa,if_pos (by omega)],Int.natAbs_neg]
    rw[show itoa z=decDigits z.natAbs by rw[itoa,if_neg hn,show z.toNat=z.natAbs by omega]];rfl) trivial fun W _=>Au.nil _ _
theorem Nh {z:Int} (h:okN z):okN (-z):=by unfold okN;rw[Int.natAbs_neg];exact h
theorem DU (z d:Int) (hd:d≠0) (hz:okN z) (hd2:okN d) (W:World) (ht:A9 W):
  Ae Tryz.prog 73 #[str (itoa z),str (itoa d)] W (fun _:Unit=> .tuple #[str (Ac (mkRat (if d<0 then -z else z) d.natAbs)), .int .i64 0]) (fun _=>True) (fun _=>[]):=by
 refine Ab Tryz.func73 I I I<|xb<|Aa I<|xk<|wP I<|wC I I (fun W _=>(KR (itoa d) [45] W).cast (by rw[E9]))<|xa<|AA (X:=Unit) (fun _=>[(0,str (itoa (if d<0 then -z else z))),(1,str (decDigits d.natAbs)),(4,str []),(5, .int .i64 0)]) (fun _=>[]) (fun _=>True) ?_ ?_
 ·refine Ag I (fun hc=> ?_) (fun hc=> ?_)
  ·have hc:=of_decide_eq_true hc
   refine zB<|wP I<|wC I I (fun W _=>IC z hz W)<|wP I<|wC I I (fun W _=>IC d hd2 W)<|Aa I<|zC<|?_
   rw[if_pos hc]
   exact Ao () tO ⟨I,by rw[show itoa (-d)=decDigits d.natAbs by rw[itoa,if_neg (by omega),show(-d).toNat=d.natAbs by omega]];rfl,I,I,tO⟩ [] I
  ·have hc:=of_decide_eq_false hc
   refine zI ?_
   rw[if_neg hc]
   exact Ao () tO ⟨I,by rw[show decDigits d.natAbs=itoa d by rw[itoa,if_neg hc,show d.toNat=d.natAbs by omega]];rfl,I,I,tO⟩ [] I
 ·intro _ _
  obtain⟨x,hx⟩: ∃x,(if d<0 then -z else z)=x:=⟨_,rfl⟩
  obtain⟨e,he⟩: ∃e,d.natAbs=e:=⟨_,rfl⟩
  have hxo:okN x:=by rw[<-hx];split;exact Nh hz;exact hz
  have heo:e<Bw:=by rw[<-he];exact hd2
  rw[hx,he]
  have he0:e≠0:=by omega
  obtain⟨g,hg⟩: ∃g,Nat.gcd x.natAbs e=g:=⟨_,rfl⟩
  have hg0:0<g:=by rw[<-hg];exact Nat.gcd_pos_of_pos_right _ (by omega)
  obtain⟨k,hk⟩: ∃k,x=(g:Int)*k:=Int.natAbs_dvd_natAbs.1 (by rw[Int.natAbs_natCast, <-hg];exact Nat.gcd_dvd_left ..)
  obtain⟨m,hm⟩: ∃m,e=g*m:=by rw[<-hg];exact Nat.gcd_dvd_right ..
  have hge:g<=e:=by rw[hm];exact Nat.le_mul_of_pos_right _ (Nat.pos_of_ne_zero fun h=>he0 (by rw[hm,h,Nat.mul_zero]))
  have hgo:okN (g:Int):=by unfold okN;rw[Int.natAbs_natCast];omega
  have hkx:k.natAbs<=x.natAbs:=by rw[hk,Int.natAbs_mul];exact Nat.le_mul_of_pos_left _ (by omega)
  have hme:m<=e:=by rw[hm];exact Nat.le_mul_of_pos_left _ hg0
  have hko:okN k:=Nat.lt_of_le_of_lt hkx hxo
  have hmo:m<Bw:=by omega
  have hq1:x/(g:Int)=k:=by rw[hk];exact Int.mul_ediv_cancel_left _ (by omega)
  have hq2:e/g=m:=by rw[hm];exact Nat.mul_div_cancel_left _ hg0
  have hone:m=1->Ac (mkRat x e)=itoa k:=fun h=>by rw[IN he0 (by rw[hg,hq2,h]),hg,hq1]
  have htwo:m≠1->Ac (mkRat x e)=itoa k++[47]++decDigits m:=fun h=>by rw[K4 he0 (by rw[hg,hq2];exact h),hg,hq1,hq2,Ce]
  refine xb<|Aa I<|wC I I (fun W hp=>(Oq x e hxo heo W (ht.hp hp)).cast (by rw[hg]))<|Ak I<|xk<|Aa I<|xa<|zS I<|xe<|zA<|zA<|?_
  refine zB<|Aa I<|wU 24 (decide (g≠1)) I (by show(!_)=_;rw[AW,decide_not];exact congrArg not (decide_eq_decide.2 ⟨fun h=>by have:=congrArg AP h;rw[BX] at this;exact this,fun h=>by rw[h,G0]⟩))<|xa<|AA (X:=Unit) (fun _=>[(0,str (itoa k)),(1,str (decDigits m)),(4,str []),(5, .int .i64 0)]) (fun _=>[]) (fun _=>True) ?_ ?_
  ·refine Ag I (fun hc=> ?_) (fun hc=> ?_)
   ·exact xb<|Aa I<|wC I I (fun W hp=>by have h:=OD (g:Int) k (by omega) (by rw[<-hk];exact hxo) hgo W (ht.hp hp);rw[<-hk,Ce] at h;exact h)<|Ak I<|xa<|zB<|Aa I<|wC I I (fun W hp=>by have h:=OD (g:Int) (m:Nat) (by omega) (by rw[<-Int.natCast_mul, <-hm];unfold okN;rw[Int.natAbs_natCast];exact heo) hgo W (ht.hp hp);rw[<-Int.natCast_mul, <-hm,Ce,Ce,Ce] at h;exact h)<|Ak I<|zC<|Ao () tO ⟨I,I,I,I,tO⟩ [] I
   ·have hc:=of_decide_eq_false hc
    have h1:g=1:=Decidable.byContradiction hc
    have hkx:k=x:=by rw[hk,h1];omega
    have hme:m=e:=by rw[hm,h1];omega
    refine zI ?_
    rw[hkx,hme]
    exact Ao () tO ⟨I,I,I,I,tO⟩ [] I
  ·intro _ _
   refine xd<|Aa I<|?_
   by_cases h1:m=1
   ·exact wU 40 true I ((AW _ [49]).trans (dT (by rw[h1,G0])))<|xa<|zR I<|xb<|Ad I<|xo<|wR2 I I (by rw[hone h1])
   ·refine wU 40 false I ((AW _ [49]).trans (dF (fun e=>h1 (by have:=congrArg AP e;rw[BX] at this;exact this))))<|xa<|zS I<|xm<|wP I<|Ci I I I I I (Nat.le_trans (Ex hko) (by decide)) (by decide) ?_
    refine wP I ?_
    refine Ci I I I I I (by have:=Ex hko;rw[List.length_append];show _+1<=_;omega) (Nat.le_trans (Ih.2 hmo) (by decide)) ?_
    exact Aa I<|xc<|wR2 I I (by rw[htwo h1])
theorem Dr {x y:Int} (hx:x.natAbs<100000000) (hy:y.natAbs<100000000):(x*y).natAbs<10000000000000000:=by
 rw[Int.natAbs_mul]
 exact Nat.lt_of_le_of_lt (Nat.mul_le_mul (Nat.le_of_lt_succ (Nat.lt_succ_of_lt hx)) (Nat.le_of_lt_succ (Nat.lt_succ_of_lt hy))|>fun h=>Nat.le_trans (Nat.mul_le_mul (show x.natAbs<=99999999 by omega) (show y.natAbs<=99999999 by omega)) (Nat.le_refl _)) (by decide)
theorem CJ {x y:Int} (hx:x.natAbs<100000000) (hy:y.natAbs<100000000):w64 (x*y)=x*y:=by
 have:=Dr hx hy
 exact Ar (by omega) (by omega)
theorem Ut (z d z' d':Int) (h1:z.natAbs<100000000) (h2:d.natAbs<100000000) (h3:z'.natAbs<100000000) (h4:d'.natAbs<100000000):Be Tryz.prog 74 [HK z d,HK z' d'] (HK (z*d'+z'*d) (d*d')):=by
 intro W
 have a1:=Dr h1 h4
 have a2:=Dr h3 h2
 refine Ab Tryz.func74 I I I<|xb<|wF I I fun _=>wF I I fun _=>wG I I fun _=>xf<|wP I<|wB 0 I I I<|wP I<|wB 1 I I I<|wP I<|wV 9 (z*d') I (CJ h1 h4)<|wP I<|wB 1 I I I<|wP I<|wB 0 I I I<|wP I<|wV 14 (z'*d) I (CJ h3 h2)<|wP I<|wV 15 (z*d'+z'*d) I (Ar (by omega) (by omega))<|?_
 refine wP I<|wB 0 I I I<|wP I<|wB 1 I I I<|wP I<|wV 20 (d*d') I (CJ h2 h4)<|An Tryz.hZ tH I I I I I I I I ?_
 exact wS 2 I I I<|xc<|A3 tH I (.cell 2 I I I I I) () I tO fun W _=>Au.nil _ _
theorem Nw (z d z' d':Int) (h1:z.natAbs<100000000) (h2:d.natAbs<100000000) (h3:z'.natAbs<100000000) (h4:d'.natAbs<100000000):Be Tryz.prog 77 [HK z d,HK z' d'] (HK (z*d'-z'*d) (d*d')):=by
 intro W
 have a1:=Dr h1 h4
 have a2:=Dr h3 h2
 refine Ab Tryz.func77 I I I<|xb<|wF I I fun _=>wF I I fun _=>wG I I fun _=>xf<|wP I<|wB 0 I I I<|wP I<|wB 1 I I I<|wP I<|wV 9 (z*d') I (CJ h1 h4)<|wP I<|wB 1 I I I<|wP I<|wB 0 I I I<|wP I<|wV 14 (z'*d) I (CJ h3 h2)<|wP I<|wV 15 (z*d'-z'*d) I (Ar (by omega) (by omega))<|?_
 refine wP I<|wB 0 I I I<|wP I<|wB 1 I I I<|wP I<|wV 20 (d*d') I (CJ h2 h4)<|An Tryz.hZ tH I I I I I I I I ?_
 exact wS 2 I I I<|xc<|A3 tH I (.cell 2 I I I I I) () I tO fun W _=>Au.nil _ _
theorem NJ (z d z' d':Int) (h1:z.natAbs<100000000) (h2:d.natAbs<100000000) (h3:z'.natAbs<100000000) (h4:d'.natAbs<100000000):Be Tryz.prog 96 [HK z d,HK z' d'] (HK (z*z') (d*d')):=by
 intro W
 refine Ab Tryz.func96 I I I<|xb<|wF I I fun _=>wF I I fun _=>wG I I fun _=>xf<|wP I<|wB 0 I I I<|wP I<|wB 1 I I I<|wP I<|wV 9 (z*z') I (CJ h1 h3)<|wP I<|wB 0 I I I<|wP I<|wB 1 I I I<|wP I<|wV 14 (d*d') I (CJ h2 h4)<|An Tryz.hZ tH I I I I I I I I ?_
 exact wS 2 I I I<|xc<|A3 tH I (.cell 2 I I I I I) () I tO fun W _=>Au.nil _ _
theorem Uw (z d z' d':Int) (h1:z.natAbs<100000000) (h2:d.natAbs<100000000) (h3:z'.natAbs<100000000) (h4:d'.natAbs<100000000):Be Tryz.prog 69 [HK z d,HK z' d'] (HK (z*d') (d*z')):=by
 intro W
 refine Ab Tryz.func69 I I I<|xb<|wF I I fun _=>wF I I fun _=>wG I I fun _=>xf<|wP I<|wB 0 I I I<|wP I<|wB 1 I I I<|wP I<|wV 9 (z*d') I (CJ h1 h4)<|wP I<|wB 0 I I I<|wP I<|wB 1 I I I<|wP I<|wV 14 (d*z') I (CJ h2 h3)<|An Tryz.hZ tH I I I I I I I I ?_
 exact wS 2 I I I<|xc<|A3 tH I (.cell 2 I I I I I) () I tO fun W _=>Au.nil _ _
def smQ (p:Rat):Prop:=p.num.natAbs<100000000/\p.den<100000000
instance (p:Rat):Decidable (smQ p):=by unfold smQ;infer_instance
theorem BW (p:Rat):Ec (Ac p)=if smQ p then .tuple #[HK p.num (p.den:Nat), .bool true] else Pf:=by
 have hf:frm (Ac p)=some (p.num,p.den):=Gd _ p.den_pos
 by_cases h:smQ p
 ·have e:F6 (Ac p)=some (p.num,p.den):=LP.2 ⟨hf,h.1,h.2,p.reduced⟩
  rw[if_pos h,Ec,e]
 ·have e:F6 (Ac p)=none:=by
   cases hn:F6 (Ac p) with
   |none=>rfl
   |some x=>
    obtain⟨x1,x2⟩:=x
    obtain⟨e1,e2,e3,_⟩:=LP.1 hn
    rw[hf] at e1
    injection e1 with e1
    injection e1 with ea eb
    subst ea;subst eb
    exact absurd ⟨e2,e3⟩ h
  rw[if_neg h,Ec,e]
theorem El (p q r:Rat) (z d:Int) (g:Nat) (hE:AS Tryz.prog g=true) (hlp:(Ac p).length<4611686018427387904) (hlq:(Ac q).length<4611686018427387904)
  (hg:smQ p->smQ q->Be Tryz.prog g [HK p.num (p.den:Nat),HK q.num (q.den:Nat)] (HK z d)/\d≠0/\z.natAbs<1000000000000000000/\d.natAbs<1000000000000000000/\mkRat (if d<0 then -z else z) d.natAbs=r) (W:World) (ht:A9 W):
  Ae Tryz.prog 68 #[str (Ac p),str (Ac q), .func (.func g) #[] #[]] W (fun _:Unit=>if smQ p/\smQ q then .tuple #[str (Ac r), .bool true] else .tuple #[str [], .bool false]) (fun _=>True) (fun _=>[]):=by
 refine Ab Tryz.func68 I I I<|xb<|Aa I<|xf<|wP I<|?_
 by_cases hp:smQ p
 ·refine wC I I (fun W _=>(AT (Ac p) hlp W).cast ((BW p).trans (if_pos hp)))<|Ad I<|wG I I fun _=>wS 0 I I I<|wP I<|zC<|?_
  rename_i b8
  refine zE<|xd<|Aa I<|xa<|zS I<|xm<|wP I<|?_
  by_cases hq:smQ q
  ·obtain⟨hg1,hd,hz1,hd1,hr⟩:=hg hp hq
   refine wC I I (fun W _=>(AT (Ac q) hlq W).cast ((BW q).trans (if_pos hq)))<|Ad I<|wG I I fun _=>wS 1 I I I<|wP I<|zC<|?_
   rename_i b10
   exact zE<|xd<|Aa I<|xa<|zS I<|xm<|wP I<|wB 0 I I I<|wB 1 I I I<|Bz (capt:=[]) I I I I I I hE (fun W _=>hg1 W)<|wC I I (fun W hp=>(RB z d hd hz1 hd1 W (ht.hp hp)).cast (by rw[hr]))<|Aa I<|xc<|A4 tH I (.tmp I) (.tmp I) () (if_pos ⟨hp,hq⟩).symm tO fun W _=>Au.nil _ _
  ·refine wC I I (fun W _=>(AT (Ac q) hlq W).cast ((BW q).trans (if_neg hq)))<|Ad I<|wG I I fun _=>wS 1 I I I<|wP I<|xk<|Aa I<|xa<|zR I<|xb<|Aa I<|xc<|?_
   exact zP<|A4 tH I (.tmp I) (.tmp I) () (if_neg fun h=>hq h.2).symm tO fun W _=>Au.nil _ _
 ·refine wC I I (fun W _=>(AT (Ac p) hlp W).cast ((BW p).trans (if_neg hp)))<|Ad I<|wG I I fun _=>wS 0 I I I<|wP I<|xk<|Aa I<|xa<|zR I<|xb<|Aa I<|xc<|?_
  exact zP<|A4 tH I (.tmp I) (.tmp I) () (if_neg fun h=>hp h.1).symm tO fun W _=>Au.nil _ _
abbrev Gz (q:Rat):Value:=Lf (itoa q.num) (itoa (q.den:Nat))
def okQ (q:Rat):Prop:=okN q.num/\okN (q.den:Nat)
theorem Gh {z:Int} (h:okN z):Mi z= .tuple #[str (itoa z), .int .i64 0]:=if_pos h
theorem HU {q:Rat} (h:okQ q):rdV (Ac q)= .tuple #[Gz q, .int .i64 0]:=by
 have hd:q.den<Bw:=by have:=h.2;unfold okN at this;rwa [Int.natAbs_natCast] at this
 have hf:frm (Ac q)=some (q.num,q.den):=Gd q.num q.den_pos
 rw[Vw hf ⟨h.1,hd⟩ q.reduced, <-Ce]
theorem AX {q:Rat} (h:okQ q):(Ac q).length<=1000:=by
 have h1:=Ex h.1
 have h2:=Ex h.2
 rw[Ce] at h2
 unfold Ac F1
 split
 ·omega
 ·rw[List.length_append,List.length_cons];omega
theorem Dm (p q:Rat) (hp:okQ p) (hq:okQ q) (h1:okN (p.num*(q.den:Nat))) (h2:okN (q.num*(p.den:Nat))) (W:World) (ht:A9 W):
  Ae Tryz.prog 72 #[Gz p,Gz q] W (fun _:Unit=> .tuple #[str (itoa (p.num*(q.den:Nat))),str (itoa (q.num*(p.den:Nat))), .int .i64 0]) (fun _=>True) (fun _=>[]):=by
 refine Ab Tryz.func72 I I I<|xb<|wF I I fun _=>wF I I fun _=>Ad I<|xf<|wP I<|wB 0 I I I<|wP I<|wB 1 I I I<|wC I I (fun W h=>(Ck p.num (q.den:Nat) hp.1 hq.2 W (ht.hp h)).cast (Gh h1))<|Ak I<|xa<|?_
 refine xd<|Aa I<|xa<|zS I<|xm<|wP I<|wB 1 I I I<|wP I<|wB 0 I I I<|wC I I (fun W h=>(Ck q.num (p.den:Nat) hq.1 hp.2 W (ht.hp h)).cast (Gh h2))<|Ak I<|xa<|?_
 exact xb<|AE I<|xc<|wR3 I I I
theorem Ep (p q:Rat) (v:List UInt8) (e:Int) (g:Nat) (capt:List Value) (hp:okQ p) (hq:okQ q) (W0:World) (hv:AH W0) (ht:A9 W0) (hE:AS Tryz.prog g=true)
  (hg: ∀W,Below W0.heap.size W0 W->Ae Tryz.prog g ([Gz p,Gz q]++capt).toArray W (fun _:Unit=> .tuple #[str v, .int .i64 e]) (fun _=>True) (fun _=>[])):
  Ae Tryz.prog 70 #[str (Ac p),str (Ac q), .func (.func g) #[] capt.toArray] W0 (fun _:Unit=> .tuple #[str v, .int .i64 e]) (fun _=>True) (fun _=>[]):=by
 have hlp:=AX hp
 have hlq:=AX hq
 refine Ab Tryz.func70 I I I<|xb<|Aa I<|xf<|wP I<|wC I I (fun W h=>(Cu (Ac p) (by omega) W (hv.hp h) (ht.hp h)).cast (HU hp))<|Ad I<|wG I I fun _=>wS 0 I I I<|wP I<|zC<|?_
 rename_i b8
 refine zE<|xd<|Aa I<|xa<|zS I<|xm<|wP I<|wC I I (fun W h=>(Cu (Ac q) (by omega) W (hv.hp h) (ht.hp h)).cast (HU hq))<|Ad I<|wG I I fun _=>wS 1 I I I<|wP I<|zC<|?_
 rename_i b10
 exact zE<|xd<|Aa I<|xa<|zS I<|xm<|wP I<|wB 0 I I I<|wB 1 I I I<|Bz (capt:=capt) I I I I I I hE (fun W h=>hg W h.below)<|At I<|xc<|wR2 I I I
end
section
open Go Go.Lib
abbrev nrm (z d:Int):Rat:=mkRat (if d<0 then -z else z) d.natAbs
theorem GB (z:Int) {d:Int} (hd:d≠0):nrm z d=Rat.divInt z d:=by
 unfold nrm
 cases d with
 |ofNat n=>
  rw[if_neg (by intro h;exact absurd h (by simp))]
  rfl
 |negSucc n=>
  rw[if_pos (Int.negSucc_lt_zero n)]
  show mkRat (-z) (n+1)=_
  rw[Rat.divInt]
  rw[Rat.normalize_eq_mkRat]
theorem Nl (p q:Rat):nrm (p.num*(q.den:Nat)+q.num*(p.den:Nat)) ((p.den:Nat)*(q.den:Nat))=p+q:=by
 have h1:((p.den:Nat):Int)≠0:=by have:=p.den_nz;omega
 have h2:((q.den:Nat):Int)≠0:=by have:=q.den_nz;omega
 rw[GB _ (Int.mul_ne_zero h1 h2)]
 rw[<-Rat.divInt_add_divInt _ _ h1 h2,Rat.num_divInt_den,Rat.num_divInt_den]
theorem Jp (p q:Rat):nrm (p.num*(q.den:Nat)-q.num*(p.den:Nat)) ((p.den:Nat)*(q.den:Nat))=p-q:=by
 have h1:((p.den:Nat):Int)≠0:=by have:=p.den_nz;omega
 have h2:((q.den:Nat):Int)≠0:=by have:=q.den_nz;omega
 rw[GB _ (Int.mul_ne_zero h1 h2)]
 rw[<-Rat.divInt_sub_divInt _ _ h1 h2,Rat.num_divInt_den,Rat.num_divInt_den]
theorem J7 (p q:Rat):nrm (p.num*q.num) ((p.den:Nat)*(q.den:Nat))=p*q:=by
 have h1:((p.den:Nat):Int)≠0:=by have:=p.den_nz;omega
 have h2:((q.den:Nat):Int)≠0:=by have:=q.den_nz;omega
 rw[GB _ (Int.mul_ne_zero h1 h2)]
 rw[<-Rat.divInt_mul_divInt,Rat.num_divInt_den,Rat.num_divInt_den]
theorem MZ (p q:Rat) (hq:q.num≠0):nrm (p.num*(q.den:Nat)) ((p.den:Nat)*q.num)=p/q:=by
 have h1:((p.den:Nat):Int)≠0:=by have:=p.den_nz;omega
 rw[GB _ (Int.mul_ne_zero h1 hq)]
 rw[<-Rat.divInt_mul_divInt,Rat.num_divInt_den,Rat.div_def,Rat.inv_def]
def szQ (q:Rat) (k:Nat):Prop:=q.num.natAbs<10^k/\q.den<10^k
theorem G5 (z:Int) {d:Int} (hd:d≠0) {k:Nat} (hz:z.natAbs<10^k) (hd2:d.natAbs<10^k):szQ (nrm z d) k:=by
 have h0:d.natAbs≠0:=by omega
 have hx:(if d<0 then -z else z).natAbs=z.natAbs:=by split;rw[Int.natAbs_neg];rfl
 unfold nrm
 rw[mkRat,dif_neg h0,Rat.normalize_eq]
 constructor
 ·show((if d<0 then -z else z)/_).natAbs<_
  refine Nat.lt_of_le_of_lt ?_ hz
  rw[<-hx]
  exact Int.natAbs_ediv_le_natAbs ..
 ·exact Nat.lt_of_le_of_lt (Nat.div_le_self ..) hd2
end
section
open Go Go.RowKit Go.Am Go.Lib
set_option maxRecDepth 10000
theorem Gw (h:Nat) (W:World):Ae Tryz.prog 75 #[.func (.func h) #[] #[]] W (fun b:Nat=> .func (.func 128) #[] #[Ai b]) (fun _=>True) (fun b=>[⟨b,127,[.func (.func h) #[] #[]],true,none⟩]):=by
 refine Ab Tryz.func75 I I I<|xb<|?_
 refine Ov rfl rfl rfl rfl ?_;intro b
 exact wP I<|xf<|Aa I<|xc<|A3 tH I (.tmp I) b I tO fun W hp=>Au.of_hp hp
theorem Eb {p q:Rat}:((p.den:Nat):Int)*(q.den:Nat)≠0:=Int.mul_ne_zero (by have:=p.den_nz;omega) (by have:=q.den_nz;omega)
theorem Iy (p q:Rat) (b h:Nat) (z:Int) (hp:okQ p) (hq:okQ q) (h1:okN (p.num*(q.den:Nat))) (h2:okN (q.num*(p.den:Nat))) (hz:okN z) (hd:okN ((p.den:Nat)*(q.den:Nat))) (hE:AS Tryz.prog h=true)
  (hop: ∀W,A9 W->Ae Tryz.prog h #[str (itoa (p.num*(q.den:Nat))),str (itoa (q.num*(p.den:Nat)))] W (fun _:Unit=> .tuple #[str (itoa z), .int .i64 0]) (fun _=>True) (fun _=>[])) (W:World) (ht:A9 W) (hrow:Aj W b 0 [.func (.func h) #[] #[]]):
  Ae Tryz.prog 128 #[Gz p,Gz q,Ai b] W (fun _:Unit=> .tuple #[str (Ac (nrm z ((p.den:Nat)*(q.den:Nat)))), .int .i64 0]) (fun _=>True) (fun _=>[]):=by
 refine Ab Tryz.func128 I I I<|xb<|wF I I fun _=>wF I I fun _=>Aa I<|xf<|wB 0 I I I<|wB 1 I I I<|wC I I (fun W h=>Dm p q hp hq h1 h2 W (ht.hp h))<|AE I<|wP I<|xl<|zA<|?_
 refine zB<|Aa I<|xa<|zS I<|xm<|wL 0 I I (fun W h=>hrow.hp h) I<|Aa I<|Bz (capt:=[]) I I I I I I hE (fun W h=>hop W (ht.hp h))<|Ak I<|xk<|?_
 refine Aa I<|xa<|zS I<|xm<|wP I<|wB 0 I I I<|wP I<|wB 1 I I I<|wC I I (fun W h=>(Ck (p.den:Nat) (q.den:Nat) hp.2 hq.2 W (ht.hp h)).cast (Gh hd))<|Ak I<|xk<|?_
 exact Aa I<|xa<|zS I<|xm<|Aa I<|wC I I (fun W h=>DU z ((p.den:Nat)*(q.den:Nat)) Eb hz hd W (ht.hp h))<|At I<|xc<|wR2 I I I
theorem Pq (p q:Rat) (hp:okQ p) (hq:okQ q) (hz:okN (p.num*q.num)) (hd:okN ((p.den:Nat)*(q.den:Nat))) (W:World) (ht:A9 W):
  Ae Tryz.prog 97 #[Gz p,Gz q] W (fun _:Unit=> .tuple #[str (Ac (p*q)), .int .i64 0]) (fun _=>True) (fun _=>[]):=by
 refine Ab Tryz.func97 I I I<|xb<|wF I I fun _=>wF I I fun _=>Aa I<|xf<|wP I<|wB 0 I I I<|wP I<|wB 1 I I I<|wC I I (fun W h=>(Ck p.num q.num hp.1 hq.1 W (ht.hp h)).cast (Gh hz))<|Ak I<|xl<|zA<|?_
 refine zB<|Aa I<|xa<|zS I<|xm<|wP I<|wB 0 I I I<|wP I<|wB 1 I I I<|wC I I (fun W h=>(Ck (p.den:Nat) (q.den:Nat) hp.2 hq.2 W (ht.hp h)).cast (Gh hd))<|Ak I<|xl<|zA<|?_
 exact zB<|Aa I<|xa<|zS I<|xm<|Aa I<|wC I I (fun W h=>(DU (p.num*q.num) ((p.den:Nat)*(q.den:Nat)) Eb hz hd W (ht.hp h)).cast (congrArg (fun r=>Value.tuple #[str (Ac r), .int .i64 0]) (J7 p q)))<|At I<|xc<|wR2 I I I
def MX (p q:Rat):List UInt8×Int:=if q.num=0 then([],12) else(Ac (p/q),0)
theorem Y5 (p q:Rat) (hq:q.num≠0):nrm (p.num*(q.den:Nat)) (q.num*(p.den:Nat))=p/q:=by rw[Int.mul_comm q.num,MZ p q hq]
theorem Uq (p q:Rat) (hp:okQ p) (hq:okQ q) (h1:okN (p.num*(q.den:Nat))) (h2:okN (q.num*(p.den:Nat))) (W:World) (ht:A9 W):
  Ae Tryz.prog 71 #[Gz p,Gz q] W (fun _:Unit=> .tuple #[str (MX p q).1, .int .i64 (MX p q).2]) (fun _=>True) (fun _=>[]):=by
 refine Ab Tryz.func71 I I I<|xb<|wF I I fun _=>wF I I fun _=>Aa I<|xk<|wP I<|wB 1 I I I<|wP I<|?_
 by_cases h0:q.num=0
 ·exact wU 11 true I ((AW _ [48]).trans (dT (Ki.2 h0)))<|xa<|zR I<|xb<|Aa I<|xo<|wR2 I I (by rw[MX,if_pos h0])
 ·refine wU 11 false I ((AW _ [48]).trans (dF fun e=>h0 (Ki.1 e)))<|xa<|zS I<|xm<|wB 0 I I I<|wB 1 I I I<|wC I I (fun W h=>Dm p q hp hq h1 h2 W (ht.hp h))<|AE I<|wP I<|xk<|Aa I<|?_
  exact xa<|zS I<|xm<|Aa I<|wC I I (fun W h=>(DU (p.num*(q.den:Nat)) (q.num*(p.den:Nat)) (Int.mul_ne_zero h0 (by have:=p.den_nz;omega)) h1 h2 W (ht.hp h)).cast (congrArg (fun r=>Value.tuple #[str (Ac r), .int .i64 0]) (Y5 p q h0)))<|At I<|xc<|wR2 I I (by rw[MX,if_neg h0])
theorem G6 {z:Int} {k:Nat} (h:z.natAbs<10^k) (hk:k<=300):okN z:=Nat.lt_of_lt_of_le h (Nat.pow_le_pow_right (by decide) (show k<=mxd from hk))
theorem szQ.ok {q:Rat} {k:Nat} (h:szQ q k) (hk:k<=300):okQ q:=⟨G6 h.1 hk,G6 (k:=k) (by rw[Int.natAbs_natCast];exact h.2) hk⟩
theorem szQ.mono {q:Rat} {k m:Nat} (h:szQ q k) (hk:k<=m):szQ q m:=⟨Nat.lt_of_lt_of_le h.1 (Nat.pow_le_pow_right (by decide) hk),Nat.lt_of_lt_of_le h.2 (Nat.pow_le_pow_right (by decide) hk)⟩
theorem Bb {x y:Int} {a b:Nat} (hx:x.natAbs<10^a) (hy:y.natAbs<10^b):(x*y).natAbs<10^(a+b):=by
 rw[Int.natAbs_mul];exact VM hx hy (Nat.le_refl _)
theorem Ji {x y:Int} {a:Nat} (hx:x.natAbs<10^a) (hy:y.natAbs<10^a):(x+y).natAbs<10^(a+1):=by
 rw[Nat.pow_succ];omega
theorem KV {x y:Int} {a:Nat} (hx:x.natAbs<10^a) (hy:y.natAbs<10^a):(x-y).natAbs<10^(a+1):=by
 rw[Nat.pow_succ];omega
structure Sz2 (p q:Rat):Prop where
 okp:okQ p
 okq:okQ q
 c1:okN (p.num*(q.den:Nat))
 c2:okN (q.num*(p.den:Nat))
 d:okN ((p.den:Nat)*(q.den:Nat))
 n:okN (p.num*q.num)
 add:okN (p.num*(q.den:Nat)+q.num*(p.den:Nat))
 sub:okN (p.num*(q.den:Nat)-q.num*(p.den:Nat))
theorem sz2 {p q:Rat} {a b:Nat} (hp:szQ p a) (hq:szQ q b) (hk:a+b+1<=300):Sz2 p q:=by
 have hqd:((q.den:Nat):Int).natAbs<10^b:=by rw[Int.natAbs_natCast];exact hq.2
 have hpd:((p.den:Nat):Int).natAbs<10^a:=by rw[Int.natAbs_natCast];exact hp.2
 have e1:=Bb hp.1 hqd
 have e2:=Bb hq.1 hpd
 rw[Nat.add_comm b a] at e2
 exact⟨hp.ok (by omega),hq.ok (by omega),G6 e1 (by omega),G6 e2 (by omega),G6 (Bb hpd hqd) (by omega),G6 (Bb hp.1 hq.1) (by omega),G6 (Ji e1 e2) hk,G6 (KV e1 e2) hk⟩
theorem szQ.add {p q:Rat} {a b:Nat} (hp:szQ p a) (hq:szQ q b):szQ (p+q) (a+b+1):=by
 have hqd:((q.den:Nat):Int).natAbs<10^b:=by rw[Int.natAbs_natCast];exact hq.2
 have hpd:((p.den:Nat):Int).natAbs<10^a:=by rw[Int.natAbs_natCast];exact hp.2
 have e1:=Bb hp.1 hqd
 have e2:=Bb hq.1 hpd
 rw[Nat.add_comm b a] at e2
 rw[<-Nl]
 exact G5 _ Eb (Ji e1 e2) (Nat.lt_of_lt_of_le (Bb hpd hqd) (Nat.pow_le_pow_right (by decide) (by omega)))
theorem szQ.sub {p q:Rat} {a b:Nat} (hp:szQ p a) (hq:szQ q b):szQ (p-q) (a+b+1):=by
 have hqd:((q.den:Nat):Int).natAbs<10^b:=by rw[Int.natAbs_natCast];exact hq.2
 have hpd:((p.den:Nat):Int).natAbs<10^a:=by rw[Int.natAbs_natCast];exact hp.2
 have e1:=Bb hp.1 hqd
 have e2:=Bb hq.1 hpd
 rw[Nat.add_comm b a] at e2
 rw[<-Jp]
 exact G5 _ Eb (KV e1 e2) (Nat.lt_of_lt_of_le (Bb hpd hqd) (Nat.pow_le_pow_right (by decide) (by omega)))
theorem szQ.mul {p q:Rat} {a b:Nat} (hp:szQ p a) (hq:szQ q b):szQ (p*q) (a+b):=by
 have hqd:((q.den:Nat):Int).natAbs<10^b:=by rw[Int.natAbs_natCast];exact hq.2
 have hpd:((p.den:Nat):Int).natAbs<10^a:=by rw[Int.natAbs_natCast];exact hp.2
 rw[<-J7]
 exact G5 _ Eb (Bb hp.1 hq.1) (Bb hpd hqd)
theorem szQ.div {p q:Rat} {a b:Nat} (hp:szQ p a) (hq:szQ q b) (h0:q.num≠0):szQ (p/q) (a+b):=by
 have hqd:((q.den:Nat):Int).natAbs<10^b:=by rw[Int.natAbs_natCast];exact hq.2
 have hpd:((p.den:Nat):Int).natAbs<10^a:=by rw[Int.natAbs_natCast];exact hp.2
 rw[<-MZ p q h0]
 exact G5 _ (Int.mul_ne_zero (by have:=p.den_nz;omega) h0) (Bb hp.1 hqd) (Bb hpd hq.1)
theorem A9.below {W0 W:World} (h:A9 W0) (hb:Below W0.heap.size W0 W):A9 W:=tabBelow_of_tabIs h W hb
theorem Dk (p:Rat) (h:smQ p):((p.den:Nat):Int).natAbs<100000000:=by rw[Int.natAbs_natCast];exact h.2
theorem C7 (p q:Rat) (h:Sz2 p q) (W0:World) (hv:AH W0) (ht:A9 W0):
  Ae Tryz.prog 36 #[str (Ac p),str (Ac q)] W0 (fun _:Unit=> .tuple #[str (Ac (p+q)), .int .i64 0]) (fun _=>True) (fun _=>[]):=by
 have hlp:=AX h.okp
 have hlq:=AX h.okq
 refine Ab Tryz.func36 I I I<|xb<|Aa I<|xk<|Aa I<|?_
 have hquick: ∀W,A9 W->Ae Tryz.prog 68 #[str (Ac p),str (Ac q), .func (.func 74) #[] #[]] W (fun _:Unit=>if smQ p/\smQ q then .tuple #[str (Ac (p+q)), .bool true] else .tuple #[str [], .bool false]) (fun _=>True) (fun _=>[]):=
  fun W ht=>El p q (p+q) (p.num*(q.den:Nat)+q.num*(p.den:Nat)) ((p.den:Nat)*(q.den:Nat)) _ (by kernel_rfl) (by omega) (by omega) (fun hp hq=>by
   have m1:=Dr hp.1 (Dk q hq)
   have m2:=Dr hq.1 (Dk p hp)
   have m3:=Dr (Dk p hp) (Dk q hq)
   exact⟨Ut _ _ _ _ hp.1 (Dk p hp) hq.1 (Dk q hq),Eb,by omega,by omega,Nl p q⟩) W ht
 by_cases hs:smQ p/\smQ q
 ·exact wC I I (fun W h=>(hquick W (ht.hp h)).cast (if_pos hs))<|Ak I<|xf<|wP I<|xa<|zR I<|xb<|Ad I<|xo<|wR2 I I I
 ·refine wC I I (fun W h=>(hquick W (ht.hp h)).cast (if_neg hs))<|Ak I<|xf<|wP I<|xa<|zS I<|xm<|Aa I<|wD (X:=Nat) I I (fun W _=>Gw 76 W) ?_
  intro b18 _
  exact wC I I (fun W hp=>Ep p q (Ac (p+q)) 0 128 [Ai b18] h.okp h.okq W (hv.hp hp) (ht.hp hp) (by kernel_rfl) (fun W' hb=>(Iy p q b18 76 (p.num*(q.den:Nat)+q.num*(p.den:Nat)) h.okp h.okq h.c1 h.c2 h.add h.d (by kernel_rfl) (fun W2 ht2=>(SO _ _ h.c1 h.c2 W2 ht2).cast (Gh h.add)) W' ((ht.hp hp).below hb) ((Aj.of_bx hp 0 I I).below (Nat.le_refl _) hb)).cast (congrArg (fun r=>Value.tuple #[str (Ac r), .int .i64 0]) (Nl p q))))<|At I<|xc<|wR2 I I I
theorem C6 (p q:Rat) (h:Sz2 p q) (W0:World) (hv:AH W0) (ht:A9 W0):
  Ae Tryz.prog 37 #[str (Ac p),str (Ac q)] W0 (fun _:Unit=> .tuple #[str (Ac (p-q)), .int .i64 0]) (fun _=>True) (fun _=>[]):=by
 have hlp:=AX h.okp
 have hlq:=AX h.okq
 refine Ab Tryz.func37 I I I<|xb<|Aa I<|xk<|Aa I<|?_
 have hquick: ∀W,A9 W->Ae Tryz.prog 68 #[str (Ac p),str (Ac q), .func (.func 77) #[] #[]] W (fun _:Unit=>if smQ p/\smQ q then .tuple #[str (Ac (p-q)), .bool true] else .tuple #[str [], .bool false]) (fun _=>True) (fun _=>[]):=
  fun W ht=>El p q (p-q) (p.num*(q.den:Nat)-q.num*(p.den:Nat)) ((p.den:Nat)*(q.den:Nat)) _ (by kernel_rfl) (by omega) (by omega) (fun hp hq=>by
   have m1:=Dr hp.1 (Dk q hq)
   have m2:=Dr hq.1 (Dk p hp)
   have m3:=Dr (Dk p hp) (Dk q hq)
   exact⟨Nw _ _ _ _ hp.1 (Dk p hp) hq.1 (Dk q hq),Eb,by omega,by omega,Jp p q⟩) W ht
 by_cases hs:smQ p/\smQ q
 ·exact wC I I (fun W h=>(hquick W (ht.hp h)).cast (if_pos hs))<|Ak I<|xf<|wP I<|xa<|zR I<|xb<|Ad I<|xo<|wR2 I I I
 ·refine wC I I (fun W h=>(hquick W (ht.hp h)).cast (if_neg hs))<|Ak I<|xf<|wP I<|xa<|zS I<|xm<|Aa I<|wD (X:=Nat) I I (fun W _=>Gw 78 W) ?_
  intro b18 _
  exact wC I I (fun W hp=>Ep p q (Ac (p-q)) 0 128 [Ai b18] h.okp h.okq W (hv.hp hp) (ht.hp hp) (by kernel_rfl) (fun W' hb=>(Iy p q b18 78 (p.num*(q.den:Nat)-q.num*(p.den:Nat)) h.okp h.okq h.c1 h.c2 h.sub h.d (by kernel_rfl) (fun W2 ht2=>(NN _ _ h.c1 h.c2 W2 ht2).cast (Gh h.sub)) W' ((ht.hp hp).below hb) ((Aj.of_bx hp 0 I I).below (Nat.le_refl _) hb)).cast (congrArg (fun r=>Value.tuple #[str (Ac r), .int .i64 0]) (Jp p q))))<|At I<|xc<|wR2 I I I
theorem Db (p q:Rat) (h:Sz2 p q) (W0:World) (hv:AH W0) (ht:A9 W0):
  Ae Tryz.prog 53 #[str (Ac p),str (Ac q)] W0 (fun _:Unit=> .tuple #[str (Ac (p*q)), .int .i64 0]) (fun _=>True) (fun _=>[]):=by
 have hlp:=AX h.okp
 have hlq:=AX h.okq
 refine Ab Tryz.func53 I I I<|xb<|Aa I<|xk<|Aa I<|?_
 have hquick: ∀W,A9 W->Ae Tryz.prog 68 #[str (Ac p),str (Ac q), .func (.func 96) #[] #[]] W (fun _:Unit=>if smQ p/\smQ q then .tuple #[str (Ac (p*q)), .bool true] else .tuple #[str [], .bool false]) (fun _=>True) (fun _=>[]):=
  fun W ht=>El p q (p*q) (p.num*q.num) ((p.den:Nat)*(q.den:Nat)) _ (by kernel_rfl) (by omega) (by omega) (fun hp hq=>by
   have m1:=Dr hp.1 hq.1
   have m3:=Dr (Dk p hp) (Dk q hq)
   exact⟨NJ _ _ _ _ hp.1 (Dk p hp) hq.1 (Dk q hq),Eb,by omega,by omega,J7 p q⟩) W ht
 by_cases hs:smQ p/\smQ q
 ·exact wC I I (fun W h=>(hquick W (ht.hp h)).cast (if_pos hs))<|Ak I<|xf<|wP I<|xa<|zR I<|xb<|Ad I<|xo<|wR2 I I I
 ·refine wC I I (fun W h=>(hquick W (ht.hp h)).cast (if_neg hs))<|Ak I<|xf<|wP I<|xa<|zS I<|xm<|Aa I<|wC I I (fun W hp=>Ep p q (Ac (p*q)) 0 97 [] h.okp h.okq W (hv.hp hp) (ht.hp hp) (by kernel_rfl) (fun W' hb=>Pq p q h.okp h.okq h.n h.d W' ((ht.hp hp).below hb)))<|At I<|?_
  exact xc<|wR2 I I I
theorem Fc {q:Rat}:Ac q=[48]↔q.num=0:=by
 constructor
 ·intro h
  unfold Ac F1 at h
  split at h
  ·exact Ki.1 h
  ·have:(47:UInt8)∈([48]:List UInt8):=by rw[<-h];exact List.mem_append_right _ (List.mem_cons_self ..)
   exact absurd this (by decide)
 ·intro h
  have hd:q.den=1:=by
   have:=q.reduced
   rw[h] at this
   simpa[Nat.Coprime] using this
  rw[Ac,F1,if_pos hd,h,CC]
theorem Ko (p q:Rat) (h:Sz2 p q) (W0:World) (hv:AH W0) (ht:A9 W0):
  Ae Tryz.prog 35 #[str (Ac p),str (Ac q)] W0 (fun _:Unit=> .tuple #[str (MX p q).1, .int .i64 (MX p q).2]) (fun _=>True) (fun _=>[]):=by
 have hlp:=AX h.okp
 have hlq:=AX h.okq
 have hboth: ∀W,AH W->A9 W->Ae Tryz.prog 70 #[str (Ac p),str (Ac q), .func (.func 71) #[] #[]] W (fun _:Unit=> .tuple #[str (MX p q).1, .int .i64 (MX p q).2]) (fun _=>True) (fun _=>[]):=
  fun W hv ht=>Ep p q _ _ 71 [] h.okp h.okq W hv ht (by kernel_rfl) (fun W' hb=>Uq p q h.okp h.okq h.c1 h.c2 W' (ht.below hb))
 refine Ab Tryz.func35 I I I<|xb<|Aa I<|xk<|Aa I<|?_
 by_cases h0:q.num=0
 ·exact wU 9 false I (by show(!_)=false;rw[AW,dT (Fc.2 h0)];rfl)<|xa<|zS I<|xm<|Aa I<|wC I I (fun W hp=>hboth W (hv.hp hp) (ht.hp hp))<|At I<|xc<|wR2 I I I
 ·have hval:MX p q=(Ac (p/q),0):=if_neg h0
  refine wU 9 true I (by show(!_)=true;rw[AW,dF fun e=>h0 (Fc.1 e)];rfl)<|xa<|zR I<|xb<|Aa I<|?_
  have hquick: ∀W,A9 W->Ae Tryz.prog 68 #[str (Ac p),str (Ac q), .func (.func 69) #[] #[]] W (fun _:Unit=>if smQ p/\smQ q then .tuple #[str (Ac (p/q)), .bool true] else .tuple #[str [], .bool false]) (fun _=>True) (fun _=>[]):=
   fun W ht=>El p q (p/q) (p.num*(q.den:Nat)) ((p.den:Nat)*q.num) _ (by kernel_rfl) (by omega) (by omega) (fun hp hq=>by
    have m1:=Dr hp.1 (Dk q hq)
    have m3:=Dr (Dk p hp) hq.1
    exact⟨Uw _ _ _ _ hp.1 (Dk p hp) hq.1 (Dk q hq),Int.mul_ne_zero (by have:=p.den_nz;omega) h0,by omega,by omega,MZ p q h0⟩) W ht
  by_cases hs:smQ p/\smQ q
  ·exact wC I I (fun W h=>(hquick W (ht.hp h)).cast (if_pos hs))<|Ak I<|xf<|wP I<|xa<|zR I<|xb<|Ad I<|xo<|wR2 I I (by rw[hval])
  ·refine wC I I (fun W h=>(hquick W (ht.hp h)).cast (if_neg hs))<|Ak I<|xf<|wP I<|xa<|zS I<|xm<|Aa I<|wC I I (fun W hp=>hboth W (hv.hp hp) (ht.hp hp))<|At I<|?_
   exact xc<|wR2 I I I
theorem EO (p q:Rat) (h:Sz2 p q) (W0:World) (hv:AH W0) (ht:A9 W0):
  Ae Tryz.prog 63 #[str (Ac p),str (Ac q)] W0 (fun _:Unit=> .tuple #[.int .i64 (Hb (p.num*(q.den:Nat)) (q.num*(p.den:Nat))), .int .i64 0]) (fun _=>True) (fun _=>[]):=by
 have hlp:=AX h.okp
 have hlq:=AX h.okq
 refine Ab Tryz.func63 I I I<|xb<|Aa I<|xl<|AA (X:=Unit) (fun _=>[(0,str (Ac p)),(1,str (Ac q)),(4, .int .i64 0),(5, .int .i64 0)]) (fun _=>[]) (fun _=>True) ?_ ?_
 ·refine xb<|wP I<|?_
  by_cases hp:smQ p
  ·refine wC I I (fun W _=>(AT (Ac p) (by omega) W).cast ((BW p).trans (if_pos hp)))<|Ad I<|wG I I fun _=>wS 0 I I I<|wP I<|zC<|?_
   rename_i b6
   refine xn<|wP I<|xa<|zR I<|xb<|wP I<|?_
   by_cases hq:smQ q
   ·refine wC I I (fun W _=>(AT (Ac q) (by omega) W).cast ((BW q).trans (if_pos hq)))<|Ad I<|wG I I fun _=>wS 1 I I I<|wP I<|zC<|?_
    rename_i b8
    refine xn<|wP I<|xa<|zR I<|xb<|wP I<|wB 0 I I I<|wP I<|wB 1 I I I<|wP I<|wV 31 (p.num*(q.den:Nat)) I (CJ hp.1 (Dk q hq))<|wP I<|wB 1 I I I<|wP I<|wB 0 I I I<|wP I<|wV 36 (q.num*(p.den:Nat)) I (CJ hq.1 (Dk p hp))<|wC I I (fun W _=>Km _ _ W)<|Aa I<|?_
    exact xo<|wR2 I I I
   ·exact wC I I (fun W _=>(AT (Ac q) (by omega) W).cast ((BW q).trans (if_neg hq)))<|Ad I<|wG I I fun _=>wS 1 I I I<|wP I<|xf<|wP I<|xa<|zS I<|zI<|Ao () tO ⟨I,I,I,I,tO⟩ _ I
  ·exact wC I I (fun W _=>(AT (Ac p) (by omega) W).cast ((BW p).trans (if_neg hp)))<|Ad I<|wG I I fun _=>wS 0 I I I<|wP I<|xf<|wP I<|xa<|zS I<|zI<|Ao () tO ⟨I,I,I,I,tO⟩ _ I
 ·intro _ _
  refine xb<|wP I<|wC I I (fun W hp=>(Cu (Ac p) (by omega) W (hv.hp hp) (ht.hp hp)).cast (HU h.okp))<|Ad I<|wG I I fun _=>wS 0 I I I<|wP I<|zC<|?_
  rename_i b10
  refine zE<|xd<|Aa I<|xa<|zS I<|xm<|wP I<|wC I I (fun W hp=>(Cu (Ac q) (by omega) W (hv.hp hp) (ht.hp hp)).cast (HU h.okq))<|Ad I<|wG I I fun _=>wS 1 I I I<|wP I<|zC<|?_
  rename_i b12
  refine zE<|xd<|Aa I<|xa<|zS I<|xm<|wB 0 I I I<|wB 1 I I I<|wC I I (fun W hp=>Dm p q h.okp h.okq h.c1 h.c2 W (ht.hp hp))<|AE I<|wP I<|zC<|?_
  exact zE<|xd<|Aa I<|xa<|zS I<|xm<|Aa I<|wC I I (fun W _=>I8 _ _ h.c1 h.c2 W)<|At I<|xc<|wR2 I I I
theorem ZQ (a:Int):Ac (nrm a 1)=itoa a:=by
 have e:nrm a 1=mkRat a 1:=rfl
 rw[e,IN (by decide) (by rw[Nat.gcd_one_right])]
 rw[Nat.gcd_one_right]
 show itoa (a/1)=_
 rw[Int.ediv_one]
def ofR (a b:Int):List UInt8×Int:=if b=0 then([],12) else(Ac (nrm a b),0)
theorem Zc {z:Int} (h0: -9223372036854775808<=z) (h1:z<=9223372036854775807):okN z:=IZ (by
 have:(10:Nat)^20=100000000000000000000:=by decide
 omega)
theorem FS (a b:Int) (ha: -9223372036854775808<=a/\a<=9223372036854775807) (hb: -9223372036854775808<=b/\b<=9223372036854775807) (W:World) (ht:A9 W):
  Ae Tryz.prog 52 #[.int .i64 a, .int .i64 b] W (fun _:Unit=> .tuple #[str (ofR a b).1, .int .i64 (ofR a b).2]) (fun _=>True) (fun _=>[]):=by
 refine Ab Tryz.func52 I I I<|xb<|Aa I<|xk<|wP I<|xa<|zH<|xb<|wP I<|?_
 by_cases h0:b=0
 ·exact wU 8 true I (by rw[h0];rfl)<|wP I<|xa<|zR I<|xb<|Aa I<|xc<|zQ<|zP<|wR2 I I (by rw[ofR,if_pos h0])
 ·have hval:ofR a b=(Ac (nrm a b),0):=if_neg h0
  refine wU 8 false I (by rw[beq_eq_false_iff_ne];exact h0)<|wP I<|xa<|zS I<|xb<|wP I<|?_
  by_cases h1:b=1
  ·exact wU 10 true I (by rw[h1];rfl)<|wP I<|xa<|zR I<|xb<|wP I<|wC I I (fun W hp=>Bt a ha.1 ha.2 W (ht.hp hp))<|Aa I<|xc<|zQ<|zP<|wR2 I I (by rw[hval,h1,ZQ])
  ·exact wU 10 false I (by rw[beq_eq_false_iff_ne];exact h1)<|wP I<|xa<|zS I<|zI<|zN<|xn<|wP I<|wC I I (fun W hp=>Bt a ha.1 ha.2 W (ht.hp hp))<|wP I<|wC I I (fun W hp=>Bt b hb.1 hb.2 W (ht.hp hp))<|wC I I (fun W hp=>DU a b h0 (Zc ha.1 ha.2) (Zc hb.1 hb.2) W (ht.hp hp))<|At I<|xc<|wR2 I I (by rw[hval])
theorem BE (a:List UInt8) (hl:a.length<=4000000000) (W:World) (hv:AH W) (ht:A9 W):
  Ae Tryz.prog 93 #[str a] W (fun _:Unit=> .int .i64 (rdR a).2) (fun _=>True) (fun _=>[]):=by
 refine Ab Tryz.func93 I I I<|xb<|wP I<|xf<|wP I<|wC I I (fun W h=>Cu a hl W (hv.hp h) (ht.hp h))<|Ad I<|wG I I fun _=>wS 0 I I I<|wP I<|xf<|Aa I<|xa<|?_
 exact zO<|wR1 I I I
theorem Dt {q:Rat} (h:okQ q):rdR (Ac q)=((itoa q.num,decDigits q.den),0):=by
 have hd:q.den<Bw:=by have:=h.2;unfold okN at this;rwa [Int.natAbs_natCast] at this
 have hf:frm (Ac q)=some (q.num,q.den):=Gd q.num q.den_pos
 unfold rdR;rw[hf];exact(if_pos ⟨h.1,hd⟩).trans (if_pos q.reduced)
theorem Yi (z:Int):nrm z 1=(z:Rat):=by
 show mkRat z 1=_
 exact Rat.mkRat_one z
theorem K8 (z:Int):ofR z 1=(Ac (z:Rat),0):=by
 rw[ofR,if_neg (by decide),Yi]
theorem Z1 (p q:Rat):p.num*(q.den:Nat)<q.num*(p.den:Nat)↔p<q:=(Rat.lt_iff p q).symm
def CT (p q:Rat):Int:=if p<q then -1 else if p=q then 0 else 1
theorem Mg (p q:Rat):Hb (p.num*(q.den:Nat)) (q.num*(p.den:Nat))=CT p q:=by
 unfold Hb CT
 have h1:=Z1 p q
 have h2:p.num*(q.den:Nat)=q.num*(p.den:Nat)↔p=q:=by
  constructor
  ·intro h
   have a:=Rat.num_divInt_den p
   have b:=Rat.num_divInt_den q
   rw[<-a, <-b]
   exact(Rat.divInt_eq_divInt_iff (by have:=p.den_nz;omega) (by have:=q.den_nz;omega)).2 h
  ·rintro rfl;rfl
 by_cases h:p<q
 ·rw[if_pos h,if_pos (h1.2 h)]
 ·rw[if_neg h,if_neg (fun e=>h (h1.1 e))]
  by_cases e:p=q
  ·rw[if_pos e,if_pos (h2.2 e)]
  ·rw[if_neg e,if_neg (fun h=>e (h2.1 h))]
theorem HS {z:Int} {k:Nat} (h:z.natAbs<10^k) (hk:1<10^k):szQ (z:Rat) k:=⟨by rw[Rat.num_intCast];exact h,by rw[Rat.den_intCast];exact hk⟩
theorem Ro (p q:Rat):(decide (CT p q<=0))=decide (p<=q):=by
 unfold CT
 refine decide_eq_decide.2 ?_
 by_cases h:p<q
 ·rw[if_pos h];exact⟨fun _=>Rat.le_of_lt h,fun _=>by decide⟩
 ·rw[if_neg h]
  by_cases e:p=q
  ·rw[if_pos e];exact⟨fun _=>by rw[e];exact Rat.le_refl,fun _=>by decide⟩
  ·rw[if_neg e]
   exact⟨fun h=>absurd h (by decide),fun h2=>absurd (Rat.lt_of_le_of_ne h2 e) h⟩
theorem BV:Ac 0=[48]:=Fc.2 rfl
theorem Cc (p q:Rat):(decide (CT p q<0))=decide (p<q):=by
 unfold CT
 refine decide_eq_decide.2 ?_
 by_cases h:p<q
 ·rw[if_pos h];exact⟨fun _=>h,fun _=>by decide⟩
 ·rw[if_neg h]
  by_cases e:p=q
  ·rw[if_pos e];exact⟨fun h2=>absurd h2 (by decide),fun h2=>absurd h2 h⟩
  ·rw[if_neg e]
   exact⟨fun h=>absurd h (by decide),fun h2=>absurd h2 h⟩
theorem K7 {p q:Rat}:Ac p=Ac q↔p=q:=by
 refine⟨fun h=> ?_,fun h=>by rw[h]⟩
 have h1:=Gd p.num p.den_pos
 have h2:=Gd q.num q.den_pos
 have h:F1 p.num p.den=F1 q.num q.den:=h
 rw[h,h2] at h1
 injection h1 with h1
 injection h1 with a b
 exact Rat.ext a.symm b.symm
theorem Ns (q:Rat):decide (Ac q=[48])=decide (q=0):=decide_eq_decide.2 (by rw[<-BV,K7])
theorem HC {q:Rat} (h:q≠0):q.num≠0:=by rwa [ne_eq,Rat.num_eq_zero]
theorem Hh (p q:Rat):(decide (CT p q<=0))=decide (p<=q):=Ro p q
theorem OT (p q:Rat):(decide (CT p q>0))=decide (q<p):=by
 have h:=Hh p q
 rw[decide_eq_decide] at h⊢
 constructor
 ·intro h1
  exact Rat.not_le.1 fun h2=>by have:=h.2 h2;omega
 ·intro h1
  have: ¬CT p q<=0:=fun h2=>Rat.not_le.2 h1 (h.1 h2)
  omega
theorem L0 (p q:Rat):(decide (CT p q≥0))=decide (q<=p):=by
 have h:=Cc p q
 rw[decide_eq_decide] at h⊢
 constructor
 ·intro h1
  exact Rat.not_lt.1 fun h2=>by have:=h.2 h2;omega
 ·intro h1
  have: ¬CT p q<0:=fun h2=>Rat.not_lt.2 h1 (h.1 h2)
  omega
section
variable {r:Option Nat} {n:Nat} {P:Program} {W0:World} {N:Nat} {D:List Deferred} {ops:List Oper} {Q:Exit->Act->World->Prop} {o:Oper} {rest:List Oper} {env:Env} {bxs:List Bx} {A:World->Prop}
theorem AQ {d:Nat} {x:Operand} {a:Addr} (hg:Aw ops N env o=some true) (hd:o.dst=some d) (ho:o.op= .nilCheck x) (hx:evO N env x=some (.pointer (some a)))
  (h:WL r n P N D ops Q rest ((d, .pointer (some a))::env) A):WL r n P N D ops Q (o::rest) env A:=
 CP hg hd (fun c e=>by rw[ho] at e;cases e) (fun _ W hρ _=>by simp[execOp,ho,hρ _ _ hx]) h
theorem HM {T:Tbl} {i:TI} {t ty:TypeId} {x y:Operand} {b off:Nat} {c:List Value} {v:Value} (hT:Go.Am.okB P T=true) (hg:Aw ops N env o=some true) (hd:o.dst=none) (ho:o.op= .store t x y) (ht:Cw T t=some i)
  (hx:evO N env x=some (.pointer (some ⟨b,off,none⟩))) (hy:evO N env y=some v) (hs:Nat.beq v.cells.toList.length i.size=true) (h1:Dp v.cells.toList=true) (hl:Nat.ble (off+i.size) c.length=true) (hys:BF c off v.cells.toList=c)
  (hc: ∀W,Hp W0 bxs W->W.heap[b]? =some (.cells c.toArray ty (0,0)))
  (h:WL r n P N D ops Q rest env (Hp W0 bxs)):WL r n P N D ops Q (o::rest) env (Hp W0 bxs):= .mk fun a W ha hd' hp=>by
 refine BO hg ha (fun c e=>by rw[ho] at e;cases e) ?_
 have h3:=hc W hp
 obtain⟨W',hr,hu⟩:=FJ (P:=P) (BA hT ht) h3 (Nat.eq_of_beq_eq_true hs) (Nat.le_of_ble_eq_true hl) h1
 rw[hys] at hu
 have:(execOp (ov env a).eval o).run P W= .ok .skip W':=by
  simp[execOp,ho,Instr.storeAt,Instr.sureAddr,AB ha _ _ hx,AB ha _ _ hy,hr]
 rw[this]
 simp only[Oper.uponIn,hd]
 refine h.out a W' ha hd' (hp.grow ⟨hu.os,hu.tape,hu.output, ?_, ?_⟩)
 ·rw[hu.heap,Array.size_setIfInBounds];exact Nat.le_refl _
 ·intro k hk
  rw[hu.heap,Array.getElem?_setIfInBounds]
  by_cases e:b=k
  ·subst e;rw[if_pos rfl,if_pos hk];exact h3.symm
  ·rw[if_neg e]
end
theorem EN (z:Int) (hz: -9223372036854775808<=z/\z<=9223372036854775807) (W:World) (ht:A9 W):
  Ae Tryz.prog 157 #[.int .i64 z] W (fun _:Unit=>str (Ac (z:Rat))) (fun _=>True) (fun _=>[]):=by
 exact Ab Tryz.func157 I I I<|xb<|wP I<|xf<|wP I<|wC I I (fun W hp=>(FS z 1 hz (by decide) W (ht.hp hp)).cast (by rw[K8]))<|Ak I<|xf<|Aa I<|xc<|wR1 I I I
theorem Vb (p q:Rat) (h:Sz2 p q) (W:World) (hv:AH W) (ht:A9 W):
  Ae Tryz.prog 323 #[str (Ac p),str (Ac q)] W (fun _:Unit=>str (Ac (p+q))) (fun _=>True) (fun _=>[]):=by
 refine Ab Tryz.func323 I I I<|xb<|wP I<|xf<|Aa I<|wC I I (fun W hp=>C7 p q h W (hv.hp hp) (ht.hp hp))<|Ak I<|xf<|Aa I<|xa<|?_
 exact zO<|wR1 I I I
theorem Pa (p q:Rat) (h:Sz2 p q) (W:World) (hv:AH W) (ht:A9 W):
  Ae Tryz.prog 158 #[str (Ac p),str (Ac q)] W (fun _:Unit=>str (Ac (p-q))) (fun _=>True) (fun _=>[]):=by
 refine Ab Tryz.func158 I I I<|xb<|wP I<|xf<|Aa I<|wC I I (fun W hp=>C6 p q h W (hv.hp hp) (ht.hp hp))<|Ak I<|xf<|Aa I<|xa<|?_
 exact zO<|wR1 I I I
theorem Kg (p q:Rat) (h:Sz2 p q) (W:World) (hv:AH W) (ht:A9 W):
  Ae Tryz.prog 159 #[str (Ac p),str (Ac q)] W (fun _:Unit=>str (Ac (p*q))) (fun _=>True) (fun _=>[]):=by
 refine Ab Tryz.func159 I I I<|xb<|wP I<|xf<|Aa I<|wC I I (fun W hp=>Db p q h W (hv.hp hp) (ht.hp hp))<|Ak I<|xf<|Aa I<|xa<|?_
 exact zO<|wR1 I I I
theorem Uk (p q:Rat) (h:Sz2 p q) (h0:q.num≠0) (W:World) (hv:AH W) (ht:A9 W):
  Ae Tryz.prog 156 #[str (Ac p),str (Ac q)] W (fun _:Unit=>str (Ac (p/q))) (fun _=>True) (fun _=>[]):=by
 refine Ab Tryz.func156 I I I<|xb<|wP I<|xf<|Aa I<|wC I I (fun W hp=>(Ko p q h W (hv.hp hp) (ht.hp hp)).cast (by rw[MX,if_neg h0]))<|Ak I<|xf<|Aa I<|xa<|?_
 exact zO<|wR1 I I I
theorem O6 (p q:Rat) (h:Sz2 p q) (W:World) (hv:AH W) (ht:A9 W):
  Ae Tryz.prog 322 #[str (Ac p),str (Ac q)] W (fun _:Unit=> .int .i64 (CT p q)) (fun _=>True) (fun _=>[]):=by
 refine Ab Tryz.func322 I I I<|xb<|wP I<|xf<|Aa I<|wC I I (fun W hp=>(EO p q h W (hv.hp hp) (ht.hp hp)).cast (by rw[Mg]))<|Ak I<|xf<|Aa I<|xa<|?_
 exact zO<|wR1 I I I
theorem EI (q:Rat) (h:okQ q) (W:World) (hv:AH W) (ht:A9 W):
  Ae Tryz.prog 152 #[str (Ac q)] W (fun _:Unit=> .tuple #[str (itoa q.num),str (itoa (q.den:Nat)), .int .i64 0]) (fun _=>True) (fun _=>[]):=by
 have hl:=AX h
 refine Ab Tryz.func152 I I I<|xb<|Ad I<|xf<|wP I<|wC I I (fun W hp=>(Cu (Ac q) (by omega) W (hv.hp hp) (ht.hp hp)).cast (HU h))<|Ad I<|wG I I fun _=>wS 0 I I I<|wP I<|xl<|zU<|qP I<|qB 0 I I I<|?_
 exact qP I<|qB 0 I I I<|Cd I<|zD<|xc<|wR3 I I I
def EJ (W:World) (p:Option Addr) (l:List (List UInt8)):Prop:=l=[]\/ ∃b off,p=some ⟨b,off,none⟩/\Aj W b off (l.map str)
theorem EJ.below {W W':World} {p:Option Addr} {l:List (List UInt8)} {n:Nat} (h:EJ W p l) (hn:W.heap.size<=n) (hb:Below n W W'):EJ W' p l:=by
 rcases h with h|⟨b,off,h1,h2⟩
 ·exact .inl h
 ·exact .inr ⟨b,off,h1,h2.below hn hb⟩
theorem EJ.hp {W0 W:World} {bxs:List Bx} {p:Option Addr} {l:List (List UInt8)} (h:EJ W0 p l) (hp:Hp W0 bxs W):EJ W p l:=h.below (Nat.le_refl _) hp.below
theorem EJ.row {W:World} {p:Option Addr} {l:List (List UInt8)} (h:EJ W p l) {i:Nat} (hi:i<l.length): ∃b off,p=some ⟨b,off,none⟩/\ ∀k (hk:k<l.length),Aj W b (off+k*1) [str l[k]]:=by
 rcases h with rfl|⟨b,off,h1,h2⟩
 ·exact absurd hi (Nat.not_lt_zero _)
 ·refine⟨b,off,h1,fun k hk=>⟨h2.lt,fun j u hu=> ?_⟩⟩
  have hj:j=0:=by have:=(List.getElem?_eq_some_iff.1 hu).1;simpa using this
  subst hj
  have:=h2.get k (str l[k]) (by rw[List.getElem?_map,List.getElem?_eq_getElem hk];rfl)
  rw[Nat.mul_one,Nat.add_zero,this]
  simpa using hu
theorem Ff (n:Nat):itoa (n:Int)=decDigits n:=by
 unfold itoa;rw[if_neg (by omega)];rfl
abbrev q2 (n:Int) (d:Nat) (h:d≠0:=by decide) (hc:n.natAbs.Coprime d:=by decide):Rat:=⟨n,d,h,hc⟩
theorem dd1 (n:Nat) (h:n<10):decDigits n=[UInt8.ofNat (48+n)]:=by rw[decDigits,dif_pos h]
theorem ns2:Ac (q2 2 1)=[50]:=by rw[Ac,F1,if_pos rfl];exact(Ff 2).trans (dd1 2 (by decide))
end
end Go.Proofs.YtlnjmcchddbogaaGreatDoor
