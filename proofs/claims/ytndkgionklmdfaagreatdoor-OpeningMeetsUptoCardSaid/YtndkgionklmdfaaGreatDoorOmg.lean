/-
  Lemmas that the theorem openingMeets_upto_card needs (part 7 of 7).
-/
import Derived.Test.YtndkgionklmdfaaGreatDoorOmf
import Derived.Test.YtndkgionklmdfaaGreatDoorRows
import Derived.Deep.Slices
import Derived.ChangeArms
import Derived.ChangeShapes
import Derived.WideShapes
import Derived.Carry
import Derived.Test.YtndkgionklmdfaaGreatDoorCards
import Derived.Test.YtndkgionklmdfaaGreatDoorTie
import Derived.ProofKit
import Derived.OpenShut
import Derived.Deep.DeepHandedRow
import Derived.Lib.LaidTab
import Derived.Stop.LaidErr
import Derived.Lay
import Derived.SevenTiedAt
import Derived.Shelf.Vars
set_option maxHeartbeats 64000000
namespace Go.Proofs.YtndkgionklmdfaaGreatDoor
section
open Go Go.RowKit Go.Am Go.Lib
set_option maxRecDepth 10000
-- BOXES 6
-- CODE2
theorem RY (f:FrP): ∀L:List An,(spC f L).length=L.length*3
 |[]=>rfl
 |q::L=>by
  show(_++spC f L).length=_
  rw[List.length_append,RY f L]
  show 3+L.length*3=(L.length+1)*3
  omega
theorem XB {W0 W:World} {bxs:List Bx} (hp:Hp W0 bxs W) (k:Nat) {g i:Nat} {f:FrP} {L:List An} {junk:List Value} (hk:nth bxs k=some (⟨g,45,spC f L++junk,true,none⟩:Bx)) (hi:i<L.length):
  Ag W g (0+i*3) [str (Ac (f.px L[i].1 L[i].2)),str (Ac (f.py L[i].1 L[i].2)),str (Ac (f.pz L[i].2))]:=by
 refine Gu hp k (A:=spC f (L.take i)) (C:=spC f (L.drop (i+1))++junk) hk ?_ (by rw[RY,List.length_take];omega)
 have e:spC f L=spC f (L.take i)++([str (Ac (f.px L[i].1 L[i].2)),str (Ac (f.py L[i].1 L[i].2)),str (Ac (f.pz L[i].2))]++spC f (L.drop (i+1))):=by
  conv=>lhs;rw[←List.take_append_drop i L,List.drop_eq_getElem_cons hi,S6]
  rfl
 rw[e,List.append_assoc,List.append_assoc]
def rcP (f:FrP) (C:List An):List An:=C.map fun q=>(f.px q.1 q.2,f.py q.1 q.2)
theorem PP (f:FrP) (h:f.Go) (s:Int) (l r lo hi:Rat) (zl:szQ l 8) (zr:szQ r 8) (zo:szQ lo 8) (zi:szQ hi 8) (L:List An) (hH:WY (rcP f (crn l r lo hi)) L 0) (hok:Ef (rcP f (crn l r lo hi))) (hq: ∀p∈rcP f (crn l r lo hi),okP p) (W:World) (hv:AE W) (ht:A6 W):
  Ad Tryz.prog 234 #[frV f,H3 s (Ac l) (Ac r) (Ac lo) (Ac hi)] W (fun V:Vec=> .tuple #[V.val L.length, .int .i64 0]) (fun V=>V.OK 2 L.length (ptC L)) (fun V=>[V.bx 62 (ptC L)]):=by
 obtain⟨C,hC⟩: ∃C,C=crn l r lo hi:=⟨_,rfl⟩
 have hCl:C.length=4:=by rw[hC];rfl
 rw[←hC] at hH hok hq
 have hPl:(rcP f C).length=4:=by unfold rcP;rw[List.length_map,hCl]
 refine Ab (args:=[frV f,H3 s (Ac l) (Ac r) (Ac lo) (Ac hi)]) Tryz.func234 I I I ?_
 refine zA (zB ?_)
 (refine Al rfl rfl rfl rfl ?_;intro)
 (refine Al rfl rfl rfl rfl ?_;intro)
 refine wP I (wP I (Aa ?_))
 rename_i b2 b3
 refine zE (zA (zB (wB 0 I I I (wB 1 I I I ?_))))
 refine wD (X:=Vec) I I (fun W1 hp=>Hk f h s l r lo hi zl zr zo zi W1 (hv.hp hp) (ht.hp hp)) ?_
 rintro⟨pV,cV,jV⟩ hV
 rw[←hC] at hV⊢
 have hV:Vec.OK ⟨pV,cV,jV⟩ 3 4 (spC f C):=hV
 obtain⟨gV,rfl⟩: ∃g,pV=some g:=by
  cases pV with
  |none=>exact absurd (hV.nil rfl) (by decide)
  |some g=>exact⟨g,rfl⟩
 iterate 5 refine wP I ?_
 refine Aa (zE (zA (zA (zB (wP I (wP I (Aa (zE (zS I (zI (zE (zA (zB ?_)))))))))))))
 refine wP I (Aa (zE (zA (zA (zB (wP I (wP I (wP I (Aa (zE (zH ?_)))))))))))
 refine C6 ?_
 refine At (X:=Nat×Vec) (fun x=>[(8,x.2.val x.1),(20,slv (some ⟨gV,0,none⟩) 4 cV),(21, .int .i64 4),(22, .int .i64 (x.1:Nat))]) (fun x=>[⟨b2,56,(frV f).cells.toList,true,none⟩,⟨b3,27,(H3 s (Ac l) (Ac r) (Ac lo) (Ac hi)).cells.toList,true,none⟩,⟨gV,45,spC f C++jV,true,none⟩,x.2.bx 62 (ptC ((rcP f C).take x.1))])
  (fun x=>x.1≤4∧x.2.OK 2 x.1 (ptC ((rcP f C).take x.1))) (fun x=>4-x.1) (0,Vec.empty) ⟨Nat.zero_le _,Vec.OK.empty 2⟩ ⟨rfl,rfl,rfl,rfl,trivial⟩ [] rfl ?_
 rintro⟨i,V⟩ ⟨hi,hV2⟩
 have hi:i≤4:=hi
 have hV2:V.OK 2 i (ptC ((rcP f C).take i)):=hV2
 refine zA (zB (wP I ?_))
 by_cases hlt:i<4
 rotate_left
 ·have e:i=4:=by omega
  subst e
  rw[List.take_of_length_le (by omega)] at hV2
  obtain⟨pU,cU,jU⟩:=V
  obtain⟨gU,rfl⟩: ∃g,pU=some g:=by
   cases pU with
   |none=>exact absurd (hV2.nil rfl) (by decide)
   |some g=>exact⟨g,rfl⟩
  refine wU 23 false I (dF (by omega)) (Aa (zE (zA (zS I (zJ (zK (zK (zL (zE (zA (zB (wP I ?_))))))))))))
  refine wD (X:=Vec) I I (fun W1 hp=>by
   have h2:=Qc (rcP f C) L 0 hH (.inl hok) (by omega) (by omega) hq (some ⟨gU,0,none⟩) cU W1 (BH.of_row (junk:=jU) (Ag.of_bx hp 3 (by rw[List.take_of_length_le (by omega)];rfl) rfl)) (hv.hp hp) (ht.hp hp)
   rw[hPl] at h2
   exact h2) ?_
  intro U hU
  exact wP I (wP I (wP I (wP I (Aa (zE (zO (A4 tH I (.tmp I) (.tmp I) U I hU fun W1 hp=>Ap.of_hp (hp.pick (l:=[U.bx 62 (ptC L)]) [4] (by decide) I))))))))
 refine wU 23 true I (dT (by omega)) (Aa (zE (zA (zR I (zI (zE (zA (zH (zA (zB ?_))))))))))
 have hi4:i<C.length:=by omega
 have htk:(rcP f C).take (i+1)=(rcP f C).take i++[(f.px C[i].1 C[i].2,f.py C[i].1 C[i].2)]:=by
  rw[List.take_succ_eq_append_getElem (by omega)]
  unfold rcP
  rw[List.getElem_map]
 have hrow: ∀ {W0 W1:World} {bxs:List Bx},Hp W0 bxs W1→nth bxs 2=some (⟨gV,45,spC f C++jV,true,none⟩:Bx)→_:=fun hp h1=>XB hp 2 h1 hi4
 obtain⟨q,hqe⟩: ∃q,q=C[i]:=⟨_,rfl⟩
 rw[←hqe] at htk hrow
 refine wJ ?_
 refine wL 0 I I (fun W1 hp=>hrow hp I) I ?_
 (refine Ae Tryz.hZ rfl rfl rfl rfl ?_;intro)
 refine wS 4 I I I (Aa (zE (zB (wP I (wP I (wB 4 I I I (wP I (wB 4 I I I ?_))))))))
 refine Au Tryz.hZ tH I I I I I I I I ?_
 refine As Tryz.hZ tH I I I I I I I I I I I fun bN=> ?_
 refine AL (V:=V) (len:=i) (xs:=ptC ((rcP f C).take i)) 3 5 Tryz.vec210 (i+1) (ptC ((rcP f C).take (i+1))) I I I I I I I I I I I hV2 I I I (by rw[htk,Cy];rfl) (by simp only[maxLen];omega) (by omega) I ?_
 intro gU cU jU hU1
 exact wP I (Aa (zN (zE (zB (wP I (wV 34 ((i+1:Nat):Int) I (A0 (by omega)) (wP I (Aa (Ak (i+1,⟨some gU,cU,jU⟩) ⟨hlt,hU1⟩ (by show 4-(i+1)<4-i;omega) ⟨I,I,I,I,tO⟩ [_,_] I)))))))))
-- BOXES 14
-- CODE2
def lnG (p q:An):DX:=⟨q.2-p.2,p.1-q.1,(q.2-p.2)*p.1+(p.1-q.1)*p.2⟩
structure MkZ (l:List An) (P Q:An):Prop where
 a:Sz2 Q.2 P.2
 b:Sz2 P.1 Q.1
 c:Sz2 (Q.2-P.2) P.1
 d:Sz2 (P.1-Q.1) P.2
 e:Sz2 ((Q.2-P.2)*P.1) ((P.1-Q.1)*P.2)
 z:ClZ (lnG P Q) l
 k:FM (lnG P Q) l=l
def StK (p:Option Addr) (cap:Nat) (l:List An) (k:Nat) (pO:Option Addr) (cO:Nat) (o:Bx):Prop:=
 (k=0∧pO=p∧cO=cap)∨ ∃g j,pO=some ⟨g,0,none⟩∧o=(⟨g,62,ptC l++j,true,none⟩:Bx)∧Vec.OK ⟨some g,cO,j⟩ 2 l.length (ptC l)
theorem StK.pts {p:Option Addr} {cap:Nat} {l:List An} {k:Nat} {pO:Option Addr} {cO:Nat} {o:Bx} (h:StK p cap l k pO cO o) {W W1:World} {bxs:List Bx} (hA:BH W p l) (hp:Hp W bxs W1) (j:Nat) (hj:nth bxs j=some o):BH W1 pO l:=by
 rcases h with⟨_,rfl,_⟩|⟨g,jk,rfl,rfl,_⟩
 ·exact hA.hp hp
 ·exact BH.of_row (junk:=jk) (Ag.of_bx hp j hj I)
abbrev erK (b:Nat) (e:Int):Bx:=⟨b,28,[.int .i64 e],true,none⟩
theorem Pd (l M:List An) (hk: ∀k,k<M.length→MkZ l (Ao M k) (Ao M (k+1))) (p q:Option Addr) (cap cap2:Nat) (W:World) (hA:LR W p l) (hB:LR W q M):
  Ad Tryz.prog 235 #[slv p l.length cap,slv q M.length cap2] W (fun x:Nat×Nat×List Value=> .tuple #[slv (some ⟨x.1,0,none⟩) l.length x.2.1, .int .i64 0]) (fun x=>Vec.OK ⟨some x.1,x.2.1,x.2.2⟩ 2 l.length (ptC l)) (fun x=>[⟨x.1,62,ptC l++x.2.2,true,none⟩]):=by
 have hn:=hB.n
 have h3:=hB.n3
 have hlen:((l.length:Nat):Int)≠0:=by have:=hA.n3;omega
 have hv:=hA.v
 have ht:=hA.t
 refine Ab (args:=[slv p l.length cap,slv q M.length cap2]) Tryz.func235 I I I ?_
 refine zA (zB ?_)
 (refine Ae Tryz.hZ rfl rfl rfl rfl ?_;intro)
 (refine Ae Tryz.hZ rfl rfl rfl rfl ?_;intro)
 refine Aa ?_
 rename_i b4 b5
 refine zE (zA (zA (zB (wP I (wC I I (fun W1 hp=>(hA.hp hp).chk cap) (wP I (wP I (wP I (wC I I (fun W1 hp=>(hB.hp hp).chk cap2) (wP I (wP I (Aa (zE ?_)))))))))))))
 refine zS I (zI (zE (zA (zB ?_))))
 refine Au Tryz.hZ tH I I I I I I I I ?_
 (refine Al rfl rfl rfl rfl ?_;intro)
 (refine Ae Tryz.hZ rfl rfl rfl rfl ?_;intro)
 refine wS 3 I I I (Aa ?_)
 rename_i bC b6
 refine zE (zA (zB (wP I ?_)))
 (refine Ae Tryz.hZ rfl rfl rfl rfl ?_;intro)
 refine wS 4 I I I (Aa ?_)
 rename_i b7
 refine zE (zA (zA (zB (wP I ?_))))
 refine wD (X:=Nat) I I (fun W1 _=>EF q M.length cap2 W1) ?_
 intro bp _
 refine Aa (zE (zH ?_))
 refine C6 ?_
 refine El (X:=Nat×Option Addr×Nat×Bx) (fun x=>[lsB b4 (.slice none 0 0),erK b5 0,caB bC,ckB b6 bC,lsB b7 (slv x.2.1 l.length x.2.2.1),lsB bp (slv q M.length cap2),x.2.2.2])
  (fun k x=>x.1=k∧StK p cap l k x.2.1 x.2.2.1 x.2.2.2) (fun _ _=>False) (0,p,cap,Fu) rfl (by kernel_rfl) (Fv M bp q cap2 (by omega)) (fun _=>rfl)
  ⟨rfl, .inl ⟨rfl,rfl,rfl⟩⟩ [] rfl (fun k x W1 _ hp=>⟨Ag.of_bx hp 5 rfl rfl,hB.m.hp hp⟩) ?_ ?_ (fun _ _ _ _ _ h=>h.elim)
 ·rintro k ⟨k',pO,cO,o⟩ d l' rec L hkl ⟨e1,hSt⟩ hrec
  obtain rfl:k'=k:=e1
  have hkl:k'<M.length:=hkl
  have hSt:StK p cap l k' pO cO o:=hSt
  have hz:=hk k' hkl
  obtain⟨P,hP⟩: ∃P,P=Ao M k':=⟨_,rfl⟩
  obtain⟨Q,hQ⟩: ∃Q,Q=Ao M (k'+1):=⟨_,rfl⟩
  rw[←hP, ←hQ] at hz
  refine zB ?_
  (refine Ae Tryz.hZ rfl rfl rfl rfl ?_;intro)
  refine wS 10 I I I (Aa ?_)
  rename_i b9
  rw[←hP, ←hQ]
  refine B5 9 hrec I ?_
  refine Bt (zA (zU (qB 4 I I I ?_)))
  refine Bn Tryz.underlying321 Tryz.sizeOf62 I I I I I ⟨by decide,by decide⟩ ?_
  refine qP I (qB 10 I I I ?_)
  refine Bn Tryz.underlying321 Tryz.sizeOf62 I I I I I ⟨by decide,by decide⟩ ?_
  refine qP I (qB 10 I I I (qC I I (fun W1 hp=>BV bC Q.2 P.2 hz.a W1 (Er hp 3 I) (hv.hp hp) (ht.hp hp)) (qB 4 I I I ?_)))
  refine Bn Tryz.underlying321 Tryz.sizeOf62 I I I I I ⟨by decide,by decide⟩ ?_
  refine qP I (qB 10 I I I ?_)
  refine Bn Tryz.underlying321 Tryz.sizeOf62 I I I I I ⟨by decide,by decide⟩ ?_
  refine qP I (qB 10 I I I (qC I I (fun W1 hp=>BV bC P.1 Q.1 hz.b W1 (Er hp 3 I) (hv.hp hp) (ht.hp hp)) (qP I (qP I (A7 (Aa (zE (A9 ?_))))))))
  refine AZ (X:= { x:Nat×Nat×List Value//Vec.OK ⟨some x.1,x.2.1,x.2.2⟩ 2 l.length (ptC l) }) [true,true,true,true,true,true,true,true,true,true,true,true,true,true,true,true,true,true,false,false] (fun _=>[(4,Ai b4),(5,Ai b5),(6,Ai b6),(7,Ai b7)]) (fun x=>[AP L,lsB b4 (.slice none 0 0),erK b5 0,caB bC,ckB b6 bC,lsB b7 (slv (some ⟨x.1.1,0,none⟩) l.length x.1.2.1),lsB bp (slv q M.length cap2),⟨x.1.1,62,ptC l++x.1.2.2,true,none⟩,Bw d,AU l' rec .busy none])
   2 [AP L,lsB b4 (.slice none 0 0),erK b5 0,caB bC,ckB b6 bC,lsB b7 (slv pO l.length cO),lsB bp (slv q M.length cap2),o,Bw d,AU l' rec .busy none,⟨b9,321,(sdV P Q).cells.toList,true,none⟩] Tryz.mixed (by kernel_rfl) ?_ ?_
  ·refine qB 4 I I I (qB 5 I I I (qP I (qP I (qB 4 I I I (qB 4 I I I (qP I ?_))))))
   refine Bn Tryz.underlying321 Tryz.sizeOf62 I I I I I ⟨by decide,by decide⟩ ?_
   refine qP I (qB 10 I I I (qC I I (fun W1 hp=>Cn bC (Q.2-P.2) P.1 hz.c W1 (Er hp 3 I) (hv.hp hp) (ht.hp hp)) (qB 4 I I I (qP I ?_))))
   refine Bn Tryz.underlying321 Tryz.sizeOf62 I I I I I ⟨by decide,by decide⟩ ?_
   refine qP I (qB 10 I I I (qC I I (fun W1 hp=>Cn bC (P.1-Q.1) P.2 hz.d W1 (Er hp 3 I) (hv.hp hp) (ht.hp hp)) (qC I I (fun W1 hp=>Fb bC ((Q.2-P.2)*P.1) ((P.1-Q.1)*P.2) hz.e W1 (Er hp 3 I) (hv.hp hp) (ht.hp hp)) (Ca (wX (wZ ?_))))))
   refine wD (X:=Vec) rfl rfl (fun W1 hp1=>by have:=PW bC (lnG P Q) l hz.z hA.poly hA.n3 hA.n pO cO W1 (hSt.pts hA.m hp1 7 rfl) (Er hp1 3 rfl) (hv.hp hp1) (ht.hp hp1);rw[hz.k] at this;exact this) ?_;rintro⟨pV,cV,jV⟩ hV;obtain⟨gV,rfl⟩: ∃g,pV=some g:=Option.ne_none_iff_exists'.1 (fun e=>absurd (hV.nil e) (by have:=hA.n3;omega))
   refine Aa (Ah (wX (wZ (wS 5 I I I (Aa (Ah ?_))))))
   refine AS I (by kernel_rfl) ?_
   exact Az (⟨(gV,cV,jV),hV⟩: { x:Nat×Nat×List Value//Vec.OK ⟨some x.1,x.2.1,x.2.2⟩ 2 l.length (ptC l) }) ⟨I,I,I,I,tO⟩ [0,1,2,3,4,5,6,11,8,9] (by decide) I
  rintro⟨⟨gV,cV,jV⟩,hV⟩
  refine zE (zA (zA (zB (wB 4 I I I ?_))))
  refine AG I I I I ?_
  refine wP I (wB 3 I I I (wP I (Aa (zE (zS I (zI (zE (zA (zB (wB 5 I I I (wP I (wP I (wU 73 false I (beq_eq_false_iff_ne.2 hlen) ?_)))))))))))))
  exact Aa (zE (zS I (zI (zN (Ba 9 (k'+1,some ⟨gV,0,none⟩,cV,⟨gV,62,ptC l++jV,true,none⟩) hrec I ⟨I, .inr ⟨gV,jV,I,I,hV⟩⟩ [] I)))))
 ·rintro⟨k',pO,cO,o⟩ d l' rec ⟨e1,hSt⟩
  obtain rfl:k'=M.length:=e1
  have hSt:StK p cap l M.length pO cO o:=hSt
  rcases hSt with⟨h0,_⟩|⟨g,j,rfl,rfl,hV⟩
  ·omega
  refine zN (zE (zA (zB (wB 4 I I I (wS 0 I I I (wS 1 I I I (Aa (zE (zO ?_)))))))))
  refine BN 7 I ?_
  exact A4 tH I (.cell 0 I I I I I) (.cell 1 I I I I I) (g,cO,j) I hV fun W1 hp=>Ap.of_hp (hp.pick (l:=[⟨g,62,ptC l++j,true,none⟩]) [6] (by decide) I)
-- BOXES 8
-- CODE2
theorem Sn:(E3 [sqL]).length=4:=(Jb [sqL]).trans rfl
theorem WJ:(E3 [sqL])[0]? =some f0:=by
 have h:=Sy (rs:=[sqL]) (r:=0) (i:=0) (by decide) (by decide)
 have e:Nd (rg [sqL] 0) 0=f0:=by
  show frO (sqS 0 0) (sqS 10 0)=f0
  have e1:nrm 1 1=1:=by decide+kernel
  have:(frO (sqS 0 0) (sqS 10 0)).sp=1:=e1
  unfold frO at this⊢
  simp only[] at this⊢
  rw[this]
  rfl
 rw[e] at h
 exact h
structure SfX where
 gF:Nat
 cF:Nat
 jF:List Value
 gC:Nat
 cC:Nat
 jC:List Value
 gA:Nat
 cA:Nat
 jA:List Value
abbrev fbB (g:Nat) (j:List Value):Bx:=⟨g,56,frC (E3 [sqL])++j,true,none⟩
abbrev arB (g gC cC:Nat) (j:List Value):Bx:=⟨g,210,slv (some ⟨gC,0,none⟩) 3 cC::j,true,none⟩
def SfX.v (x:SfX) (bT:Nat):Value:=U9 (slv (some ⟨x.gF,0,none⟩) 4 x.cF) (slv (some ⟨bT,0,none⟩) 1 1) (slv (some ⟨x.gA,0,none⟩) 1 x.cA)
def SfX.bx (x:SfX):List Bx:=[fbB x.gF x.jF,B6 x.gC DU x.jC,arB x.gA x.gC x.cC x.jA]
theorem NG {W0 W:World} {bxs:List Bx} (hp:Hp W0 bxs W) (k:Nat) {g:Nat} {j:List Value} (hk:nth bxs k=some (fbB g j)):Ag W g (0+0*5) (frV f0).cells.toList:=by
 obtain⟨hm,he⟩:=List.getElem?_eq_some_iff.1 WJ
 refine Gu hp k (A:=[]) (C:=frC ((E3 [sqL]).drop 1)++j) hk ?_ I
 have e:frC (E3 [sqL])=(frV f0).cells.toList++frC ((E3 [sqL]).drop 1):=by
  conv=>lhs;rw[List.drop_eq_getElem_cons (i:=0) (l:=E3 [sqL]) hm|>fun h=>(List.drop_zero (l:=E3 [sqL])).symm.trans h,he]
  rfl
 rw[e,List.append_assoc]
 rfl
abbrev RdS:Type:=Option (Nat×Nat×List Value×Nat×Nat×List Value)
def rdA:RdS→Value
 |none=> .slice none 0 0
 |some y=>slv (some ⟨y.2.2.2.1,0,none⟩) 1 y.2.2.2.2.1
def rdI:RdS→Int
 |none=>0
 |some _=>1
def Yu:RdS→Bx
 |none=>Fu
 |some y=>B6 y.1 DU y.2.2.1
def Yy:RdS→Bx
 |none=>Fu
 |some y=>arB y.2.2.2.1 y.1 y.2.1 y.2.2.2.2.2
def rdM:RdS→Nat
 |none=>1
 |some _=>0
theorem Kx (bR bT:Nat) (W:World) (hR:Bh W (some ⟨bR,0,none⟩) [sqL]) (hT:Ag W bT 0 (stV 0 S0).cells.toList) (hd:Gy W) (hv:AE W) (ht:A6 W):
  Ad Tryz.prog 100 #[F1 bR bT] W (fun x:SfX=> .tuple #[x.v bT, .int .i64 0]) (fun _=>True) (fun x=>x.bx):=by
 refine Ab (args:=[F1 bR bT]) Tryz.func100 I I I ?_
 refine zA (zB ?_)
 (refine Al rfl rfl rfl rfl ?_;intro)
 (refine Ae Tryz.hZ rfl rfl rfl rfl ?_;intro)
 refine wP I (Aa ?_)
 rename_i b1 b2
 refine zE (zA (zB (wP I (wB 0 I I I ?_))))
 refine wD (X:=Vec) I I (fun W1 hp=>by
  have h:=Gq W1 (some ⟨bR,0,none⟩) 1 [sqL] (by decide) (hR.hp hp) Is (hd.hp hp) (ht.hp hp)
  rw[Sn] at h
  exact h) ?_
 rintro⟨pF,cF,jF⟩ hF
 have hF:Vec.OK ⟨pF,cF,jF⟩ 5 4 (frC (E3 [sqL])):=hF
 obtain⟨gF,rfl⟩: ∃g,pF=some g:=Option.ne_none_iff_exists'.1 (fun e=>absurd (hF.nil e) (by decide))
 iterate 5 refine wP I ?_
 refine Aa (zE (zA (zA (zB (wP I (wP I (wP I (wP I (wB 0 I I I (wP I (wP I (wP I (Aa ?_)))))))))))))
 refine zE (zS I (zI (zE (zA (zB (wP I (wP I (wB 0 I I I ?_))))))))
 refine Au Tryz.hZ tH I I I I I I I I ?_
 (refine Ae Tryz.hZ rfl rfl rfl rfl ?_;intro)
 refine wS 3 I I I (Aa ?_)
 rename_i b6
 refine zE (zA (zA (zB (wP I (wB 0 I I I (wP I (wP I (Aa (zE (zH ?_))))))))))
 iterate 2 refine C6 ?_
 refine At (X:=RdS) (fun x=>[(2,Ai b2),(4,slv (some ⟨gF,0,none⟩) 4 cF),(6,Ai b6),(31,slv (some ⟨bT,0,none⟩) 1 1),(32, .int .i64 1),(33, .int .i64 (rdI x))])
  (fun x=>[⟨b1,81,(F1 bR bT).cells.toList,true,none⟩,⟨b2,148,[.slice none 0 0, .slice none 0 0, .slice none 0 0],true,none⟩,fbB gF jF,⟨b6,148,[slv (some ⟨gF,0,none⟩) 4 cF,slv (some ⟨bT,0,none⟩) 1 1,rdA x],true,none⟩,Yu x,Yy x])
  (fun _=>True) rdM none trivial ⟨rfl,rfl,rfl,rfl,rfl,rfl,trivial⟩ [] rfl ?_
 intro x _
 rcases x with _|⟨gC,cC,jC,gA,cA,jA⟩
 rotate_left
 ·refine zA (zB (wP I (Aa (zE (zA (zS I (zJ (zK (zK (zL (zE (zA (zB ?_)))))))))))))
  exact wB 3 I I I (wS 1 I I I (wP I (Aa (zE (zO (A4 tH I (.cell 1 I I I I I) (.tmp I) (⟨gF,cF,jF,gC,cC,jC,gA,cA,jA⟩:SfX) I tO fun W1 hp=>Ap.of_hp (hp.pick (l:=[fbB gF jF,B6 gC DU jC,arB gA gC cC jA]) [2,4,5] (by decide) I)))))))
 refine zA (zB (wP I (Aa (zE (zA (zR I (zI (zE (zA (zH (zA (zB (wI I I (by decide) (by decide) ?_)))))))))))))
 refine wL 0 I I (fun W1 hp=>hT.hp hp) I ?_
 (refine Ae Tryz.hZ rfl rfl rfl rfl ?_;intro)
 refine wS 6 I I I (Aa ?_)
 rename_i b8
 refine zE (zA (zA (zB (wP I (wB 6 I I I (wP I (wP I (wP I (wB 6 I I I (wP I (wP I (wP I (wP I ?_)))))))))))))
 refine Aa (zE (zS I (zI (zE (A9 ?_)))))
 refine AZ (X:=Nat×Nat×List Value) [true,true,true,true,true,true,false,false,false,false,false,false] (fun y=>[(2,Ai b2),(4,slv (some ⟨gF,0,none⟩) 4 cF),(6,Ai b6),(9,slv (some ⟨y.1,0,none⟩) 3 y.2.1),(10, .int .i64 0),(31,slv (some ⟨bT,0,none⟩) 1 1),(32, .int .i64 1),(33, .int .i64 0)])
  (fun y=>[⟨b1,81,(F1 bR bT).cells.toList,true,none⟩,⟨b2,148,[.slice none 0 0, .slice none 0 0, .slice none 0 0],true,none⟩,fbB gF jF,⟨b6,148,[slv (some ⟨gF,0,none⟩) 4 cF,slv (some ⟨bT,0,none⟩) 1 1, .slice none 0 0],true,none⟩,B6 y.1 DU y.2.2,Fu])
  6 [⟨b1,81,(F1 bR bT).cells.toList,true,none⟩,⟨b2,148,[.slice none 0 0, .slice none 0 0, .slice none 0 0],true,none⟩,fbB gF jF,⟨b6,148,[slv (some ⟨gF,0,none⟩) 4 cF,slv (some ⟨bT,0,none⟩) 1 1, .slice none 0 0],true,none⟩,Fu,Fu,⟨b8,145,(stV 0 S0).cells.toList,true,none⟩] Tryz.mixed (by kernel_rfl) ?_ ?_
 ·refine qP I (qP I (qB 6 I I I (qI I I (by decide) (by decide) (qL 0 I I (fun W1 hp=>NG hp 2 I) I (qB 6 I I I (Ca (wX (wZ ?_))))))))
  refine wD (X:=Nat×Nat×List Value) rfl rfl (fun W1 hp=>KA W1 (hv.hp hp) (ht.hp hp)) ?_;rintro⟨gC,cC,jC⟩ _
  refine Aa (Ah (wX (wZ (wP I (Aa (Ah (wX ?_)))))))
  refine RS.cons ?_ (RS.cons ?_ (RS.nil))
  ·refine wP I (Aa (Ah (wX ?_)))
   refine RS.cons ?_ (RS.cons ?_ (RS.nil))
   ·refine wP I (Aa (Ah (wX (wZ (wP I (Aa (Ah (wX (wZ (wP I (Aa (Ah ?_))))))))))))
    refine AF I (by((repeat (first|refine AK.same ?_|refine AK.off I ?_));exact tO)) ?_
    exact Az (gC,cC,jC) ⟨I,I,I,I,I,I,I,I,tO⟩ [0,1,2,3,7,5] (by decide) I
   ·refine wP I (Aa (Ah (wX (wZ (wP I (Aa (Ah (wX (wZ (wP I (Aa (Ah ?_))))))))))))
    refine AF I (by((repeat (first|refine AK.same ?_|refine AK.off I ?_));exact tO)) ?_
    exact Az (gC,cC,jC) ⟨I,I,I,I,I,I,I,I,tO⟩ [0,1,2,3,7,5] (by decide) I
  ·refine wP I (Aa (Ah (wX (wZ (wP I (Aa (Ah (wX (wZ (wP I (Aa (Ah (wX ?_)))))))))))))
   refine wZ (wP I (Aa (Ah ?_)))
   refine AF I (by((repeat (first|refine AK.same ?_|refine AK.off I ?_));exact tO)) ?_
   exact Az (gC,cC,jC) ⟨I,I,I,I,I,I,I,I,tO⟩ [0,1,2,3,7,5] (by decide) I
 rintro⟨gC,cC,jC⟩
 refine zE (zA (zA (zB (wP I (wP I (Aa (zE (zS I (zI (zE (zB (wP I (wB 3 I I I ?_)))))))))))))
 refine wP I ?_
 refine As Tryz.hZ tH I I I I I I I I I I I fun bN=> ?_
 refine AL (V:=Vec.empty) (len:=0) (xs:=[]) 5 6 Tryz.vec146 1 [slv (some ⟨gC,0,none⟩) 3 cC] I I I I I I I I I I I (Vec.OK.empty 1) I I I I (by decide) (by decide) I ?_
 intro gA cA jA _
 exact wP I (wS 3 I I I (Aa (zN (zE (zB (wP I (wP I (Aa (Ak (some (gC,cC,jC,gA,cA,jA)) tO (by show 0<1;decide) ⟨I,I,I,I,I,I,tO⟩ [_] I)))))))))
def rcO:List An:=[(3,1),(7,1),(7,3),(3,3)]
theorem Oi:rcP f0 (crn 3 7 1 3)=rcO:=by decide+kernel
theorem XV {i:Nat} (h:i<rcO.length):i=0∨i=1∨i=2∨i=3:=by have h:i<4:=h;omega
theorem Y3 {i:Nat} (h:i<DU.length):i=0∨i=1∨i=2:=by have h:i<3:=h;omega
theorem Un:HI rcO:=by
 refine⟨by decide,by decide+kernel,fun i j k h1 h2 h3=> ?_⟩
 have h3:k<4:=h3
 have:(i=0∧j=1∧k=2)∨(i=0∧j=1∧k=3)∨(i=0∧j=2∧k=3)∨(i=1∧j=2∧k=3):=by omega
 rcases this with⟨rfl,rfl,rfl⟩|⟨rfl,rfl,rfl⟩|⟨rfl,rfl,rfl⟩|⟨rfl,rfl,rfl⟩<;>decide+kernel
theorem UQ:HI DU:=by
 refine⟨by decide,by decide+kernel,fun i j k h1 h2 h3=> ?_⟩
 have h3:k<3:=h3
 obtain⟨rfl,rfl,rfl⟩:i=0∧j=1∧k=2:=by omega
 decide+kernel
theorem Mg:IV 8 rcO:=by unfold IV szQ rcO;decide+kernel
theorem Xy:IV 8 DU:=by unfold IV szQ DU;decide+kernel
theorem IV.monoO {a b:Nat} {l:List An} (h:IV a l) (hab:a≤b):IV b l:=fun p hp=>⟨(h p hp).1.mono hab,(h p hp).2.mono hab⟩
theorem Qm {W:World} {p:Option Addr} (h:BH W p rcO) (hv:AE W) (ht:A6 W):LR W p rcO:=⟨Un,by decide,by decide,Mg.monoO (by decide),h,hv,ht⟩
theorem UN {W:World} {p:Option Addr} (h:BH W p DU) (hv:AE W) (ht:A6 W):LR W p DU:=⟨UQ,by decide,by decide,Xy.monoO (by decide),h,hv,ht⟩
theorem sO {q:Rat} (h:q.num.natAbs<10^8∧q.den<10^8):szQ q 8:=h
theorem eO {p q:Rat} (h:(p.num.natAbs<10^8∧p.den<10^8)∧(q.num.natAbs<10^8∧q.den<10^8)):Sz2 p q:=sz2 (sO h.1) (sO h.2) (by decide)
theorem Xe:ArZ rcO:=by
 refine⟨fun i hi=> ?_,fun i hi=> ?_,eO (by decide+kernel)⟩
 ·rcases XV hi with rfl|rfl|rfl|rfl<;>exact⟨eO (by decide+kernel),eO (by decide+kernel),eO (by decide+kernel)⟩
 ·rcases XV hi with rfl|rfl|rfl|rfl<;>exact eO (by decide+kernel)
theorem TK:NL rcO/2=8:=by decide+kernel
def Xw (P Q:An):Prop:=
 (∀q∈rcO,(((lnG P Q).a.num.natAbs<10^8∧(lnG P Q).a.den<10^8)∧(q.1.num.natAbs<10^8∧q.1.den<10^8))∧(((lnG P Q).b.num.natAbs<10^8∧(lnG P Q).b.den<10^8)∧(q.2.num.natAbs<10^8∧q.2.den<10^8))
  ∧((((lnG P Q).a*q.1).num.natAbs<10^8∧((lnG P Q).a*q.1).den<10^8)∧(((lnG P Q).b*q.2).num.natAbs<10^8∧((lnG P Q).b*q.2).den<10^8))
  ∧((((lnG P Q).a*q.1+(lnG P Q).b*q.2).num.natAbs<10^8∧((lnG P Q).a*q.1+(lnG P Q).b*q.2).den<10^8)∧((lnG P Q).c.num.natAbs<10^8∧(lnG P Q).c.den<10^8)))
 ∧(∀i,i<4→ ¬(lnG P Q).at (Ao rcO i)*(lnG P Q).at (Ao rcO (i+1))<0)
 ∧Cc (lnG P Q) rcO=rcO∧FM (lnG P Q) rcO=rcO
instance (P Q:An):Decidable (Xw P Q):=by unfold Xw;infer_instance
theorem Yb {P Q:An} (h:Xw P Q) (ha:(Q.2.num.natAbs<10^8∧Q.2.den<10^8)∧(P.2.num.natAbs<10^8∧P.2.den<10^8)) (hb:(P.1.num.natAbs<10^8∧P.1.den<10^8)∧(Q.1.num.natAbs<10^8∧Q.1.den<10^8))
  (hc:((Q.2-P.2).num.natAbs<10^8∧(Q.2-P.2).den<10^8)∧(P.1.num.natAbs<10^8∧P.1.den<10^8)) (hd:((P.1-Q.1).num.natAbs<10^8∧(P.1-Q.1).den<10^8)∧(P.2.num.natAbs<10^8∧P.2.den<10^8))
  (he:(((Q.2-P.2)*P.1).num.natAbs<10^8∧((Q.2-P.2)*P.1).den<10^8)∧(((P.1-Q.1)*P.2).num.natAbs<10^8∧((P.1-Q.1)*P.2).den<10^8)):MkZ rcO P Q:=by
 obtain⟨h1,h2,h3,h4⟩:=h
 exact⟨eO ha,eO hb,eO hc,eO hd,eO he,⟨fun q hq=>⟨eO (h1 q hq).1,eO (h1 q hq).2.1,eO (h1 q hq).2.2.1,eO (h1 q hq).2.2.2⟩,fun i hi hn=>absurd hn (h2 i hi),by rw[h3];exact Mg.monoO (by decide)⟩,h4⟩
theorem Xi: ∀k,k<DU.length→MkZ rcO (Ao DU k) (Ao DU (k+1)):=fun k hk=>by
 rcases Y3 hk with rfl|rfl|rfl<;>exact Yb (by decide+kernel) (by decide+kernel) (by decide+kernel) (by decide+kernel) (by decide+kernel) (by decide+kernel)
theorem U4 {p q r:An} (h:X6 p q r):MF p q r:=
 ⟨En.2 ⟨⟨h.s1.c1,h.s1.c2⟩,h.s1.sub,h.s1.d⟩,En.2 ⟨⟨h.s2.c1,h.s2.c2⟩,h.s2.sub,h.s2.d⟩,En.2 ⟨⟨h.s3.c1,h.s3.c2⟩,h.s3.sub,h.s3.d⟩,En.2 ⟨⟨h.s4.c1,h.s4.c2⟩,h.s4.sub,h.s4.d⟩,⟨h.m1.n,h.m1.d⟩,⟨h.m2.n,h.m2.d⟩,⟨h.o.c1,h.o.c2⟩⟩
theorem Ta {l:List An} (h:IV 36 l):Ef l:=fun a ha b hb=>by
 have h0:0<l.length:=by omega
 have pa:=h.at_ h0 a
 have pb:=h.at_ h0 b
 have s1:=sz2 pa.1 pb.1 (by decide)
 have s2:=sz2 pa.2 pb.2 (by decide)
 exact⟨⟨s1.c1,s1.c2⟩,⟨s2.c1,s2.c2⟩,fun d _=>U4 (Se pa pb (h.at_ h0 d) (by decide))⟩
theorem Sz:Ef (rcP f0 (crn 3 7 1 3)):=by rw[Oi];exact Ta (Mg.monoO (by decide))
theorem VI: ∀p∈rcP f0 (crn 3 7 1 3),okP p:=by rw[Oi];exact fun p hp=>⟨(Mg p hp).1.ok (by decide),(Mg p hp).2.ok (by decide)⟩
theorem W7:WY (rcP f0 (crn 3 7 1 3)) rcO 0:=by
 have e:JH (rcP f0 (crn 3 7 1 3))=rcO:=by rw[Oi];decide+kernel
 exact .inl ⟨Sz,by rw[e];decide,e.symm,I⟩
theorem nO0:Ac 0=[48]:=BE
theorem nO1:Ac 1=[49]:=by decide+kernel
theorem nO3:Ac 3=[51]:=by decide+kernel
theorem nO7:Ac 7=[55]:=by decide+kernel
theorem nO8:Ac 8=[56]:=by decide+kernel
-- BOXES 8
-- CODE2
structure SfP (W:World) (x:SfX) (bT:Nat):Prop where
 f:Ag W x.gF 0 (frV f0).cells.toList
 t:Ag W bT 0 (stV 0 S0).cells.toList
 a:Ag W x.gA 0 [slv (some ⟨x.gC,0,none⟩) 3 x.cC]
 c:BH W (some ⟨x.gC,0,none⟩) DU
theorem SfP.hp {W0 W:World} {bxs:List Bx} {x:SfX} {bT:Nat} (h:SfP W0 x bT) (hp:Hp W0 bxs W):SfP W x bT:=⟨h.f.hp hp,h.t.hp hp,h.a.hp hp,h.c.hp hp⟩
abbrev opE:Value:=H3 0 (Ac 3) (Ac 7) (Ac 1) (Ac 3)
def smS (b:Bool):List UInt8:=if b then[56] else[48]
def Yo (b:Bool):Int:=if b then 1 else 0
def smM (b:Bool):Nat:=if b then 0 else 1
theorem Pu (x:SfX) (bT:Nat) (W:World) (h:SfP W x bT) (hv:AE W) (ht:A6 W):
  Ad Tryz.prog 170 #[x.v bT,opE] W (fun _:Unit=> .int .i64 0) (fun _=>True) (fun _=>[]):=by
 have zz: ∀q:Rat,(q.num.natAbs<10^8∧q.den<10^8)→szQ q 8:=fun q hq=>hq
 have z1:=zz 1 (by decide+kernel)
 have z3:=zz 3 (by decide+kernel)
 have z7:=zz 7 (by decide+kernel)
 have e8:((7:Rat)-3)*(3-1)=8:=by decide+kernel
 refine Ab (args:=[U9 (slv (some ⟨x.gF,0,none⟩) 4 x.cF) (slv (some ⟨bT,0,none⟩) 1 1) (slv (some ⟨x.gA,0,none⟩) 1 x.cA),opE]) Tryz.func170 I I I ?_
 refine zA (zB ?_)
 (refine Al rfl rfl rfl rfl ?_;intro)
 (refine Al rfl rfl rfl rfl ?_;intro)
 refine wP I (Aa ?_)
 rename_i b2 b3
 refine zE (A9 ?_)
 refine AZ (X:= { y:Nat×Nat×List Value//Vec.OK ⟨some y.1,y.2.1,y.2.2⟩ 2 4 (ptC rcO) }) [true,true,true,true,true,true,true,false,false,false,false,false,false] (fun y=>[(2,Ai b2),(3,Ai b3),(4, .int .i64 0),(5,slv (some ⟨y.1.1,0,none⟩) 4 y.1.2.1),(6, .int .i64 0)])
  (fun y=>[⟨b2,148,(x.v bT).cells.toList,true,none⟩,⟨b3,27,opE.cells.toList,true,none⟩,B6 y.1.1 rcO y.1.2.2])
  6 [⟨b2,148,(x.v bT).cells.toList,true,none⟩,⟨b3,27,opE.cells.toList,true,none⟩] Tryz.mixed (by kernel_rfl) ?_ ?_
 ·refine qP I (qB 0 I I I (qP I (qB 1 I I I (qI I I (by decide) (by decide) (qL 0 I I (fun W1 hp=>h.f.hp hp) I (qB 1 I I I (Ca (wX (wZ ?_)))))))))
  refine wD (X:=Vec) rfl rfl (fun W1 hp=>PP f0 PJ 0 3 7 1 3 z3 z7 z1 z3 rcO W7 Sz VI W1 (hv.hp hp) (ht.hp hp)) ?_;rintro⟨pV,cV,jV⟩ hV;have hV:Vec.OK ⟨pV,cV,jV⟩ 2 4 (ptC rcO):=hV;obtain⟨gV,rfl⟩: ∃g,pV=some g:=Option.ne_none_iff_exists'.1 (fun e=>absurd (hV.nil e) (by decide))
  refine Aa (Ah (wX (wZ (wP I (Aa (Ah (wX ?_)))))))
  refine RS.cons ?_ (RS.cons ?_ (RS.nil))
  ·refine wP I (Aa (Ah (wX ?_)))
   refine RS.cons ?_ (RS.cons ?_ (RS.nil))
   ·refine wP I (Aa (Ah (wX (wZ (wP I (Aa (Ah (wX (wZ (wP I (Aa (Ah ?_))))))))))))
    refine AF I (by((repeat (first|refine AK.same ?_|refine AK.off I ?_));exact tO)) ?_
    exact Az (⟨(gV,cV,jV),hV⟩: { y:Nat×Nat×List Value//Vec.OK ⟨some y.1,y.2.1,y.2.2⟩ 2 4 (ptC rcO) }) ⟨I,I,I,I,I,tO⟩ [0,1,2] (by decide) I
   ·refine wP I (Aa (Ah (wX (wZ (wP I (Aa (Ah (wX (wZ (wP I (Aa (Ah ?_))))))))))))
    refine AF I (by((repeat (first|refine AK.same ?_|refine AK.off I ?_));exact tO)) ?_
    exact Az (⟨(gV,cV,jV),hV⟩: { y:Nat×Nat×List Value//Vec.OK ⟨some y.1,y.2.1,y.2.2⟩ 2 4 (ptC rcO) }) ⟨I,I,I,I,I,tO⟩ [0,1,2] (by decide) I
  ·refine wP I (Aa (Ah (wX (wZ (wP I (Aa (Ah (wX (wZ (wP I (Aa (Ah (wX ?_)))))))))))))
   refine wZ (wP I (Aa (Ah ?_)))
   refine AF I (by((repeat (first|refine AK.same ?_|refine AK.off I ?_));exact tO)) ?_
   exact Az (⟨(gV,cV,jV),hV⟩: { y:Nat×Nat×List Value//Vec.OK ⟨some y.1,y.2.1,y.2.2⟩ 2 4 (ptC rcO) }) ⟨I,I,I,I,I,tO⟩ [0,1,2] (by decide) I
 rintro⟨⟨gV,cV,jV⟩,hV⟩
 refine zE (zA (zA (zB (wP I (wP I (Aa (zE (zS I (zI (zE (zA (zB (wP I ?_)))))))))))))
 refine Aa (zE (zA (zA (zB (wP I (wB 0 I I I (wP I (wP I (Aa (zE (zH ?_)))))))))))
 refine At (X:=Bool) (fun b=>[(2,Ai b2),(3,Ai b3),(4, .int .i64 0),(5,slv (some ⟨gV,0,none⟩) 4 cV),(6, .int .i64 0),(7,str (smS b)),(29,slv (some ⟨x.gA,0,none⟩) 1 x.cA),(30, .int .i64 1),(31, .int .i64 (Yo b))])
  (fun _=>[⟨b2,148,(x.v bT).cells.toList,true,none⟩,⟨b3,27,opE.cells.toList,true,none⟩,B6 gV rcO jV])
  (fun _=>True) smM false trivial ⟨rfl,rfl,rfl,rfl,rfl,rfl,rfl,rfl,rfl,trivial⟩ [] rfl ?_
 intro b _
 cases b with
 |true=>
  refine zA (zB (wP I (Aa (zE (zA (zS I (zJ (zK (zK (zL (zE (zA (zB ?_)))))))))))))
  refine wB 1 I I I (wC I I (fun W1 hp=>(HR 0 3 7 1 3 z3 z7 z1 z3 W1 (hv.hp hp) (ht.hp hp)).cast (v':= .tuple #[str [56], .int .i64 0]) (by rw[e8,nO8])) ?_)
  iterate 5 refine wP I ?_
  refine Aa (zE (zA (zA (zB (wP I (wP I (Aa (zE (zS I (zI (zE (zA (zA ?_)))))))))))))
  refine zB (wP I (wP I (wP I (wU 82 false I (congrArg (!·) ((AX _ _).trans (dT I))) (Aa (zE (zS I (zI (zE (zA (zB (wP I (Aa ?_)))))))))))))
  exact zE (zO (wR1 I I I))
 |false=>
  refine zA (zB (wP I (Aa (zE (zA (zR I (zI (zE (zA (zH (zA (zB (wP I ?_)))))))))))))
  refine wI I I (by decide) (by decide) (wL 0 I I (fun W1 hp=>h.a.hp hp) I (wP I (wP I (Aa (zE (zA (zA (zU (qP I (qB 0 I I I (qP I (qI I I (by decide) (by decide) (qP I ?_)))))))))))))
  refine qL 0 I I (fun W1 hp=>(h.t.hp hp).sub 0) I (qP I (qB 1 I I I (qP I (A7 (Aa (zE (zS I (zI (zE (zA (zB (wP I (wP I ?_)))))))))))))
  refine wD (X:=Nat×Nat×List Value) I I (fun W1 hp=>Pd rcO DU Xi (some ⟨gV,0,none⟩) (some ⟨x.gC,0,none⟩) cV x.cC W1 (Qm (BH.of_row (junk:=jV) (Ag.of_bx hp 2 I I)) (hv.hp hp) (ht.hp hp)) (UN (h.c.hp hp) (hv.hp hp) (ht.hp hp))) ?_
  rintro⟨gM,cM,jM⟩ hM
  have hM:Vec.OK ⟨some gM,cM,jM⟩ 2 4 (ptC rcO):=hM
  iterate 5 refine wP I ?_
  refine Aa (zE (zA (zA (zB (wP I (wP I (Aa (zE (zS I (zI (zE (zA (zA ?_)))))))))))))
  refine zB (wP I (wP I (wP I (Aa (zE (zS I (zI (zE (zA (zB (wP I (wC I I (fun W1 hp=>(PV rcO Xe (some ⟨gM,0,none⟩) cM W1 (Qm (BH.of_row (junk:=jM) (Ag.of_bx hp 3 I I)) (hv.hp hp) (ht.hp hp))).cast (v':= .tuple #[str [56], .int .i64 0]) (by rw[TK,nO8])) ?_))))))))))))
  iterate 5 refine wP I ?_
  refine Aa (zE (zA (zA (zB (wP I (wP I (Aa (zE (zS I (zI (zE (zA (zB ?_)))))))))))))
  refine wP I (wP I ?_)
  refine wC I I (fun W1 hp=>(show Ad Tryz.prog 19 #[str [48],str [56]] W1 (fun _:Unit=> .tuple #[str [56], .int .i64 0]) (fun _=>True) (fun _=>[]) by
   have h2:=Cp 0 8 (eO (by decide+kernel)) W1 (hv.hp hp) (ht.hp hp)
   rwa [Rat.zero_add,nO0,nO8] at h2)) ?_
  iterate 5 refine wP I ?_
  refine Aa (zE (zA (zB (wP I (wP I (Aa (zE (zS I (zI (zN (zE (zB (wP I (wP I ?_))))))))))))))
  exact Aa (Ak true tO (by decide) ⟨I,I,I,I,I,I,I,I,I,tO⟩ [_] I)
-- BOXES 10
-- CODE2
section
variable {r:Option Nat} {n:Nat} {P:Program} {W0:World} {N:Nat} {D:List Deferred} {ops:List Oper} {Q:Exit→Act→World→Prop} {o:Oper} {rest:List Oper} {env:Env} {bxs:List Bx}
theorem Ml {c:Call} {f:Operand} {g d:Nat} {first vs:List Value} {v:Value}
  (hg:Ax ops N env o=some true) (hd:o.dst=some d) (ho:o.op= .call c) (hc:c.callee= .value f) (hf:evO N env f=some (.func (.func g) first.toArray #[])) (ha:BK (evO N env) c.args.toList=some vs) (hE:AJ P g=true)
  (hC: ∀W,Hp W0 bxs W→Ad P g (first++vs).toArray W (fun _:Unit=>v) (fun _=>True) (fun _=>[]))
  (h:WL r n P N D ops Q rest ((d,v)::env) (Hp W0 bxs)):WL r n P N D ops Q (o::rest) env (Hp W0 bxs):= .mk fun a W h1 h2 hp=>by
 refine B0 hg h1 (fun c e=>by rw[ho] at e;cases e) ?_
 rw[Nb ho hc (A3 h1 _ _ hf) (DM (A3 h1) ha) hE]
 simp only[Oper.uponIn,hd]
 refine⟨fun hx=>(by cases hx),D0 ((hC W hp).out.mono ?_)⟩
 rintro e W' ⟨x,rfl,hx,hb,hn⟩
 exact h.out a W' h1 h2 (hp.grow hb)
end
theorem ML {q:Rat} (h:q.num.natAbs<10^8∧q.den<10^8):okQ q:=(sO h).ok (by decide)
abbrev Y5 (v:Value):List Value:=[.func (.func 169) #[v] #[], .func (.func 44) #[] #[], .func (.func 170) #[v] #[]]
theorem MD (W:World) (hv:AE W) (ht:A6 W):
  Ad Tryz.prog 44 #[opE] W (fun _:Unit=> .int .i64 0) (fun _=>True) (fun _=>[]):=
 Ia 0 3 7 1 3 (ML (by decide+kernel)) (ML (by decide+kernel)) (ML (by decide+kernel)) (ML (by decide+kernel)) (by rw[nO3];decide) (by rw[nO7];decide) (by rw[nO1];decide) (by rw[nO3];decide) (by decide+kernel) (by decide+kernel) W hv ht
theorem IN (x:SfX) (bT:Nat) (W:World) (h:SfP W x bT) (hv:AE W) (ht:A6 W):
  Ad Tryz.prog 102 #[x.v bT,opE] W (fun _:Unit=> .int .i64 0) (fun _=>True) (fun _=>[]):=by
 refine Ab (args:=[U9 (slv (some ⟨x.gF,0,none⟩) 4 x.cF) (slv (some ⟨bT,0,none⟩) 1 1) (slv (some ⟨x.gA,0,none⟩) 1 x.cA),opE]) Tryz.func102 I I I ?_
 refine zA (zB ?_)
 (refine Al rfl rfl rfl rfl ?_;intro)
 (refine Al rfl rfl rfl rfl ?_;intro)
 refine wP I (Aa ?_)
 rename_i b2 b3
 refine zE (zA (zA (zB (wB 0 I I I (wP I (wB 0 I I I (wP I ?_)))))))
 refine Hw .nilFunc tH I I I I I (fun W=>by kernel_rfl) I I I I I (fun bA=> ?_)
 refine wP I (wP I (Aa (zE (zH ?_))))
 refine At (X:=Nat) (fun i=>[(3,Ai b3),(4, .int .i64 0),(12,slv (some ⟨bA,0,none⟩) 3 3),(13, .int .i64 3),(14, .int .i64 (i:Nat))])
  (fun _=>[⟨b2,148,(x.v bT).cells.toList,true,none⟩,⟨b3,27,opE.cells.toList,true,none⟩,⟨bA,92,Y5 (x.v bT),true,none⟩])
  (fun i=>i≤3) (fun i=>3-i) 0 (Nat.zero_le _) ⟨rfl,rfl,rfl,rfl,rfl,trivial⟩ [] rfl ?_
 intro i hi
 have hi:i≤3:=hi
 have hc:i=0∨i=1∨i=2∨i=3:=by omega
 rcases hc with rfl|rfl|rfl|rfl
 ·refine zA (zB (wP I (Aa (zE (zA (zR I (zI (zE (zA (zH (zA (zB (wI I I (by decide) (by decide) ?_)))))))))))))
  refine wL 0 I I (fun W1 hp=>Ag.of_bx hp 2 I I) I (wP I (Aa (zE (zA (zB (wP I (wB 1 I I I ?_)))))))
  refine Ml (first:=[x.v bT]) I I I I I I (by kernel_rfl) (fun W1 hp=>Q3 (some ⟨x.gF,0,none⟩) 4 x.cF (slv (some ⟨bT,0,none⟩) 1 1) (slv (some ⟨x.gA,0,none⟩) 1 x.cA) 0 (by decide) (Ac 3) (Ac 7) (Ac 1) (Ac 3) W1) ?_
  refine wP I (Aa (zE (zA (zB (wP I (wP I (Aa (zE (zS I (zI (zN (zE (zB ?_)))))))))))))
  exact wP I (wP I (Aa (Ak 1 (by decide) (by decide) ⟨I,I,I,I,I,tO⟩ [] I)))
 ·refine zA (zB (wP I (Aa (zE (zA (zR I (zI (zE (zA (zH (zA (zB (wI I I (by decide) (by decide) ?_)))))))))))))
  refine wL 0 I I (fun W1 hp=>(Ag.of_bx hp 2 I I).sub 1) I (wP I (Aa (zE (zA (zB (wP I (wB 1 I I I ?_)))))))
  refine Ml (first:=[]) I I I I I I (by kernel_rfl) (fun W1 hp=>MD W1 (hv.hp hp) (ht.hp hp)) ?_
  refine wP I (Aa (zE (zA (zB (wP I (wP I (Aa (zE (zS I (zI (zN (zE (zB ?_)))))))))))))
  exact wP I (wP I (Aa (Ak 2 (by decide) (by decide) ⟨I,I,I,I,I,tO⟩ [] I)))
 ·refine zA (zB (wP I (Aa (zE (zA (zR I (zI (zE (zA (zH (zA (zB (wI I I (by decide) (by decide) ?_)))))))))))))
  refine wL 0 I I (fun W1 hp=>(Ag.of_bx hp 2 I I).sub 2) I (wP I (Aa (zE (zA (zB (wP I (wB 1 I I I ?_)))))))
  refine Ml (first:=[x.v bT]) I I I I I I (by kernel_rfl) (fun W1 hp=>Pu x bT W1 (h.hp hp) (hv.hp hp) (ht.hp hp)) ?_
  refine wP I (Aa (zE (zA (zB (wP I (wP I (Aa (zE (zS I (zI (zN (zE (zB ?_)))))))))))))
  exact wP I (wP I (Aa (Ak 3 (by decide) (by decide) ⟨I,I,I,I,I,tO⟩ [] I)))
 ·refine zA (zB (wP I (Aa (zE (zA (zS I (zJ (zK (zK (zL (zE (zA (zB ?_)))))))))))))
  exact wP I (Aa (zE (zO (wR1 I I I))))
structure L5 (W:World) (bR bT:Nat):Prop where
 r:Bh W (some ⟨bR,0,none⟩) [sqL]
 t:Ag W bT 0 (stV 0 S0).cells.toList
theorem L5.hp {W0 W:World} {bxs:List Bx} {bR bT:Nat} (h:L5 W0 bR bT) (hp:Hp W0 bxs W):L5 W bR bT:=⟨h.r.hp hp,h.t.hp hp⟩
theorem SfP.of {W0 W:World} {bxs:List Bx} {x:SfX} {bR bT:Nat} (h:L5 W0 bR bT) (hp:Hp W0 bxs W) (i j k:Nat) (h1:nth bxs i=some (fbB x.gF x.jF)) (h2:nth bxs j=some (B6 x.gC DU x.jC)) (h3:nth bxs k=some (arB x.gA x.gC x.cC x.jA)):SfP W x bT:=
 ⟨NG hp i h1,h.t.hp hp,CX (a:=[slv (some ⟨x.gC,0,none⟩) 3 x.cC]) (b:=x.jA) (Ag.of_bx hp k h3 rfl),BH.of_row (junk:=x.jC) (Ag.of_bx hp j h2 rfl)⟩
theorem OE (bR bT:Nat) (W:World) (h:L5 W bR bT) (hd:Gy W) (hv:AE W) (ht:A6 W):
  Ad Tryz.prog 97 #[F1 bR bT,opE] W (fun _:Unit=> .int .i64 0) (fun _=>True) (fun _=>[]):=by
 refine Ab (args:=[F1 bR bT,opE]) Tryz.func97 I I I ?_
 refine zA (zB ?_)
 (refine Al rfl rfl rfl rfl ?_;intro)
 (refine Al rfl rfl rfl rfl ?_;intro)
 refine wP I (Aa (zE (zA (zB (wB 0 I I I ?_)))))
 refine wD (X:=SfX) I I (fun W1 hp=>Kx bR bT W1 (h.hp hp).r (h.hp hp).t (hd.hp hp) (hv.hp hp) (ht.hp hp)) ?_
 rintro⟨gF,cF,jF,gC,cC,jC,gA,cA,jA⟩ _
 refine wP I (wP I (wP I ?_))
 (refine Ae Tryz.hZ rfl rfl rfl rfl ?_;intro)
 refine wS 5 I I I (wP I (Aa (zE (zA (zA (zB (wP I (wP I (Aa (zE (zS I (zI (zE ?_)))))))))))))
 exact zA (zB (wB 5 I I I (wB 1 I I I (wC I I (fun W1 hp=>IN ⟨gF,cF,jF,gC,cC,jC,gA,cA,jA⟩ bT W1 (SfP.of h hp 2 3 4 I I I) (hv.hp hp) (ht.hp hp)) (wP I (Aa (zE (zO (wR1 I I I)))))))))
theorem Mz (bR bT:Nat) (W:World) (h:L5 W bR bT) (hd:Gy W) (hv:AE W) (ht:A6 W):
  Ad Tryz.prog 36 #[F1 bR bT,opE] W (fun V:Vec=> .tuple #[V.val 4, .int .i64 0]) (fun V=>V.OK 3 4 (spC f0 (crn 3 7 1 3))) (fun V=>[V.bx 45 (spC f0 (crn 3 7 1 3))]):=by
 have zz: ∀q:Rat,(q.num.natAbs<10^8∧q.den<10^8)→szQ q 8:=fun q hq=>hq
 have z1:=zz 1 (by decide+kernel)
 have z3:=zz 3 (by decide+kernel)
 have z7:=zz 7 (by decide+kernel)
 refine Ab (args:=[F1 bR bT,opE]) Tryz.func36 I I I ?_
 refine zA (zB ?_)
 (refine Al rfl rfl rfl rfl ?_;intro)
 (refine Al rfl rfl rfl rfl ?_;intro)
 refine wP I (wP I (Aa ?_))
 rename_i b2 b3
 refine zE (zA (zA (zB (wB 0 I I I (wB 1 I I I (wC I I (fun W1 hp=>OE bR bT W1 (h.hp hp) (hd.hp hp) (hv.hp hp) (ht.hp hp)) (wP I (Aa (zE (zA (zB (wP I (wP I ?_)))))))))))))
 refine Aa (zE (zS I (zI (zE (zA (zB (wP I (wB 0 I I I ?_))))))))
 refine wD (X:=Vec) I I (fun W1 hp=>by
  have h:=Gq W1 (some ⟨bR,0,none⟩) 1 [sqL] (by decide) ((h.hp hp).r) Is (hd.hp hp) (ht.hp hp)
  rw[Sn] at h
  exact h) ?_
 rintro⟨pF,cF,jF⟩ hF
 have hF:Vec.OK ⟨pF,cF,jF⟩ 5 4 (frC (E3 [sqL])):=hF
 obtain⟨gF,rfl⟩: ∃g,pF=some g:=Option.ne_none_iff_exists'.1 (fun e=>absurd (hF.nil e) (by decide))
 iterate 5 refine wP I ?_
 refine Aa (zE (zA (zA (zB (wP I (wP I (Aa (zE (zS I (zI (zE (A9 ?_))))))))))))
 refine AZ (X:= { V:Vec//V.OK 3 4 (spC f0 (crn 3 7 1 3)) }) [true,true,true,true,true,true,false,false,false,false,false] (fun V=>[(4,V.1.val 4),(5, .int .i64 0)]) (fun V=>[V.1.bx 45 (spC f0 (crn 3 7 1 3))])
  5 [⟨b2,81,(F1 bR bT).cells.toList,true,none⟩,⟨b3,27,opE.cells.toList,true,none⟩,fbB gF jF] Tryz.mixed (by kernel_rfl) ?_ ?_
 ·refine qP I (qP I (qB 1 I I I (qI I I (by decide) (by decide) (qL 0 I I (fun W1 hp=>NG hp 2 I) I (qB 1 I I I (Ca (wX (wZ ?_))))))))
  refine wD (X:=Vec) rfl rfl (fun W1 hp=>Hk f0 PJ 0 3 7 1 3 z3 z7 z1 z3 W1 (hv.hp hp) (ht.hp hp)) ?_;intro V hV
  refine Aa (Ah (wX ?_))
  refine RS.cons ?_ (RS.cons ?_ (RS.nil))
  ·refine wP I (Aa (Ah (wX (wZ (wP I (Aa (Ah (wX (wZ (wP I (Aa (Ah (wX ?_)))))))))))))
   refine wZ (wP I (Aa (Ah ?_)))
   refine AF I (by((repeat (first|refine AK.same ?_|refine AK.off I ?_));exact tO)) ?_
   exact Az (⟨V,hV⟩: { V:Vec//V.OK 3 4 (spC f0 (crn 3 7 1 3)) }) ⟨I,I,tO⟩ [3] (by decide) I
  ·refine wP I (Aa (Ah (wX (wZ (wP I (Aa (Ah (wX (wZ (wP I (Aa (Ah (wX ?_)))))))))))))
   refine wZ (wP I (Aa (Ah ?_)))
   refine AF I (by((repeat (first|refine AK.same ?_|refine AK.off I ?_));exact tO)) ?_
   exact Az (⟨V,hV⟩: { V:Vec//V.OK 3 4 (spC f0 (crn 3 7 1 3)) }) ⟨I,I,tO⟩ [3] (by decide) I
 rintro⟨V,hV⟩
 exact zE (zO (A4 tH I (.tmp I) (.tmp I) V I hV fun W1 hp=>Ap.of_hp (hp.pick (l:=[V.bx 45 (spC f0 (crn 3 7 1 3))]) [0] (by decide) I)))
-- BOXES 4
-- CODE2
theorem Nv : ∃ f1 f2 f3 : Field, (Tryz.prog.fieldsOf 45).toList = [f1, f2, f3] ∧ (f1.name ≠ "_" ∧ f1.type = 25 ∧ f1.offset = 0) ∧ (f2.name ≠ "_" ∧ f2.type = 25 ∧ f2.offset = 1) ∧ (f3.name ≠ "_" ∧ f3.type = 25 ∧ f3.offset = 2) := by
 unfold Program.fieldsOf;rw[Tryz.underlying45]
 exact⟨_,_,_,I,⟨by decide,I,I⟩,⟨by decide,I,I⟩,⟨by decide,I,I⟩⟩
theorem XQ (W:World) (a b s c d t:List UInt8):(binOp .eql 45 (.agg #[str a,str b,str s]) (.agg #[str c,str d,str t])).run Tryz.prog W= .ok (.bool (decide (a=c∧b=d∧s=t))) W:=by
 rw[run_eql_struct,run_equalIn_agg W 9999 45 _ _ (by kernel_rfl) (by kernel_rfl)]
 obtain⟨f1,f2,f3,hf,⟨n1,t1,o1⟩,⟨n2,t2,o2⟩,⟨n3,t3,o3⟩⟩:=Nv
 rw[hf]
 have e: ∀(x y:List UInt8) W,(Op.equalIn 9999 25 (str x) (str y)).run Tryz.prog W= .ok (decide (x=y)) W:=fun x y W=>by
  rw[run_equalIn_string W 9998 25 _ _ Tryz.underlying25,AX]
 by_cases h1:a=c<;>by_cases h2:b=d<;>by_cases h3:s=t<;>simp[Op.eqFields,part,Tryz.isAgg25,e,h1,h2,h3,n1,n2,n3,t1,t2,t3,o1,o2,o3]
theorem XC (W:World) (a b s c d t:List UInt8):(binOp .neq 45 (.agg #[str a,str b,str s]) (.agg #[str c,str d,str t])).run Tryz.prog W= .ok (.bool (!decide (a=c∧b=d∧s=t))) W:=by
 rw[run_neq_struct,run_equalIn_agg W 9999 45 _ _ (by kernel_rfl) (by kernel_rfl)]
 obtain⟨f1,f2,f3,hf,⟨n1,t1,o1⟩,⟨n2,t2,o2⟩,⟨n3,t3,o3⟩⟩:=Nv
 rw[hf]
 have e: ∀(x y:List UInt8) W,(Op.equalIn 9999 25 (str x) (str y)).run Tryz.prog W= .ok (decide (x=y)) W:=fun x y W=>by
  rw[run_equalIn_string W 9998 25 _ _ Tryz.underlying25,AX]
 by_cases h1:a=c<;>by_cases h2:b=d<;>by_cases h3:s=t<;>simp[Op.eqFields,part,Tryz.isAgg25,e,h1,h2,h3,n1,n2,n3,t1,t2,t3,o1,o2,o3]
section
variable {r:Option Nat} {n:Nat} {N:Nat} {D:List Deferred} {ops:List Oper} {Q:Exit→Act→World→Prop} {o:Oper} {rest:List Oper} {env:Env} {A A2:World→Prop} {R:Act→World→Prop}
theorem VO (a b s c d e:List UInt8) {t:Nat} {u:TypeId} {x y:Operand} (hg:Ax ops N env o=some true) (hd:o.dst=some t) (ho:o.op= .binOp .eql 45 x y u)
  (hx:evO N env x=some (.agg #[str a,str b,str s])) (hy:evO N env y=some (.agg #[str c,str d,str e]))
  (h:WL r n Tryz.prog N D ops Q rest ((t, .bool (decide (a=c∧b=d∧s=e)))::env) A):WL r n Tryz.prog N D ops Q (o::rest) env A:=
 Cx hg hd (fun c e=>by rw[ho] at e;cases e) (fun _ W hρ _=>by
  have hm:Tryz.prog.eqGuardType Tryz.prog.depth 45=false:=by kernel_rfl
  simp[execOp,ho,hρ _ _ hx,hρ _ _ hy,run_eqGuard_agg W .eql 45 x y _ _ hm,XQ]) h
theorem RX (a b s c d e:List UInt8) {t:Nat} {u:TypeId} {x y:Operand} (hg:Ax ops N env o=some true) (hd:o.dst=some t) (ho:o.op= .binOp .neq 45 x y u)
  (hx:evO N env x=some (.agg #[str a,str b,str s])) (hy:evO N env y=some (.agg #[str c,str d,str e]))
  (h:WQ Tryz.prog N D ops A2 R rest ((t, .bool (!decide (a=c∧b=d∧s=e)))::env) A):WQ Tryz.prog N D ops A2 R (o::rest) env A:=
 DV hg hd (fun c e=>by rw[ho] at e;cases e) (fun _ W hρ _=>by
  have hm:Tryz.prog.eqGuardType Tryz.prog.depth 45=false:=by kernel_rfl
  simp[execOp,ho,hρ _ _ hx,hρ _ _ hy,run_eqGuard_agg W .neq 45 x y _ _ hm,XC]) h
end
abbrev SpS:Type:=List UInt8×List UInt8×List UInt8
def FF (L:List SpS):List Value:=L.flatMap fun x=>[str x.1,str x.2.1,str x.2.2]
theorem Vs (a b:List SpS):FF (a++b)=FF a++FF b:=List.flatMap_append
theorem Uj (l:List SpS):(FF l).length=l.length*3:=by
 induction l with
 |nil=>rfl
 |cons p l ih=>show(FF l).length+1+1+1=(l.length+1)*3;rw[ih];omega
theorem Wk {l:List SpS} {i:Nat} (hi:i<l.length):FF l=FF (l.take i)++([str l[i].1,str l[i].2.1,str l[i].2.2]++FF (l.drop (i+1))):=by
 conv=>lhs;rw[←List.take_append_drop i l,List.drop_eq_getElem_cons hi,Vs]
 rfl
def Q5 (W:World) (p:Option Addr) (l:List SpS):Prop:=l=[]∨ ∃g off,p=some ⟨g,off,none⟩∧ ∀i (hi:i<l.length),Ag W g (off+i*3) [str l[i].1,str l[i].2.1,str l[i].2.2]
theorem Q5.at_ {W:World} {p:Option Addr} {l:List SpS} (h:Q5 W p l) {i:Nat} (hi:i<l.length): ∃g off,p=some ⟨g,off,none⟩∧ ∀k (hk:k<l.length),Ag W g (off+k*3) [str l[k].1,str l[k].2.1,str l[k].2.2]:=by
 rcases h with rfl|h
 ·exact absurd hi (Nat.not_lt_zero _)
 ·exact h
theorem Q5.of_row {W:World} {g off:Nat} {l:List SpS} {junk:List Value} (h:Ag W g off (FF l++junk)):Q5 W (some ⟨g,off,none⟩) l:= .inr ⟨g,off,rfl,fun i hi=>by
 have h1:=CX h
 rw[Wk hi] at h1
 have h2:=CX (JQ h1)
 rwa [Uj,List.length_take,Nat.min_eq_left (Nat.le_of_lt hi)] at h2⟩
theorem KV (l:List SpS) (hn:l.length≤100000) (p q:Option Addr) (cap cap2:Nat) (W:World) (hA:Q5 W p l) (hB:Q5 W q l):
  Ad Tryz.prog 33 #[slv p l.length cap,slv q l.length cap2] W (fun _:Unit=> .bool true) (fun _=>True) (fun _=>[]):=by
 refine Ab (args:=[slv p l.length cap,slv q l.length cap2]) Tryz.func33 I I I ?_
 refine zA (zB (wP I (Aa (zE (zA (zA (zB ?_)))))))
 iterate 5 refine wP I ?_
 refine wU 10 false I (bne_eq_false_iff_eq.2 I) (Aa (zE (zS I (zI (zE (zA (zA (zB (wP I (wP I (wP I (Aa (zE ?_)))))))))))))
 refine zH ?_
 refine At (X:=Nat) (fun i=>[(0,slv p l.length cap),(1,slv q l.length cap2),(12, .int .i64 (l.length:Nat)),(13, .int .i64 (i:Nat))]) (fun _=>[]) (fun i=>i≤l.length) (fun i=>l.length-i) 0 (Nat.zero_le _) ⟨I,I,I,I,tO⟩ [] I ?_
 intro i hi
 have hi:i≤l.length:=hi
 refine zA (zB (wP I ?_))
 by_cases hlt:i<l.length
 ·refine wU 14 true I (dT (by omega)) (Aa (zE (zA (zR I (zI (zE (zA (zH (zA (zB ?_))))))))))
  obtain⟨g,off,e1,h1⟩:=hA.at_ hlt
  obtain⟨g2,off2,e2,h2⟩:=hB.at_ hlt
  have h1:=h1 i hlt
  have h2:=h2 i hlt
  obtain⟨x,hx⟩: ∃x,x=l[i]:=⟨_,rfl⟩
  rw[←hx] at h1 h2
  subst e1 e2
  refine wP I (wP I (Aa (zE (zA (zU (qP I (qP I ?_)))))))
  refine qJ ?_
  refine qL 0 I I (fun W1 hp=>h1.hp hp) I (qP I (qP I ?_))
  refine qJ ?_
  refine qL 0 I I (fun W1 hp=>h2.hp hp) I ?_
  refine RX x.1 x.2.1 x.2.2 x.1 x.2.1 x.2.2 I I I I I ?_
  exact qU 24 false I (by rw[dT ⟨I,I,I⟩];rfl) (A7 (Aa (zE (zS I (zI (zN (zE (zB (wP I (wV 25 ((i+1:Nat):Int) I (A0 (by omega)) (wP I (Aa (Ak (i+1) hlt (by show l.length-(i+1)<l.length-i;omega) ⟨I,I,I,I,tO⟩ [] I)))))))))))))
 refine wU 14 false I (dF (by omega)) (Aa (zE (zA (zS I (zJ (zK (zK (zL (zE (zA (zB (wP I (Aa ?_)))))))))))))
 exact zE (zO (wR1 I I I))
def exS:List SpS:=[([51],[49],[49]),([55],[49],[49]),([55],[51],[51]),([51],[51],[51])]
theorem VF (f:FrP) (L:List An):spC f L=FF (L.map fun q=>(Ac (f.px q.1 q.2),Ac (f.py q.1 q.2),Ac (f.pz q.2))):=by
 unfold spC FF
 rw[List.flatMap_map]
theorem Xc:spC f0 (crn 3 7 1 3)=FF exS:=by
 rw[VF]
 exact congrArg FF (by decide+kernel)
-- BOXES 10
-- CODE2
structure OpR where
 s:Int
 l:Rat
 r:Rat
 o:Rat
 i:Rat
 deriving Inhabited
abbrev OpR.v (x:OpR):Value:=H3 x.s (Ac x.l) (Ac x.r) (Ac x.o) (Ac x.i)
structure OpR.OK (x:OpR):Prop where
 ol:okQ x.l
 or:okQ x.r
 oo:okQ x.o
 oi:okQ x.i
 ll:(Ac x.l).length≤8
 lr:(Ac x.r).length≤8
 lo:(Ac x.o).length≤8
 li:(Ac x.i).length≤8
 h1:x.l<x.r
 h2:x.o<x.i
def ovl (a b:OpR):Bool:=decide (a.s=b.s∧a.l<b.r∧b.l<a.r∧a.o<b.i∧b.o<a.i)
theorem Lk (a b:OpR) (ha:a.OK) (hb:b.OK) (W:World) (hv:AE W) (ht:A6 W):
  Ad Tryz.prog 45 #[a.v,b.v] W (fun _:Unit=> .bool (ovl a b)) (fun _=>True) (fun _=>[]):=by
 have zz: ∀ {q:Rat},(Ac q).length≤8→szQ q 8:=fun h=>DW h (by decide)
 have s1:Sz2 a.l b.r:=sz2 (zz ha.ll) (zz hb.lr) (by decide)
 have s2:Sz2 b.l a.r:=sz2 (zz hb.ll) (zz ha.lr) (by decide)
 have s3:Sz2 a.o b.i:=sz2 (zz ha.lo) (zz hb.li) (by decide)
 have s4:Sz2 b.o a.i:=sz2 (zz hb.lo) (zz ha.li) (by decide)
 refine Ab (args:=[H3 a.s (Ac a.l) (Ac a.r) (Ac a.o) (Ac a.i),H3 b.s (Ac b.l) (Ac b.r) (Ac b.o) (Ac b.i)]) Tryz.func45 I I I ?_
 refine zA (zB ?_)
 (refine Al rfl rfl rfl rfl ?_;intro)
 (refine Al rfl rfl rfl rfl ?_;intro)
 refine wP I (Aa (zE (zA (zB (wP I (wB 0 I I I (wP I (wB 1 I I I (wP I ?_)))))))))
 by_cases h1:a.s=b.s
 rotate_left
 ·refine wU 9 false I (beq_eq_false_iff_ne.2 h1) (wP I ?_)
  iterate 6 refine Af I I ?_
  refine wP I (wP I ?_)
  iterate 6 refine Af I I ?_
  refine wP I (wP I ?_)
  iterate 6 refine Af I I ?_
  refine wP I (wP I ?_)
  iterate 6 refine Af I I ?_
  exact wP I (wP I (Aa (zE (zO (wR1 I I (congrArg Value.bool (dF fun h=>h1 h.1).symm))))))
 refine wU 9 true I (beq_iff_eq.2 h1) (wP I (wP I (wB 0 I I I (wP I (wB 1 I I I (wC I I (fun W1 hp=>Cb a.l b.r s1 W1 (hv.hp hp) (ht.hp hp)) (wP I ?_)))))))
 by_cases h2:a.l<b.r
 rotate_left
 ·refine wU 16 false I ((BT _ _).trans (dF h2)) (wP I (wP I ?_))
  iterate 6 refine Af I I ?_
  refine wP I (wP I ?_)
  iterate 6 refine Af I I ?_
  refine wP I (wP I ?_)
  iterate 6 refine Af I I ?_
  exact wP I (wP I (Aa (zE (zO (wR1 I I (congrArg Value.bool (dF fun h=>h2 h.2.1).symm))))))
 refine wU 16 true I ((BT _ _).trans (dT h2)) (wP I (wP I (wP I (wB 1 I I I (wP I (wB 0 I I I (wC I I (fun W1 hp=>Cb b.l a.r s2 W1 (hv.hp hp) (ht.hp hp)) (wP I ?_))))))))
 by_cases h3:b.l<a.r
 rotate_left
 ·refine wU 24 false I ((BT _ _).trans (dF h3)) (wP I (wP I ?_))
  iterate 6 refine Af I I ?_
  refine wP I (wP I ?_)
  iterate 6 refine Af I I ?_
  exact wP I (wP I (Aa (zE (zO (wR1 I I (congrArg Value.bool (dF fun h=>h3 h.2.2.1).symm))))))
 refine wU 24 true I ((BT _ _).trans (dT h3)) (wP I (wP I (wP I (wB 0 I I I (wP I (wB 1 I I I (wC I I (fun W1 hp=>Cb a.o b.i s3 W1 (hv.hp hp) (ht.hp hp)) (wP I ?_))))))))
 by_cases h4:a.o<b.i
 rotate_left
 ·refine wU 32 false I ((BT _ _).trans (dF h4)) (wP I (wP I ?_))
  iterate 6 refine Af I I ?_
  exact wP I (wP I (Aa (zE (zO (wR1 I I (congrArg Value.bool (dF fun h=>h4 h.2.2.2.1).symm))))))
 refine wU 32 true I ((BT _ _).trans (dT h4)) (wP I (wP I (wP I (wB 1 I I I (wP I (wB 0 I I I (wC I I (fun W1 hp=>Cb b.o a.i s4 W1 (hv.hp hp) (ht.hp hp)) (wP I ?_))))))))
 by_cases h5:b.o<a.i
 rotate_left
 ·exact wU 40 false I ((BT _ _).trans (dF h5)) (wP I (wP I (Aa (zE (zO (wR1 I I (congrArg Value.bool (dF fun h=>h5 h.2.2.2.2).symm)))))))
 exact wU 40 true I ((BT _ _).trans (dT h5)) (wP I (wP I (Aa (zE (zO (wR1 I I (congrArg Value.bool (dT ⟨h1,h2,h3,h4,h5⟩).symm)))))))
def Xd (W:World) (p:Option Addr) (L:List OpR):Prop:=L=[]∨ ∃g off,p=some ⟨g,off,none⟩∧ ∀i (hi:i<L.length),Ag W g (off+i*5) (L[i]).v.cells.toList
theorem Xd.row {W:World} {p:Option Addr} {L:List OpR} (h:Xd W p L) {i:Nat} (hi:i<L.length): ∃g off,p=some ⟨g,off,none⟩∧ ∀k (hk:k<L.length),Ag W g (off+k*5) (L[k]).v.cells.toList:=by
 rcases h with rfl|h
 ·exact absurd hi (Nat.not_lt_zero _)
 ·exact h
def djt (L:List OpR):Bool:=decide (∀i,i<L.length→ ∀j,j<i→ovl (L.getD i default) (L.getD j default)=false)
def djK (L:List OpR) (i:Nat):Prop:= ∀i',i'<i→ ∀j,j<i'→ovl (L.getD i' default) (L.getD j default)=false
theorem opg {L:List OpR} {i:Nat} (h:i<L.length):L.getD i default=L[i]:=by rw[List.getD_eq_getElem?_getD,List.getElem?_eq_getElem h];rfl
theorem WZ {L:List OpR} {i j:Nat} (hi:i<L.length) (hj:j<i) (h:ovl L[i] (L[j]'(by omega))=true):djt L=false:=by
 refine dF fun hh=> ?_
 have:=hh i hi j hj
 rw[opg hi,opg (by omega),h] at this
 cases this
theorem Wq {L:List OpR} (h:djK L L.length):djt L=true:=dT h
abbrev opB (b:Nat) (x:OpR):Bx:=⟨b,27,x.v.cells.toList,true,none⟩
theorem Pe (L:List OpR) (hL: ∀x∈L,x.OK) (hn:L.length≤32) (p:Option Addr) (cap:Nat) (hcap:L.length≤cap) (W:World) (hA:Xd W p L) (hv:AE W) (ht:A6 W):
  Ad Tryz.prog 10 #[slv p L.length cap] W (fun _:Unit=> .tuple #[.bool (djt L), .int .i64 0]) (fun _=>True) (fun _=>[]):=by
 refine Ab (args:=[slv p L.length cap]) Tryz.func10 I I I ?_
 refine zA (zB (wP I (wP I (Aa (zE (zA (zA (zB (wP I (wP I (wP I (wU 13 false I (dF (by omega)) (Aa ?_)))))))))))))
 refine zE (zS I (zI (zE (zA (zA (zB (wP I (wP I (wP I (Aa (zE (zH ?_))))))))))))
 refine At (X:=Nat) (fun i=>[(0,slv p L.length cap),(2, .bool false),(3, .int .i64 0),(14,slv p L.length cap),(15, .int .i64 (L.length:Nat)),(16, .int .i64 (i:Nat))]) (fun _=>[]) (fun i=>i≤L.length) (fun i=>L.length-i) 0 (Nat.zero_le _) ⟨I,I,I,I,I,I,tO⟩ [] I ?_
 intro i hi
 have hi:i≤L.length:=hi
 refine zA (zB (wP I ?_))
 by_cases hlt:i<L.length
 ·refine wU 17 true I (dT (by omega)) (Aa (zE (zA (zR I (zI (zE (zA (zH (zA (zB ?_))))))))))
  obtain⟨g,off,rfl,hrow⟩:=hA.row hlt
  have hr:=hrow i hlt
  have hx:=hL L[i] (List.getElem_mem _)
  obtain⟨x,hxe⟩: ∃x,x=L[i]:=⟨_,rfl⟩
  rw[←hxe] at hr hx
  refine wJ ?_
  refine wL 0 I I (fun W1 hp=>hr.hp hp) I ?_
  (refine Ae Tryz.hZ rfl rfl rfl rfl ?_;intro)
  refine wS 0 I I I (Aa ?_)
  rename_i b5
  refine zE (zA (zB (wB 0 I I I (wC I I (fun W1 hp=>Ia x.s x.l x.r x.o x.i hx.ol hx.or hx.oo hx.oi hx.ll hx.lr hx.lo hx.li hx.h1 hx.h2 W1 (hv.hp hp) (ht.hp hp)) (wP I (Aa (zE (zA (zB (wP I (wP I (Aa (zE ?_)))))))))))))
  exact zS I (zI (zN (zE (zB (wP I (wV 25 ((i+1:Nat):Int) I (A0 (by omega)) (wP I (Aa (Ak (i+1) hlt (by show L.length-(i+1)<L.length-i;omega) ⟨I,I,I,I,I,I,tO⟩ [_] I)))))))))
 refine wU 17 false I (dF (by omega)) (Aa (zE (zA (zS I (zJ (zK (zK (zL (zE (zA (zA (zB ?_))))))))))))
 clear hi hlt
 refine wP I (wP I (wP I (Aa (zE (zH ?_)))))
 refine At (X:=Nat) (fun i=>[(0,slv p L.length cap),(2, .bool false),(3, .int .i64 0),(26,slv p L.length cap),(27, .int .i64 (L.length:Nat)),(28, .int .i64 (i:Nat))]) (fun _=>[]) (fun i=>i≤L.length∧djK L i) (fun i=>L.length-i) 0 ⟨Nat.zero_le _,fun i' hi'=>absurd hi' (Nat.not_lt_zero _)⟩ ⟨I,I,I,I,I,I,tO⟩ [] I ?_
 rintro i ⟨hi,hK⟩
 have hi:i≤L.length:=hi
 have hK:djK L i:=hK
 refine zA (zB (wP I ?_))
 by_cases hlt:i<L.length
 rotate_left
 ·refine wU 29 false I (dF (by omega)) (Aa (zE (zA (zS I (zJ (zK (zK (zL (zE (zA (zB (wP I (wP I ?_)))))))))))))
  exact Aa (zE (zO (wR2 I I (by rw[Wq (by rw[show L.length=i by omega];exact hK)]))))
 refine wU 29 true I (dT (by omega)) (Aa (zE (zA (zR I (zI (zE (zA (zH (zA (zB ?_))))))))))
 obtain⟨g,off,rfl,hrow⟩:=hA.row hlt
 have hr:=hrow i hlt
 have hx:=hL L[i] (List.getElem_mem _)
 have hno: ∀j (hj:j<i),ovl L[i] (L[j]'(by omega))=true→djt L=false:=fun j hj h=>WZ hlt hj h
 have hgi:=opg hlt
 obtain⟨x,hxe⟩: ∃x,x=L[i]:=⟨_,rfl⟩
 rw[←hxe] at hr hx hno hgi
 refine wP I ?_
 refine wJ ?_
 refine wL 0 I I (fun W1 hp=>hr.hp hp) I ?_
 (refine Ae Tryz.hZ rfl rfl rfl rfl ?_;intro)
 refine wP I (wS 0 I I I (Aa ?_))
 rename_i b8
 refine zE (zA (zB (wP I (wP I ?_))))
 refine B9 i tH I I I I I I I I (by omega) ?_
 refine wP I (wP I (Aa (zE (zH ?_))))
 refine At (X:=Nat) (fun j=>[(0,slv (some ⟨g,off,none⟩) L.length cap),(2, .bool false),(3, .int .i64 0),(8,Ai b8),(26,slv (some ⟨g,off,none⟩) L.length cap),(27, .int .i64 (L.length:Nat)),(28, .int .i64 (i:Nat)),(35,slv (some ⟨g,off,none⟩) i cap),(36, .int .i64 (i:Nat)),(37, .int .i64 (j:Nat))]) (fun _=>[opB b8 x]) (fun j=>j≤i∧ ∀j' (hj:j'<j) (hi:j'<i),ovl x (L[j']'(by omega))=false) (fun j=>i-j) 0 ⟨Nat.zero_le _,fun _ h=>absurd h (Nat.not_lt_zero _)⟩ ⟨I,I,I,I,I,I,I,I,I,I,tO⟩ [] I ?_
 rintro j ⟨hj,hF⟩
 have hj:j≤i:=hj
 have hF: ∀j' (hj:j'<j) (hi:j'<i),ovl x (L[j']'(by omega))=false:=hF
 refine zA (zB (wP I ?_))
 by_cases hlj:j<i
 rotate_left
 ·refine wU 38 false I (dF (by omega)) (Aa (zE (zA (zS I (zJ (zK (zK (zL (zN (zE (zB (wP I (wV 45 ((i+1:Nat):Int) I (A0 (by omega)) ?_)))))))))))))
  refine wP I (Aa ?_)
  refine Ak (i+1) ⟨hlt,fun i' hi' j' hj'=> ?_⟩ (by show L.length-(i+1)<L.length-i;omega) ⟨I,I,I,I,I,I,tO⟩ [_] I
  by_cases e:i'=i
  ·subst e
   rw[hgi,opg (by omega)]
   exact hF j' (by omega) (by omega)
  ·exact hK i' (by omega) j' hj'
 refine wU 38 true I (dT (by omega)) (Aa (zE (zA (zR I (zI (zE (zA (zH (zA (zB ?_))))))))))
 have hjL:j<L.length:=by omega
 have hr2:=hrow j hjL
 have hy:=hL L[j] (List.getElem_mem _)
 have hno:=hno j hlj
 have hF2: ∀b,ovl x L[j]=b→b=false→ ∀j' (hj:j'<j+1) (hi:j'<i),ovl x (L[j']'(by omega))=false:=fun b e eb j' h1 h2=>by
  by_cases e':j'=j
  ·subst e';rw[e,eb]
  ·exact hF j' (by omega) h2
 obtain⟨y,hye⟩: ∃y,y=L[j]:=⟨_,rfl⟩
 rw[←hye] at hr2 hy hno hF2
 refine wJ ?_
 refine wL 0 I I (fun W1 hp=>hr2.hp hp) I ?_
 (refine Ae Tryz.hZ rfl rfl rfl rfl ?_;intro)
 refine wS 1 I I I (Aa ?_)
 rename_i b10
 refine zE (zA (zB (wB 0 I I I (wB 1 I I I (wC I I (fun W1 hp=>Lk x y hx hy W1 (hv.hp hp) (ht.hp hp)) (Aa (zE ?_)))))))
 refine Aj I (fun hov=> ?_) (fun hov=> ?_)
 ·have hov:ovl x y=true:=hov
  refine zA (zB (wP I (wP I (Aa (zE (zO (zQ (zP (zP (zQ (zQ (zP (zP ?_)))))))))))))
  exact zQ (zP (wR2 I I (by rw[hno hov])))
 ·have hov:ovl x y=false:=hov
  exact zI (zN (zE (zB (wP I (wV 44 ((j+1:Nat):Int) I (A0 (by omega)) (wP I (Aa (Ak (j+1) ⟨hlj,hF2 _ hov I⟩ (by show i-(j+1)<i-j;omega) ⟨I,I,I,I,I,I,I,I,I,I,tO⟩ [_] I))))))))
-- BOXES 20
-- CODE2
abbrev olB (b:Nat) (p:Option Addr) (n cap:Nat):Bx:=⟨b,22,[slv p n cap],true,none⟩
abbrev inB (b:Nat) (s:Int):Bx:=⟨b,3,[.int .i64 s],true,none⟩
theorem Nw (p:Option Addr) (n cap:Nat) (s:Int) (W:World):Ad Tryz.prog 101 #[slv p n cap, .int .i64 s] W (fun b:Nat×Nat=> .func (.func 168) #[] #[Ai b.1,Ai b.2]) (fun _=>True) (fun b=>[olB b.1 p n cap,inB b.2 s]):=by
 refine Ab (args:=[slv p n cap, .int .i64 s]) Tryz.func101 I I I ?_
 refine zA (zB ?_)
 (refine Al rfl rfl rfl rfl ?_;intro)
 (refine Al rfl rfl rfl rfl ?_;intro)
 refine wP I (Aa ?_)
 rename_i b1 b2
 exact zE (zA (zB (wP I (wP I (Aa (zE (zO (Aw tH I (.tmp I) (b1,b2) I tO fun W1 hp=>Ap.of_hp hp))))))))
structure OnN (b1 b2 g cap:Nat) (W:World):Prop where
 var:Ag W b1 0 [slv (some ⟨g,0,none⟩) 1 cap]
 sd:Ag W b2 0 [.int .i64 0]
 row:Ag W g 0 opE.cells.toList
abbrev T7 (b:Nat):List (Nat×Obj):=[(b, .cells opE.cells 27 (0,0))]
theorem Qo (b1 b2 g cap:Nat):N0 Tryz.prog 168 [Ai b1,Ai b2] 1 (fun _=>[opE]) (fun _=>OnN b1 b2 g cap):=by
 refine⟨fun y J Jx hN hB hA hU hY W hJ=> ?_⟩
 refine C8 (args:=[.func (.yield y) #[] #[],Ai b1,Ai b2]) (J0:=J 0 []) (Jm:=fun W=> ∃L,J 1 L W) Tryz.func168 I I I hJ ?_
 refine zA (zB (wL 0 I I (fun W hp=>(hN _ _ W hp).1.var) I (wP I (wP I (Aa (zE (zH ?_)))))))
 refine Do (X:=Nat×List (Nat×Obj)) (fun s=>[(0, .func (.yield y) #[] #[]),(1,Ai b1),(2,Ai b2),(6,slv (some ⟨g,0,none⟩) 1 cap),(7, .int .i64 1),(8, .int .i64 (s.1:Nat))]) (fun s W=>J s.1 s.2 W)
  (fun s=>s.1≤1) (fun s=>1-s.1) (0,[]) (Nat.zero_le _) ⟨rfl,rfl,rfl,rfl,rfl,rfl,trivial⟩ (fun W hp=>hp) ?_
 rintro⟨i,L⟩ hi
 have hi:i≤1:=hi
 refine zA (zB (wP I ?_))
 by_cases hlt:i<1
 rotate_left
 ·have e:i=1:=by omega
  subst e
  refine Ay 9 (.bool false) I I ?_
  exact Aa (zE (zA (zS I (zJ (zK (zK (zL (EG I fun W hp=>⟨L,hp⟩))))))))
 have e:i=0:=by omega
 subst e
 refine Ay 9 (.bool true) I I ?_
 refine Aa (zE (zA (zR I (zI (zE (zA (zH (zA (zB (wI I I (by show(0:Int)≤0;decide) (by show(0:Int)<1;decide) (wL 0 I I (fun W hp=>(hN _ _ W hp).1.row) I ?_)))))))))))
 refine JD (fun b W=>J 0 [(b, .cells (Value.agg #[.int .i64 0,str [],str [],str [],str []]).cells 27 (0,0))] W) I I I (Tryz.hZ.get I) (fun W W' b hp hb hl ho=>hA _ _ W W' b _ hp hb hl ho) fun b=> ?_
 refine Ka (cs:=[.int .i64 0,str [],str [],str [],str []]) (ty:=27) (fun W=>J 0 (T7 b) W) tH I I I I I I (fun W hp=>(hN _ _ W hp).2 (b,_) (List.mem_cons_self ..)) I I I (fun W W' hp hu=>hU _ _ _ _ W W' hp hu) ?_
 refine Aa (zE (zA (zB ?_)))
 have hown: ∀W,J 0 (T7 b) W→Ag W b 0 opE.cells.toList:=fun W hp=>Ag.of_block ((hN _ _ W hp).2 (b,_) (List.mem_cons_self ..))
 refine wP I (wL 0 I I (fun W hp=>hown W hp) I (wL 0 I I (fun W hp=>(hN _ _ W hp).1.sd) I (wP I (wP I (wP I (wL 0 I I (fun W hp=>hown W hp) I ?_))))))
 have hYk: ∀W,J 0 (T7 b) W→YieldAt (Fw none) 0 Tryz.prog y [opE].toArray W fun e W'=>(e= .returned (.bool true)∧J 1 (T7 b) W')∨(e= .returned (.bool false)∧Jx W'):=fun W h=>hY _ _ W hlt h
 refine Ec (A1:=fun W=>J 1 (T7 b) W) (A2:=Jx) I I I I I I hYk ?_ ?_
 rotate_left
 ·exact wP I (wP I (Aa (zE (zR I (zO (zQ (zP (zP (zQ (BO I (fun W h=>h)))))))))))
 exact wP I (wP I (Aa (zE (zS I (zI (zN (zE (zB (wP I (wP I (Aa (Dn (1,T7 b) (Nat.le_refl _) (by show 0<1;decide) ⟨I,I,I,I,I,I,tO⟩ (fun W hp=>hp)))))))))))))
def Xl:OpR:=⟨0,3,7,1,3⟩
theorem V5:Xl.OK:=⟨ML (q:=3) (by decide+kernel),ML (q:=7) (by decide+kernel),ML (q:=1) (by decide+kernel),ML (q:=3) (by decide+kernel),by show(Ac 3).length≤8;rw[nO3];decide,by show(Ac 7).length≤8;rw[nO7];decide,by show(Ac 1).length≤8;rw[nO1];decide,by show(Ac 3).length≤8;rw[nO3];decide,by decide+kernel,by decide+kernel⟩
theorem Xo:Ac 25=[50,53]:=by decide+kernel
theorem Yw:Ac 17=[49,55]:=by decide+kernel
abbrev U5 (b:Nat) (s:List UInt8):Bx:=⟨b,25,[str s],true,none⟩
abbrev sfB (b:Nat) (x:SfX) (bT:Nat):Bx:=⟨b,148,(x.v bT).cells.toList,true,none⟩
abbrev rfB (b bR bT:Nat):Bx:=⟨b,81,(F1 bR bT).cells.toList,true,none⟩
def smT (b:Bool):List UInt8:=if b then[50,53] else[48]
def smL:Nat→List UInt8
 |0=>[50,53]
 |_+1=>[49,55]
theorem Kt (bR bT g cap:Nat) (hcap:1≤cap) (W:World) (h:L5 W bR bT) (hg:Ag W g 0 opE.cells.toList) (hd:Gy W) (hv:AE W) (ht:A6 W):
  Ad Tryz.prog 38 #[F1 bR bT, .int .i64 0,slv (some ⟨g,0,none⟩) 1 cap] W (fun _:Unit=> .tuple #[str [49,55], .int .i64 0]) (fun _=>True) (fun _=>[]):=by
 have zz: ∀q:Rat,(q.num.natAbs<10^8∧q.den<10^8)→szQ q 8:=fun q hq=>hq
 have z1:=zz 1 (by decide+kernel)
 have z3:=zz 3 (by decide+kernel)
 have z7:=zz 7 (by decide+kernel)
 have e8:((7:Rat)-3)*(3-1)=8:=by decide+kernel
 have e25:S0.area f0=25:=by decide+kernel
 have e17:(25:Rat)-8=17:=by decide+kernel
 have hdj:djt [Xl]=true:=by decide+kernel
 refine Ab (args:=[F1 bR bT, .int .i64 0,slv (some ⟨g,0,none⟩) 1 cap]) Tryz.func38 I I I ?_
 refine zA (zB ?_)
 (refine Al rfl rfl rfl rfl ?_;intro)
 (refine Ae Tryz.hZ rfl rfl rfl rfl ?_;intro)
 (refine Ae Tryz.hZ rfl rfl rfl rfl ?_;intro)
 refine Aa ?_
 rename_i b3 b6 b7
 refine zE (zA (zB (wB 0 I I I ?_)))
 refine wD (X:=SfX) I I (fun W1 hp=>Kx bR bT W1 (h.hp hp).r (h.hp hp).t (hd.hp hp) (hv.hp hp) (ht.hp hp)) ?_
 rintro x _
 obtain⟨X,hX⟩: ∃X,X=x:=⟨_,rfl⟩
 obtain⟨gF,cF,jF,gC,cC,jC,gA,cA,jA⟩:=x
 refine wP I (wP I (wP I ?_))
 (refine Ae Tryz.hZ rfl rfl rfl rfl ?_;intro)
 refine wS 6 I I I (wP I (Aa ?_))
 rename_i b8
 refine zE (zA (zA (zB (wP I (wP I (Aa (zE (zS I (zI (zE (zA (zA (zB ?_)))))))))))))
 iterate 5 refine wP I ?_
 refine wB 6 I I I (wP I (wP I (wP I (Aa (zE (zS I (zI (zE (zA (zB (wP I ?_)))))))))))
 refine wC I I (fun W1 hp=>(Pe [Xl] (fun x hx=>by rw[List.mem_singleton.1 hx];exact V5) (by decide) (some ⟨g,0,none⟩) cap hcap W1 (.inr ⟨g,0,I,fun i hi=>by
  have e:i=0:=by have hi:i<1:=hi;omega
  subst e
  exact hg.hp hp⟩) (hv.hp hp) (ht.hp hp)).cast (v':= .tuple #[.bool true, .int .i64 0]) (by rw[hdj])) ?_
 iterate 5 refine wP I ?_
 refine Aa (zE (zA (zA (zB (wP I (wP I (Aa (zE (zS I (zI (zE (zA (zA ?_)))))))))))))
 refine zB (wP I (wP I ?_))
 refine wD (X:=Nat×Nat) I I (fun W1 _=>Nw (some ⟨g,0,none⟩) 1 cap 0 W1) ?_
 rintro⟨c1,c2⟩ _
 refine Aa (zE (zH ?_))
 refine El (X:=Unit) (fun _=>[rfB b3 bR bT,U5 b6 [],erK b7 0,fbB gF jF,B6 gC DU jC,arB gA gC cC jA,sfB b8 ⟨gF,cF,jF,gC,cC,jC,gA,cA,jA⟩ bT,olB c1 (some ⟨g,0,none⟩) 1 cap,inB c2 0])
  (fun _ _=>True) (fun _ _=>False) () rfl (by kernel_rfl) (Qo c1 c2 g cap) (fun _=>rfl)
  trivial [] rfl (fun k x W1 _ hp=>⟨Ag.of_bx hp 7 rfl rfl,Ag.of_bx hp 8 rfl rfl,hg.hp hp⟩) ?_ ?_ (fun _ _ _ _ _ h=>h.elim)
 ·rintro k _ d l' rec L hk _ hrec
  refine zB ?_
  (refine Ae Tryz.hZ rfl rfl rfl rfl ?_;intro)
  refine wS 12 I I I (Aa ?_)
  rename_i b11
  refine B5 11 hrec I ?_
  refine zH (zA (zB (wB 7 I I I (wB 12 I I I (wC I I (fun W1 hp=>IN ⟨gF,cF,jF,gC,cC,jC,gA,cA,jA⟩ bT W1 (SfP.of h hp 4 5 6 I I I) (hv.hp hp) (ht.hp hp)) (wP I (Aa (zE (zA (zB (wP I (wP I (Aa ?_)))))))))))))
  exact zE (zS I (zI (zN (Ba 11 () hrec I tO [_] I))))
 rintro _ d1 l1 rec1 _
 refine zN (zE (zA (zA (zB (wP I (wP I (Aa (zE (zS I (zI (zE (zA (zB ?_)))))))))))))
 (refine Ae Tryz.hZ rfl rfl rfl rfl ?_;intro)
 refine wS 11 I I I (Aa ?_)
 rename_i b13
 refine zE (zA (zA (zB (wP I (wB 0 I I I (wP I (wP I (Aa (zE (zH ?_))))))))))
 refine At (X:=Bool) (fun b=>[(1, .int .i64 0),(2,slv (some ⟨g,0,none⟩) 1 cap),(3,Ai b3),(6,Ai b6),(7,Ai b7),(8,Ai b8),(13,Ai b13),(59,slv (some ⟨bT,0,none⟩) 1 1),(60, .int .i64 1),(61, .int .i64 (Yo b))])
  (fun b=>[rfB b3 bR bT,U5 b6 [],erK b7 0,fbB gF jF,B6 gC DU jC,arB gA gC cC jA,sfB b8 ⟨gF,cF,jF,gC,cC,jC,gA,cA,jA⟩ bT,olB c1 (some ⟨g,0,none⟩) 1 cap,inB c2 0,Bw d1,AU l1 rec1 .exhausted none,U5 b13 (smT b)])
  (fun _=>True) smM false trivial ⟨rfl,rfl,rfl,rfl,rfl,rfl,rfl,rfl,rfl,rfl,trivial⟩ [] rfl ?_
 intro b _
 cases b with
 |false=>
  refine zA (zB (wP I (Aa (zE (zA (zR I (zI (zE (zA (zH (zA (zB (wI I I (by decide) (by decide) ?_)))))))))))))
  refine wL 0 I I (fun W1 hp=>(h.hp hp).t) I ?_
  (refine Ae Tryz.hZ rfl rfl rfl rfl ?_;intro)
  refine wS 12 I I I (Aa ?_)
  rename_i b15
  refine zE (zA (zA (zB (wP I (wB 12 I I I (wP I (wP I (Aa (zE (zS I (zI (zE (zA ?_)))))))))))))
  refine zU (qP I (qB 6 I I I (qP I (qI I I (by decide) (by decide) (qL 0 I I (fun W1 hp=>NG hp 3 I) I (qB 12 I I I (qC I I (fun W1 hp=>(NN f0 PJ 0 S0 WS (by decide+kernel) W1 (hv.hp hp) (ht.hp hp)).cast (v':= .tuple #[str [50,53], .int .i64 0]) (by rw[e25,Xo])) ?_)))))))
  iterate 5 refine qP I ?_
  refine A7 (Aa (zE (zA (zA (zB (wP I (wP I (Aa (zE (zS I (zI (zE (zA ?_)))))))))))))
  refine zB (wB 11 I I I (wP I ?_))
  refine wC I I (fun W1 hp=>(show Ad Tryz.prog 19 #[str [48],str [50,53]] W1 (fun _:Unit=> .tuple #[str [50,53], .int .i64 0]) (fun _=>True) (fun _=>[]) by
   have h2:=Cp 0 25 (eO (by decide+kernel)) W1 (hv.hp hp) (ht.hp hp)
   rwa [Rat.zero_add,nO0,Xo] at h2)) ?_
  refine wP I (wP I (wP I (wS 11 I I I (wP I (Aa (zE (zA (zB (wP I (wP I (Aa (zE (zS I ?_)))))))))))))
  exact zI (zN (zE (zB (wP I (wP I (Aa (Ak true tO (by decide) ⟨I,I,I,I,I,I,I,I,I,I,tO⟩ [_] I)))))))
 |true=>
 refine zA (zB (wP I (Aa (zE (zA (zS I (zJ (zK (zK (zL (zE (zA (zA ?_)))))))))))))
 refine zB (wP I (wP I ?_))
 refine wD (X:=Nat×Nat) I I (fun W1 _=>Nw (some ⟨g,0,none⟩) 1 cap 0 W1) ?_
 rintro⟨c3,c4⟩ _
 refine Aa (zE (zH ?_))
 refine El (X:=Nat) (fun k=>[rfB b3 bR bT,U5 b6 [],erK b7 0,fbB gF jF,B6 gC DU jC,arB gA gC cC jA,sfB b8 ⟨gF,cF,jF,gC,cC,jC,gA,cA,jA⟩ bT,olB c1 (some ⟨g,0,none⟩) 1 cap,inB c2 0,Bw d1,AU l1 rec1 .exhausted none,U5 b13 (smL k),olB c3 (some ⟨g,0,none⟩) 1 cap,inB c4 0])
  (fun j k=>k=j) (fun _ _=>False) 0 rfl (by kernel_rfl) (Qo c3 c4 g cap) (fun _=>rfl)
  rfl [] rfl (fun k x W1 _ hp=>⟨Ag.of_bx hp 12 rfl rfl,Ag.of_bx hp 13 rfl rfl,hg.hp hp⟩) ?_ ?_ (fun _ _ _ _ _ h=>h.elim)
 ·rintro k x d l' rec L hk e1 hrec
  have hk:k=0:=by omega
  subst hk
  have e1:x=0:=e1
  subst e1
  refine zB ?_
  (refine Ae Tryz.hZ rfl rfl rfl rfl ?_;intro)
  refine wS 17 I I I (Aa ?_)
  rename_i b18
  refine B5 16 hrec I ?_
  refine zH (zA (zB (wB 17 I I I (wC I I (fun W1 hp=>(HR 0 3 7 1 3 z3 z7 z1 z3 W1 (hv.hp hp) (ht.hp hp)).cast (v':= .tuple #[str [56], .int .i64 0]) (by rw[e8,nO8])) ?_))))
  iterate 5 refine wP I ?_
  refine Aa (zE (zA (zA (zB (wP I (wP I (Aa (zE (zS I (zI (zE (zA (zB ?_)))))))))))))
  refine wB 12 I I I (wP I ?_)
  refine wC I I (fun W1 hp=>(show Ad Tryz.prog 21 #[str [50,53],str [56]] W1 (fun _:Unit=> .tuple #[str [49,55], .int .i64 0]) (fun _=>True) (fun _=>[]) by
   have h2:=Cm 25 8 (eO (by decide+kernel)) W1 (hv.hp hp) (ht.hp hp)
   rwa [e17,Xo,nO8,Yw] at h2)) ?_
  refine wP I (wP I (wP I (wS 12 I I I (wP I (Aa (zE (zA (zB (wP I (wP I (Aa (zE (zS I ?_)))))))))))))
  exact zI (zN (Ba 16 1 hrec I I [_] I))
 rintro x d2 l2 rec2 e1
 have e1:x=1:=e1
 subst e1
 refine zN (zE (zA (zB (wB 11 I I I (wS 1 I I I (wS 2 I I I (Aa (zE (zO ?_)))))))))
 refine BN 14 I ?_
 refine BN 9 I ?_
 exact A4 tH I (.cell 1 I I I I I) (.cell 2 I I I I I) () I tO fun W _=>Ap.nil _ _
-- BOXES 8
-- CODE2
theorem nO2:Ac 2=[50]:=by decide+kernel
theorem nO4:Ac 4=[52]:=by decide+kernel
theorem nO5:Ac 5=[53]:=by decide+kernel
theorem QL:f0=frs [sqL] 0:=Option.some.inj (WJ.symm.trans (KE (by decide)))
theorem UT:bsE [sqL] 0 [53] [50] [50] 1 1=0:=by
 have e5:(rdR [53]).2=0:=by rw[←nO5];exact congrArg Prod.snd (Di (ML (by decide+kernel)))
 have e2:(rdR [50]).2=0:=by rw[←nO2];exact congrArg Prod.snd (Di (ML (by decide+kernel)))
 have hn:ner [[53],[50],[50]]=0:=by
  unfold ner ner ner ner
  rw[if_pos e5,if_pos e2,if_pos e2]
 have q2:rdQ [50]=2:=by rw[←nO2,IG]
 unfold bsE
 rw[if_neg (by decide),if_neg (by decide),if_neg (fun h=>h hn),q2,show(0:Int).toNat=0 from rfl, ←QL,if_neg (by
  rintro(h|h|h)
  ·exact absurd h (by decide+kernel)
  ·exact absurd h (by decide+kernel)
  ·cases h)]
theorem Ye:VC [sqL] 0 [53] [50] [50] 1 1 f0 5 2 2:=
 ⟨by decide,by decide,QL,nO5.symm,nO2.symm,nO2.symm,by unfold szQ;decide+kernel,by unfold szQ;decide+kernel,by unfold szQ;decide+kernel,PJ,by decide+kernel,by decide+kernel,by decide,by decide,by rw[bsV,if_pos UT,QL];rfl⟩
theorem XL:opE= .agg #[.int .i64 0,str [51],str [55],str [49],str [51]]:=by unfold opE H3;rw[nO3,nO7,nO1]
theorem Dm (W:World) (hd:Gy W) (hv:AE W) (ht:A6 W):
  Ad Tryz.prog 8 #[] W (fun _:Unit=> .bool true) (fun _=>True) (fun _=>[]):=by
 have eZ:RF 2 2 1 1=4:=by decide+kernel
 have eS:f0.spot 5 ((4-f0.st)*f0.sp)= .agg #[str [53],str [52],str [52]]:=by
  unfold FrP.spot
  rw[show f0.px 5 ((4-f0.st)*f0.sp)=5 by decide+kernel,show f0.py 5 ((4-f0.st)*f0.sp)=4 by decide+kernel,show f0.pz ((4-f0.st)*f0.sp)=4 by decide+kernel,nO5,nO4]
 refine Ab (args:=[]) Tryz.func8 I I I ?_
 refine zA (zB (wP I (Aa (zE (zA (zB ?_))))))
 refine Au Tryz.hZ tH I I I I I I I I ?_
 (refine Ae Tryz.hZ rfl rfl rfl rfl ?_;intro)
 refine wS 0 I I I (Aa ?_)
 rename_i b1
 refine Vh (bxs':=[⟨b1,27,opE.cells.toList,true,none⟩]) (by rw[XL];rfl) ?_
 refine zE (A9 ?_)
 refine AZ (X:= { y:Nat×Nat×List Value//Vec.OK ⟨some y.1,y.2.1,y.2.2⟩ 3 4 (FF exS) }) [false,true,false,false,false,false,false,false] (fun y=>[(1,Ai b1),(2,slv (some ⟨y.1.1,0,none⟩) 4 y.1.2.1),(3, .int .i64 0)])
  (fun y=>[⟨b1,27,opE.cells.toList,true,none⟩,⟨y.1.1,45,FF exS++y.1.2.2,true,none⟩])
  7 [⟨b1,27,opE.cells.toList,true,none⟩] Tryz.mixed (by kernel_rfl) ?_ ?_
 ·refine qB 0 I I I (Ca (wX (wZ ?_)))
  refine wD (X:=Nat×Nat×Nat) rfl rfl (fun W1 _=>EN W1) ?_;rintro⟨bS,bR,bT⟩ _
  refine Aa (Ah (wX (wZ ?_)))
  refine wD (X:=Vec) rfl rfl (fun W1 hp=>Mz bR bT W1 ⟨Da hp 1 2 rfl rfl,Ag.of_bx hp 3 rfl rfl⟩ (hd.hp hp) (hv.hp hp) (ht.hp hp)) ?_;rw[Xc];rintro⟨pV,cV,jV⟩ hV;have hV:Vec.OK ⟨pV,cV,jV⟩ 3 4 (FF exS):=hV;obtain⟨gV,rfl⟩: ∃g,pV=some g:=Option.ne_none_iff_exists'.1 (fun e=>absurd (hV.nil e) (by decide))
  refine Aa (Ah (wX (wZ (wP I (Aa (Ah (wX ?_)))))))
  refine RS.cons ?_ (RS.cons ?_ (RS.nil))
  ·refine wP I (Aa (Ah (wX ?_)))
   refine RS.cons ?_ (RS.cons ?_ (RS.nil))
   ·refine wP I (Aa (Ah (wX (wZ (wP I (Aa (Ah (wX (wZ (wP I (Aa (Ah ?_))))))))))))
    refine AF I (by((repeat (first|refine AK.same ?_|refine AK.off I ?_));exact tO)) ?_
    exact Az (⟨(gV,cV,jV),hV⟩: { y:Nat×Nat×List Value//Vec.OK ⟨some y.1,y.2.1,y.2.2⟩ 3 4 (FF exS) }) ⟨I,I,I,tO⟩ [0,4] (by decide) I
   ·refine wP I (Aa (Ah (wX (wZ (wP I (Aa (Ah (wX (wZ (wP I (Aa (Ah ?_))))))))))))
    refine AF I (by((repeat (first|refine AK.same ?_|refine AK.off I ?_));exact tO)) ?_
    exact Az (⟨(gV,cV,jV),hV⟩: { y:Nat×Nat×List Value//Vec.OK ⟨some y.1,y.2.1,y.2.2⟩ 3 4 (FF exS) }) ⟨I,I,I,tO⟩ [0,4] (by decide) I
  ·refine wP I (Aa (Ah (wX (wZ (wP I (Aa (Ah (wX (wZ (wP I (Aa (Ah (wX ?_)))))))))))))
   refine wZ (wP I (Aa (Ah ?_)))
   refine AF I (by((repeat (first|refine AK.same ?_|refine AK.off I ?_));exact tO)) ?_
   exact Az (⟨(gV,cV,jV),hV⟩: { y:Nat×Nat×List Value//Vec.OK ⟨some y.1,y.2.1,y.2.2⟩ 3 4 (FF exS) }) ⟨I,I,I,tO⟩ [0,4] (by decide) I
 rintro⟨⟨gV,cV,jV⟩,hV⟩
 refine zE (A9 ?_)
 refine AZ (X:=Unit) [false,true,false,false,false,false,false,false,false] (fun _=>[(2,slv (some ⟨gV,0,none⟩) 4 cV),(3, .int .i64 0),(4,str [49,55]),(5, .int .i64 0)])
  (fun _=>[⟨gV,45,FF exS++jV,true,none⟩])
  8 [⟨b1,27,opE.cells.toList,true,none⟩,⟨gV,45,FF exS++jV,true,none⟩] Tryz.mixed (by kernel_rfl) ?_ ?_
 ·refine qB 0 I I I (Ca (wX ?_))
  refine RS.cons ?_ (RS.cons ?_ (RS.nil))
  ·refine wD (X:=Nat×Nat×Nat) rfl rfl (fun W1 _=>EN W1) ?_;rintro⟨bS,bR,bT⟩ _
   refine Aa (Ah (wX (wZ ?_)))
   refine As Tryz.hZ tH I I I I I I I I I I I fun bN=> ?_
   refine Aa (Ah (wX (wZ (wC I I (fun W1 hp=>Kt bR bT bN 1 (by decide) W1 (by first|exact⟨Da hp 2 3 I I,Ag.of_bx hp 4 I I⟩|exact⟨Da hp 3 4 I I,Ag.of_bx hp 5 I I⟩) (by first|exact Ag.of_bx hp 5 I I|exact Ag.of_bx hp 2 I I) (hd.hp hp) (hv.hp hp) (ht.hp hp)) (Aa (Ah (wX (wZ (wP I (Aa (Ah (wX ?_))))))))))))
   refine RS.cons ?_ (RS.cons ?_ (RS.nil))
   ·refine wP I (Aa (Ah (wX ?_)))
    refine RS.cons ?_ (RS.cons ?_ (RS.nil))
    ·refine wP I (Aa (Ah (wX (wZ (wP I (Aa (Ah (wX (wZ (wP I (Aa (Ah ?_))))))))))))
     refine AF I (by((repeat (first|refine AK.same ?_|refine AK.off I ?_));exact tO)) ?_
     exact Az () ⟨I,I,I,I,tO⟩ [1] (by decide) I
    ·refine wP I (Aa (Ah (wX (wZ (wP I (Aa (Ah (wX (wZ (wP I (Aa (Ah ?_))))))))))))
     refine AF I (by((repeat (first|refine AK.same ?_|refine AK.off I ?_));exact tO)) ?_
     exact Az () ⟨I,I,I,I,tO⟩ [1] (by decide) I
   ·refine wP I (Aa (Ah (wX (wZ (wP I (Aa (Ah (wX (wZ (wP I (Aa (Ah (wX ?_)))))))))))))
    refine wZ (wP I (Aa (Ah ?_)))
    refine AF I (by((repeat (first|refine AK.same ?_|refine AK.off I ?_));exact tO)) ?_
    exact Az () ⟨I,I,I,I,tO⟩ [1] (by decide) I
  ·refine As Tryz.hZ tH I I I I I I I I I I I fun bN=> ?_
   refine Aa (Ah (wX (wZ ?_)))
   refine wD (X:=Nat×Nat×Nat) rfl rfl (fun W1 _=>EN W1) ?_;rintro⟨bS,bR,bT⟩ _
   refine Aa (Ah (wX (wZ (wC I I (fun W1 hp=>Kt bR bT bN 1 (by decide) W1 (by first|exact⟨Da hp 2 3 I I,Ag.of_bx hp 4 I I⟩|exact⟨Da hp 3 4 I I,Ag.of_bx hp 5 I I⟩) (by first|exact Ag.of_bx hp 5 I I|exact Ag.of_bx hp 2 I I) (hd.hp hp) (hv.hp hp) (ht.hp hp)) (Aa (Ah (wX (wZ (wP I (Aa (Ah (wX ?_))))))))))))
   refine RS.cons ?_ (RS.cons ?_ (RS.nil))
   ·refine wP I (Aa (Ah (wX ?_)))
    refine RS.cons ?_ (RS.cons ?_ (RS.nil))
    ·refine wP I (Aa (Ah (wX (wZ (wP I (Aa (Ah (wX (wZ (wP I (Aa (Ah ?_))))))))))))
     refine AF I (by((repeat (first|refine AK.same ?_|refine AK.off I ?_));exact tO)) ?_
     exact Az () ⟨I,I,I,I,tO⟩ [1] (by decide) I
    ·refine wP I (Aa (Ah (wX (wZ (wP I (Aa (Ah (wX (wZ (wP I (Aa (Ah ?_))))))))))))
     refine AF I (by((repeat (first|refine AK.same ?_|refine AK.off I ?_));exact tO)) ?_
     exact Az () ⟨I,I,I,I,tO⟩ [1] (by decide) I
   ·refine wP I (Aa (Ah (wX (wZ (wP I (Aa (Ah (wX (wZ (wP I (Aa (Ah (wX ?_)))))))))))))
    refine wZ (wP I (Aa (Ah ?_)))
    refine AF I (by((repeat (first|refine AK.same ?_|refine AK.off I ?_));exact tO)) ?_
    exact Az () ⟨I,I,I,I,tO⟩ [1] (by decide) I
 intro _
 refine zE (zA (zB ?_))
 refine wD (X:=Nat×Nat×Nat) I I (fun W1 _=>EN W1) ?_
 rintro⟨bS,bR,bT⟩ _
 refine wP I ?_
 refine Au Tryz.hZ tH I I I I I I I I ?_
 refine wC I I (fun W1 hp=>(Fa W1 (some ⟨bR,0,none⟩) 1 [sqL] (by decide) (Da hp 1 2 I I) Is (hd.hp hp) (hv.hp hp) (ht.hp hp) 0 1 1 [53] [50] [50] (by decide) (by decide) (by decide) UT f0 5 2 2 Ye).cast (v':= .tuple #[str [52], .agg #[str [53],str [52],str [52]], .int .i64 0]) (by rw[eZ,eS,nO4])) (wP I (wP I (wP I (wP I ?_))))
 (refine Ae Tryz.hZ rfl rfl rfl rfl ?_;intro)
 refine wP I (wS 4 I I I (wP I (Aa ?_)))
 rename_i b7
 refine zE (zA (zB ?_))
 iterate 7 refine wP I ?_
 iterate 4 refine Au Tryz.hZ tH I I I I I I I I ?_
 refine As Tryz.hZ tH I I I I I I I I I I I fun bN=> ?_
 refine wC I I (fun W1 hp=>KV exS (by decide) (some ⟨gV,0,none⟩) (some ⟨bN,0,none⟩) cV 4 W1 (Q5.of_row (junk:=jV) (Ag.of_bx hp 0 I I)) (Q5.of_row (junk:=[]) (Ag.of_bx hp 5 I I))) (wP I (wP I (wP I (wP I (wU 47 true I ((AX _ _).trans (dT I)) (wP I (wP I (wP I (wP I (wU 51 true I ((AX _ _).trans (dT I)) (wP I (wP I (wB 4 I I I ?_)))))))))))))
 refine Au Tryz.hZ tH I I I I I I I I ?_
 refine VO [53] [52] [52] [53] [52] [52] I I I I I ?_
 exact wU 56 true I (dT ⟨I,I,I⟩) (wP I (wP I (Aa (zE (zO (wR1 I I I))))))
-- BOXES 12
-- CODE2
theorem T5 {z:Int} (h:0<z):itoa (-z)=45::itoa z:=by
 unfold itoa
 rw[if_pos (by omega),if_neg (by omega),show(-z).natAbs=z.toNat by omega]
theorem Ve {h:Rat} (h0:0<h):Ac (-h)=45::Ac h:=by
 have hn:0<h.num:=by
  have h1:0≤h.num:=Rat.num_nonneg.2 (Rat.le_of_lt h0)
  have h2:h.num≠0:=fun e=>by rw[Rat.num_eq_zero] at e;rw[e] at h0;exact Rat.lt_irrefl h0
  omega
 have e1:(-h).num= -h.num:=Rat.neg_num h
 have e2:(-h).den=h.den:=Rat.neg_den h
 unfold Ac F8
 rw[e1,e2,T5 hn]
 split<;>rfl
theorem X8 (f:FrP) (x h e z:Rat) (zx:szQ x 8) (zh:szQ h 8) (ze:szQ e 8) (zz:szQ z 19) (h0:0<h) (i:Nat) (hi:i<3):
  ∃u y w t,(Po f x h e z).drop (i*3)=(f.spot u ((y-f.st)*f.sp)).cells.toList++t∧szQ u 17∧szQ y 19∧u-x=w∧[str (45::Ac h),str [48],str (Ac h)][i]? =some (str (Ac w)):=by
 have hc:i=0∨i=1∨i=2:=by omega
 rcases hc with rfl|rfl|rfl
 ·exact⟨x-h,e, -h,_,(by unfold Po;rw[List.append_assoc];rfl),zx.sub zh,ze.mono (by decide),by grind,by rw[Ve h0];rfl⟩
 ·exact⟨x,z,0,_,(by unfold Po;rfl),zx.mono (by decide),zz,by grind,by rw[BE];rfl⟩
 ·exact⟨x+h,e,h,[],(by unfold Po;rfl),zx.add zh,ze.mono (by decide),by grind,I⟩
theorem FrP.Go.pzz {f:FrP} (h:f.Go) (z:Rat):f.pz ((z-f.st)*f.sp)=z:=by
 have:=h.h0
 unfold FrP.pz
 grind
theorem FrP.Go.pl {f:FrP} (h:f.Go): ∃A B,f.plane= .tuple #[plV A B f.base, .int .i64 0]∧szQ A 3∧szQ B 3∧szQ f.base 14∧ ∀u d,0+A*f.px u d+B*f.py u d+f.base=f.pz d:=by
 have zsl:szQ f.slope 3:=h.ok.hdz.div h.sp (NY h.h0)
 refine⟨if f.ax then f.slope else 0,if f.ax then 0 else f.slope, ?_, ?_, ?_,h.st.sub (zsl.mul h.ok.posz),fun u d=>h.sum u d⟩
 ·rw[FrP.plane,if_neg (NY h.h0)]
  cases f.ax
  ·simp only[Bool.false_eq_true,if_false,plV,BE]
  ·simp only[if_true,plV,BE]
 ·split
  ·exact zsl
  ·exact szo.mono (by decide)
 ·split
  ·exact szo.mono (by decide)
  ·exact zsl
theorem FrP.Go.pxz {f:FrP} (h:f.Go) {u d:Rat} (zu:szQ u 17) (zd:szQ d 27):szQ (f.px u d) 34∧szQ (f.py u d) 34:=by
 have zo:=h.offz zd
 constructor
 ·unfold FrP.px;split
  ·exact zo
  ·exact zu.mono (by decide)
 ·unfold FrP.py;split
  ·exact zu.mono (by decide)
  ·exact zo
abbrev Yh (b:Nat) (p:Option Addr) (n cap:Nat):Bx:=⟨b,36,[slv p n cap],true,none⟩
abbrev dmB (b:Nat) (s:Int) (x h e:List UInt8) (a c:Int):Bx:=⟨b,38,(dmS s x h e a c).cells.toList,true,none⟩
theorem OR (W:World) (p:Option Addr) (cap:Nat) (rs:List (List Sd)) (hn:rs.length<1099511627776) (hT:tot rs<1099511627776) (hR:Bh W p rs) (hd:Gy W) (hv:AE W) (ht:A6 W)
  (s a b:Int) (x h e:List UInt8) (hx0:x.length<4611686018427387904) (hh0:h.length<4611686018427387904) (he0:e.length<4611686018427387904):
  Ad Tryz.prog 4 #[CN p rs.length cap,dmS s x h e a b] W (fun _:Unit=> .bool true) (fun _=>True) (fun _=>[]):=by
 refine Ab (args:=[CN p rs.length cap,dmS s x h e a b]) Tryz.func4 I I I ?_
 refine zA (zB ?_)
 (refine Al rfl rfl rfl rfl ?_;intro)
 (refine Al rfl rfl rfl rfl ?_;intro)
 refine wP I (Aa ?_)
 rename_i b2 b3
 refine zE (zA (zA (zB (wB 0 I I I (wC I I (fun W1 hp=>Pq W1 p cap rs 8 (by omega) (by omega) (hR.hp hp)) (wP I ?_))))))
 by_cases hg:grt rs 8=true
 ·refine wU 27 true I hg ?_
  iterate 3 refine Af I I ?_
  refine wP I (wP I ?_)
  iterate 11 refine Af I I ?_
  exact wP I (Aa (zE (zR I (zA (zB (wC I I (fun W1 hp=>Dm W1 (hd.hp hp) (hv.hp hp) (ht.hp hp)) (wP I (Aa (zE (zO (zP (wR1 I I I))))))))))))
 have hg:grt rs 8=false:=by simpa using hg
 refine wU 27 false I hg (wB 0 I I I (wC I I (fun W1 hp=>(OB W1 p cap rs (by omega) (by omega) (hR.hp hp)).cast (by rw[VR])) (wP I ?_)))
 by_cases hc:chk rs=0
 rotate_left
 ·refine wU 30 true I (bne_iff_ne.2 hc) (wP I (wP I ?_))
  iterate 11 refine Af I I ?_
  exact wP I (Aa (zE (zR I (zA (zB (wC I I (fun W1 hp=>Dm W1 (hd.hp hp) (hv.hp hp) (ht.hp hp)) (wP I (Aa (zE (zO (zP (wR1 I I I))))))))))))
 refine wU 30 false I (by rw[hc];rfl) (wP I (wP I (wP I (wB 1 I I I (wP I ?_)))))
 refine Ay 35 (.int .i64 (x.length:Nat)) I (congrArg (fun n:Nat=>Value.int .i64 (n:Int)) (AN _)) ?_
 refine wP I (wB 1 I I I (wP I ?_))
 refine Ay 38 (.int .i64 (h.length:Nat)) I (congrArg (fun n:Nat=>Value.int .i64 (n:Int)) (AN _)) ?_
 refine wP I (wB 1 I I I (wP I ?_))
 refine Ay 41 (.int .i64 (e.length:Nat)) I (congrArg (fun n:Nat=>Value.int .i64 (n:Int)) (AN _)) ?_
 refine wP I (wP I ?_)
 by_cases hl:x.length≤8∧h.length≤8∧e.length≤8
 rotate_left
 ·exact wU 43 true I (dT (by omega)) (wP I (Aa (zE (zR I (zA (zB (wC I I (fun W1 hp=>Dm W1 (hd.hp hp) (hv.hp hp) (ht.hp hp)) (wP I (Aa (zE (zO (zP (wR1 I I I)))))))))))))
 obtain⟨hx,hh,he⟩:=hl
 refine wU 43 false I (dF (by omega)) (wP I (Aa (zE (zS I (zI (zE (zA (zB ?_))))))))
 by_cases hE:bsE rs s x h e a b=0
 rotate_left
 ·skip
  refine wB 0 I I I (wB 1 I I I (wC I I (fun W1 hp=>Oq W1 p cap rs (by omega) (hR.hp hp) hc (hd.hp hp) (hv.hp hp) (ht.hp hp) s a b x h e hx hh he hE) ?_))
  iterate 5 refine wP I ?_
  refine Aa (zE (zA (zB (wB 0 I I I (wB 1 I I I (wC I I (fun W1 hp=>LD W1 p cap rs (by omega) (hR.hp hp) hc (hd.hp hp) (hv.hp hp) (ht.hp hp) s a b x h e hx hh he hE) (wP I (wP I (wP I (wP I ?_))))))))))
  (refine Ae Tryz.hZ rfl rfl rfl rfl ?_;intro)
  refine wP I (wS 2 I I I (wP I (Aa (zE (zA (zA (zB (wP I (wP I (wU 60 true I (bne_iff_ne.2 hE) (Aa (zE (zR I ?_)))))))))))))
  refine zA (zB (wP I (wP I (wP I (wU 63 true I (beq_iff_eq.2 I) ?_)))))
  iterate 6 refine wP I ?_
  exact wC I I (fun W1 hp=>Dm W1 (hd.hp hp) (hv.hp hp) (ht.hp hp)) (wP I (wP I (Aa (zE (zO (zP (wR1 I I I)))))))
 obtain⟨f,x',h',e',ho⟩:=X2 hc hE hx hh he
 have ho2:=ho
 obtain⟨s0,s1,hf,rfl,rfl,rfl,zx,zh,ze,hgo,h0',he',ha,hb,_⟩:=ho
 obtain⟨m,rfl⟩: ∃m:Nat,s=m:=⟨s.toNat,by omega⟩
 have hm:m<tot rs:=by omega
 have hf:f=frs rs m:=hf
 have hfm:=KE hm
 rw[←hf] at hfm
 have eF:=Jb rs
 obtain⟨z,hz⟩: ∃z,z=RF h' e' a b:=⟨_,rfl⟩
 have zz:szQ z 19:=by rw[hz];exact ze.add (zh.mul (FR ha hb))
 have zp:=FR ha hb
 have zhp:=zh.mul zp
 have zdz:szQ ((z-f.st)*f.sp) 27:=(zz.sub hgo.st).mul hgo.sp
 have epz:=hgo.pzz z
 obtain⟨A,B,hplane,kA,kB,zba,hsum⟩:=hgo.pl
 refine wB 0 I I I (wB 1 I I I ?_)
 refine wD (X:=Nat) I I (fun W1 hp=>Og W1 p cap rs (by omega) (hR.hp hp) hc (hd.hp hp) (hv.hp hp) (ht.hp hp) m a b (Ac x') (Ac h') (Ac e') hx hh he hE f x' h' e' ho2) ?_
 intro gV _
 rw[←hz]
 iterate 5 refine wP I ?_
 refine Aa (zE (zA (zB (wB 0 I I I (wB 1 I I I (wC I I (fun W1 hp=>(Fa W1 p cap rs (by omega) (hR.hp hp) hc (hd.hp hp) (hv.hp hp) (ht.hp hp) m a b (Ac x') (Ac h') (Ac e') hx hh he hE f x' h' e' ho2).cast (v':= .tuple #[str (Ac z),f.spot x' ((z-f.st)*f.sp), .int .i64 0]) (by rw[hz])) (wP I (wP I (wP I (wP I ?_))))))))))
 (refine Ae Tryz.hZ rfl rfl rfl rfl ?_;intro)
 refine wP I (wS 3 I I I (wP I (Aa ?_)))
 rename_i b8
 refine zE (zA (zA (zB (wP I (wP I (Aa (zE (zS I (zI (zE (zA (zB (wB 0 I I I ?_)))))))))))))
 refine wD (X:=Vec) I I (fun W1 hp=>Gq W1 p cap rs (by omega) (hR.hp hp) hc (hd.hp hp) (ht.hp hp)) ?_
 intro F hF
 have hF:F.OK 5 (E3 rs).length (frC (E3 rs)):=hF
 obtain⟨gF,cF,hFv,hFr⟩:=Vec.frs hF (by omega)
 rw[hFv,eF]
 iterate 5 refine wP I ?_
 refine Aa (zE (zA (zA (zU ?_))))
 iterate 13 refine qP I ?_
 refine qI I I (by decide) (by decide) (qL 0 I I (fun W1 hp=>(Ag.of_bx hp 2 I I).sub 3) I (qB 3 I I I ?_))
 refine RX (Ac (f.px x' ((z-f.st)*f.sp))) (Ac (f.py x' ((z-f.st)*f.sp))) (Ac (f.pz ((z-f.st)*f.sp))) (Ac (f.px x' ((z-f.st)*f.sp))) (Ac (f.py x' ((z-f.st)*f.sp))) (Ac (f.pz ((z-f.st)*f.sp))) I I I I I ?_
 refine qU 93 false I (by rw[dT ⟨I,I,I⟩];rfl) (qP I (qP I (qP I (qB 3 I I I (qP I (qP I (qU 99 false I (by rw[epz];exact congrArg (!·) ((AX _ _).trans (dT I))) (qP I (qP I (qP I (qB 1 I I I (qP I (qU 104 false I (dF (by omega)) ?_)))))))))))))
 refine qP I (qP I (qP I (qB 1 I I I (qP I (qP I (qP I (qU 111 false I (dF (by omega)) (qP I (A7 (Aa (zE (zS I (zI ?_)))))))))))))
 refine zE (zA (zB (wP I (wP I (wB 1 I I I ?_)))))
 refine wJ ?_
 refine wL 0 I I (fun W1 hp=>hFr hp 4 I m f hfm) I (wC I I (fun W1 hp=>(IT f hgo.ok W1 (hv.hp hp) (ht.hp hp)).cast hplane) (wP I (wP I (wP I ?_))))
 (refine Ae Tryz.hZ rfl rfl rfl rfl ?_;intro)
 refine wS 5 I I I (wP I (Aa ?_))
 rename_i b12
 refine zE (zA (zB (wP I (wB 1 I I I (wP I (wB 1 I I I (wC I I (fun W1 hp=>(EU a b (by omega) (by omega) W1 (ht.hp hp)).cast (by rw[ofR,if_neg (by omega)])) ?_)))))))
 iterate 5 refine wP I ?_
 refine Aa (zE (zA (zB (wP I (wB 1 I I I (wP I (wC I I (fun W1 hp=>Ch h' (nrm a b) (sz2 zh zp (by decide)) W1 (hv.hp hp) (ht.hp hp)) ?_)))))))
 iterate 5 refine wP I ?_
 refine Aa (zE (zA (zB (wP I (wB 1 I I I (wP I (wC I I (fun W1 hp=>(Cp e' (h'*nrm a b) (sz2 ze zhp (by decide)) W1 (hv.hp hp) (ht.hp hp)).cast (v':= .tuple #[str (Ac z), .int .i64 0]) (by rw[hz];rfl)) ?_)))))))
 iterate 5 refine wP I ?_
 refine Aa (zE (zA (zA (zU ?_))))
 have epe:=hgo.pzz e'
 iterate 10 refine qP I ?_
 refine qU 153 false I (congrArg (!·) ((AX _ _).trans (dT I))) (qP I (qP I (qP I (qI I I (by decide) (by decide) (qP I (qL 0 I I (fun W1 hp=>(Ag.of_bx hp 2 I I).sub 2) I (qP I (qB 1 I I I (qP I (qU 162 false I (by rw[epe];exact congrArg (!·) ((AX _ _).trans (dT I))) (qP I (qP I (qP I ?_)))))))))))))
 refine qI I I (by decide) (by decide) (qP I (qL 0 I I (fun W1 hp=>(Ag.of_bx hp 2 I I).sub 8) I (qP I (qB 1 I I I (qP I (qU 171 false I (by rw[epe];exact congrArg (!·) ((AX _ _).trans (dT I))) (qP I (A7 (Aa (zE (zS I (zI (zE ?_)))))))))))))
 refine zA (zA (zB (wP I (wP I (wP I (Aa (zE (zH ?_))))))))
 refine At (X:=Nat) (fun i=>[(3,Ai b3),(10,slv (some ⟨gF,0,none⟩) (tot rs) cF),(12,Ai b12),(173,slv (some ⟨gV,0,none⟩) 3 3),(174, .int .i64 3),(175, .int .i64 (i:Nat))])
  (fun _=>[Yh b2 p rs.length cap,dmB b3 m (Ac x') (Ac h') (Ac e') a b,⟨gV,45,Po f x' h' e' z,true,none⟩,⟨b8,45,(f.spot x' ((z-f.st)*f.sp)).cells.toList,true,none⟩,F.bx 56 (frC (E3 rs)),⟨b12,52,(plV A B f.base).cells.toList,true,none⟩])
  (fun i=>i≤3) (fun i=>3-i) 0 (Nat.zero_le _) ⟨rfl,rfl,rfl,rfl,rfl,rfl,trivial⟩ [] rfl ?_
 intro i hi
 have hi:i≤3:=hi
 refine zA (zB (wP I ?_))
 by_cases hlt:i<3
 rotate_left
 ·refine wU 176 false I (dF (by omega)) (Aa (zE (zA (zS I (zJ (zK (zK (zL (zE (zA (zB (wC I I (fun W1 hp=>Dm W1 (hd.hp hp) (hv.hp hp) (ht.hp hp)) (wP I ?_)))))))))))))
  exact Aa (zE (zO (wR1 I I I)))
 refine wU 176 true I (dT (by omega)) (Aa (zE (zA (zR I (zI (zE (zA (zH (zA (zB ?_))))))))))
 obtain⟨u,y,w,t,hdrop,zu,zy,hw,hwant⟩:=X8 f x' h' e' z zx zh ze zz h0' i hlt
 have zd:szQ ((y-f.st)*f.sp) 27:=(zy.sub hgo.st).mul hgo.sp
 have hxy:=hgo.pxz zu zd
 have hs:=hsum u ((y-f.st)*f.sp)
 rw[hgo.pzz y] at hs
 have epy:=hgo.pzz y
 refine wP I ?_
 refine wJ ?_
 refine wL 0 I I (fun W1 hp=>(show Ag W1 gV (0+i*3) ((f.spot u ((y-f.st)*f.sp)).cells.toList++t) by rw[←hdrop];exact(Ag.of_bx hp 2 I I).sub (i*3))) I ?_
 (refine Ae Tryz.hZ rfl rfl rfl rfl ?_;intro)
 refine wP I (wS 6 I I I (Aa ?_))
 rename_i b18
 refine zE (zA (zB (wB 5 I I I (wP I (wB 6 I I I (wP I (wB 6 I I I ?_)))))))
 refine Au Tryz.hZ tH I I I I I I I I ?_
 refine wC I I (fun W1 hp=>(HY A B f.base (f.px u ((y-f.st)*f.sp)) (f.py u ((y-f.st)*f.sp)) (kA.mono (by decide)) (kB.mono (by decide)) (zba.mono (by decide)) (hxy.1.mono (by decide)) (hxy.2.mono (by decide)) (Yk kA kB zba hxy.1 hxy.2 (by decide)) W1 (hv.hp hp) (ht.hp hp)).cast (v':= .tuple #[str (Ac y), .int .i64 0]) (by rw[hs])) ?_
 iterate 5 refine wP I ?_
 refine Aa (zE (zA (zB (wP I (wB 6 I I I (wP I (Aa (zE (zA (zA (zB (wP I (wP I ?_)))))))))))))
 refine wB 1 I I I ?_
 refine wJ ?_
 refine wP I (wL 0 I I (fun W1 hp=>hFr hp 4 I m f hfm) I (Aa (AH ?_)))
 try refine A9 ?_
 refine Be (X:=Unit) (fun _=>[(3,Ai b3),(10,slv (some ⟨gF,0,none⟩) (tot rs) cF),(12,Ai b12),(173,slv (some ⟨gV,0,none⟩) 3 3),(174, .int .i64 3),(175, .int .i64 (i:Nat)),(17, .int .i64 (i:Nat)),(18,Ai b18),(19,str (Ac y)),(20, .int .i64 0),(21,str (Ac u))])
  (fun _=>[Yh b2 p rs.length cap,dmB b3 m (Ac x') (Ac h') (Ac e') a b,⟨gV,45,Po f x' h' e' z,true,none⟩,⟨b8,45,(f.spot x' ((z-f.st)*f.sp)).cells.toList,true,none⟩,F.bx 56 (frC (E3 rs)),⟨b12,52,(plV A B f.base).cells.toList,true,none⟩,⟨b18,45,(f.spot u ((y-f.st)*f.sp)).cells.toList,true,none⟩]) (fun _=>True) ?_ ?_
 ·refine Aj I (fun hax=> ?_) (fun hax=> ?_)
  ·have hax:f.ax=true:=hax
   have ey:f.py u ((y-f.st)*f.sp)=u:=if_pos hax
   exact zB (wP I (wB 6 I I I (wP I (Aa (A5 () tO ⟨I,I,I,I,I,I,I,I,I,I,(show some (str (Ac (f.py u ((y-f.st)*f.sp))))=some (str (Ac u)) by rw[ey]),tO⟩ [] I)))))
  ·have hax:f.ax=false:=hax
   have ex:f.px u ((y-f.st)*f.sp)=u:=by unfold FrP.px;rw[hax];rfl
   exact zI (A5 () tO ⟨I,I,I,I,I,I,I,I,I,I,(show some (str (Ac (f.px u ((y-f.st)*f.sp))))=some (str (Ac u)) by rw[ex]),tO⟩ [] I)
 intro _ _
 refine zA (zB (wP I (wP I (wB 1 I I I (wC I I (fun W1 hp=>(Cm u x' (sz2 zu zx (by decide)) W1 (hv.hp hp) (ht.hp hp)).cast (v':= .tuple #[str (Ac w), .int .i64 0]) (by rw[hw])) ?_)))))
 iterate 5 refine wP I ?_
 refine Aa (zE (zA (zB (wP I (wB 1 I I I ?_)))))
 refine EO I I I I I (by decide) (by omega) ?_
 refine wP I (wB 1 I I I ?_)
 refine As Tryz.hZ tH I I I I I I I I I I I fun bW=> ?_
 have hWr: ∀ {W0 W1:World} {bxs:List Bx},Hp W0 bxs W1→nth bxs 7=some (⟨bW,25,[str (45::Ac h'),str [48],str (Ac h')],true,none⟩:Bx)→Ag W1 bW (0+i*1) [str (Ac w)]:=fun hp hk=>by
  have h2:=Ag.of_bx hp 7 hk rfl
  refine⟨h2.lt,fun k v hv=> ?_⟩
  cases k with
  |succ k=>simp at hv
  |zero=>
   obtain rfl:str (Ac w)=v:=by simpa using hv
   have h3:=h2.get i (str (Ac w)) hwant
   rw[Nat.zero_add,Nat.mul_one,Nat.add_zero]
   rwa [Nat.zero_add] at h3
 refine wP I ?_
 refine wJ ?_
 refine wL 0 I I (fun W1 hp=>hWr hp I) I (wP I (Aa (zE (zA (zB ?_)))))
 iterate 9 refine wP I ?_
 refine wB 6 I I I (wP I (wU 226 false I (by rw[epy];exact congrArg (!·) ((AX _ _).trans (dT I))) ?_))
 iterate 5 refine wP I ?_
 exact wU 231 false I (congrArg (!·) ((AX _ _).trans (dT I))) (wP I (Aa (zE (zS I (zI (zN (zE (zB (wP I (wV 233 ((i+1:Nat):Int) I (A0 (by omega)) (wP I (Aa (Ak (i+1) hlt (by show 3-(i+1)<3-i;omega) ⟨I,I,I,I,I,I,tO⟩ [_,_] I)))))))))))))
end
section
open Go Go.RowKit Go.Am Go.ChangeShapes Go.WideShapes Go.Deep
set_option maxRecDepth 10000
theorem c42:Tryz.prog.cellsOf 97=7:=by kernel_rfl
theorem c27:Tryz.prog.cellsOf 94=1:=by kernel_rfl
theorem c24:Tryz.prog.cellsOf 36=1:=by kernel_rfl
theorem c22:Tryz.prog.cellsOf 34=1:=by kernel_rfl
theorem c3:Tryz.prog.cellsOf 3=1:=by kernel_rfl
theorem c4:Tryz.prog.cellsOf 4=1:=by kernel_rfl
theorem Mr {H:Type} (d:DataW H):1≤Rows.uptoBulk d:=by
 cases d with
 |lit l=>cases l<;>simp[Rows.uptoBulk]
 |nil=>simp[Rows.uptoBulk]
 |ptr d=>simp[Rows.uptoBulk]
 |slice elems spare=>simp[Rows.uptoBulk]
 |agg parts=>simp[Rows.uptoBulk]
 |iface t d=>simp[Rows.uptoBulk]
 |map entries=>simp[Rows.uptoBulk]
 |held h=>simp[Rows.uptoBulk]
theorem TM {H:Type} (l:List (DataW H)):l.length≤Rows.uptoBulkAll l:=by
 induction l with
 |nil=>simp[Rows.uptoBulkAll]
 |cons x r ih=>have:=Mr x;simp only[Rows.uptoBulkAll,List.length_cons];omega
theorem Uh {H:Type} {A:Type} (L:A→Nat) (D:A→DataW H) (is:List A) (h: ∀i,i∈is→L i+1≤Rows.uptoBulk (D i)):
  (is.map L).sum+is.length≤Rows.uptoBulkAll (is.map D):=by
 induction is with
 |nil=>simp[Rows.uptoBulkAll]
 |cons x r ih=>
  have h1:=h x (.head _)
  have h2:=ih fun i hi=>h i (.tail _ hi)
  simp only[List.map_cons,List.sum_cons,List.length_cons,Rows.uptoBulkAll]
  omega
theorem Lq {H:Type} (e s:List (DataW H)):Rows.uptoBulkAll e+1≤Rows.uptoBulk (.slice e s):=by
 simp only[Rows.uptoBulk];omega
theorem RA {w:World} {a:Addr} {v:Value} (h:w.cell? a=some v):a.spot=none∧a.block<w.heap.size:=by
 unfold World.cell? at h
 split at h
 ·rename_i hb
  refine⟨?_, ?_⟩
  ·cases hs:a.spot with
   |none=>rfl
   |some k=>simp[hs] at h
  ·exact(Array.getElem?_eq_some_iff.1 hb).1
 ·cases h
theorem IJ {w:World} {base n:Nat} {a:Addr} {cs:List Value} (h:w.cells? base a n=some cs) (hn:0<n):a.spot=none∧Ag w a.block a.off cs:=by
 obtain⟨_,hl,hg⟩:=World.cells?_some h
 have h0:=hg 0 hn
 have hv:cs[0]? =some cs[0]:=List.getElem?_eq_getElem (by omega)
 rw[hv] at h0
 have hp:=RA h0
 have hs:a.spot=none:=by simpa[Addr.add] using hp.1
 refine⟨hs,⟨by simpa[Addr.add] using hp.2,fun j x hx=> ?_⟩⟩
 have hj:j<n:=by rw[←hl];exact(List.getElem?_eq_some_iff.1 hx).1
 rw[←hx, ←hg j hj]
 congr 1
 unfold Addr.add
 split
 ·subst_vars;cases a;simp_all
 ·rfl
theorem So {a:Addr} (hs:a.spot=none) (n:Nat):a.add n=⟨a.block,a.off+n,none⟩:=by
 unfold Addr.add
 split
 ·subst_vars;cases a;simp_all
 ·rfl
def Sd.in64 (s:Sd):Prop:= ∀z∈[s.x,s.y,s.rise,s.run,s.plate,s.over], -9223372036854775808≤z∧z≤9223372036854775807
section
variable {H:Type} {enc:TypeId×Value→H} {w:World} {base:Nat} {spare:Nat→Bool} {held:Bool} {fuel:Nat} {cs:List Value} {x:DataW H×List MemPlace}
theorem WB (h:DataW.trod enc Tryz.prog w base spare held fuel 97 cs=some x): ∃s:Sd,cs=s.cells∧s.in64:=by
 obtain⟨xs,m,rfl,rfl,hl,hx,hf⟩:=DataW.trod_struct Tryz.underlying97 h
 rw[c42] at hl
 have g: ∀(i:Nat) (o t:Nat) (f:Field),(match Tryz.prog.underlying 97 with|some (.struct fs)=>fs[i]? |_=>none)=some f→f.offset=o→f.type=t→
   ∃y,DataW.trod enc Tryz.prog w base spare held m t ((cs.drop o).take (Tryz.prog.cellsOf t))=some y:=by
  intro i o t f hi ho ht
  rw[Tryz.underlying97] at hi
  subst ho;subst ht
  have h1:=hf i f hi
  have h2:i<xs.length:=by rw[hx];exact(Array.getElem?_eq_some_iff.1 hi).1
  rw[List.getElem?_eq_getElem h2] at h1
  exact⟨_,h1⟩
 match cs,hl with
 |[v0,v1,v2,v3,v4,v5,v6],_=>
  have gi: ∀(i o:Nat) (f:Field) (v:Value),(match Tryz.prog.underlying 97 with|some (.struct fs)=>fs[i]? |_=>none)=some f→f.offset=o→f.type=3→([v0,v1,v2,v3,v4,v5,v6].drop o).take 1=[v]→
    ∃z,v= .int .i64 z∧ -9223372036854775808≤z∧z≤9223372036854775807:=by
   intro i o f v h1 h2 h3 h4
   obtain⟨y,hy⟩:=g i o 3 f h1 h2 h3
   rw[c3,h4] at hy
   obtain⟨z,e1,_,hw⟩:=DataW.trod_int Tryz.underlying3 hy
   refine⟨z,by simpa using e1, ?_⟩
   simpa[Lit.wf,IntKind.min,IntKind.max,IntKind.signed,IntKind.bits] using hw
  obtain⟨z0,rfl,b0⟩:=gi 0 0 _ v0 (by rw[Tryz.underlying97];rfl) rfl rfl rfl
  obtain⟨z1,rfl,b1⟩:=gi 1 1 _ v1 (by rw[Tryz.underlying97];rfl) rfl rfl rfl
  obtain⟨z2,rfl,b2⟩:=gi 2 2 _ v2 (by rw[Tryz.underlying97];rfl) rfl rfl rfl
  obtain⟨z3,rfl,b3⟩:=gi 3 3 _ v3 (by rw[Tryz.underlying97];rfl) rfl rfl rfl
  obtain⟨z5,rfl,b5⟩:=gi 5 5 _ v5 (by rw[Tryz.underlying97];rfl) rfl rfl rfl
  obtain⟨z6,rfl,b6⟩:=gi 6 6 _ v6 (by rw[Tryz.underlying97];rfl) rfl rfl rfl
  obtain⟨y4,hy4⟩:=g 4 4 4 _ (by rw[Tryz.underlying97];rfl) rfl rfl
  rw[c4] at hy4
  obtain⟨z4,e4,_⟩:=DataW.trod_bool Tryz.underlying4 hy4
  obtain rfl:v4= .bool z4:=by simpa using e4
  refine⟨⟨z0,z1,z2,z3,z4,z5,z6⟩,I, ?_⟩
  intro z hz
  simp only[List.mem_cons,List.not_mem_nil,or_false] at hz
  rcases hz with rfl|rfl|rfl|rfl|rfl|rfl<;>assumption
theorem T6 (h:DataW.trod enc Tryz.prog w base spare held fuel 94 cs=some x):
  ∃(p:Option Addr) (cap:Nat) (l:List Sd),cs=[slv p l.length cap]∧BJ w p l∧(∀s∈l,s.in64)∧l.length+1≤Rows.uptoBulk x.1:=by
 rcases open_slice Tryz.underlying94 h with⟨rfl,rfl⟩|⟨a,len,cap,m,n,D,Pl,rfl,_,hl,_,hm,rfl,hx⟩
 ·exact⟨none,0,[],rfl, .inl rfl,(fun _ hs=>by cases hs),Mr _⟩
 have hlm:len≤m:=by rw[hm];split<;>omega
 obtain⟨S,hS⟩:=choose_lt (α:=Sd) (n:=len) (p:=fun i s=>w.cells? base (a.add (i*7)) 7=some s.cells∧s.in64) fun i hi=>by
  obtain⟨cs',h1,h2⟩:=hx i (by omega)
  rw[c42] at h1
  obtain⟨s,rfl,h3⟩:=WB h2
  exact⟨s,h1,h3⟩
 refine⟨some a,cap,(List.range len).map S,by simp, ?_, ?_, ?_⟩
 ·by_cases h0:len=0
  ·subst h0;exact .inl rfl
  ·have hs:a.spot=none:=by simpa[Addr.add] using(IJ (hS 0 (by omega)).1 (by decide)).1
   refine .inr ⟨a.block,a.off,by cases a;simp_all,⟨fun i s hi=> ?_⟩⟩
   simp only[List.getElem?_map,Option.map_eq_some_iff] at hi
   obtain⟨k,hk,rfl⟩:=hi
   have hk':i<len∧k=i:=by
    have:=List.getElem?_eq_some_iff.1 hk
    obtain⟨h1,h2⟩:=this
    simp at h1 h2
    exact⟨h1,h2.symm⟩
   obtain⟨h1,rfl⟩:=hk'
   have:=(IJ (hS k h1).1 (by decide)).2
   rwa [So hs] at this
 ·intro s hs
  simp only[List.mem_map,List.mem_range] at hs
  obtain⟨i,hi,rfl⟩:=hs
  exact(hS i hi).2
 ·have h1:=TM ((List.range len).map D)
  have h2:=Lq ((List.range len).map D) ((List.range (m-len)).map fun j=>D (len+j))
  simp only[List.length_map,List.length_range] at h1⊢
  omega
theorem Rr (h:DataW.trod enc Tryz.prog w base spare held fuel 34 cs=some x):
  ∃(p:Option Addr) (cap:Nat) (rs:List (List Sd)),cs=[slv p rs.length cap]∧Bh w p rs∧(∀l∈rs, ∀s∈l,s.in64)∧tot rs+rs.length+1≤Rows.uptoBulk x.1:=by
 rcases open_slice Tryz.underlying34 h with⟨rfl,rfl⟩|⟨a,len,cap,m,n,D,Pl,rfl,_,hl,_,hm,rfl,hx⟩
 ·exact⟨none,0,[],rfl, .inl rfl,(fun _ hs=>by cases hs),Mr _⟩
 have hlm:len≤m:=by rw[hm];split<;>omega
 obtain⟨L,hL⟩:=choose_lt (α:=List Sd) (n:=len) (p:=fun i l=> ∃q c,w.cells? base (a.add (i*1)) 1=some [slv q l.length c]∧BJ w q l∧(∀s∈l,s.in64)∧l.length+1≤Rows.uptoBulk (D i)) fun i hi=>by
  obtain⟨cs',h1,h2⟩:=hx i (by omega)
  rw[c27] at h1
  obtain⟨q,c,l,rfl,h3,h4,h5⟩:=T6 h2
  exact⟨l,q,c,h1,h3,h4,h5⟩
 refine⟨some a,cap,(List.range len).map L,by simp, ?_, ?_, ?_⟩
 ·by_cases h0:len=0
  ·subst h0;exact .inl rfl
  ·obtain⟨q0,c0,h00,_⟩:=hL 0 (by omega)
   have hs:a.spot=none:=by simpa[Addr.add] using(IJ h00 (by decide)).1
   refine .inr ⟨a.block,a.off,by cases a;simp_all,⟨fun i l hi=> ?_⟩⟩
   simp only[List.getElem?_map,Option.map_eq_some_iff] at hi
   obtain⟨k,hk,rfl⟩:=hi
   have hk':i<len∧k=i:=by
    obtain⟨h1,h2⟩:=List.getElem?_eq_some_iff.1 hk
    simp at h1 h2
    exact⟨h1,h2.symm⟩
   obtain⟨h1,rfl⟩:=hk'
   obtain⟨q,c,h2,h3,_⟩:=hL k h1
   have:=(IJ h2 (by decide)).2
   rw[So hs] at this
   exact⟨q,c,this,h3⟩
 ·intro l hl'
  simp only[List.mem_map,List.mem_range] at hl'
  obtain⟨i,hi,rfl⟩:=hl'
  obtain⟨_,_,_,_,h3,_⟩:=hL i hi
  exact h3
 ·have h1:=Uh (fun i=>(L i).length) D (List.range len) fun i hi=>by
   obtain⟨_,_,_,_,_,h3⟩:=hL i (by simpa using hi)
   exact h3
  have h2:=Lq ((List.range len).map D) ((List.range (m-len)).map fun j=>D (len+j))
  simp only[tot,List.map_map,List.length_map,List.length_range] at h1⊢
  have h3:(List.range len).map (List.length∘L)=(List.range len).map fun i=>(L i).length:=rfl
  rw[h3]
  show _≤Rows.uptoBulk (DataW.slice _ _)
  omega
end
section
variable {H:Type} {enc:TypeId×Value→H} {w:World} {base:Nat} {spare:Nat→Bool} {held:Bool} {v:Value} {d:DataW H} {ps:List MemPlace}
theorem SZ {r:Reach} {b0:Nat} (hv:Value.okWide Tryz.prog w r b0 36 v) (h:DataW.Trod enc Tryz.prog w base spare held 36 v d ps):
  ∃(p:Option Addr) (cap:Nat) (rs:List (List Sd)),v=CN p rs.length cap∧Bh w p rs∧(∀l∈rs, ∀s∈l,s.in64)∧tot rs+rs.length+2≤Rows.uptoBulk d:=by
 obtain⟨cs,rfl,hc⟩:=okWide_struct Tryz.underlying36 hv
 obtain⟨fuel,hf⟩:=h
 obtain⟨xs,m,rfl,hx,hl,hn,hg⟩:=DataW.trod_struct Tryz.underlying36 hf
 rw[c24] at hc
 obtain⟨y0,rfl⟩: ∃y,xs=[y]:=by
  match xs,hn with
  |[y],_=>exact⟨y,rfl⟩
 have h0:DataW.trod enc Tryz.prog w base spare held m 34 (List.take (Tryz.prog.cellsOf 34) (List.drop 0 cs.toList))=some y0:=hg 0 _ rfl
 rw[c22] at h0
 obtain⟨c0,rfl⟩: ∃c,cs= #[c]:=by
  obtain⟨l⟩:=cs
  match l,hc with
  |[c],_=>exact⟨c,rfl⟩
 obtain⟨p,cap,rs,e1,e2,e3,e4⟩:=Rr h0
 simp only[Prod.mk.injEq] at hx
 obtain⟨rfl,_⟩:=hx
 refine⟨p,cap,rs, ?_,e2,e3, ?_⟩
 ·have:c0=slv p rs.length cap:=by simpa[Value.cells] using e1
  rw[this]
 ·simp only[List.map_cons,List.map_nil,Rows.uptoBulk,Rows.uptoBulkAll]
  have:y0.1=(y0:DataW H×List MemPlace).1:=rfl
  omega
end
end
section
open Go
noncomputable abbrev laidL:List (String×DataW Unit):=Rows.openingDisjointRow.laid
end
section
open Go Go.RowKit Go.Am Go.ChangeShapes Go.WideShapes Go.Deep Go.ChangeAt
set_option maxRecDepth 100000
section
variable {H:Type} {enc:TypeId×Value→H} {w:World} {base:Nat} {spare:Nat→Bool} {held:Bool} {v:Value} {d:DataW H} {ps:List MemPlace}
end
theorem own:ownKnob Tryz.prog.godebug=none:=by kernel_rfl
theorem NU:laidOutB Tryz.prog=true:=by kernel_rfl
theorem Iw:(laidL.all fun x=>x.2.handleName?.isNone)=true:=by kernel_rfl
theorem PU {W:World} (h:laidMetH Tryz.prog laidL W):A6 W:=by
 rw[MakeChecks.laidMetH_plain _ _ _ Iw] at h
 exact Lib.tabIs_of_head (g:=1) (t:=326) (e:=281) (n:=20) (by kernel_rfl) (by kernel_rfl) (by kernel_rfl) (by kernel_rfl) (by kernel_rfl) (by kernel_rfl) h.tail.tail
theorem Xt {W:World} (hS:W.ShapedOpen Tryz.prog):AE W:=
 cell_of_shapedOpen_int (g:=6) (t:=3) (zero:= #[.int .i64 0]) hS (of_decide_eq_true (by kernel_rfl)) (by kernel_rfl) rfl (by kernel_rfl) (by kernel_rfl) Tryz.underlying3
noncomputable def witW (os:Os):World:=World.laidAll Tryz.prog os laidL
theorem Va (os:Os) (args:Array Value):laidMetH Tryz.prog laidL ((witW os).forCall (fun _ _=>0) ⟨#[],args,[]⟩).memory:=by
 rw[MakeChecks.laidMetH_plain _ _ _ Iw]
 exact laidMet_laidAll _ (by kernel_rfl) (by kernel_rfl)
theorem R5 (os:Os) (args:Array Value):((witW os).forCall (fun _ _=>0) ⟨#[],args,[]⟩).Shaped Tryz.prog:=
 World.shaped_of_ZipB (by kernel_rfl) (by kernel_rfl)
theorem VV {H:Type} {enc:TypeId×Value→H} (os:Os) {f:FuncId} {fn:Func} {s:OpenSpec} {conds:List PathCond} (args:Array Value)
  (hok:Input.okWideB Tryz.prog ((witW os).forCall (fun _ _=>0) ⟨#[],args,[]⟩) f ⟨#[],args,[]⟩=true)
  (hrow:s.preRow enc Tryz.prog fn conds false laidL ((witW os).forCall (fun _ _=>0) ⟨#[],args,[]⟩).memory args):
  ∃(w:World) (tape:Tape) (i:Input),w.os=os∧(w.forCall tape i).Shaped Tryz.prog∧i.vars=[]∧Input.okWide Tryz.prog (w.forCall tape i) .any w.heap.size f i∧
   s.preRow enc Tryz.prog fn conds false laidL (w.forCall tape i).memory i.args∧({}:Assume).holds Tryz.prog (lone (Frame.enter Tryz.prog f i.args .normal) [] (w.forCall tape i)):=
 ⟨witW os,fun _ _=>0,⟨#[],args,[]⟩,World.laidAll_os _ _ _,R5 os args,(Input.okWide_of_okWideB (base:=0) hok).1,(Input.okWide_of_okWideB hok).2,hrow,by
  simp only[Assume.holds]
  exact⟨by simp,by simp,by simp,by simp,by simp,by simp⟩⟩
theorem Yc:Tryz.prog.cellsOf 183=2:=by kernel_rfl
theorem Yf:Tryz.prog.cellsOf 184=8:=by kernel_rfl
theorem XU:Tryz.prog.cellsOf 4=1:=by kernel_rfl
theorem Yz:Tryz.prog.cellsOf 3=1:=by kernel_rfl
section
variable {H:Type} {enc:TypeId×Value→H} {w:World} {base:Nat} {spare:Nat→Bool} {held:Bool} {fuel:Nat} {cs:List Value} {x:DataW H×List MemPlace}
theorem Jt (h:DataW.trod enc Tryz.prog w base spare held fuel 183 cs=some x): ∃(b:Bool) (z:Int),cs=[.bool b, .int .i64 z]∧x.1= .agg [.lit (.bool b), .lit (.int .i64 z)]:=by
 obtain⟨xs,m,rfl,rfl,hl,hn,hg⟩:=DataW.trod_struct Tryz.underlying183 h
 rw[Yc] at hl
 match cs,hl with
 |[u,v],_=>
  match xs,hn with
  |[y0,y1],_=>
   have h0:DataW.trod enc Tryz.prog w base spare held m 4 (([u,v].drop 0).take (Tryz.prog.cellsOf 4))=some y0:=hg 0 _ rfl
   have h1:DataW.trod enc Tryz.prog w base spare held m 3 (([u,v].drop 1).take (Tryz.prog.cellsOf 3))=some y1:=hg 1 _ rfl
   rw[XU] at h0
   rw[Yz] at h1
   obtain⟨b,e0,f0⟩:=DataW.trod_bool Tryz.underlying4 h0
   obtain⟨z,e1,f1,_⟩:=DataW.trod_int Tryz.underlying3 h1
   refine⟨b,z, ?_, ?_⟩
   ·have a0:u= .bool b:=by simpa using e0
    have a1:v= .int .i64 z:=by simpa using e1
    rw[a0,a1]
   ·simp[f0,f1]
theorem Tz (h:DataW.trod enc Tryz.prog w base spare held fuel 184 cs=some x) (hx:x.1= .agg [.agg [.lit (.bool false), .lit (.int .i64 1)], .agg [.lit (.bool true), .lit (.int .i64 (-1))], .agg [.lit (.bool false), .lit (.int .i64 (-1))], .agg [.lit (.bool true), .lit (.int .i64 1)]]):cs=XG:=by
 obtain⟨xs,m,rfl,rfl,hl,hn,hg⟩:=DataW.trod_array Tryz.underlying184 h
 rw[Yf] at hl
 match cs,hl with
 |[a0,a1,a2,a3,a4,a5,a6,a7],_=>
  match xs,hn with
  |[y0,y1,y2,y3],_=>
   have h0:=hg 0 (by decide)
   have h1:=hg 1 (by decide)
   have h2:=hg 2 (by decide)
   have h3:=hg 3 (by decide)
   rw[Yc] at h0 h1 h2 h3
   obtain⟨b0,z0,e0,f0⟩:=Jt (x:=y0) h0
   obtain⟨b1,z1,e1,f1⟩:=Jt (x:=y1) h1
   obtain⟨b2,z2,e2,f2⟩:=Jt (x:=y2) h2
   obtain⟨b3,z3,e3,f3⟩:=Jt (x:=y3) h3
   simp only[List.map_cons,List.map_nil,f0,f1,f2,f3,DataW.agg.injEq,List.cons.injEq,DataW.lit.injEq,Lit.bool.injEq,Lit.int.injEq,true_and,and_true] at hx
   obtain⟨⟨rfl,rfl⟩,⟨rfl,rfl⟩,⟨rfl,rfl⟩,⟨rfl,rfl⟩⟩:=hx
   simp at e0 e1 e2 e3
   obtain⟨rfl,rfl⟩:=e0
   obtain⟨rfl,rfl⟩:=e1
   obtain⟨rfl,rfl⟩:=e2
   obtain⟨rfl,rfl⟩:=e3
   rfl
end
theorem PA {W:World} (h:laidMetH Tryz.prog laidL W):Gy W:=by
 rw[MakeChecks.laidMetH_plain _ _ _ Iw] at h
 obtain⟨ps,⟨g',t',cs,fuel,p,q,hg',ht',hvar,hd,_,_⟩,_⟩:=h.tail.tail.tail.tail.tail.tail
 obtain rfl := Option.some.inj ((show Tryz.prog.globalNamed "kingpost/front.directions" = some 0 by kernel_rfl).symm.trans hg')
 obtain rfl:=Option.some.inj ((show(Tryz.prog.globals[0]?).map (·.type)=some 184 by kernel_rfl).symm.trans ht')
 have e:=Tz hd rfl
 have hc: ∀i u,XG[i]? =some u→W.cell? ⟨0,i,none⟩=some u:=fun i u hu=>by
  rw[World.var?_cell hg' hvar i]
  rw[←e] at hu
  simpa using hu
 refine⟨?_,fun m u hu=> ?_⟩
 ·obtain⟨c,ty,fr,h1,_⟩:=Sort.cells_of_cell? (hc 0 _ rfl)
  exact(Array.getElem?_eq_some_iff.1 h1).1
 ·rw[Nat.zero_add]
  exact hc m u hu
end
section
open Go Go.RowKit Go.Am Go.ChangeShapes Go.WideShapes Go.Deep
set_option maxRecDepth 10000
theorem XS:Tryz.prog.cellsOf 38=6:=by kernel_rfl
theorem Yl:Tryz.prog.cellsOf 25=1:=by kernel_rfl
section
variable {H:Type} {enc:TypeId×Value→H} {w:World} {base:Nat} {spare:Nat→Bool} {held:Bool} {v:Value} {d:DataW H} {ps:List MemPlace}
theorem KJ {fuel:Nat} {u:Value} {x:DataW H×List MemPlace} (h:DataW.trod enc Tryz.prog w base spare held fuel 25 [u]=some x): ∃b:List UInt8,u=str b∧Rows.uptoBulk x.1=b.length+1:=by
 obtain⟨s,e,hx,_⟩:=DataW.trod_string Tryz.underlying25 h
 refine⟨s.data.toList, ?_, ?_⟩
 ·have:u= .string s:=by simpa using e
  rw[this]
 ·rw[hx];simp[Rows.uptoBulk]
theorem Ov {r:Reach} {b0:Nat} (hv:Value.okWide Tryz.prog w r b0 38 v) (h:DataW.Trod enc Tryz.prog w base spare held 38 v d ps):
  ∃(s a b:Int) (x y z:List UInt8),v=dmS s x y z a b∧x.length+y.length+z.length≤Rows.uptoBulk d:=by
 obtain⟨cs,rfl,hc⟩:=okWide_struct Tryz.underlying38 hv
 obtain⟨fuel,hf⟩:=h
 obtain⟨xs,m,rfl,hx,hl,hn,hg⟩:=DataW.trod_struct Tryz.underlying38 hf
 rw[XS] at hc
 obtain⟨x0,x1,x2,x3,x4,x5,rfl⟩: ∃x0 x1 x2 x3 x4 x5,xs=[x0,x1,x2,x3,x4,x5]:=by
  match xs,hn with
  |[a,b,c,d,e,f],_=>exact⟨a,b,c,d,e,f,rfl⟩
 obtain⟨l⟩:=cs
 match l,hc with
 |[v0,v1,v2,v3,v4,v5],_=>
  have h0:DataW.trod enc Tryz.prog w base spare held m 3 (List.take (Tryz.prog.cellsOf 3) [v0,v1,v2,v3,v4,v5])=some x0:=hg 0 _ rfl
  have h1:DataW.trod enc Tryz.prog w base spare held m 25 (List.take (Tryz.prog.cellsOf 25) [v1,v2,v3,v4,v5])=some x1:=hg 1 _ rfl
  have h2:DataW.trod enc Tryz.prog w base spare held m 25 (List.take (Tryz.prog.cellsOf 25) [v2,v3,v4,v5])=some x2:=hg 2 _ rfl
  have h3:DataW.trod enc Tryz.prog w base spare held m 25 (List.take (Tryz.prog.cellsOf 25) [v3,v4,v5])=some x3:=hg 3 _ rfl
  have h4:DataW.trod enc Tryz.prog w base spare held m 3 (List.take (Tryz.prog.cellsOf 3) [v4,v5])=some x4:=hg 4 _ rfl
  have h5:DataW.trod enc Tryz.prog w base spare held m 3 (List.take (Tryz.prog.cellsOf 3) [v5])=some x5:=hg 5 _ rfl
  rw[c3] at h0 h4 h5
  rw[Yl] at h1 h2 h3
  obtain⟨a0,e0,_⟩:=DataW.trod_int Tryz.underlying3 h0
  obtain⟨a4,e4,_⟩:=DataW.trod_int Tryz.underlying3 h4
  obtain⟨a5,e5,_⟩:=DataW.trod_int Tryz.underlying3 h5
  obtain⟨s1,rfl,k1⟩:=KJ h1
  obtain⟨s2,rfl,k2⟩:=KJ h2
  obtain⟨s3,rfl,k3⟩:=KJ h3
  have e0:v0= .int .i64 a0:=by simpa using e0
  have e4:v4= .int .i64 a4:=by simpa using e4
  have e5:v5= .int .i64 a5:=by simpa using e5
  subst e0 e4 e5
  refine⟨a0,a4,a5,s1,s2,s3,I, ?_⟩
  have hd:d= .agg [x0.1,x1.1,x2.1,x3.1,x4.1,x5.1]:=(congrArg (·.1) hx)
  rw[hd]
  simp only[Rows.uptoBulk,Rows.uptoBulkAll,k1,k2,k3]
  omega
end
end
end Go.Proofs.YtndkgionklmdfaaGreatDoor
