/-
  Lemmas that the theorem openingDormers_upto_card needs (part 8 of 8).
-/
import Derived.Test.YtlnjmcchddbogaaGreatDoorOdg
import Derived.Test.YtlnjmcchddbogaaGreatDoorRows
import Derived.Deep.Slices
import Derived.ChangeArms
import Derived.ChangeShapes
import Derived.WideShapes
import Derived.Carry
import Derived.Test.YtlnjmcchddbogaaGreatDoorCards
import Derived.Test.YtlnjmcchddbogaaGreatDoorTie
import Derived.ProofKit
import Derived.OpenShut
import Derived.Deep.DeepHandedRow
import Derived.Lib.LaidTab
import Derived.Stop.LaidErr
import Derived.Lay
import Derived.SevenTiedAt
import Derived.Shelf.Vars
set_option maxHeartbeats 64000000
namespace Go.Proofs.YtlnjmcchddbogaaGreatDoor
section
open Go Go.RowKit Go.Am Go.Lib
set_option maxRecDepth 10000
def crn (l r lo hi:Rat):List Ax:=[(l,lo),(r,lo),(r,hi),(l,hi)]
def spC (f:FrP) (L:List Ax):List Value:=L.flatMap fun q=>[str (Ac (f.px q.1 q.2)),str (Ac (f.py q.1 q.2)),str (Ac (f.pz q.2))]
theorem VW (f:FrP) (a b:List Ax):spC f (a++b)=spC f a++spC f b:=List.flatMap_append
theorem IY (f:FrP) (h:f.Go) (s:Int) (l r lo hi:Rat) (zl:szQ l 8) (zr:szQ r 8) (zo:szQ lo 8) (zi:szQ hi 8) (W:World) (hv:AH W) (ht:A9 W):
  Ae Tryz.prog 41 #[frV f,Im s (Ac l) (Ac r) (Ac lo) (Ac hi)] W (fun V:Vec=> .tuple #[V.val 4, .int .i64 0]) (fun V=>V.OK 3 4 (spC f (crn l r lo hi))) (fun V=>[V.bx 33 (spC f (crn l r lo hi))]):=by
 obtain⟨C,hC⟩: ∃C,C=crn l r lo hi:=⟨_,rfl⟩
 have hCl:C.length=4:=by rw[hC];rfl
 have hz: ∀q∈C,szQ q.1 8/\szQ q.2 8:=by
  intro q hq
  rw[hC] at hq
  simp only[crn,List.mem_cons,List.not_mem_nil,or_false] at hq
  rcases hq with rfl|rfl|rfl|rfl
  ·exact⟨zl,zo⟩
  ·exact⟨zr,zo⟩
  ·exact⟨zr,zi⟩
  ·exact⟨zl,zi⟩
 refine Ab Tryz.func41 I I I<|xb<|wF I I fun _=>wF I I fun _=>Aa I<|zC<|?_
 rename_i b2 b3
 refine xn<|wP I<|xk<|wP I<|wB 1 I I I<|wP I<|wB 1 I I I<|FT (.agg #[str [],str []]) Tryz.underlying130 (fun W=>by kernel_rfl) Tryz.sizeOf25 I I I I I ?_
 refine wP I<|wB 1 I I I<|wP I<|wB 1 I I I<|FT (.agg #[str [],str []]) Tryz.underlying130 (fun W=>by kernel_rfl) Tryz.sizeOf25 I I I I I ?_
 refine wP I<|wB 1 I I I<|wP I<|wB 1 I I I<|FT (.agg #[str [],str []]) Tryz.underlying130 (fun W=>by kernel_rfl) Tryz.sizeOf25 I I I I I ?_
 refine wP I<|wB 1 I I I<|wP I<|wB 1 I I I<|FT (.agg #[str [],str []]) Tryz.underlying130 (fun W=>by kernel_rfl) Tryz.sizeOf25 I I I I I ?_
 refine As Tryz.hZ tH I I I I I I I I I I I fun bA=> ?_
 refine Aa I<|xa<|zH<|C9 ?_
 refine Av (X:=Nat×Vec) (fun x=>[(2,Ai b2),(6,x.2.val x.1),(31,slv (some ⟨bA,0,none⟩) 4 4),(32, .int .i64 4),(33, .int .i64 (x.1:Nat))]) (fun x=>[⟨b2,59,(frV f).cells.toList,true,none⟩,⟨b3,41,(Im s (Ac l) (Ac r) (Ac lo) (Ac hi)).cells.toList,true,none⟩,⟨bA,130,ptC C,true,none⟩,x.2.bx 33 (spC f (C.take x.1))])
  (fun x=>x.1<=4/\x.2.OK 3 x.1 (spC f (C.take x.1))) (fun x=>4-x.1) (0,Vec.empty) ⟨Nat.zero_le _,Vec.OK.empty 3⟩ ⟨rfl,rfl,rfl,rfl,rfl,trivial⟩ [] (by rw[hC];rfl) ?_
 rintro⟨i,V⟩ ⟨hi,hV⟩
 have hi:i<=4:=hi
 have hV:V.OK 3 i (spC f (C.take i)):=hV
 refine xb<|wP I<|?_
 by_cases hlt:i<4
 rotate_left
 ·have e:i=4:=by omega
  subst e
  rw[List.take_of_length_le (by omega)] at hV
  refine wU 34 false I (dF (by omega))<|xl<|zS I<|xg<|xn<|Ad I<|xc<|?_
  rw[<-hC]
  exact A4 tH I (.tmp I) (.tmp I) V I hV fun W1 hp=>Au.of_hp (hp.pick (l:=[V.bx 33 (spC f C)]) [3] (by decide) (by rw[List.take_of_length_le (by omega)];rfl))
 refine wU 34 true I (dT (by omega))<|xl<|zR I<|xh<|?_
 have hi4:i<C.length:=by omega
 have hq:=hz _ (List.getElem_mem hi4)
 have htk:C.take (i+1)=C.take i++[C[i]]:=List.take_succ_eq_append_getElem hi4
 obtain⟨q,hqe⟩: ∃q,q=C[i]:=⟨_,rfl⟩
 rw[<-hqe] at hq htk
 have hrow: ∀ {W0 W1:World} {bxs:List Bx},Hp W0 bxs W1->nth bxs 2=some (⟨bA,130,ptC C,true,none⟩:Bx)->Aj W1 bA (0+i*2) [str (Ac q.1),str (Ac q.2)]:=fun hp h1=>by
  obtain⟨g,o,e,hh⟩:=(Cl.of_row (l:=C) (junk:=[]) (by rw[List.append_nil];exact Aj.of_bx hp 2 h1 rfl)).at_ hi4
  cases e
  rw[hqe]
  exact hh i hi4
 refine wJ ?_
 refine wL 0 I I (fun W1 hp=>hrow hp I) I<|wG I I fun _=>wS 4 I I I<|zC<|?_
 rename_i b8
 refine xn<|wB 0 I I I<|EK Tryz.underlying130 Tryz.sizeOf25 I I I I I ⟨by decide,by decide⟩<|wB 4 I I I<|EK Tryz.underlying130 Tryz.sizeOf25 I I I I I ⟨by decide,by decide⟩<|wB 4 I I I<|wC I I (fun W1 hp=>SG f h q.1 q.2 (hq.1.mono (by decide)) (hq.2.mono (by decide)) W1 (hv.hp hp) (ht.hp hp))<|Ad I<|wG I I fun _=>wS 5 I I I<|wP I<|zC<|?_
 rename_i b9
 refine zE<|xd<|Aa I<|xa<|zS I<|xe<|zB<|wP I<|wB 5 I I I<|As Tryz.hZ tH I I I I I I I I I I I fun bN=> ?_
 refine AN (V:=V) (len:=i) (xs:=spC f (C.take i)) 3 6 Tryz.vec37 (i+1) (spC f (C.take (i+1))) I I I I I I I I I I I hV I I I (by rw[htk,VW];rfl) (by simp only[maxLen];omega) (by omega) I ?_
 intro gV cV jV hV1
 exact wP I<|zC<|xi<|wP I<|wV 53 ((i+1:Nat):Int) I (A0 (by omega))<|wP I<|zC<|Al (i+1,⟨some gV,cV,jV⟩) ⟨hlt,hV1⟩ (by show 4-(i+1)<4-i;omega) ⟨I,I,I,I,I,tO⟩ [_,_,_] I
theorem V3 (f:FrP): ∀L:List Ax,(spC f L).length=L.length*3
 |[]=>rfl
 |q::L=>by
  show(_++spC f L).length=_
  rw[List.length_append,V3 f L]
  show 3+L.length*3=(L.length+1)*3
  omega
theorem cY {W0 W:World} {bxs:List Bx} (hp:Hp W0 bxs W) (k:Nat) {g i:Nat} {f:FrP} {L:List Ax} {junk:List Value} (hk:nth bxs k=some (⟨g,33,spC f L++junk,true,none⟩:Bx)) (hi:i<L.length):
  Aj W g (0+i*3) [str (Ac (f.px L[i].1 L[i].2)),str (Ac (f.py L[i].1 L[i].2)),str (Ac (f.pz L[i].2))]:=by
 refine H4 hp k (A:=spC f (L.take i)) (C:=spC f (L.drop (i+1))++junk) hk ?_ (by rw[V3,List.length_take];omega)
 have e:spC f L=spC f (L.take i)++([str (Ac (f.px L[i].1 L[i].2)),str (Ac (f.py L[i].1 L[i].2)),str (Ac (f.pz L[i].2))]++spC f (L.drop (i+1))):=by
  conv=>lhs;rw[<-List.take_append_drop i L,List.drop_eq_getElem_cons hi,VW]
  rfl
 rw[e,List.append_assoc,List.append_assoc]
def rcP (f:FrP) (C:List Ax):List Ax:=C.map fun q=>(f.px q.1 q.2,f.py q.1 q.2)
theorem Tn (f:FrP) (h:f.Go) (s:Int) (l r lo hi:Rat) (zl:szQ l 8) (zr:szQ r 8) (zo:szQ lo 8) (zi:szQ hi 8) (L:List Ax) (hH:eK (rcP f (crn l r lo hi)) L 0) (hok:EU (rcP f (crn l r lo hi))) (hq: ∀p∈rcP f (crn l r lo hi),okP p) (W:World) (hv:AH W) (ht:A9 W):
  Ae Tryz.prog 145 #[frV f,Im s (Ac l) (Ac r) (Ac lo) (Ac hi)] W (fun V:Vec=> .tuple #[V.val L.length, .int .i64 0]) (fun V=>V.OK 2 L.length (ptC L)) (fun V=>[V.bx 105 (ptC L)]):=by
 obtain⟨C,hC⟩: ∃C,C=crn l r lo hi:=⟨_,rfl⟩
 have hCl:C.length=4:=by rw[hC];rfl
 rw[<-hC] at hH hok hq
 have hPl:(rcP f C).length=4:=by unfold rcP;rw[List.length_map,hCl]
 refine Ab Tryz.func145 I I I<|xb<|wF I I fun _=>wF I I fun _=>Aa I<|zC<|?_
 rename_i b2 b3
 refine xn<|wB 0 I I I<|wB 1 I I I<|wD (X:=Vec) I I (fun W1 hp=>IY f h s l r lo hi zl zr zo zi W1 (hv.hp hp) (ht.hp hp)) ?_
 rintro⟨pV,cV,jV⟩ hV
 rw[<-hC] at hV⊢
 have hV:Vec.OK ⟨pV,cV,jV⟩ 3 4 (spC f C):=hV
 obtain⟨gV,rfl⟩: ∃g,pV=some g:=by
  cases pV with
  |none=>exact absurd (hV.nil rfl) (by decide)
  |some g=>exact⟨g,rfl⟩
 refine Ak I<|xk<|Aa I<|xa<|zS I<|xm<|wP I<|xl<|zA<|?_
 refine zB<|Ad I<|xa<|zH<|C9 ?_
 refine Av (X:=Nat×Vec) (fun x=>[(8,x.2.val x.1),(20,slv (some ⟨gV,0,none⟩) 4 cV),(21, .int .i64 4),(22, .int .i64 (x.1:Nat))]) (fun x=>[⟨b2,59,(frV f).cells.toList,true,none⟩,⟨b3,41,(Im s (Ac l) (Ac r) (Ac lo) (Ac hi)).cells.toList,true,none⟩,⟨gV,33,spC f C++jV,true,none⟩,x.2.bx 105 (ptC ((rcP f C).take x.1))])
  (fun x=>x.1<=4/\x.2.OK 2 x.1 (ptC ((rcP f C).take x.1))) (fun x=>4-x.1) (0,Vec.empty) ⟨Nat.zero_le _,Vec.OK.empty 2⟩ ⟨rfl,rfl,rfl,rfl,trivial⟩ [] rfl ?_
 rintro⟨i,V⟩ ⟨hi,hV2⟩
 have hi:i<=4:=hi
 have hV2:V.OK 2 i (ptC ((rcP f C).take i)):=hV2
 refine xb<|wP I<|?_
 by_cases hlt:i<4
 rotate_left
 ·have e:i=4:=by omega
  subst e
  rw[List.take_of_length_le (by omega)] at hV2
  obtain⟨pU,cU,jU⟩:=V
  obtain⟨gU,rfl⟩: ∃g,pU=some g:=by
   cases pU with
   |none=>exact absurd (hV2.nil rfl) (by decide)
   |some g=>exact⟨g,rfl⟩
  refine wU 23 false I (dF (by omega))<|xl<|zS I<|xg<|xn<|wP I<|?_
  refine wD (X:=Vec) I I (fun W1 hp=>by
   have h2:=TK (rcP f C) L 0 hH (.inl hok) (by omega) (by omega) hq (some ⟨gU,0,none⟩) cU W1 (Cl.of_row (junk:=jU) (Aj.of_bx hp 3 (by rw[List.take_of_length_le (by omega)];rfl) rfl)) (hv.hp hp) (ht.hp hp)
   rw[hPl] at h2
   exact h2) ?_
  intro U hU
  exact At I<|xc<|A4 tH I (.tmp I) (.tmp I) U I hU fun W1 hp=>Au.of_hp (hp.pick (l:=[U.bx 105 (ptC L)]) [4] (by decide) I)
 refine wU 23 true I (dT (by omega))<|xl<|zR I<|xh<|?_
 have hi4:i<C.length:=by omega
 have htk:(rcP f C).take (i+1)=(rcP f C).take i++[(f.px C[i].1 C[i].2,f.py C[i].1 C[i].2)]:=by
  rw[List.take_succ_eq_append_getElem (by omega)]
  unfold rcP
  rw[List.getElem_map]
 have hrow: ∀ {W0 W1:World} {bxs:List Bx},Hp W0 bxs W1->nth bxs 2=some (⟨gV,33,spC f C++jV,true,none⟩:Bx)->_:=fun hp h1=>cY hp 2 h1 hi4
 obtain⟨q,hqe⟩: ∃q,q=C[i]:=⟨_,rfl⟩
 rw[<-hqe] at htk hrow
 refine wJ ?_
 refine wL 0 I I (fun W1 hp=>hrow hp I) I<|wG I I fun _=>wS 4 I I I<|xa<|zB<|Aa I<|wB 4 I I I<|wP I<|wB 4 I I I<|An Tryz.hZ tH I I I I I I I I ?_
 refine As Tryz.hZ tH I I I I I I I I I I I fun bN=> ?_
 refine AN (V:=V) (len:=i) (xs:=ptC ((rcP f C).take i)) 3 5 Tryz.vec132 (i+1) (ptC ((rcP f C).take (i+1))) I I I I I I I I I I I hV2 I I I (by rw[htk,CZ];rfl) (by simp only[maxLen];omega) (by omega) I ?_
 intro gU cU jU hU1
 exact wP I<|zC<|xi<|wP I<|wV 34 ((i+1:Nat):Int) I (A0 (by omega))<|wP I<|zC<|Al (i+1,⟨some gU,cU,jU⟩) ⟨hlt,hU1⟩ (by show 4-(i+1)<4-i;omega) ⟨I,I,I,I,tO⟩ [_,_] I
def lnG (p q:Ax):EL:=⟨q.2-p.2,p.1-q.1,(q.2-p.2)*p.1+(p.1-q.1)*p.2⟩
structure MkZ (l:List Ax) (P Q:Ax):Prop where
 a:Sz2 Q.2 P.2
 b:Sz2 P.1 Q.1
 c:Sz2 (Q.2-P.2) P.1
 d:Sz2 (P.1-Q.1) P.2
 e:Sz2 ((Q.2-P.2)*P.1) ((P.1-Q.1)*P.2)
 z:ClZ (lnG P Q) l
 k:GK (lnG P Q) l=l
def StK (p:Option Addr) (cap:Nat) (l:List Ax) (k:Nat) (pO:Option Addr) (cO:Nat) (o:Bx):Prop:=
 (k=0/\pO=p/\cO=cap)\/ ∃g j,pO=some ⟨g,0,none⟩/\o=(⟨g,105,ptC l++j,true,none⟩:Bx)/\Vec.OK ⟨some g,cO,j⟩ 2 l.length (ptC l)
theorem StK.pts {p:Option Addr} {cap:Nat} {l:List Ax} {k:Nat} {pO:Option Addr} {cO:Nat} {o:Bx} (h:StK p cap l k pO cO o) {W W1:World} {bxs:List Bx} (hA:Cl W p l) (hp:Hp W bxs W1) (j:Nat) (hj:nth bxs j=some o):Cl W1 pO l:=by
 rcases h with⟨_,rfl,_⟩|⟨g,jk,rfl,rfl,_⟩
 ·exact hA.hp hp
 ·exact Cl.of_row (junk:=jk) (Aj.of_bx hp j hj I)
abbrev erK (b:Nat) (e:Int):Bx:=⟨b,34,[.int .i64 e],true,none⟩
theorem QS (l M:List Ax) (hk: ∀k,k<M.length->MkZ l (Az M k) (Az M (k+1))) (p q:Option Addr) (cap cap2:Nat) (W:World) (hA:Ny W p l) (hB:Ny W q M):
  Ae Tryz.prog 146 #[slv p l.length cap,slv q M.length cap2] W (fun x:Nat×Nat×List Value=> .tuple #[slv (some ⟨x.1,0,none⟩) l.length x.2.1, .int .i64 0]) (fun x=>Vec.OK ⟨some x.1,x.2.1,x.2.2⟩ 2 l.length (ptC l)) (fun x=>[⟨x.1,105,ptC l++x.2.2,true,none⟩]):=by
 have hn:=hB.n
 have h3:=hB.n3
 have hlen:((l.length:Nat):Int)≠0:=by have:=hA.n3;omega
 have hv:=hA.v
 have ht:=hA.t
 refine Ab Tryz.func146 I I I<|xb<|wG I I fun _=>wG I I fun _=>zC<|?_
 rename_i b4 b5
 refine zE<|xd<|wP I<|wC I I (fun W1 hp=>(hA.hp hp).chk cap)<|Ad I<|wC I I (fun W1 hp=>(hB.hp hp).chk cap2)<|Aa I<|xa<|zS I<|xm<|An Tryz.hZ tH I I I I I I I I ?_
 refine wF I I fun _=>wG I I fun _=>wS 3 I I I<|zC<|?_
 rename_i bC b6
 refine xn<|wP I<|wG I I fun _=>wS 4 I I I<|zC<|?_
 rename_i b7
 refine zE<|xd<|wP I<|wD (X:=Nat) I I (fun W1 _=>FR q M.length cap2 W1) ?_
 intro bp _
 refine xa<|zH<|C9 ?_
 refine EZ (X:=Nat×Option Addr×Nat×Bx) (fun x=>[lsB b4 (.slice none 0 0),erK b5 0,caB bC,ckB b6 bC,lsB b7 (slv x.2.1 l.length x.2.2.1),lsB bp (slv q M.length cap2),x.2.2.2])
  (fun k x=>x.1=k/\StK p cap l k x.2.1 x.2.2.1 x.2.2.2) (fun _ _=>False) (0,p,cap,Gf) rfl (by kernel_rfl) (G2 M bp q cap2 (by omega)) (fun _=>rfl)
  ⟨rfl, .inl ⟨rfl,rfl,rfl⟩⟩ [] rfl (fun k x W1 _ hp=>⟨Aj.of_bx hp 5 rfl rfl,hB.m.hp hp⟩) ?_ ?_ (fun _ _ _ _ _ h=>h.elim)
 ·rintro k ⟨k',pO,cO,o⟩ d l' rec L hkl ⟨e1,hSt⟩ hrec
  obtain rfl:k'=k:=e1
  have hkl:k'<M.length:=hkl
  have hSt:StK p cap l k' pO cO o:=hSt
  have hz:=hk k' hkl
  obtain⟨P,hP⟩: ∃P,P=Az M k':=⟨_,rfl⟩
  obtain⟨Q,hQ⟩: ∃Q,Q=Az M (k'+1):=⟨_,rfl⟩
  rw[<-hP, <-hQ] at hz
  refine zB<|wG I I fun _=>wS 10 I I I<|zC<|?_
  rename_i b9
  rw[<-hP, <-hQ]
  refine BU 9 hrec I ?_
  refine zH<|zA<|zU<|qB 4 I I I<|BC Tryz.underlying270 Tryz.sizeOf105 I I I I I ⟨by decide,by decide⟩<|qP I<|qB 10 I I I<|BC Tryz.underlying270 Tryz.sizeOf105 I I I I I ⟨by decide,by decide⟩<|qP I<|qB 10 I I I<|qC I I (fun W1 hp=>C8 bC Q.2 P.2 hz.a W1 (Fk hp 3 I) (hv.hp hp) (ht.hp hp))<|qB 4 I I I<|BC Tryz.underlying270 Tryz.sizeOf105 I I I I I ⟨by decide,by decide⟩<|qP I<|qB 10 I I I<|BC Tryz.underlying270 Tryz.sizeOf105 I I I I I ⟨by decide,by decide⟩<|qP I<|qB 10 I I I<|qC I I (fun W1 hp=>C8 bC P.1 Q.1 hz.b W1 (Fk hp 3 I) (hv.hp hp) (ht.hp hp))<|Ay I<|zD<|xa<|?_
  refine Ba ?_
  refine AV (X:= { x:Nat×Nat×List Value//Vec.OK ⟨some x.1,x.2.1,x.2.2⟩ 2 l.length (ptC l) }) [true,true,true,true,true,true,true,true,true,true,true,true,true,true,true,true,true,true,false,false] (fun _=>[(4,Ai b4),(5,Ai b5),(6,Ai b6),(7,Ai b7)]) (fun x=>[Bd L,lsB b4 (.slice none 0 0),erK b5 0,caB bC,ckB b6 bC,lsB b7 (slv (some ⟨x.1.1,0,none⟩) l.length x.1.2.1),lsB bp (slv q M.length cap2),⟨x.1.1,105,ptC l++x.1.2.2,true,none⟩,BL d,Bp l' rec .busy none])
   2 [Bd L,lsB b4 (.slice none 0 0),erK b5 0,caB bC,ckB b6 bC,lsB b7 (slv pO l.length cO),lsB bp (slv q M.length cap2),o,BL d,Bp l' rec .busy none,⟨b9,270,(sdV P Q).cells.toList,true,none⟩] Tryz.mixed (by kernel_rfl) ?_ ?_
  ·refine qB 4 I I I<|qB 5 I I I<|Ay I<|qB 4 I I I<|qB 4 I I I<|qP I<|BC Tryz.underlying270 Tryz.sizeOf105 I I I I I ⟨by decide,by decide⟩<|qP I<|qB 10 I I I<|qC I I (fun W1 hp=>CL bC (Q.2-P.2) P.1 hz.c W1 (Fk hp 3 I) (hv.hp hp) (ht.hp hp))<|qB 4 I I I<|qP I<|BC Tryz.underlying270 Tryz.sizeOf105 I I I I I ⟨by decide,by decide⟩<|qP I<|qB 10 I I I<|qC I I (fun W1 hp=>CL bC (P.1-Q.1) P.2 hz.d W1 (Fk hp 3 I) (hv.hp hp) (ht.hp hp))<|qC I I (fun W1 hp=>Gc bC ((Q.2-P.2)*P.1) ((P.1-Q.1)*P.2) hz.e W1 (Fk hp 3 I) (hv.hp hp) (ht.hp hp))<|BR<|wX<|wZ<|?_
   refine wD (X:=Vec) rfl rfl (fun W1 hp1=>by have:=Tf bC (lnG P Q) l hz.z hA.poly hA.n3 hA.n pO cO W1 (hSt.pts hA.m hp1 7 rfl) (Fk hp1 3 rfl) (hv.hp hp1) (ht.hp hp1);rw[hz.k] at this;exact this) ?_;rintro⟨pV,cV,jV⟩ hV;obtain⟨gV,rfl⟩: ∃g,pV=some g:=Option.ne_none_iff_exists'.1 (fun e=>absurd (hV.nil e) (by have:=hA.n3;omega))
   refine zC<|Ah<|wX<|wZ<|wS 5 I I I<|zC<|Ah<|AR I (by kernel_rfl) ?_
   exact A7 (⟨(gV,cV,jV),hV⟩: { x:Nat×Nat×List Value//Vec.OK ⟨some x.1,x.2.1,x.2.2⟩ 2 l.length (ptC l) }) ⟨I,I,I,I,tO⟩ [0,1,2,3,4,5,6,11,8,9] (by decide) I
  rintro⟨⟨gV,cV,jV⟩,hV⟩
  refine zE<|xd<|wB 4 I I I<|AQ I I I I ?_
  exact wP I<|wB 3 I I I<|wP I<|xa<|zS I<|xm<|wB 5 I I I<|Aa I<|wU 73 false I (beq_eq_false_iff_ne.2 hlen)<|xa<|zS I<|zI<|zN<|By 9 (k'+1,some ⟨gV,0,none⟩,cV,⟨gV,105,ptC l++jV,true,none⟩) hrec I ⟨I, .inr ⟨gV,jV,I,I,hV⟩⟩ [] I
 ·rintro⟨k',pO,cO,o⟩ d l' rec ⟨e1,hSt⟩
  obtain rfl:k'=M.length:=e1
  have hSt:StK p cap l M.length pO cO o:=hSt
  rcases hSt with⟨h0,_⟩|⟨g,j,rfl,rfl,hV⟩
  ·omega
  refine zN<|xn<|wB 4 I I I<|wS 0 I I I<|wS 1 I I I<|xc<|Co 7 I ?_
  exact A4 tH I (.cell 0 I I I I I) (.cell 1 I I I I I) (g,cO,j) I hV fun W1 hp=>Au.of_hp (hp.pick (l:=[⟨g,105,ptC l++j,true,none⟩]) [6] (by decide) I)
theorem Wc:(EH [sqL]).length=4:=(KX [sqL]).trans rfl
theorem bX:(EH [sqL])[0]? =some f0:=by
 have h:=Sm (rs:=[sqL]) (r:=0) (i:=0) (by decide) (by decide)
 have e:OL (rg [sqL] 0) 0=f0:=by
  show frO (sqS 0 0) (sqS 10 0)=f0
  have e1:nrm 1 1=1:=by decide+kernel
  have:(frO (sqS 0 0) (sqS 10 0)).sp=1:=e1
  unfold frO at this⊢
  simp only[] at this⊢
  rw[this]
  rfl
 rw[e] at h
 exact h
structure SfX where
 gF:Nat
 cF:Nat
 jF:List Value
 gC:Nat
 cC:Nat
 jC:List Value
 gA:Nat
 cA:Nat
 jA:List Value
abbrev fbB (g:Nat) (j:List Value):Bx:=⟨g,59,frC (EH [sqL])++j,true,none⟩
abbrev arB (g gC cC:Nat) (j:List Value):Bx:=⟨g,132,slv (some ⟨gC,0,none⟩) 3 cC::j,true,none⟩
def SfX.v (x:SfX) (bT:Nat):Value:=fK (slv (some ⟨x.gF,0,none⟩) 4 x.cF) (slv (some ⟨bT,0,none⟩) 1 1) (slv (some ⟨x.gA,0,none⟩) 1 x.cA)
def SfX.bx (x:SfX):List Bx:=[fbB x.gF x.jF,BT x.gC EF x.jC,arB x.gA x.gC x.cC x.jA]
theorem RF {W0 W:World} {bxs:List Bx} (hp:Hp W0 bxs W) (k:Nat) {g:Nat} {j:List Value} (hk:nth bxs k=some (fbB g j)):Aj W g (0+0*5) (frV f0).cells.toList:=by
 obtain⟨hm,he⟩:=List.getElem?_eq_some_iff.1 bX
 refine H4 hp k (A:=[]) (C:=frC ((EH [sqL]).drop 1)++j) hk ?_ I
 have e:frC (EH [sqL])=(frV f0).cells.toList++frC ((EH [sqL]).drop 1):=by
  conv=>lhs;rw[List.drop_eq_getElem_cons (i:=0) (l:=EH [sqL]) hm|>fun h=>(List.drop_zero (l:=EH [sqL])).symm.trans h,he]
  rfl
 rw[e,List.append_assoc]
 rfl
abbrev RdS:Type:=Option (Nat×Nat×List Value×Nat×Nat×List Value)
def rdA:RdS->Value
 |none=> .slice none 0 0
 |some y=>slv (some ⟨y.2.2.2.1,0,none⟩) 1 y.2.2.2.2.1
def rdI:RdS->Int
 |none=>0
 |some _=>1
def gZ:RdS->Bx
 |none=>Gf
 |some y=>BT y.1 EF y.2.2.1
def g6:RdS->Bx
 |none=>Gf
 |some y=>arB y.2.2.2.1 y.1 y.2.1 y.2.2.2.2.2
def rdM:RdS->Nat
 |none=>1
 |some _=>0
theorem M9 (bR bT:Nat) (W:World) (hR:AL W (some ⟨bR,0,none⟩) [sqL]) (hT:Aj W bT 0 (stV 0 S0).cells.toList) (hd:DC W) (hv:AH W) (ht:A9 W):
  Ae Tryz.prog 43 #[JI bR bT] W (fun x:SfX=> .tuple #[x.v bT, .int .i64 0]) (fun _=>True) (fun x=>x.bx):=by
 refine Ab Tryz.func43 I I I<|xb<|wF I I fun _=>wG I I fun _=>wP I<|zC<|?_
 rename_i b1 b2
 refine xn<|wP I<|wB 0 I I I<|?_
 refine wD (X:=Vec) I I (fun W1 hp=>by
  have h:=Kd W1 (some ⟨bR,0,none⟩) 1 [sqL] (by decide) (hR.hp hp) Ks (hd.hp hp) (ht.hp hp)
  rw[Wc] at h
  exact h) ?_
 rintro⟨pF,cF,jF⟩ hF
 have hF:Vec.OK ⟨pF,cF,jF⟩ 5 4 (frC (EH [sqL])):=hF
 obtain⟨gF,rfl⟩: ∃g,pF=some g:=Option.ne_none_iff_exists'.1 (fun e=>absurd (hF.nil e) (by decide))
 refine Ak I<|xk<|At I<|wB 0 I I I<|Ad I<|xa<|zS I<|xe<|zA<|?_
 refine zB<|Aa I<|wB 0 I I I<|An Tryz.hZ tH I I I I I I I I ?_
 refine wG I I fun _=>wS 3 I I I<|zC<|?_
 rename_i b6
 refine zE<|xd<|wP I<|wB 0 I I I<|Aa I<|xa<|zH<|?_
 iterate 2 refine C9 ?_
 refine Av (X:=RdS) (fun x=>[(2,Ai b2),(4,slv (some ⟨gF,0,none⟩) 4 cF),(6,Ai b6),(31,slv (some ⟨bT,0,none⟩) 1 1),(32, .int .i64 1),(33, .int .i64 (rdI x))])
  (fun x=>[⟨b1,54,(JI bR bT).cells.toList,true,none⟩,⟨b2,88,[.slice none 0 0, .slice none 0 0, .slice none 0 0],true,none⟩,fbB gF jF,⟨b6,88,[slv (some ⟨gF,0,none⟩) 4 cF,slv (some ⟨bT,0,none⟩) 1 1,rdA x],true,none⟩,gZ x,g6 x])
  (fun _=>True) rdM none trivial ⟨rfl,rfl,rfl,rfl,rfl,rfl,trivial⟩ [] rfl ?_
 intro x _
 rcases x with _|⟨gC,cC,jC,gA,cA,jA⟩
 rotate_left
 ·exact xb<|wP I<|xl<|zS I<|xg<|xn<|wB 3 I I I<|wS 1 I I I<|wP I<|xc<|A4 tH I (.cell 1 I I I I I) (.tmp I) (⟨gF,cF,jF,gC,cC,jC,gA,cA,jA⟩:SfX) I tO fun W1 hp=>Au.of_hp (hp.pick (l:=[fbB gF jF,BT gC EF jC,arB gA gC cC jA]) [2,4,5] (by decide) I)
 refine xb<|wP I<|xl<|zR I<|xh<|wI I I (by decide) (by decide)<|wL 0 I I (fun W1 hp=>hT.hp hp) I<|wG I I fun _=>wS 6 I I I<|zC<|?_
 rename_i b8
 refine zE<|xd<|wP I<|wB 6 I I I<|Ad I<|wB 6 I I I<|At I<|xa<|zS I<|xe<|zA<|?_
 refine AV (X:=Nat×Nat×List Value) [true,true,true,true,true,true,false,false,false,false,false,false] (fun y=>[(2,Ai b2),(4,slv (some ⟨gF,0,none⟩) 4 cF),(6,Ai b6),(9,slv (some ⟨y.1,0,none⟩) 3 y.2.1),(10, .int .i64 0),(31,slv (some ⟨bT,0,none⟩) 1 1),(32, .int .i64 1),(33, .int .i64 0)])
  (fun y=>[⟨b1,54,(JI bR bT).cells.toList,true,none⟩,⟨b2,88,[.slice none 0 0, .slice none 0 0, .slice none 0 0],true,none⟩,fbB gF jF,⟨b6,88,[slv (some ⟨gF,0,none⟩) 4 cF,slv (some ⟨bT,0,none⟩) 1 1, .slice none 0 0],true,none⟩,BT y.1 EF y.2.2,Gf])
  6 [⟨b1,54,(JI bR bT).cells.toList,true,none⟩,⟨b2,88,[.slice none 0 0, .slice none 0 0, .slice none 0 0],true,none⟩,fbB gF jF,⟨b6,88,[slv (some ⟨gF,0,none⟩) 4 cF,slv (some ⟨bT,0,none⟩) 1 1, .slice none 0 0],true,none⟩,Gf,Gf,⟨b8,85,(stV 0 S0).cells.toList,true,none⟩] Tryz.mixed (by kernel_rfl) ?_ ?_
 ·refine Ay I<|qB 6 I I I<|qI I I (by decide) (by decide)<|qL 0 I I (fun W1 hp=>RF hp 2 I) I<|qB 6 I I I<|BR<|wX<|wZ<|?_
  refine wD (X:=Nat×Nat×List Value) rfl rfl (fun W1 hp=>ML W1 (hv.hp hp) (ht.hp hp)) ?_;rintro⟨gC,cC,jC⟩ _
  refine zC<|Ah<|wX<|wZ<|wP I<|zC<|Ah<|wX<|RS.cons ?_ (RS.cons ?_ (RS.nil))
  ·refine wP I<|zC<|Ah<|wX<|RS.cons ?_ (RS.cons ?_ (RS.nil))
   ·refine wP I<|zC<|Ah<|wX<|wZ<|wP I<|zC<|Ah<|wX<|wZ<|wP I<|zC<|Ah<|?_
    refine AF I (by((repeat (first|refine AK.same ?_|refine AK.off I ?_));exact tO)) ?_
    exact A7 (gC,cC,jC) ⟨I,I,I,I,I,I,I,I,tO⟩ [0,1,2,3,7,5] (by decide) I
   ·refine wP I<|zC<|Ah<|wX<|wZ<|wP I<|zC<|Ah<|wX<|wZ<|wP I<|zC<|Ah<|?_
    refine AF I (by((repeat (first|refine AK.same ?_|refine AK.off I ?_));exact tO)) ?_
    exact A7 (gC,cC,jC) ⟨I,I,I,I,I,I,I,I,tO⟩ [0,1,2,3,7,5] (by decide) I
  ·refine wP I<|zC<|Ah<|wX<|wZ<|wP I<|zC<|Ah<|wX<|wZ<|wP I<|zC<|Ah<|wX<|wZ<|wP I<|zC<|Ah<|?_
   refine AF I (by((repeat (first|refine AK.same ?_|refine AK.off I ?_));exact tO)) ?_
   exact A7 (gC,cC,jC) ⟨I,I,I,I,I,I,I,I,tO⟩ [0,1,2,3,7,5] (by decide) I
 rintro⟨gC,cC,jC⟩
 refine zE<|xd<|Aa I<|xa<|zS I<|xe<|zB<|wP I<|wB 3 I I I<|wP I<|As Tryz.hZ tH I I I I I I I I I I I fun bN=> ?_
 refine AN (V:=Vec.empty) (len:=0) (xs:=[]) 5 6 Tryz.vec86 1 [slv (some ⟨gC,0,none⟩) 3 cC] I I I I I I I I I I I (Vec.OK.empty 1) I I I I (by decide) (by decide) I ?_
 intro gA cA jA _
 exact wP I<|wS 3 I I I<|zC<|xi<|Aa I<|zC<|Al (some (gC,cC,jC,gA,cA,jA)) tO (by show 0<1;decide) ⟨I,I,I,I,I,I,tO⟩ [_] I
def rcO:List Ax:=[(3,1),(7,1),(7,3),(3,3)]
theorem R9:rcP f0 (crn 3 7 1 3)=rcO:=by decide+kernel
theorem fM {i:Nat} (h:i<rcO.length):i=0\/i=1\/i=2\/i=3:=by have h:i<4:=h;omega
theorem gW {i:Nat} (h:i<EF.length):i=0\/i=1\/i=2:=by have h:i<3:=h;omega
theorem YK:J3 rcO:=by
 refine⟨by decide,by decide+kernel,fun i j k h1 h2 h3=> ?_⟩
 have h3:k<4:=h3
 have:(i=0/\j=1/\k=2)\/(i=0/\j=1/\k=3)\/(i=0/\j=2/\k=3)\/(i=1/\j=2/\k=3):=by omega
 rcases this with⟨rfl,rfl,rfl⟩|⟨rfl,rfl,rfl⟩|⟨rfl,rfl,rfl⟩|⟨rfl,rfl,rfl⟩<;>decide+kernel
theorem YX:J3 EF:=by
 refine⟨by decide,by decide+kernel,fun i j k h1 h2 h3=> ?_⟩
 have h3:k<3:=h3
 obtain⟨rfl,rfl,rfl⟩:i=0/\j=1/\k=2:=by omega
 decide+kernel
theorem N1:KI 8 rcO:=by unfold KI szQ rcO;decide+kernel
theorem dO:KI 8 EF:=by unfold KI szQ EF;decide+kernel
theorem KI.monoO {a b:Nat} {l:List Ax} (h:KI a l) (hab:a<=b):KI b l:=fun p hp=>⟨(h p hp).1.mono hab,(h p hp).2.mono hab⟩
theorem Tv {W:World} {p:Option Addr} (h:Cl W p rcO) (hv:AH W) (ht:A9 W):Ny W p rcO:=⟨YK,by decide,by decide,N1.monoO (by decide),h,hv,ht⟩
theorem Yo {W:World} {p:Option Addr} (h:Cl W p EF) (hv:AH W) (ht:A9 W):Ny W p EF:=⟨YX,by decide,by decide,dO.monoO (by decide),h,hv,ht⟩
theorem sO {q:Rat} (h:q.num.natAbs<10^8/\q.den<10^8):szQ q 8:=h
theorem eO {p q:Rat} (h:(p.num.natAbs<10^8/\p.den<10^8)/\(q.num.natAbs<10^8/\q.den<10^8)):Sz2 p q:=sz2 (sO h.1) (sO h.2) (by decide)
theorem fC:ArZ rcO:=by
 refine⟨fun i hi=> ?_,fun i hi=> ?_,eO (by decide+kernel)⟩
 ·rcases fM hi with rfl|rfl|rfl|rfl<;>exact⟨eO (by decide+kernel),eO (by decide+kernel),eO (by decide+kernel)⟩
 ·rcases fM hi with rfl|rfl|rfl|rfl<;>exact eO (by decide+kernel)
theorem YH:Rh rcO/2=8:=by decide+kernel
def eF (P Q:Ax):Prop:=
 (∀q∈rcO,(((lnG P Q).a.num.natAbs<10^8/\(lnG P Q).a.den<10^8)/\(q.1.num.natAbs<10^8/\q.1.den<10^8))/\(((lnG P Q).b.num.natAbs<10^8/\(lnG P Q).b.den<10^8)/\(q.2.num.natAbs<10^8/\q.2.den<10^8))
  /\((((lnG P Q).a*q.1).num.natAbs<10^8/\((lnG P Q).a*q.1).den<10^8)/\(((lnG P Q).b*q.2).num.natAbs<10^8/\((lnG P Q).b*q.2).den<10^8))
  /\((((lnG P Q).a*q.1+(lnG P Q).b*q.2).num.natAbs<10^8/\((lnG P Q).a*q.1+(lnG P Q).b*q.2).den<10^8)/\((lnG P Q).c.num.natAbs<10^8/\(lnG P Q).c.den<10^8)))
 /\(∀i,i<4-> ¬(lnG P Q).at (Az rcO i)*(lnG P Q).at (Az rcO (i+1))<0)
 /\CE (lnG P Q) rcO=rcO/\GK (lnG P Q) rcO=rcO
instance (P Q:Ax):Decidable (eF P Q):=by unfold eF;infer_instance
theorem fW {P Q:Ax} (h:eF P Q) (ha:(Q.2.num.natAbs<10^8/\Q.2.den<10^8)/\(P.2.num.natAbs<10^8/\P.2.den<10^8)) (hb:(P.1.num.natAbs<10^8/\P.1.den<10^8)/\(Q.1.num.natAbs<10^8/\Q.1.den<10^8))
  (hc:((Q.2-P.2).num.natAbs<10^8/\(Q.2-P.2).den<10^8)/\(P.1.num.natAbs<10^8/\P.1.den<10^8)) (hd:((P.1-Q.1).num.natAbs<10^8/\(P.1-Q.1).den<10^8)/\(P.2.num.natAbs<10^8/\P.2.den<10^8))
  (he:(((Q.2-P.2)*P.1).num.natAbs<10^8/\((Q.2-P.2)*P.1).den<10^8)/\(((P.1-Q.1)*P.2).num.natAbs<10^8/\((P.1-Q.1)*P.2).den<10^8)):MkZ rcO P Q:=by
 obtain⟨h1,h2,h3,h4⟩:=h
 exact⟨eO ha,eO hb,eO hc,eO hd,eO he,⟨fun q hq=>⟨eO (h1 q hq).1,eO (h1 q hq).2.1,eO (h1 q hq).2.2.1,eO (h1 q hq).2.2.2⟩,fun i hi hn=>absurd hn (h2 i hi),by rw[h3];exact N1.monoO (by decide)⟩,h4⟩
theorem eX: ∀k,k<EF.length->MkZ rcO (Az EF k) (Az EF (k+1)):=fun k hk=>by
 rcases gW hk with rfl|rfl|rfl<;>exact fW (by decide+kernel) (by decide+kernel) (by decide+kernel) (by decide+kernel) (by decide+kernel) (by decide+kernel)
theorem Zh {p q r:Ax} (h:eN p q r):Qf p q r:=
 ⟨EX.2 ⟨⟨h.s1.c1,h.s1.c2⟩,h.s1.sub,h.s1.d⟩,EX.2 ⟨⟨h.s2.c1,h.s2.c2⟩,h.s2.sub,h.s2.d⟩,EX.2 ⟨⟨h.s3.c1,h.s3.c2⟩,h.s3.sub,h.s3.d⟩,EX.2 ⟨⟨h.s4.c1,h.s4.c2⟩,h.s4.sub,h.s4.d⟩,⟨h.m1.n,h.m1.d⟩,⟨h.m2.n,h.m2.d⟩,⟨h.o.c1,h.o.c2⟩⟩
theorem X1 {l:List Ax} (h:KI 36 l):EU l:=fun a ha b hb=>by
 have h0:0<l.length:=by omega
 have pa:=h.at_ h0 a
 have pb:=h.at_ h0 b
 have s1:=sz2 pa.1 pb.1 (by decide)
 have s2:=sz2 pa.2 pb.2 (by decide)
 exact⟨⟨s1.c1,s1.c2⟩,⟨s2.c1,s2.c2⟩,fun d _=>Zh (VS pa pb (h.at_ h0 d) (by decide))⟩
theorem Wl:EU (rcP f0 (crn 3 7 1 3)):=by rw[R9];exact X1 (N1.monoO (by decide))
theorem aK: ∀p∈rcP f0 (crn 3 7 1 3),okP p:=by rw[R9];exact fun p hp=>⟨(N1 p hp).1.ok (by decide),(N1 p hp).2.ok (by decide)⟩
theorem ZK:eK (rcP f0 (crn 3 7 1 3)) rcO 0:=by
 have e:LS (rcP f0 (crn 3 7 1 3))=rcO:=by rw[R9];decide+kernel
 exact .inl ⟨Wl,by rw[e];decide,e.symm,I⟩
theorem nO0:Ac 0=[48]:=BV
theorem nO1:Ac 1=[49]:=by decide+kernel
theorem nO3:Ac 3=[51]:=by decide+kernel
theorem nO7:Ac 7=[55]:=by decide+kernel
theorem nO8:Ac 8=[56]:=by decide+kernel
structure SfP (W:World) (x:SfX) (bT:Nat):Prop where
 f:Aj W x.gF 0 (frV f0).cells.toList
 t:Aj W bT 0 (stV 0 S0).cells.toList
 a:Aj W x.gA 0 [slv (some ⟨x.gC,0,none⟩) 3 x.cC]
 c:Cl W (some ⟨x.gC,0,none⟩) EF
theorem SfP.hp {W0 W:World} {bxs:List Bx} {x:SfX} {bT:Nat} (h:SfP W0 x bT) (hp:Hp W0 bxs W):SfP W x bT:=⟨h.f.hp hp,h.t.hp hp,h.a.hp hp,h.c.hp hp⟩
abbrev opE:Value:=Im 0 (Ac 3) (Ac 7) (Ac 1) (Ac 3)
def smS (b:Bool):List UInt8:=if b then[56] else[48]
def fN (b:Bool):Int:=if b then 1 else 0
def smM (b:Bool):Nat:=if b then 0 else 1
theorem Sv (x:SfX) (bT:Nat) (W:World) (h:SfP W x bT) (hv:AH W) (ht:A9 W):
  Ae Tryz.prog 87 #[x.v bT,opE] W (fun _:Unit=> .int .i64 0) (fun _=>True) (fun _=>[]):=by
 have zz: ∀q:Rat,(q.num.natAbs<10^8/\q.den<10^8)->szQ q 8:=fun q hq=>hq
 have z1:=zz 1 (by decide+kernel)
 have z3:=zz 3 (by decide+kernel)
 have z7:=zz 7 (by decide+kernel)
 have e8:((7:Rat)-3)*(3-1)=8:=by decide+kernel
 refine Ab Tryz.func87 I I I<|xb<|wF I I fun _=>wF I I fun _=>wP I<|zC<|?_
 rename_i b2 b3
 refine zE<|zA<|?_
 refine AV (X:= { y:Nat×Nat×List Value//Vec.OK ⟨some y.1,y.2.1,y.2.2⟩ 2 4 (ptC rcO) }) [true,true,true,true,true,true,true,false,false,false,false,false,false] (fun y=>[(2,Ai b2),(3,Ai b3),(4, .int .i64 0),(5,slv (some ⟨y.1.1,0,none⟩) 4 y.1.2.1),(6, .int .i64 0)])
  (fun y=>[⟨b2,88,(x.v bT).cells.toList,true,none⟩,⟨b3,41,opE.cells.toList,true,none⟩,BT y.1.1 rcO y.1.2.2])
  6 [⟨b2,88,(x.v bT).cells.toList,true,none⟩,⟨b3,41,opE.cells.toList,true,none⟩] Tryz.mixed (by kernel_rfl) ?_ ?_
 ·refine qP I<|qB 0 I I I<|qP I<|qB 1 I I I<|qI I I (by decide) (by decide)<|qL 0 I I (fun W1 hp=>h.f.hp hp) I<|qB 1 I I I<|BR<|wX<|wZ<|?_
  refine wD (X:=Vec) rfl rfl (fun W1 hp=>Tn f0 Ud 0 3 7 1 3 z3 z7 z1 z3 rcO ZK Wl aK W1 (hv.hp hp) (ht.hp hp)) ?_;rintro⟨pV,cV,jV⟩ hV;have hV:Vec.OK ⟨pV,cV,jV⟩ 2 4 (ptC rcO):=hV;obtain⟨gV,rfl⟩: ∃g,pV=some g:=Option.ne_none_iff_exists'.1 (fun e=>absurd (hV.nil e) (by decide))
  refine zC<|Ah<|wX<|wZ<|wP I<|zC<|Ah<|wX<|RS.cons ?_ (RS.cons ?_ (RS.nil))
  ·refine wP I<|zC<|Ah<|wX<|RS.cons ?_ (RS.cons ?_ (RS.nil))
   ·refine wP I<|zC<|Ah<|wX<|wZ<|wP I<|zC<|Ah<|wX<|wZ<|wP I<|zC<|Ah<|?_
    refine AF I (by((repeat (first|refine AK.same ?_|refine AK.off I ?_));exact tO)) ?_
    exact A7 (⟨(gV,cV,jV),hV⟩: { y:Nat×Nat×List Value//Vec.OK ⟨some y.1,y.2.1,y.2.2⟩ 2 4 (ptC rcO) }) ⟨I,I,I,I,I,tO⟩ [0,1,2] (by decide) I
   ·refine wP I<|zC<|Ah<|wX<|wZ<|wP I<|zC<|Ah<|wX<|wZ<|wP I<|zC<|Ah<|?_
    refine AF I (by((repeat (first|refine AK.same ?_|refine AK.off I ?_));exact tO)) ?_
    exact A7 (⟨(gV,cV,jV),hV⟩: { y:Nat×Nat×List Value//Vec.OK ⟨some y.1,y.2.1,y.2.2⟩ 2 4 (ptC rcO) }) ⟨I,I,I,I,I,tO⟩ [0,1,2] (by decide) I
  ·refine wP I<|zC<|Ah<|wX<|wZ<|wP I<|zC<|Ah<|wX<|wZ<|wP I<|zC<|Ah<|wX<|wZ<|wP I<|zC<|Ah<|?_
   refine AF I (by((repeat (first|refine AK.same ?_|refine AK.off I ?_));exact tO)) ?_
   exact A7 (⟨(gV,cV,jV),hV⟩: { y:Nat×Nat×List Value//Vec.OK ⟨some y.1,y.2.1,y.2.2⟩ 2 4 (ptC rcO) }) ⟨I,I,I,I,I,tO⟩ [0,1,2] (by decide) I
 rintro⟨⟨gV,cV,jV⟩,hV⟩
 refine zE<|xd<|Aa I<|xa<|zS I<|xm<|wP I<|xk<|wP I<|wB 0 I I I<|Aa I<|zC<|?_
 refine zE<|zH<|?_
 refine Av (X:=Bool) (fun b=>[(2,Ai b2),(3,Ai b3),(4, .int .i64 0),(5,slv (some ⟨gV,0,none⟩) 4 cV),(6, .int .i64 0),(7,str (smS b)),(29,slv (some ⟨x.gA,0,none⟩) 1 x.cA),(30, .int .i64 1),(31, .int .i64 (fN b))])
  (fun _=>[⟨b2,88,(x.v bT).cells.toList,true,none⟩,⟨b3,41,opE.cells.toList,true,none⟩,BT gV rcO jV])
  (fun _=>True) smM false trivial ⟨rfl,rfl,rfl,rfl,rfl,rfl,rfl,rfl,rfl,trivial⟩ [] rfl ?_
 intro b _
 cases b with
 |true=>
  refine xb<|wP I<|xl<|zS I<|xg<|xn<|wB 1 I I I<|wC I I (fun W1 hp=>(JB 0 3 7 1 3 z3 z7 z1 z3 W1 (hv.hp hp) (ht.hp hp)).cast (v':= .tuple #[str [56], .int .i64 0]) (by rw[e8,nO8]))<|Ak I<|xl<|zA<|?_
  refine zB<|Aa I<|xa<|zS I<|xe<|xd<|Ad I<|wU 82 false I (congrArg (!·) ((AW _ _).trans (dT I)))<|xa<|zS I<|xm<|wP I<|zC<|?_
  exact zE<|zO<|wR1 I I I
 |false=>
  refine xb<|wP I<|xl<|zR I<|xh<|wP I<|wI I I (by decide) (by decide)<|wL 0 I I (fun W1 hp=>h.a.hp hp) I<|Aa I<|xl<|zA<|zU<|qP I<|?_
  refine qB 0 I I I<|qP I<|qI I I (by decide) (by decide)<|qP I<|qL 0 I I (fun W1 hp=>(h.t.hp hp).sub 0) I<|qP I<|qB 1 I I I<|qP I<|zD<|xa<|zS I<|xm<|Aa I<|wD (X:=Nat×Nat×List Value) I I (fun W1 hp=>QS rcO EF eX (some ⟨gV,0,none⟩) (some ⟨x.gC,0,none⟩) cV x.cC W1 (Tv (Cl.of_row (junk:=jV) (Aj.of_bx hp 2 I I)) (hv.hp hp) (ht.hp hp)) (Yo (h.c.hp hp) (hv.hp hp) (ht.hp hp))) ?_
  rintro⟨gM,cM,jM⟩ hM
  have hM:Vec.OK ⟨some gM,cM,jM⟩ 2 4 (ptC rcO):=hM
  refine Ak I<|xk<|Aa I<|xa<|zS I<|xe<|xd<|Ad I<|zC<|?_
  refine zE<|zS I<|xm<|wP I<|wC I I (fun W1 hp=>(TY rcO fC (some ⟨gM,0,none⟩) cM W1 (Tv (Cl.of_row (junk:=jM) (Aj.of_bx hp 3 I I)) (hv.hp hp) (ht.hp hp))).cast (v':= .tuple #[str [56], .int .i64 0]) (by rw[YH,nO8]))<|Ak I<|xk<|Aa I<|xa<|zS I<|zI<|?_
  refine xn<|Aa I<|?_
  refine wC I I (fun W1 hp=>(show Ae Tryz.prog 36 #[str [48],str [56]] W1 (fun _:Unit=> .tuple #[str [56], .int .i64 0]) (fun _=>True) (fun _=>[]) by
   have h2:=C7 0 8 (eO (by decide+kernel)) W1 (hv.hp hp) (ht.hp hp)
   rwa [Rat.zero_add,nO0,nO8] at h2)) ?_
  exact Ak I<|xf<|Aa I<|xa<|zS I<|zI<|xi<|Aa I<|zC<|Al true tO (by decide) ⟨I,I,I,I,I,I,I,I,I,tO⟩ [_] I
section
variable {r:Option Nat} {n:Nat} {P:Program} {W0:World} {N:Nat} {D:List Deferred} {ops:List Oper} {Q:Exit->Act->World->Prop} {o:Oper} {rest:List Oper} {env:Env} {bxs:List Bx}
theorem Pk {c:Call} {f:Operand} {g d:Nat} {first vs:List Value} {v:Value}
  (hg:Aw ops N env o=some true) (hd:o.dst=some d) (ho:o.op= .call c) (hc:c.callee= .value f) (hf:evO N env f=some (.func (.func g) first.toArray #[])) (ha:Cn (evO N env) c.args.toList=some vs) (hE:AS P g=true)
  (hC: ∀W,Hp W0 bxs W->Ae P g (first++vs).toArray W (fun _:Unit=>v) (fun _=>True) (fun _=>[]))
  (h:WL r n P N D ops Q rest ((d,v)::env) (Hp W0 bxs)):WL r n P N D ops Q (o::rest) env (Hp W0 bxs):= .mk fun a W h1 h2 hp=>by
 refine BO hg h1 (fun c e=>by rw[ho] at e;cases e) ?_
 rw[Qt ho hc (AB h1 _ _ hf) (E5 (AB h1) ha) hE]
 simp only[Oper.uponIn,hd]
 refine⟨fun hx=>(by cases hx),Ed ((hC W hp).out.mono ?_)⟩
 rintro e W' ⟨x,rfl,hx,hb,hn⟩
 exact h.out a W' h1 h2 (hp.grow hb)
end
theorem PO {q:Rat} (h:q.num.natAbs<10^8/\q.den<10^8):okQ q:=(sO h).ok (by decide)
abbrev gY (v:Value):List Value:=[.func (.func 86) #[v] #[], .func (.func 83) #[] #[], .func (.func 87) #[v] #[]]
theorem P7 (W:World) (hv:AH W) (ht:A9 W):
  Ae Tryz.prog 83 #[opE] W (fun _:Unit=> .int .i64 0) (fun _=>True) (fun _=>[]):=
 JU 0 3 7 1 3 (PO (by decide+kernel)) (PO (by decide+kernel)) (PO (by decide+kernel)) (PO (by decide+kernel)) (by rw[nO3];decide) (by rw[nO7];decide) (by rw[nO1];decide) (by rw[nO3];decide) (by decide+kernel) (by decide+kernel) W hv ht
theorem La (x:SfX) (bT:Nat) (W:World) (h:SfP W x bT) (hv:AH W) (ht:A9 W):
  Ae Tryz.prog 46 #[x.v bT,opE] W (fun _:Unit=> .int .i64 0) (fun _=>True) (fun _=>[]):=by
 refine Ab Tryz.func46 I I I<|xb<|wF I I fun _=>wF I I fun _=>wP I<|zC<|?_
 rename_i b2 b3
 refine zE<|xd<|wB 0 I I I<|wP I<|wB 0 I I I<|wP I<|Jg .nilFunc tH I I I I I (fun W=>by kernel_rfl) I I I I I (fun bA=> ?_)
 refine Aa I<|xa<|zH<|?_
 refine Av (X:=Nat) (fun i=>[(3,Ai b3),(4, .int .i64 0),(12,slv (some ⟨bA,0,none⟩) 3 3),(13, .int .i64 3),(14, .int .i64 (i:Nat))])
  (fun _=>[⟨b2,88,(x.v bT).cells.toList,true,none⟩,⟨b3,41,opE.cells.toList,true,none⟩,⟨bA,96,gY (x.v bT),true,none⟩])
  (fun i=>i<=3) (fun i=>3-i) 0 (Nat.zero_le _) ⟨rfl,rfl,rfl,rfl,rfl,trivial⟩ [] rfl ?_
 intro i hi
 have hi:i<=3:=hi
 have hc:i=0\/i=1\/i=2\/i=3:=by omega
 rcases hc with rfl|rfl|rfl|rfl
 ·refine xb<|wP I<|xl<|zR I<|xh<|wI I I (by decide) (by decide)<|wL 0 I I (fun W1 hp=>Aj.of_bx hp 2 I I) I<|wP I<|xf<|wP I<|wB 1 I I I<|Pk (first:=[x.v bT]) I I I I I I (by kernel_rfl) (fun W1 hp=>SL (some ⟨x.gF,0,none⟩) 4 x.cF (slv (some ⟨bT,0,none⟩) 1 1) (slv (some ⟨x.gA,0,none⟩) 1 x.cA) 0 (by decide) (Ac 3) (Ac 7) (Ac 1) (Ac 3) W1) ?_
  exact wP I<|xf<|Aa I<|xa<|zS I<|zI<|xi<|Aa I<|zC<|Al 1 (by decide) (by decide) ⟨I,I,I,I,I,tO⟩ [] I
 ·refine xb<|wP I<|xl<|zR I<|xh<|wI I I (by decide) (by decide)<|wL 0 I I (fun W1 hp=>(Aj.of_bx hp 2 I I).sub 1) I<|wP I<|xf<|wP I<|wB 1 I I I<|Pk (first:=[]) I I I I I I (by kernel_rfl) (fun W1 hp=>P7 W1 (hv.hp hp) (ht.hp hp)) ?_
  exact wP I<|xf<|Aa I<|xa<|zS I<|zI<|xi<|Aa I<|zC<|Al 2 (by decide) (by decide) ⟨I,I,I,I,I,tO⟩ [] I
 ·refine xb<|wP I<|xl<|zR I<|xh<|wI I I (by decide) (by decide)<|wL 0 I I (fun W1 hp=>(Aj.of_bx hp 2 I I).sub 2) I<|wP I<|xf<|wP I<|wB 1 I I I<|Pk (first:=[x.v bT]) I I I I I I (by kernel_rfl) (fun W1 hp=>Sv x bT W1 (h.hp hp) (hv.hp hp) (ht.hp hp)) ?_
  exact wP I<|xf<|Aa I<|xa<|zS I<|zI<|xi<|Aa I<|zC<|Al 3 (by decide) (by decide) ⟨I,I,I,I,I,tO⟩ [] I
 ·exact xb<|wP I<|xl<|zS I<|xg<|xn<|wP I<|xc<|wR1 I I I
structure Oj (W:World) (bR bT:Nat):Prop where
 r:AL W (some ⟨bR,0,none⟩) [sqL]
 t:Aj W bT 0 (stV 0 S0).cells.toList
theorem Oj.hp {W0 W:World} {bxs:List Bx} {bR bT:Nat} (h:Oj W0 bR bT) (hp:Hp W0 bxs W):Oj W bR bT:=⟨h.r.hp hp,h.t.hp hp⟩
theorem SfP.of {W0 W:World} {bxs:List Bx} {x:SfX} {bR bT:Nat} (h:Oj W0 bR bT) (hp:Hp W0 bxs W) (i j k:Nat) (h1:nth bxs i=some (fbB x.gF x.jF)) (h2:nth bxs j=some (BT x.gC EF x.jC)) (h3:nth bxs k=some (arB x.gA x.gC x.cC x.jA)):SfP W x bT:=
 ⟨RF hp i h1,h.t.hp hp,D6 (a:=[slv (some ⟨x.gC,0,none⟩) 3 x.cC]) (b:=x.jA) (Aj.of_bx hp k h3 rfl),Cl.of_row (junk:=x.jC) (Aj.of_bx hp j h2 rfl)⟩
theorem Sq (bR bT:Nat) (W:World) (h:Oj W bR bT) (hd:DC W) (hv:AH W) (ht:A9 W):
  Ae Tryz.prog 39 #[JI bR bT,opE] W (fun _:Unit=> .int .i64 0) (fun _=>True) (fun _=>[]):=by
 refine Ab Tryz.func39 I I I<|xb<|wF I I fun _=>wF I I fun _=>wP I<|xf<|wB 0 I I I<|wD (X:=SfX) I I (fun W1 hp=>M9 bR bT W1 (h.hp hp).r (h.hp hp).t (hd.hp hp) (hv.hp hp) (ht.hp hp)) ?_
 rintro⟨gF,cF,jF,gC,cC,jC,gA,cA,jA⟩ _
 refine Ad I<|wG I I fun _=>wS 5 I I I<|wP I<|xk<|Aa I<|xa<|zS I<|xm<|wB 5 I I I<|wB 1 I I I<|wC I I (fun W1 hp=>La ⟨gF,cF,jF,gC,cC,jC,gA,cA,jA⟩ bT W1 (SfP.of h hp 2 3 4 I I I) (hv.hp hp) (ht.hp hp))<|wP I<|?_
 exact xc<|wR1 I I I
theorem Nx (bR bT:Nat) (W:World) (h:Oj W bR bT) (hd:DC W) (hv:AH W) (ht:A9 W):
  Ae Tryz.prog 18 #[JI bR bT,opE] W (fun V:Vec=> .tuple #[V.val 4, .int .i64 0]) (fun V=>V.OK 3 4 (spC f0 (crn 3 7 1 3))) (fun V=>[V.bx 33 (spC f0 (crn 3 7 1 3))]):=by
 have zz: ∀q:Rat,(q.num.natAbs<10^8/\q.den<10^8)->szQ q 8:=fun q hq=>hq
 have z1:=zz 1 (by decide+kernel)
 have z3:=zz 3 (by decide+kernel)
 have z7:=zz 7 (by decide+kernel)
 refine Ab Tryz.func18 I I I<|xb<|wF I I fun _=>wF I I fun _=>Aa I<|zC<|?_
 rename_i b2 b3
 refine zE<|xd<|wB 0 I I I<|wB 1 I I I<|wC I I (fun W1 hp=>Sq bR bT W1 (h.hp hp) (hd.hp hp) (hv.hp hp) (ht.hp hp))<|wP I<|xf<|Aa I<|xa<|zS I<|xm<|wP I<|wB 0 I I I<|?_
 refine wD (X:=Vec) I I (fun W1 hp=>by
  have h:=Kd W1 (some ⟨bR,0,none⟩) 1 [sqL] (by decide) ((h.hp hp).r) Ks (hd.hp hp) (ht.hp hp)
  rw[Wc] at h
  exact h) ?_
 rintro⟨pF,cF,jF⟩ hF
 have hF:Vec.OK ⟨pF,cF,jF⟩ 5 4 (frC (EH [sqL])):=hF
 obtain⟨gF,rfl⟩: ∃g,pF=some g:=Option.ne_none_iff_exists'.1 (fun e=>absurd (hF.nil e) (by decide))
 refine Ak I<|xk<|Aa I<|xa<|zS I<|xe<|zA<|?_
 refine AV (X:= { V:Vec//V.OK 3 4 (spC f0 (crn 3 7 1 3)) }) [true,true,true,true,true,true,false,false,false,false,false] (fun V=>[(4,V.1.val 4),(5, .int .i64 0)]) (fun V=>[V.1.bx 33 (spC f0 (crn 3 7 1 3))])
  5 [⟨b2,54,(JI bR bT).cells.toList,true,none⟩,⟨b3,41,opE.cells.toList,true,none⟩,fbB gF jF] Tryz.mixed (by kernel_rfl) ?_ ?_
 ·refine Ay I<|qB 1 I I I<|qI I I (by decide) (by decide)<|qL 0 I I (fun W1 hp=>RF hp 2 I) I<|qB 1 I I I<|BR<|wX<|wZ<|?_
  refine wD (X:=Vec) rfl rfl (fun W1 hp=>IY f0 Ud 0 3 7 1 3 z3 z7 z1 z3 W1 (hv.hp hp) (ht.hp hp)) ?_;intro V hV
  refine zC<|Ah<|wX<|RS.cons ?_ (RS.cons ?_ (RS.nil))
  ·refine wP I<|zC<|Ah<|wX<|wZ<|wP I<|zC<|Ah<|wX<|wZ<|wP I<|zC<|Ah<|wX<|wZ<|wP I<|zC<|Ah<|?_
   refine AF I (by((repeat (first|refine AK.same ?_|refine AK.off I ?_));exact tO)) ?_
   exact A7 (⟨V,hV⟩: { V:Vec//V.OK 3 4 (spC f0 (crn 3 7 1 3)) }) ⟨I,I,tO⟩ [3] (by decide) I
  ·refine wP I<|zC<|Ah<|wX<|wZ<|wP I<|zC<|Ah<|wX<|wZ<|wP I<|zC<|Ah<|wX<|wZ<|wP I<|zC<|Ah<|?_
   refine AF I (by((repeat (first|refine AK.same ?_|refine AK.off I ?_));exact tO)) ?_
   exact A7 (⟨V,hV⟩: { V:Vec//V.OK 3 4 (spC f0 (crn 3 7 1 3)) }) ⟨I,I,tO⟩ [3] (by decide) I
 rintro⟨V,hV⟩
 exact zE<|zO<|A4 tH I (.tmp I) (.tmp I) V I hV fun W1 hp=>Au.of_hp (hp.pick (l:=[V.bx 33 (spC f0 (crn 3 7 1 3))]) [0] (by decide) I)
theorem QJ : ∃ f1 f2 f3 : Field, (Tryz.prog.fieldsOf 33).toList = [f1, f2, f3] /\ (f1.name ≠ "_" /\ f1.type = 25 /\ f1.offset = 0) /\ (f2.name ≠ "_" /\ f2.type = 25 /\ f2.offset = 1) /\ (f3.name ≠ "_" /\ f3.type = 25 /\ f3.offset = 2) := by
 unfold Program.fieldsOf;rw[Tryz.underlying33]
 exact⟨_,_,_,I,⟨by decide,I,I⟩,⟨by decide,I,I⟩,⟨by decide,I,I⟩⟩
theorem cT (W:World) (a b s c d t:List UInt8):(binOp .eql 33 (.agg #[str a,str b,str s]) (.agg #[str c,str d,str t])).run Tryz.prog W= .ok (.bool (decide (a=c/\b=d/\s=t))) W:=by
 rw[run_eql_struct,run_equalIn_agg W 9999 33 _ _ (by kernel_rfl) (by kernel_rfl)]
 obtain⟨f1,f2,f3,hf,⟨n1,t1,o1⟩,⟨n2,t2,o2⟩,⟨n3,t3,o3⟩⟩:=QJ
 rw[hf]
 have e: ∀(x y:List UInt8) W,(Op.equalIn 9999 25 (str x) (str y)).run Tryz.prog W= .ok (decide (x=y)) W:=fun x y W=>by
  rw[run_equalIn_string W 9998 25 _ _ Tryz.underlying25,AW]
 by_cases h1:a=c<;>by_cases h2:b=d<;>by_cases h3:s=t<;>simp[Op.eqFields,part,Tryz.isAgg25,e,h1,h2,h3,n1,n2,n3,t1,t2,t3,o1,o2,o3]
theorem cW (W:World) (a b s c d t:List UInt8):(binOp .neq 33 (.agg #[str a,str b,str s]) (.agg #[str c,str d,str t])).run Tryz.prog W= .ok (.bool (!decide (a=c/\b=d/\s=t))) W:=by
 rw[run_neq_struct,run_equalIn_agg W 9999 33 _ _ (by kernel_rfl) (by kernel_rfl)]
 obtain⟨f1,f2,f3,hf,⟨n1,t1,o1⟩,⟨n2,t2,o2⟩,⟨n3,t3,o3⟩⟩:=QJ
 rw[hf]
 have e: ∀(x y:List UInt8) W,(Op.equalIn 9999 25 (str x) (str y)).run Tryz.prog W= .ok (decide (x=y)) W:=fun x y W=>by
  rw[run_equalIn_string W 9998 25 _ _ Tryz.underlying25,AW]
 by_cases h1:a=c<;>by_cases h2:b=d<;>by_cases h3:s=t<;>simp[Op.eqFields,part,Tryz.isAgg25,e,h1,h2,h3,n1,n2,n3,t1,t2,t3,o1,o2,o3]
section
variable {r:Option Nat} {n:Nat} {N:Nat} {D:List Deferred} {ops:List Oper} {Q:Exit->Act->World->Prop} {o:Oper} {rest:List Oper} {env:Env} {A A2:World->Prop} {R:Act->World->Prop}
theorem Wg (a b s c d e:List UInt8) {t:Nat} {u:TypeId} {x y:Operand} (hg:Aw ops N env o=some true) (hd:o.dst=some t) (ho:o.op= .binOp .eql 33 x y u)
  (hx:evO N env x=some (.agg #[str a,str b,str s])) (hy:evO N env y=some (.agg #[str c,str d,str e]))
  (h:WL r n Tryz.prog N D ops Q rest ((t, .bool (decide (a=c/\b=d/\s=e)))::env) A):WL r n Tryz.prog N D ops Q (o::rest) env A:=
 CP hg hd (fun c e=>by rw[ho] at e;cases e) (fun _ W hρ _=>by
  have hm:Tryz.prog.eqGuardType Tryz.prog.depth 33=false:=by kernel_rfl
  simp[execOp,ho,hρ _ _ hx,hρ _ _ hy,run_eqGuard_agg W .eql 33 x y _ _ hm,cT]) h
theorem ZU (a b s c d e:List UInt8) {t:Nat} {u:TypeId} {x y:Operand} (hg:Aw ops N env o=some true) (hd:o.dst=some t) (ho:o.op= .binOp .neq 33 x y u)
  (hx:evO N env x=some (.agg #[str a,str b,str s])) (hy:evO N env y=some (.agg #[str c,str d,str e]))
  (h:WQ Tryz.prog N D ops A2 R rest ((t, .bool (!decide (a=c/\b=d/\s=e)))::env) A):WQ Tryz.prog N D ops A2 R (o::rest) env A:=
 Eh hg hd (fun c e=>by rw[ho] at e;cases e) (fun _ W hρ _=>by
  have hm:Tryz.prog.eqGuardType Tryz.prog.depth 33=false:=by kernel_rfl
  simp[execOp,ho,hρ _ _ hx,hρ _ _ hy,run_eqGuard_agg W .neq 33 x y _ _ hm,cW]) h
end
abbrev SpS:Type:=List UInt8×List UInt8×List UInt8
def Fe (L:List SpS):List Value:=L.flatMap fun x=>[str x.1,str x.2.1,str x.2.2]
theorem YO (a b:List SpS):Fe (a++b)=Fe a++Fe b:=List.flatMap_append
theorem Za (l:List SpS):(Fe l).length=l.length*3:=by
 induction l with
 |nil=>rfl
 |cons p l ih=>show(Fe l).length+1+1+1=(l.length+1)*3;rw[ih];omega
theorem Zv {l:List SpS} {i:Nat} (hi:i<l.length):Fe l=Fe (l.take i)++([str l[i].1,str l[i].2.1,str l[i].2.2]++Fe (l.drop (i+1))):=by
 conv=>lhs;rw[<-List.take_append_drop i l,List.drop_eq_getElem_cons hi,YO]
 rfl
def Qc (W:World) (p:Option Addr) (l:List SpS):Prop:=l=[]\/ ∃g off,p=some ⟨g,off,none⟩/\ ∀i (hi:i<l.length),Aj W g (off+i*3) [str l[i].1,str l[i].2.1,str l[i].2.2]
theorem Qc.at_ {W:World} {p:Option Addr} {l:List SpS} (h:Qc W p l) {i:Nat} (hi:i<l.length): ∃g off,p=some ⟨g,off,none⟩/\ ∀k (hk:k<l.length),Aj W g (off+k*3) [str l[k].1,str l[k].2.1,str l[k].2.2]:=by
 rcases h with rfl|h
 ·exact absurd hi (Nat.not_lt_zero _)
 ·exact h
theorem Qc.of_row {W:World} {g off:Nat} {l:List SpS} {junk:List Value} (h:Aj W g off (Fe l++junk)):Qc W (some ⟨g,off,none⟩) l:= .inr ⟨g,off,rfl,fun i hi=>by
 have h1:=D6 h
 rw[Zv hi] at h1
 have h2:=D6 (LY h1)
 rwa [Za,List.length_take,Nat.min_eq_left (Nat.le_of_lt hi)] at h2⟩
theorem IQ (l:List SpS) (hn:l.length<=100000) (p q:Option Addr) (cap cap2:Nat) (W:World) (hA:Qc W p l) (hB:Qc W q l):
  Ae Tryz.prog 16 #[slv p l.length cap,slv q l.length cap2] W (fun _:Unit=> .bool true) (fun _=>True) (fun _=>[]):=by
 refine Ab Tryz.func16 I I I<|xb<|wP I<|xk<|Ak I<|wU 10 false I (bne_eq_false_iff_eq.2 I)<|xa<|zS I<|xe<|xd<|Ad I<|?_
 refine xa<|zH<|Av (X:=Nat) (fun i=>[(0,slv p l.length cap),(1,slv q l.length cap2),(12, .int .i64 (l.length:Nat)),(13, .int .i64 (i:Nat))]) (fun _=>[]) (fun i=>i<=l.length) (fun i=>l.length-i) 0 (Nat.zero_le _) ⟨I,I,I,I,tO⟩ [] I ?_
 intro i hi
 have hi:i<=l.length:=hi
 refine xb<|wP I<|?_
 by_cases hlt:i<l.length
 ·refine wU 14 true I (dT (by omega))<|xl<|zR I<|xh<|?_
  obtain⟨g,off,e1,h1⟩:=hA.at_ hlt
  obtain⟨g2,off2,e2,h2⟩:=hB.at_ hlt
  have h1:=h1 i hlt
  have h2:=h2 i hlt
  obtain⟨x,hx⟩: ∃x,x=l[i]:=⟨_,rfl⟩
  rw[<-hx] at h1 h2
  subst e1 e2
  refine Aa I<|xl<|zU<|Ay I<|qJ ?_
  refine qL 0 I I (fun W1 hp=>h1.hp hp) I<|Ay I<|qJ ?_
  refine qL 0 I I (fun W1 hp=>h2.hp hp) I<|ZU x.1 x.2.1 x.2.2 x.1 x.2.1 x.2.2 I I I I I ?_
  exact qU 24 false I (by rw[dT ⟨I,I,I⟩];rfl)<|zD<|xa<|zS I<|zI<|xi<|wP I<|wV 25 ((i+1:Nat):Int) I (A0 (by omega))<|wP I<|zC<|Al (i+1) hlt (by show l.length-(i+1)<l.length-i;omega) ⟨I,I,I,I,tO⟩ [] I
 exact wU 14 false I (dF (by omega))<|xl<|zS I<|xg<|xn<|wP I<|xc<|wR1 I I I
def exS:List SpS:=[([51],[49],[49]),([55],[49],[49]),([55],[51],[51]),([51],[51],[51])]
theorem aN (f:FrP) (L:List Ax):spC f L=Fe (L.map fun q=>(Ac (f.px q.1 q.2),Ac (f.py q.1 q.2),Ac (f.pz q.2))):=by
 unfold spC Fe
 rw[List.flatMap_map]
theorem d9:spC f0 (crn 3 7 1 3)=Fe exS:=by
 rw[aN]
 exact congrArg Fe (by decide+kernel)
def fL:Value:= .agg #[.bool false, .int .i64 0, .int .i64 0,str [],str []]
theorem Fi (W:World) (p:Option Addr) (cap:Nat) (rs:List (List Sd)) (hn:rs.length<1099511627776) (hT:tot rs<1099511627776) (hR:AL W p rs) (hc:chk rs≠0) (s a b:Int) (x h e:List UInt8) (v:Value):
  Ae Tryz.prog 21 #[B0 p rs.length cap,dmS s x h e a b,v] W (fun _:Unit=> .tuple #[fL, .int .i64 1]) (fun _=>True) (fun _=>[]):=by
 refine Ab Tryz.func21 I I I<|xb<|wF I I fun _=>wF I I fun _=>wG I I fun _=>wP I<|xf<|wB 0 I I I<|wC I I (fun W1 hp=>Xe W1 p cap rs (by omega) hT (hR.hp hp) hc)<|Ak I<|xk<|Aa I<|?_
 refine xa<|zR I<|xb<|An Tryz.hZ tH I I I I I I I I ?_
 exact wS 2 I I I<|wP I<|xo<|A4 tH I (.cell 2 I I I I I) (.tmp I) () I tO fun W _=>Au.nil _ _
theorem PX (W:World) (p:Option Addr) (cap:Nat) (rs:List (List Sd)) (hn:rs.length<1099511627776) (hT:tot rs<1099511627776) (hR:AL W p rs) (hc:chk rs≠0):
  Ae Tryz.prog 55 #[B0 p rs.length cap] W (fun _:Unit=> .tuple #[.slice none 0 0, .int .i64 1]) (fun _=>True) (fun _=>[]):=by
 refine Ab Tryz.func55 I I I<|xb<|wF I I fun _=>Aa I<|xk<|wB 0 I I I<|wC I I (fun W1 hp=>HV W1 p cap rs (by omega) (by omega) (hR.hp hp))<|wP I<|wU 13 true I (bne_iff_ne.2 hc)<|xa<|zR I<|xb<|Aa I<|xa<|?_
 exact zO<|zP<|wR2 I I I
theorem Fl (W:World) (p:Option Addr) (cap:Nat) (rs:List (List Sd)) (hn:rs.length<1099511627776) (hT:tot rs<1099511627776) (hR:AL W p rs) (hc:chk rs≠0) (s a b:Int) (x h e:List UInt8):
  Ae Tryz.prog 24 #[B0 p rs.length cap,dmS s x h e a b] W (fun _:Unit=> .tuple #[fL, .int .i64 1]) (fun _=>True) (fun _=>[]):=by
 refine Ab Tryz.func24 I I I<|xb<|wF I I fun _=>wF I I fun _=>wG I I fun _=>wP I<|xf<|wB 0 I I I<|wC I I (fun W1 hp=>PX W1 p cap rs hn hT (hR.hp hp) hc)<|Ak I<|xk<|Aa I<|?_
 refine xa<|zR I<|xb<|An Tryz.hZ tH I I I I I I I I ?_
 exact wS 2 I I I<|wP I<|xo<|A4 tH I (.cell 2 I I I I I) (.tmp I) () I tO fun W _=>Au.nil _ _
theorem X3 (W:World) (p:Option Addr) (cap:Nat) (rs:List (List Sd)) (hn:rs.length<1099511627776) (hT:tot rs<1099511627776) (hR:AL W p rs) (hc:chk rs≠0) (s a b:Int) (x h e:List UInt8):
  Ae Tryz.prog 8 #[B0 p rs.length cap,dmS s x h e a b] W (fun _:Unit=> .tuple #[str [], .agg #[str [],str [],str []], .int .i64 1]) (fun _=>True) (fun _=>[]):=by
 refine Ab Tryz.func8 I I I<|xb<|wF I I fun _=>wF I I fun _=>wP I<|wG I I fun _=>wP I<|xf<|wB 0 I I I<|wB 1 I I I<|wC I I (fun W1 hp=>Fi W1 p cap rs hn hT (hR.hp hp) hc s a b x h e (.slice none 0 0))<|Ad I<|wG I I fun _=>wS 3 I I I<|wP I<|xl<|zA<|?_
 refine zB<|Aa I<|xa<|zR I<|xb<|An Tryz.hZ tH I I I I I I I I ?_
 exact Aa I<|wS 2 I I I<|wP I<|xo<|HQ tH I (.tmp I) (.cell 2 I I I I I) (.tmp I) () I tO fun W _=>Au.nil _ _
theorem Xb (W:World) (p:Option Addr) (cap:Nat) (rs:List (List Sd)) (hn:rs.length<1099511627776) (hT:tot rs<1099511627776) (hR:AL W p rs) (hc:chk rs≠0) (s a b:Int) (x h e:List UInt8):
  Ae Tryz.prog 9 #[B0 p rs.length cap,dmS s x h e a b] W (fun _:Unit=> .tuple #[str [], .agg #[str [],str [],str []], .int .i64 1]) (fun _=>True) (fun _=>[]):=by
 refine Ab Tryz.func9 I I I<|xb<|wF I I fun _=>wF I I fun _=>wP I<|wG I I fun _=>wP I<|xf<|wB 0 I I I<|wB 1 I I I<|wC I I (fun W1 hp=>Fl W1 p cap rs hn hT (hR.hp hp) hc s a b x h e)<|Ad I<|wG I I fun _=>wS 3 I I I<|wP I<|xl<|zA<|?_
 refine zB<|Aa I<|xa<|zR I<|xb<|An Tryz.hZ tH I I I I I I I I ?_
 exact Aa I<|wS 2 I I I<|wP I<|xo<|HQ tH I (.tmp I) (.cell 2 I I I I I) (.tmp I) () I tO fun W _=>Au.nil _ _
theorem Zs (W:World) (p:Option Addr) (cap:Nat) (rs:List (List Sd)) (hn:rs.length<1099511627776) (hT:tot rs<1099511627776) (hR:AL W p rs) (hc:chk rs≠0) (s a b:Int) (x h e:List UInt8):
  Ae Tryz.prog 10 #[B0 p rs.length cap,dmS s x h e a b] W (fun _:Unit=> .tuple #[.slice none 0 0, .int .i64 1]) (fun _=>True) (fun _=>[]):=by
 refine Ab Tryz.func10 I I I<|xb<|wF I I fun _=>wF I I fun _=>Aa I<|xf<|wB 0 I I I<|wB 1 I I I<|wC I I (fun W1 hp=>Fi W1 p cap rs hn hT (hR.hp hp) hc s a b x h e (.slice none 0 0))<|Ad I<|wG I I fun _=>wS 2 I I I<|wP I<|xl<|zA<|?_
 exact zB<|Aa I<|xa<|zR I<|xb<|Ad I<|xo<|wR2 I I I
theorem aC (W:World) (p:Option Addr) (cap:Nat) (rs:List (List Sd)) (hn:rs.length<1099511627776) (hT:tot rs<1099511627776) (hR:AL W p rs) (hc:chk rs≠0) (s a b:Int) (x h e:List UInt8):
  Ae Tryz.prog 11 #[B0 p rs.length cap,dmS s x h e a b] W (fun _:Unit=> .tuple #[.slice none 0 0, .int .i64 1]) (fun _=>True) (fun _=>[]):=by
 refine Ab Tryz.func11 I I I<|xb<|wF I I fun _=>wF I I fun _=>Aa I<|xf<|wB 0 I I I<|wB 1 I I I<|wC I I (fun W1 hp=>Fl W1 p cap rs hn hT (hR.hp hp) hc s a b x h e)<|Ad I<|wG I I fun _=>wS 2 I I I<|wP I<|xl<|zA<|?_
 exact zB<|Aa I<|xa<|zR I<|xb<|Ad I<|xo<|wR2 I I I
theorem Xp (W:World) (p:Option Addr) (cap:Nat) (rs:List (List Sd)) (hn:rs.length<1099511627776) (hT:tot rs<1099511627776) (hR:AL W p rs) (hc:chk rs≠0) (s a b:Int) (x h e:List UInt8) (y:List UInt8):
  Ae Tryz.prog 12 #[B0 p rs.length cap,dmS s x h e a b,str y] W (fun _:Unit=> .tuple #[opZ, .int .i64 1]) (fun _=>True) (fun _=>[]):=by
 refine Ab Tryz.func12 I I I<|xb<|wF I I fun _=>wF I I fun _=>wG I I fun _=>wP I<|xf<|wB 0 I I I<|wB 1 I I I<|wP I<|As Tryz.hZ tH I I I I I I I I I I I fun bS=> ?_
 refine wC I I (fun W1 hp=>Fi W1 p cap rs hn hT (hR.hp hp) hc s a b x h e (slv (some ⟨bS,0,none⟩) 1 1))<|Ad I<|wG I I fun _=>wS 4 I I I<|wP I<|xk<|Aa I<|xa<|zR I<|xb<|An Tryz.hZ tH I I I I I I I I ?_
 exact wP I<|wS 2 I I I<|wP I<|xo<|A4 tH I (.cell 2 I I I I I) (.tmp I) () I tO fun W _=>Au.nil _ _
theorem WE (W:World) (p:Option Addr) (cap:Nat) (rs:List (List Sd)) (hn:rs.length<1099511627776) (hT:tot rs<1099511627776) (hR:AL W p rs) (hc:chk rs≠0) (s a b:Int) (x h e:List UInt8) (y:List UInt8):
  Ae Tryz.prog 13 #[B0 p rs.length cap,dmS s x h e a b,str y] W (fun _:Unit=> .tuple #[opZ, .int .i64 1]) (fun _=>True) (fun _=>[]):=by
 refine Ab Tryz.func13 I I I<|xb<|wF I I fun _=>wF I I fun _=>wG I I fun _=>wP I<|xf<|wB 0 I I I<|wB 1 I I I<|wC I I (fun W1 hp=>Fl W1 p cap rs hn hT (hR.hp hp) hc s a b x h e)<|Ad I<|wG I I fun _=>wS 3 I I I<|wP I<|xl<|zA<|?_
 refine zB<|Aa I<|xa<|zR I<|xb<|An Tryz.hZ tH I I I I I I I I ?_
 exact wP I<|wS 2 I I I<|wP I<|xo<|A4 tH I (.cell 2 I I I I I) (.tmp I) () I tO fun W _=>Au.nil _ _
theorem Wt (W:World) (p:Option Addr) (cap:Nat) (rs:List (List Sd)) (hn:rs.length<1099511627776) (hT:tot rs<1099511627776) (hR:AL W p rs) (hc:chk rs≠0) (s a b:Int) (x h e:List UInt8) (y:List UInt8):
  Ae Tryz.prog 14 #[B0 p rs.length cap,dmS s x h e a b,str y] W (fun _:Unit=> .tuple #[str [], .int .i64 1]) (fun _=>True) (fun _=>[]):=by
 refine Ab Tryz.func14 I I I<|xb<|wF I I fun _=>wF I I fun _=>Aa I<|xf<|wB 0 I I I<|wB 1 I I I<|wP I<|As Tryz.hZ tH I I I I I I I I I I I fun bS=> ?_
 refine wC I I (fun W1 hp=>Fi W1 p cap rs hn hT (hR.hp hp) hc s a b x h e (slv (some ⟨bS,0,none⟩) 1 1))<|Ad I<|wG I I fun _=>wS 3 I I I<|wP I<|xk<|Aa I<|xa<|zR I<|xb<|Ad I<|xa<|?_
 exact zO<|zP<|wR2 I I I
theorem Xq (W:World) (p:Option Addr) (cap:Nat) (rs:List (List Sd)) (hn:rs.length<1099511627776) (hT:tot rs<1099511627776) (hR:AL W p rs) (hc:chk rs≠0) (s a b:Int) (x h e:List UInt8) (y:List UInt8):
  Ae Tryz.prog 15 #[B0 p rs.length cap,dmS s x h e a b,str y] W (fun _:Unit=> .tuple #[str [], .int .i64 1]) (fun _=>True) (fun _=>[]):=by
 refine Ab Tryz.func15 I I I<|xb<|wF I I fun _=>wF I I fun _=>Aa I<|xf<|wB 0 I I I<|wB 1 I I I<|wC I I (fun W1 hp=>Fl W1 p cap rs hn hT (hR.hp hp) hc s a b x h e)<|Ad I<|wG I I fun _=>wS 2 I I I<|wP I<|xl<|zA<|?_
 exact zB<|Aa I<|xa<|zR I<|xb<|Ad I<|xo<|wR2 I I I
theorem HO {P:Program} {f:Nat} {args:Array Value} {W:World} {v:Value} (h:Ae P f args W (fun _:Unit=>v) (fun _=>True) (fun _=>[])) {X:Type} {val:X->Value} {Φ:X->Prop} {nb:X->List Bx} (x:X) (hv:v=val x) (hx:Φ x) (hnb: ∀W',Au W W' (nb x)):Ae P f args W val Φ nb:=by
 refine⟨h.out.mono fun e W' h1=> ?_⟩
 obtain⟨_,he,_,hb,_⟩:=h1
 exact⟨x,by rw[he,hv],hx,hb,hnb W'⟩
theorem M0 {P:Program} {f:Nat} {args:Array Value} {W:World} {ev:Value} {n sz:Nat} {ty:TypeId} {C:List Value} (hC:C.length=n*sz) (hm:n<=maxLen) (h:Ae P f args W (fun g:Nat=> .tuple #[slv (some ⟨g,0,none⟩) n n,ev]) (fun _=>True) (fun g=>[⟨g,ty,C,true,none⟩])):
  Ae P f args W (fun V:Vec=> .tuple #[V.val n,ev]) (fun V=>V.OK sz n C) (fun V=>[V.bx ty C]):=by
 refine⟨h.out.mono fun e W' h1=> ?_⟩
 obtain⟨g,he,_,hb,hN⟩:=h1
 refine⟨⟨some g,n,[]⟩,he,⟨hC,(fun h=>by cases h),fun _=>⟨Nat.le_refl _,hm,by rw[List.length_nil,Nat.add_zero];exact hC⟩⟩,hb, ?_⟩
 show Au W W' [⟨g,ty,C++[],true,none⟩]
 rw[List.append_nil]
 exact hN
theorem Li (W W':World):Au W W' [Gf]:=Own.one (fun p hp=>by cases hp) List.nodup_nil
structure PlC (W:World) (p:Option Addr) (rs:List (List Sd)):Prop where
 n:rs.length<1099511627776
 T:tot rs<1099511627776
 R:AL W p rs
 d:DC W
 v:AH W
 t:A9 W
theorem PlC.hp {W0 W:World} {bxs:List Bx} {p:Option Addr} {rs:List (List Sd)} (h:PlC W0 p rs) (hp:Hp W0 bxs W):PlC W p rs:=⟨h.n,h.T,h.R.hp hp,h.d.hp hp,h.v.hp hp,h.t.hp hp⟩
theorem X4 (rs:List (List Sd)) (s a b:Int) (x h e:List UInt8) (hx:x.length<=4000000) (hh:h.length<=4000000) (he:e.length<=4000000): ∃(z q1 q2 q3:List UInt8) (er:Int), ∀(W:World) (p:Option Addr) (cap:Nat),PlC W p rs->
  Ae Tryz.prog 8 #[B0 p rs.length cap,dmS s x h e a b] W (fun _:Unit=> .tuple #[str z, .agg #[str q1,str q2,str q3], .int .i64 er]) (fun _=>True) (fun _=>[])/\
  Ae Tryz.prog 9 #[B0 p rs.length cap,dmS s x h e a b] W (fun _:Unit=> .tuple #[str z, .agg #[str q1,str q2,str q3], .int .i64 er]) (fun _=>True) (fun _=>[]):=by
 by_cases hc:chk rs=0
 rotate_left
 ·exact⟨[],[],[],[],1,fun W p cap k=>⟨X3 W p cap rs k.n k.T k.R hc s a b x h e,Xb W p cap rs k.n k.T k.R hc s a b x h e⟩⟩
 by_cases hE:boE rs s x h e a b=0
 ·obtain⟨f,x',h',e',ho⟩:=Rn hc hE
  exact⟨_,_,_,_,0,fun W p cap k=>⟨FB W p cap rs (by have:=k.n;omega) k.R hc k.d k.v k.t s a b x h e hx hh he hE f x' h' e' ho,Oa W p cap rs k.n k.R hc k.d k.v k.t s a b x h e hx hh he hE f x' h' e' ho⟩⟩
 ·exact⟨[],[],[],[],_,fun W p cap k=>⟨MV W p cap rs (by have:=k.n;omega) k.R hc k.d k.v k.t s a b x h e hx hh he hE,ON W p cap rs k.n k.R hc k.d k.v k.t s a b x h e hx hh he hE⟩⟩
def gL (f:FrP) (x h e z:Rat):List SpS:=[(Ac (f.px (x-h) ((e-f.st)*f.sp)),Ac (f.py (x-h) ((e-f.st)*f.sp)),Ac (f.pz ((e-f.st)*f.sp))),(Ac (f.px x ((z-f.st)*f.sp)),Ac (f.py x ((z-f.st)*f.sp)),Ac (f.pz ((z-f.st)*f.sp))),(Ac (f.px (x+h) ((e-f.st)*f.sp)),Ac (f.py (x+h) ((e-f.st)*f.sp)),Ac (f.pz ((e-f.st)*f.sp)))]
theorem a8 (rs:List (List Sd)) (s a b:Int) (x h e:List UInt8) (hx:x.length<=4000000) (hh:h.length<=4000000) (he:e.length<=4000000): ∃(L:List SpS) (er:Int),L.length<=3/\ ∀(W:World) (p:Option Addr) (cap:Nat),PlC W p rs->
  Ae Tryz.prog 10 #[B0 p rs.length cap,dmS s x h e a b] W (fun V:Vec=> .tuple #[V.val L.length, .int .i64 er]) (fun V=>V.OK 3 L.length (Fe L)) (fun V=>[V.bx 33 (Fe L)])/\
  Ae Tryz.prog 11 #[B0 p rs.length cap,dmS s x h e a b] W (fun V:Vec=> .tuple #[V.val L.length, .int .i64 er]) (fun V=>V.OK 3 L.length (Fe L)) (fun V=>[V.bx 33 (Fe L)]):=by
 by_cases hc:chk rs=0
 rotate_left
 ·exact⟨[],1,Nat.zero_le _,fun W p cap k=>⟨HO (Zs W p cap rs k.n k.T k.R hc s a b x h e) Vec.empty I (Vec.OK.empty 3) fun W'=>Li _ _,HO (aC W p cap rs k.n k.T k.R hc s a b x h e) Vec.empty I (Vec.OK.empty 3) fun W'=>Li _ _⟩⟩
 by_cases hE:boE rs s x h e a b=0
 ·obtain⟨f,x',h',e',ho⟩:=Rn hc hE
  exact⟨gL f x' h' e' (GJ h' e' a b),0,Nat.le_refl 3,fun W p cap k=>⟨M0 I (by show 3<=maxLen;decide) (PM W p cap rs (by have:=k.n;omega) k.R hc k.d k.v k.t s a b x h e hx hh he hE f x' h' e' ho),M0 I (by show 3<=maxLen;decide) (R4 W p cap rs k.n k.R hc k.d k.v k.t s a b x h e hx hh he hE f x' h' e' ho)⟩⟩
 ·exact⟨[],_,Nat.zero_le _,fun W p cap k=>⟨HO (P8 W p cap rs (by have:=k.n;omega) k.R hc k.d k.v k.t s a b x h e hx hh he hE) Vec.empty I (Vec.OK.empty 3) fun W'=>Li _ _,HO (Sn W p cap rs k.n k.R hc k.d k.v k.t s a b x h e hx hh he hE) Vec.empty I (Vec.OK.empty 3) fun W'=>Li _ _⟩⟩
theorem WA (rs:List (List Sd)) (s a b:Int) (x h e y:List UInt8) (hx:x.length<=4000000) (hh:h.length<=4000000) (he:e.length<=4000000) (hy:y.length<=4000000): ∃(s':Int) (l r lo hi:List UInt8) (er:Int), ∀(W:World) (p:Option Addr) (cap:Nat),PlC W p rs->
  Ae Tryz.prog 12 #[B0 p rs.length cap,dmS s x h e a b,str y] W (fun _:Unit=> .tuple #[Im s' l r lo hi, .int .i64 er]) (fun _=>True) (fun _=>[])/\
  Ae Tryz.prog 13 #[B0 p rs.length cap,dmS s x h e a b,str y] W (fun _:Unit=> .tuple #[Im s' l r lo hi, .int .i64 er]) (fun _=>True) (fun _=>[]):=by
 by_cases hc:chk rs=0
 rotate_left
 ·exact⟨0,[],[],[],[],1,fun W p cap k=>⟨Xp W p cap rs k.n k.T k.R hc s a b x h e y,WE W p cap rs k.n k.T k.R hc s a b x h e y⟩⟩
 by_cases hE:bmE rs s x h e a b [y]=0
 ·obtain⟨h0,hN⟩:=RW hE
  obtain⟨f,x',h',e',ho⟩:=Rn hc h0
  obtain⟨q,rfl,_,zq⟩:=IT hN y (List.mem_singleton.2 rfl)
  by_cases hle:(GJ h' e' a b-f.st)*f.sp<=q
  ·exact⟨0,[],[],[],[],10,fun W p cap k=>⟨(Jn W p cap rs (by have:=k.n;omega) k.R hc k.d k.v k.t s a b x h e hx hh he q zq hy hE f x' h' e' ho).cast (by rw[if_pos hle]),(I4 W p cap rs k.n k.R hc k.d k.v k.t s a b x h e hx hh he q zq hy hE f x' h' e' ho).cast (by rw[if_pos hle])⟩⟩
  ·exact⟨s,_,_,_,_,0,fun W p cap k=>⟨(Jn W p cap rs (by have:=k.n;omega) k.R hc k.d k.v k.t s a b x h e hx hh he q zq hy hE f x' h' e' ho).cast (by rw[if_neg hle];rfl),(I4 W p cap rs k.n k.R hc k.d k.v k.t s a b x h e hx hh he q zq hy hE f x' h' e' ho).cast (by rw[if_neg hle];rfl)⟩⟩
 ·exact⟨0,[],[],[],[],_,fun W p cap k=>⟨OA W p cap rs (by have:=k.n;omega) k.R hc k.d k.v k.t s a b x h e y hx hh he hy hE,OI W p cap rs k.n k.R hc k.d k.v k.t s a b x h e y hx hh he hy hE⟩⟩
theorem W4 (rs:List (List Sd)) (s a b:Int) (x h e y:List UInt8) (hx:x.length<=4000000) (hh:h.length<=4000000) (he:e.length<=4000000) (hy:y.length<=4000000): ∃(z:List UInt8) (er:Int), ∀(W:World) (p:Option Addr) (cap:Nat),PlC W p rs->
  Ae Tryz.prog 14 #[B0 p rs.length cap,dmS s x h e a b,str y] W (fun _:Unit=> .tuple #[str z, .int .i64 er]) (fun _=>True) (fun _=>[])/\
  Ae Tryz.prog 15 #[B0 p rs.length cap,dmS s x h e a b,str y] W (fun _:Unit=> .tuple #[str z, .int .i64 er]) (fun _=>True) (fun _=>[]):=by
 by_cases hc:chk rs=0
 rotate_left
 ·exact⟨[],1,fun W p cap k=>⟨Wt W p cap rs k.n k.T k.R hc s a b x h e y,Xq W p cap rs k.n k.T k.R hc s a b x h e y⟩⟩
 by_cases hE:bmE rs s x h e a b [y]=0
 ·obtain⟨h0,hN⟩:=RW hE
  obtain⟨f,x',h',e',ho⟩:=Rn hc h0
  obtain⟨q,rfl,_,zq⟩:=IT hN y (List.mem_singleton.2 rfl)
  by_cases hneg:T7 f e' q<0
  ·exact⟨[],2,fun W p cap k=>⟨(Jl W p cap rs (by have:=k.n;omega) k.R hc k.d k.v k.t s a b x h e hx hh he q zq hy hE f x' h' e' ho).cast (by rw[if_pos hneg]),(I2 W p cap rs k.n k.R hc k.d k.v k.t s a b x h e hx hh he q zq hy hE f x' h' e' ho).cast (by rw[if_pos hneg])⟩⟩
  ·exact⟨_,0,fun W p cap k=>⟨(Jl W p cap rs (by have:=k.n;omega) k.R hc k.d k.v k.t s a b x h e hx hh he q zq hy hE f x' h' e' ho).cast (by rw[if_neg hneg]),(I2 W p cap rs k.n k.R hc k.d k.v k.t s a b x h e hx hh he q zq hy hE f x' h' e' ho).cast (by rw[if_neg hneg])⟩⟩
 ·exact⟨[],_,fun W p cap k=>⟨Oi W p cap rs (by have:=k.n;omega) k.R hc k.d k.v k.t s a b x h e y hx hh he hy hE,Nq W p cap rs k.n k.R hc k.d k.v k.t s a b x h e y hx hh he hy hE⟩⟩
theorem Xu : ∃ f1 f2 f3 f4 f5 : Field, (Tryz.prog.fieldsOf 41).toList = [f1, f2, f3, f4, f5] /\ (f1.name ≠ "_" /\ f1.type = 3 /\ f1.offset = 0) /\ (f2.name ≠ "_" /\ f2.type = 25 /\ f2.offset = 1) /\ (f3.name ≠ "_" /\ f3.type = 25 /\ f3.offset = 2) /\ (f4.name ≠ "_" /\ f4.type = 25 /\ f4.offset = 3) /\ (f5.name ≠ "_" /\ f5.type = 25 /\ f5.offset = 4) := by
 unfold Program.fieldsOf;rw[Tryz.underlying41]
 exact⟨_,_,_,_,_,I,⟨by decide,I,I⟩,⟨by decide,I,I⟩,⟨by decide,I,I⟩,⟨by decide,I,I⟩,⟨by decide,I,I⟩⟩
theorem c8 (W:World) (s:Int) (l r lo hi:List UInt8):(binOp .eql 41 (Im s l r lo hi) (Im s l r lo hi)).run Tryz.prog W= .ok (.bool true) W:=by
 rw[run_eql_struct,run_equalIn_agg W 9999 41 _ _ (by kernel_rfl) (by kernel_rfl)]
 obtain⟨f1,f2,f3,f4,f5,hf,⟨n1,t1,o1⟩,⟨n2,t2,o2⟩,⟨n3,t3,o3⟩,⟨n4,t4,o4⟩,⟨n5,t5,o5⟩⟩:=Xu
 rw[hf]
 have e: ∀(x:List UInt8) W,(Op.equalIn 9999 25 (str x) (str x)).run Tryz.prog W= .ok true W:=fun x W=>by
  rw[run_equalIn_string W 9998 25 _ _ Tryz.underlying25,AW,dT rfl]
 have ei: ∀W,(Op.equalIn 9999 3 (.int .i64 s) (.int .i64 s)).run Tryz.prog W= .ok true W:=fun W=>by
  rw[run_equalIn_int W 9998 3 _ _ _ _ Tryz.underlying3]
  simp
 simp[Op.eqFields,part,Tryz.isAgg25,Tryz.isAgg3,e,ei,n1,n2,n3,n4,n5,t1,t2,t3,t4,t5,o1,o2,o3,o4,o5]
section
variable {r:Option Nat} {n:Nat} {N:Nat} {D:List Deferred} {ops:List Oper} {Q:Exit->Act->World->Prop} {o:Oper} {rest:List Oper} {env:Env} {A:World->Prop}
theorem ZB (s:Int) (a b c d:List UInt8) {t:Nat} {u:TypeId} {x y:Operand} (hg:Aw ops N env o=some true) (hd:o.dst=some t) (ho:o.op= .binOp .eql 41 x y u)
  (hx:evO N env x=some (Im s a b c d)) (hy:evO N env y=some (Im s a b c d))
  (h:WL r n Tryz.prog N D ops Q rest ((t, .bool true)::env) A):WL r n Tryz.prog N D ops Q (o::rest) env A:=
 CP hg hd (fun c e=>by rw[ho] at e;cases e) (fun _ W hρ _=>by
  have hm:Tryz.prog.eqGuardType Tryz.prog.depth 41=false:=by kernel_rfl
  simp only[execOp,ho,hρ _ _ hx,hρ _ _ hy,Sem.run_bind,run_eqGuard_agg W .eql 41 x y _ _ hm,c8,Result.andThen_ok,Sem.run_pure]) h
end
structure OpR where
 s:Int
 l:Rat
 r:Rat
 o:Rat
 i:Rat
 deriving Inhabited
abbrev OpR.v (x:OpR):Value:=Im x.s (Ac x.l) (Ac x.r) (Ac x.o) (Ac x.i)
structure OpR.OK (x:OpR):Prop where
 ol:okQ x.l
 or:okQ x.r
 oo:okQ x.o
 oi:okQ x.i
 ll:(Ac x.l).length<=8
 lr:(Ac x.r).length<=8
 lo:(Ac x.o).length<=8
 li:(Ac x.i).length<=8
 h1:x.l<x.r
 h2:x.o<x.i
def ovl (a b:OpR):Bool:=decide (a.s=b.s/\a.l<b.r/\b.l<a.r/\a.o<b.i/\b.o<a.i)
theorem NU (a b:OpR) (ha:a.OK) (hb:b.OK) (W:World) (hv:AH W) (ht:A9 W):
  Ae Tryz.prog 84 #[a.v,b.v] W (fun _:Unit=> .bool (ovl a b)) (fun _=>True) (fun _=>[]):=by
 have zz: ∀ {q:Rat},(Ac q).length<=8->szQ q 8:=fun h=>Jo h (by decide)
 have s1:Sz2 a.l b.r:=sz2 (zz ha.ll) (zz hb.lr) (by decide)
 have s2:Sz2 b.l a.r:=sz2 (zz hb.ll) (zz ha.lr) (by decide)
 have s3:Sz2 a.o b.i:=sz2 (zz ha.lo) (zz hb.li) (by decide)
 have s4:Sz2 b.o a.i:=sz2 (zz hb.lo) (zz ha.li) (by decide)
 refine Ab Tryz.func84 I I I<|xb<|wF I I fun _=>wF I I fun _=>wP I<|xf<|wP I<|wB 0 I I I<|wP I<|wB 1 I I I<|wP I<|?_
 by_cases h1:a.s=b.s
 rotate_left
 ·refine wU 9 false I (beq_eq_false_iff_ne.2 h1)<|wP I<|?_
  iterate 6 refine Af I I ?_
  refine Aa I<|?_
  iterate 6 refine Af I I ?_
  refine Aa I<|?_
  iterate 6 refine Af I I ?_
  refine Aa I<|?_
  iterate 6 refine Af I I ?_
  exact Aa I<|xc<|wR1 I I (congrArg Value.bool (dF fun h=>h1 h.1).symm)
 refine wU 9 true I (beq_iff_eq.2 h1)<|Aa I<|wB 0 I I I<|wP I<|wB 1 I I I<|wC I I (fun W1 hp=>Cq a.l b.r s1 W1 (hv.hp hp) (ht.hp hp))<|wP I<|?_
 by_cases h2:a.l<b.r
 rotate_left
 ·refine wU 16 false I ((Cc _ _).trans (dF h2))<|Aa I<|?_
  iterate 6 refine Af I I ?_
  refine Aa I<|?_
  iterate 6 refine Af I I ?_
  refine Aa I<|?_
  iterate 6 refine Af I I ?_
  exact Aa I<|xc<|wR1 I I (congrArg Value.bool (dF fun h=>h2 h.2.1).symm)
 refine wU 16 true I ((Cc _ _).trans (dT h2))<|Ad I<|wB 1 I I I<|wP I<|wB 0 I I I<|wC I I (fun W1 hp=>Cq b.l a.r s2 W1 (hv.hp hp) (ht.hp hp))<|wP I<|?_
 by_cases h3:b.l<a.r
 rotate_left
 ·refine wU 24 false I ((Cc _ _).trans (dF h3))<|Aa I<|?_
  iterate 6 refine Af I I ?_
  refine Aa I<|?_
  iterate 6 refine Af I I ?_
  exact Aa I<|xc<|wR1 I I (congrArg Value.bool (dF fun h=>h3 h.2.2.1).symm)
 refine wU 24 true I ((Cc _ _).trans (dT h3))<|Ad I<|wB 0 I I I<|wP I<|wB 1 I I I<|wC I I (fun W1 hp=>Cq a.o b.i s3 W1 (hv.hp hp) (ht.hp hp))<|wP I<|?_
 by_cases h4:a.o<b.i
 rotate_left
 ·refine wU 32 false I ((Cc _ _).trans (dF h4))<|Aa I<|?_
  iterate 6 refine Af I I ?_
  exact Aa I<|xc<|wR1 I I (congrArg Value.bool (dF fun h=>h4 h.2.2.2.1).symm)
 refine wU 32 true I ((Cc _ _).trans (dT h4))<|Ad I<|wB 1 I I I<|wP I<|wB 0 I I I<|wC I I (fun W1 hp=>Cq b.o a.i s4 W1 (hv.hp hp) (ht.hp hp))<|wP I<|?_
 by_cases h5:b.o<a.i
 rotate_left
 ·exact wU 40 false I ((Cc _ _).trans (dF h5))<|Aa I<|xc<|wR1 I I (congrArg Value.bool (dF fun h=>h5 h.2.2.2.2).symm)
 exact wU 40 true I ((Cc _ _).trans (dT h5))<|Aa I<|xc<|wR1 I I (congrArg Value.bool (dT ⟨h1,h2,h3,h4,h5⟩).symm)
def eP (W:World) (p:Option Addr) (L:List OpR):Prop:=L=[]\/ ∃g off,p=some ⟨g,off,none⟩/\ ∀i (hi:i<L.length),Aj W g (off+i*5) (L[i]).v.cells.toList
theorem eP.row {W:World} {p:Option Addr} {L:List OpR} (h:eP W p L) {i:Nat} (hi:i<L.length): ∃g off,p=some ⟨g,off,none⟩/\ ∀k (hk:k<L.length),Aj W g (off+k*5) (L[k]).v.cells.toList:=by
 rcases h with rfl|h
 ·exact absurd hi (Nat.not_lt_zero _)
 ·exact h
def djt (L:List OpR):Bool:=decide (∀i,i<L.length-> ∀j,j<i->ovl (L.getD i default) (L.getD j default)=false)
def djK (L:List OpR) (i:Nat):Prop:= ∀i',i'<i-> ∀j,j<i'->ovl (L.getD i' default) (L.getD j default)=false
theorem opg {L:List OpR} {i:Nat} (h:i<L.length):L.getD i default=L[i]:=by rw[List.getD_eq_getElem?_getD,List.getElem?_eq_getElem h];rfl
theorem d8 {L:List OpR} {i j:Nat} (hi:i<L.length) (hj:j<i) (h:ovl L[i] (L[j]'(by omega))=true):djt L=false:=by
 refine dF fun hh=> ?_
 have:=hh i hi j hj
 rw[opg hi,opg (by omega),h] at this
 cases this
theorem aW {L:List OpR} (h:djK L L.length):djt L=true:=dT h
abbrev opB (b:Nat) (x:OpR):Bx:=⟨b,41,x.v.cells.toList,true,none⟩
theorem Tq (L:List OpR) (hL: ∀x∈L,x.OK) (hn:L.length<=32) (p:Option Addr) (cap:Nat) (hcap:L.length<=cap) (W:World) (hA:eP W p L) (hv:AH W) (ht:A9 W):
  Ae Tryz.prog 44 #[slv p L.length cap] W (fun _:Unit=> .tuple #[.bool (djt L), .int .i64 0]) (fun _=>True) (fun _=>[]):=by
 refine Ab Tryz.func44 I I I<|xb<|Aa I<|xk<|Ad I<|wU 13 false I (dF (by omega))<|xa<|zS I<|xe<|xd<|Ad I<|?_
 refine xa<|zH<|Av (X:=Nat) (fun i=>[(0,slv p L.length cap),(2, .bool false),(3, .int .i64 0),(14,slv p L.length cap),(15, .int .i64 (L.length:Nat)),(16, .int .i64 (i:Nat))]) (fun _=>[]) (fun i=>i<=L.length) (fun i=>L.length-i) 0 (Nat.zero_le _) ⟨I,I,I,I,I,I,tO⟩ [] I ?_
 intro i hi
 have hi:i<=L.length:=hi
 refine xb<|wP I<|?_
 by_cases hlt:i<L.length
 ·refine wU 17 true I (dT (by omega))<|xl<|zR I<|xh<|?_
  obtain⟨g,off,rfl,hrow⟩:=hA.row hlt
  have hr:=hrow i hlt
  have hx:=hL L[i] (List.getElem_mem _)
  obtain⟨x,hxe⟩: ∃x,x=L[i]:=⟨_,rfl⟩
  rw[<-hxe] at hr hx
  refine wJ ?_
  refine wL 0 I I (fun W1 hp=>hr.hp hp) I<|wG I I fun _=>wS 0 I I I<|zC<|?_
  rename_i b5
  exact xn<|wB 0 I I I<|wC I I (fun W1 hp=>JU x.s x.l x.r x.o x.i hx.ol hx.or hx.oo hx.oi hx.ll hx.lr hx.lo hx.li hx.h1 hx.h2 W1 (hv.hp hp) (ht.hp hp))<|wP I<|xf<|Aa I<|xa<|zS I<|zI<|xi<|wP I<|wV 25 ((i+1:Nat):Int) I (A0 (by omega))<|wP I<|zC<|Al (i+1) hlt (by show L.length-(i+1)<L.length-i;omega) ⟨I,I,I,I,I,I,tO⟩ [_] I
 refine wU 17 false I (dF (by omega))<|xl<|zS I<|xg<|zE<|xd<|?_
 clear hi hlt
 refine Ad I<|xa<|zH<|Av (X:=Nat) (fun i=>[(0,slv p L.length cap),(2, .bool false),(3, .int .i64 0),(26,slv p L.length cap),(27, .int .i64 (L.length:Nat)),(28, .int .i64 (i:Nat))]) (fun _=>[]) (fun i=>i<=L.length/\djK L i) (fun i=>L.length-i) 0 ⟨Nat.zero_le _,fun i' hi'=>absurd hi' (Nat.not_lt_zero _)⟩ ⟨I,I,I,I,I,I,tO⟩ [] I ?_
 rintro i ⟨hi,hK⟩
 have hi:i<=L.length:=hi
 have hK:djK L i:=hK
 refine xb<|wP I<|?_
 by_cases hlt:i<L.length
 rotate_left
 ·exact wU 29 false I (dF (by omega))<|xl<|zS I<|xg<|xn<|Aa I<|xc<|wR2 I I (by rw[aW (by rw[show L.length=i by omega];exact hK)])
 refine wU 29 true I (dT (by omega))<|xl<|zR I<|xh<|?_
 obtain⟨g,off,rfl,hrow⟩:=hA.row hlt
 have hr:=hrow i hlt
 have hx:=hL L[i] (List.getElem_mem _)
 have hno: ∀j (hj:j<i),ovl L[i] (L[j]'(by omega))=true->djt L=false:=fun j hj h=>d8 hlt hj h
 have hgi:=opg hlt
 obtain⟨x,hxe⟩: ∃x,x=L[i]:=⟨_,rfl⟩
 rw[<-hxe] at hr hx hno hgi
 refine wP I<|wJ ?_
 refine wL 0 I I (fun W1 hp=>hr.hp hp) I<|wG I I fun _=>wP I<|wS 0 I I I<|zC<|?_
 rename_i b8
 refine xn<|Aa I<|BG i tH I I I I I I I I (by omega) ?_
 refine Aa I<|xa<|zH<|Av (X:=Nat) (fun j=>[(0,slv (some ⟨g,off,none⟩) L.length cap),(2, .bool false),(3, .int .i64 0),(8,Ai b8),(26,slv (some ⟨g,off,none⟩) L.length cap),(27, .int .i64 (L.length:Nat)),(28, .int .i64 (i:Nat)),(35,slv (some ⟨g,off,none⟩) i cap),(36, .int .i64 (i:Nat)),(37, .int .i64 (j:Nat))]) (fun _=>[opB b8 x]) (fun j=>j<=i/\ ∀j' (hj:j'<j) (hi:j'<i),ovl x (L[j']'(by omega))=false) (fun j=>i-j) 0 ⟨Nat.zero_le _,fun _ h=>absurd h (Nat.not_lt_zero _)⟩ ⟨I,I,I,I,I,I,I,I,I,I,tO⟩ [] I ?_
 rintro j ⟨hj,hF⟩
 have hj:j<=i:=hj
 have hF: ∀j' (hj:j'<j) (hi:j'<i),ovl x (L[j']'(by omega))=false:=hF
 refine xb<|wP I<|?_
 by_cases hlj:j<i
 rotate_left
 ·refine wU 38 false I (dF (by omega))<|xl<|zS I<|xg<|xi<|wP I<|wV 45 ((i+1:Nat):Int) I (A0 (by omega))<|wP I<|zC<|?_
  refine Al (i+1) ⟨hlt,fun i' hi' j' hj'=> ?_⟩ (by show L.length-(i+1)<L.length-i;omega) ⟨I,I,I,I,I,I,tO⟩ [_] I
  by_cases e:i'=i
  ·subst e
   rw[hgi,opg (by omega)]
   exact hF j' (by omega) (by omega)
  ·exact hK i' (by omega) j' hj'
 refine wU 38 true I (dT (by omega))<|xl<|zR I<|xh<|?_
 have hjL:j<L.length:=by omega
 have hr2:=hrow j hjL
 have hy:=hL L[j] (List.getElem_mem _)
 have hno:=hno j hlj
 have hF2: ∀b,ovl x L[j]=b->b=false-> ∀j' (hj:j'<j+1) (hi:j'<i),ovl x (L[j']'(by omega))=false:=fun b e eb j' h1 h2=>by
  by_cases e':j'=j
  ·subst e';rw[e,eb]
  ·exact hF j' (by omega) h2
 obtain⟨y,hye⟩: ∃y,y=L[j]:=⟨_,rfl⟩
 rw[<-hye] at hr2 hy hno hF2
 refine wJ ?_
 refine wL 0 I I (fun W1 hp=>hr2.hp hp) I<|wG I I fun _=>wS 1 I I I<|zC<|?_
 rename_i b10
 refine xn<|wB 0 I I I<|wB 1 I I I<|wC I I (fun W1 hp=>NU x y hx hy W1 (hv.hp hp) (ht.hp hp))<|xa<|Ag I (fun hov=> ?_) (fun hov=> ?_)
 ·have hov:ovl x y=true:=hov
  exact xb<|Aa I<|xc<|xj<|xj<|zP<|wR2 I I (by rw[hno hov])
 ·have hov:ovl x y=false:=hov
  exact zI<|xi<|wP I<|wV 44 ((j+1:Nat):Int) I (A0 (by omega))<|wP I<|zC<|Al (j+1) ⟨hlj,hF2 _ hov I⟩ (by show i-(j+1)<i-j;omega) ⟨I,I,I,I,I,I,I,I,I,I,tO⟩ [_] I
abbrev olB (b:Nat) (p:Option Addr) (n cap:Nat):Bx:=⟨b,57,[slv p n cap],true,none⟩
abbrev inB (b:Nat) (s:Int):Bx:=⟨b,3,[.int .i64 s],true,none⟩
theorem Q0 (p:Option Addr) (n cap:Nat) (s:Int) (W:World):Ae Tryz.prog 45 #[slv p n cap, .int .i64 s] W (fun b:Nat×Nat=> .func (.func 85) #[] #[Ai b.1,Ai b.2]) (fun _=>True) (fun b=>[olB b.1 p n cap,inB b.2 s]):=by
 refine Ab Tryz.func45 I I I<|xb<|wF I I fun _=>wF I I fun _=>wP I<|zC<|?_
 rename_i b1 b2
 exact xn<|Aa I<|xc<|A3 tH I (.tmp I) (b1,b2) I tO fun W1 hp=>Au.of_hp hp
structure OnN (b1 b2 g cap:Nat) (W:World):Prop where
 var:Aj W b1 0 [slv (some ⟨g,0,none⟩) 1 cap]
 sd:Aj W b2 0 [.int .i64 0]
 row:Aj W g 0 opE.cells.toList
abbrev WB (b:Nat):List (Nat×Obj):=[(b, .cells opE.cells 41 (0,0))]
theorem TH (b1 b2 g cap:Nat):Qq Tryz.prog 85 [Ai b1,Ai b2] 1 (fun _=>[opE]) (fun _=>OnN b1 b2 g cap):=by
 refine⟨fun y J Jx hN hB hA hU hY W hJ=> ?_⟩
 refine Da (args:=[.func (.yield y) #[] #[],Ai b1,Ai b2]) (J0:=J 0 []) (Jm:=fun W=> ∃L,J 1 L W) Tryz.func85 I I I hJ ?_
 refine xb<|wL 0 I I (fun W hp=>(hN _ _ W hp).1.var) I<|Aa I<|xa<|zH<|?_
 refine Di (X:=Nat×List (Nat×Obj)) (fun s=>[(0, .func (.yield y) #[] #[]),(1,Ai b1),(2,Ai b2),(6,slv (some ⟨g,0,none⟩) 1 cap),(7, .int .i64 1),(8, .int .i64 (s.1:Nat))]) (fun s W=>J s.1 s.2 W)
  (fun s=>s.1<=1) (fun s=>1-s.1) (0,[]) (Nat.zero_le _) ⟨rfl,rfl,rfl,rfl,rfl,rfl,trivial⟩ (fun W hp=>hp) ?_
 rintro⟨i,L⟩ hi
 have hi:i<=1:=hi
 refine xb<|wP I<|?_
 by_cases hlt:i<1
 rotate_left
 ·have e:i=1:=by omega
  subst e
  exact Ap 9 (.bool false) I I<|xl<|zS I<|xg<|FK I fun W hp=>⟨L,hp⟩
 have e:i=0:=by omega
 subst e
 refine Ap 9 (.bool true) I I<|xl<|zR I<|xh<|wI I I (by show(0:Int)<=0;decide) (by show(0:Int)<1;decide)<|wL 0 I I (fun W hp=>(hN _ _ W hp).1.row) I<|LA (fun b W=>J 0 [(b, .cells (Value.agg #[.int .i64 0,str [],str [],str [],str []]).cells 41 (0,0))] W) I I I (Tryz.hZ.get I) (fun W W' b hp hb hl ho=>hA _ _ W W' b _ hp hb hl ho) fun b=> ?_
 refine LU (cs:=[.int .i64 0,str [],str [],str [],str []]) (ty:=41) (fun W=>J 0 (WB b) W) tH I I I I I I (fun W hp=>(hN _ _ W hp).2 (b,_) (List.mem_cons_self ..)) I I I (fun W W' hp hu=>hU _ _ _ _ W W' hp hu) ?_
 refine xf<|?_
 have hown: ∀W,J 0 (WB b) W->Aj W b 0 opE.cells.toList:=fun W hp=>Aj.of_block ((hN _ _ W hp).2 (b,_) (List.mem_cons_self ..))
 refine wP I<|wL 0 I I (fun W hp=>hown W hp) I<|wL 0 I I (fun W hp=>(hN _ _ W hp).1.sd) I<|Ad I<|wL 0 I I (fun W hp=>hown W hp) I<|?_
 have hYk: ∀W,J 0 (WB b) W->YieldAt (Fw none) 0 Tryz.prog y [opE].toArray W fun e W'=>(e= .returned (.bool true)/\J 1 (WB b) W')\/(e= .returned (.bool false)/\Jx W'):=fun W h=>hY _ _ W hlt h
 refine E7 (A1:=fun W=>J 1 (WB b) W) (A2:=Jx) I I I I I I hYk ?_ ?_
 rotate_left
 ·exact Aa I<|xa<|zR I<|zO<|xj<|Cp I (fun W h=>h)
 exact Aa I<|xa<|zS I<|zI<|xi<|Aa I<|zC<|Dh (1,WB b) (Nat.le_refl _) (by show 0<1;decide) ⟨I,I,I,I,I,I,tO⟩ (fun W hp=>hp)
def eW:OpR:=⟨0,3,7,1,3⟩
theorem Zu:eW.OK:=⟨PO (q:=3) (by decide+kernel),PO (q:=7) (by decide+kernel),PO (q:=1) (by decide+kernel),PO (q:=3) (by decide+kernel),by show(Ac 3).length<=8;rw[nO3];decide,by show(Ac 7).length<=8;rw[nO7];decide,by show(Ac 1).length<=8;rw[nO1];decide,by show(Ac 3).length<=8;rw[nO3];decide,by decide+kernel,by decide+kernel⟩
theorem eR:Ac 25=[50,53]:=by decide+kernel
theorem g8:Ac 17=[49,55]:=by decide+kernel
abbrev XE (b:Nat) (s:List UInt8):Bx:=⟨b,25,[str s],true,none⟩
abbrev sfB (b:Nat) (x:SfX) (bT:Nat):Bx:=⟨b,88,(x.v bT).cells.toList,true,none⟩
abbrev rfB (b bR bT:Nat):Bx:=⟨b,54,(JI bR bT).cells.toList,true,none⟩
def smT (b:Bool):List UInt8:=if b then[50,53] else[48]
def smL:Nat->List UInt8
 |0=>[50,53]
 |_+1=>[49,55]
theorem Mv (bR bT g cap:Nat) (hcap:1<=cap) (W:World) (h:Oj W bR bT) (hg:Aj W g 0 opE.cells.toList) (hd:DC W) (hv:AH W) (ht:A9 W):
  Ae Tryz.prog 20 #[JI bR bT, .int .i64 0,slv (some ⟨g,0,none⟩) 1 cap] W (fun _:Unit=> .tuple #[str [49,55], .int .i64 0]) (fun _=>True) (fun _=>[]):=by
 have zz: ∀q:Rat,(q.num.natAbs<10^8/\q.den<10^8)->szQ q 8:=fun q hq=>hq
 have z1:=zz 1 (by decide+kernel)
 have z3:=zz 3 (by decide+kernel)
 have z7:=zz 7 (by decide+kernel)
 have e8:((7:Rat)-3)*(3-1)=8:=by decide+kernel
 have e25:S0.area f0=25:=by decide+kernel
 have e17:(25:Rat)-8=17:=by decide+kernel
 have hdj:djt [eW]=true:=by decide+kernel
 refine Ab Tryz.func20 I I I<|xb<|wF I I fun _=>wG I I fun _=>wG I I fun _=>zC<|?_
 rename_i b3 b6 b7
 refine xn<|wB 0 I I I<|wD (X:=SfX) I I (fun W1 hp=>M9 bR bT W1 (h.hp hp).r (h.hp hp).t (hd.hp hp) (hv.hp hp) (ht.hp hp)) ?_
 rintro x _
 obtain⟨X,hX⟩: ∃X,X=x:=⟨_,rfl⟩
 obtain⟨gF,cF,jF,gC,cC,jC,gA,cA,jA⟩:=x
 refine Ad I<|wG I I fun _=>wS 6 I I I<|wP I<|zC<|?_
 rename_i b8
 refine zE<|xd<|Aa I<|xa<|zS I<|xe<|xd<|Ak I<|wB 6 I I I<|Ad I<|zC<|?_
 refine zE<|zS I<|xm<|wP I<|?_
 refine wC I I (fun W1 hp=>(Tq [eW] (fun x hx=>by rw[List.mem_singleton.1 hx];exact Zu) (by decide) (some ⟨g,0,none⟩) cap hcap W1 (.inr ⟨g,0,I,fun i hi=>by
  have e:i=0:=by have hi:i<1:=hi;omega
  subst e
  exact hg.hp hp⟩) (hv.hp hp) (ht.hp hp)).cast (v':= .tuple #[.bool true, .int .i64 0]) (by rw[hdj])) ?_
 refine Ak I<|xk<|Aa I<|xa<|zS I<|xe<|xd<|Aa I<|wD (X:=Nat×Nat) I I (fun W1 _=>Q0 (some ⟨g,0,none⟩) 1 cap 0 W1) ?_
 rintro⟨c1,c2⟩ _
 refine xa<|zH<|?_
 refine EZ (X:=Unit) (fun _=>[rfB b3 bR bT,XE b6 [],erK b7 0,fbB gF jF,BT gC EF jC,arB gA gC cC jA,sfB b8 ⟨gF,cF,jF,gC,cC,jC,gA,cA,jA⟩ bT,olB c1 (some ⟨g,0,none⟩) 1 cap,inB c2 0])
  (fun _ _=>True) (fun _ _=>False) () rfl (by kernel_rfl) (TH c1 c2 g cap) (fun _=>rfl)
  trivial [] rfl (fun k x W1 _ hp=>⟨Aj.of_bx hp 7 rfl rfl,Aj.of_bx hp 8 rfl rfl,hg.hp hp⟩) ?_ ?_ (fun _ _ _ _ _ h=>h.elim)
 ·rintro k _ d l' rec L hk _ hrec
  refine zB<|wG I I fun _=>wS 12 I I I<|zC<|?_
  rename_i b11
  refine BU 11 hrec I ?_
  exact zH<|xb<|wB 7 I I I<|wB 12 I I I<|wC I I (fun W1 hp=>La ⟨gF,cF,jF,gC,cC,jC,gA,cA,jA⟩ bT W1 (SfP.of h hp 4 5 6 I I I) (hv.hp hp) (ht.hp hp))<|wP I<|xf<|Aa I<|xa<|zS I<|zI<|zN<|By 11 () hrec I tO [_] I
 rintro _ d1 l1 rec1 _
 refine zN<|zE<|xd<|Aa I<|xa<|zS I<|xm<|wG I I fun _=>wS 11 I I I<|zC<|?_
 rename_i b13
 refine zE<|xd<|wP I<|wB 0 I I I<|Aa I<|xa<|zH<|?_
 refine Av (X:=Bool) (fun b=>[(1, .int .i64 0),(2,slv (some ⟨g,0,none⟩) 1 cap),(3,Ai b3),(6,Ai b6),(7,Ai b7),(8,Ai b8),(13,Ai b13),(59,slv (some ⟨bT,0,none⟩) 1 1),(60, .int .i64 1),(61, .int .i64 (fN b))])
  (fun b=>[rfB b3 bR bT,XE b6 [],erK b7 0,fbB gF jF,BT gC EF jC,arB gA gC cC jA,sfB b8 ⟨gF,cF,jF,gC,cC,jC,gA,cA,jA⟩ bT,olB c1 (some ⟨g,0,none⟩) 1 cap,inB c2 0,BL d1,Bp l1 rec1 .exhausted none,XE b13 (smT b)])
  (fun _=>True) smM false trivial ⟨rfl,rfl,rfl,rfl,rfl,rfl,rfl,rfl,rfl,rfl,trivial⟩ [] rfl ?_
 intro b _
 cases b with
 |false=>
  refine xb<|wP I<|xl<|zR I<|xh<|wI I I (by decide) (by decide)<|wL 0 I I (fun W1 hp=>(h.hp hp).t) I<|wG I I fun _=>wS 12 I I I<|zC<|?_
  rename_i b15
  refine zE<|xd<|wP I<|wB 12 I I I<|Aa I<|xa<|zS I<|xe<|zA<|zU<|qP I<|qB 6 I I I<|qP I<|qI I I (by decide) (by decide)<|qL 0 I I (fun W1 hp=>RF hp 3 I) I<|qB 12 I I I<|qC I I (fun W1 hp=>(Rx f0 Ud 0 S0 cN (by decide+kernel) W1 (hv.hp hp) (ht.hp hp)).cast (v':= .tuple #[str [50,53], .int .i64 0]) (by rw[e25,eR]))<|GM I<|?_
  refine zD<|xk<|Aa I<|xa<|zS I<|xm<|wB 11 I I I<|wP I<|?_
  refine wC I I (fun W1 hp=>(show Ae Tryz.prog 36 #[str [48],str [50,53]] W1 (fun _:Unit=> .tuple #[str [50,53], .int .i64 0]) (fun _=>True) (fun _=>[]) by
   have h2:=C7 0 25 (eO (by decide+kernel)) W1 (hv.hp hp) (ht.hp hp)
   rwa [Rat.zero_add,nO0,eR] at h2)) ?_
  exact Ad I<|wS 11 I I I<|wP I<|xf<|Aa I<|xa<|zS I<|zI<|xi<|Aa I<|zC<|Al true tO (by decide) ⟨I,I,I,I,I,I,I,I,I,I,tO⟩ [_] I
 |true=>
 refine xb<|wP I<|xl<|zS I<|xg<|zE<|xd<|Aa I<|wD (X:=Nat×Nat) I I (fun W1 _=>Q0 (some ⟨g,0,none⟩) 1 cap 0 W1) ?_
 rintro⟨c3,c4⟩ _
 refine xa<|zH<|?_
 refine EZ (X:=Nat) (fun k=>[rfB b3 bR bT,XE b6 [],erK b7 0,fbB gF jF,BT gC EF jC,arB gA gC cC jA,sfB b8 ⟨gF,cF,jF,gC,cC,jC,gA,cA,jA⟩ bT,olB c1 (some ⟨g,0,none⟩) 1 cap,inB c2 0,BL d1,Bp l1 rec1 .exhausted none,XE b13 (smL k),olB c3 (some ⟨g,0,none⟩) 1 cap,inB c4 0])
  (fun j k=>k=j) (fun _ _=>False) 0 rfl (by kernel_rfl) (TH c3 c4 g cap) (fun _=>rfl)
  rfl [] rfl (fun k x W1 _ hp=>⟨Aj.of_bx hp 12 rfl rfl,Aj.of_bx hp 13 rfl rfl,hg.hp hp⟩) ?_ ?_ (fun _ _ _ _ _ h=>h.elim)
 ·rintro k x d l' rec L hk e1 hrec
  have hk:k=0:=by omega
  subst hk
  have e1:x=0:=e1
  subst e1
  refine zB<|wG I I fun _=>wS 17 I I I<|zC<|?_
  rename_i b18
  refine BU 16 hrec I ?_
  refine zH<|xb<|wB 17 I I I<|wC I I (fun W1 hp=>(JB 0 3 7 1 3 z3 z7 z1 z3 W1 (hv.hp hp) (ht.hp hp)).cast (v':= .tuple #[str [56], .int .i64 0]) (by rw[e8,nO8]))<|Ak I<|xk<|Aa I<|xa<|zS I<|xm<|?_
  refine wB 12 I I I<|wP I<|?_
  refine wC I I (fun W1 hp=>(show Ae Tryz.prog 37 #[str [50,53],str [56]] W1 (fun _:Unit=> .tuple #[str [49,55], .int .i64 0]) (fun _=>True) (fun _=>[]) by
   have h2:=C6 25 8 (eO (by decide+kernel)) W1 (hv.hp hp) (ht.hp hp)
   rwa [e17,eR,nO8,g8] at h2)) ?_
  exact Ad I<|wS 12 I I I<|wP I<|xf<|Aa I<|xa<|zS I<|zI<|zN<|By 16 1 hrec I I [_] I
 rintro x d2 l2 rec2 e1
 have e1:x=1:=e1
 subst e1
 refine zN<|xn<|wB 11 I I I<|wS 1 I I I<|wS 2 I I I<|xc<|Co 14 I ?_
 refine Co 9 I ?_
 exact A4 tH I (.cell 1 I I I I I) (.cell 2 I I I I I) () I tO fun W _=>Au.nil _ _
theorem nO2:Ac 2=[50]:=by decide+kernel
theorem nO4:Ac 4=[52]:=by decide+kernel
theorem nO5:Ac 5=[53]:=by decide+kernel
theorem U9:f0=frs [sqL] 0:=Option.some.inj (bX.symm.trans (K9 (by decide)))
theorem dL:opE= .agg #[.int .i64 0,str [51],str [55],str [49],str [51]]:=by unfold opE Im;rw[nO3,nO7,nO1]
theorem Zg:boE [sqL] 0 [53] [50] [50] 1 1=0:=by
 have e5:(rdR [53]).2=0:=by rw[<-nO5];exact congrArg Prod.snd (Dt (PO (by decide+kernel)))
 have e2:(rdR [50]).2=0:=by rw[<-nO2];exact congrArg Prod.snd (Dt (PO (by decide+kernel)))
 have hn:nrs [[53],[50],[50]]=0:=by
  unfold nrs ner ner ner ner
  rw[if_pos e5,if_pos e2,if_pos e2,if_neg (fun h=>h rfl),if_neg (by decide)]
 have q2:rdQ [50]=2:=by rw[<-nO2,Fp]
 unfold boE
 rw[if_neg (by decide),if_neg (by decide),if_neg (fun h=>h hn),q2,show(0:Int).toNat=0 from rfl, <-U9,if_neg (by
  rintro(h|h|h)
  ·exact absurd h (by decide+kernel)
  ·exact absurd h (by decide+kernel)
  ·cases h)]
theorem dJ:DmX [sqL] 0 [53] [50] [50] 1 1 f0 5 2 2:=
 ⟨by decide,by decide,U9,nO5.symm,nO2.symm,nO2.symm,by unfold szQ;decide+kernel,by unfold szQ;decide+kernel,by unfold szQ;decide+kernel,Ud,by decide+kernel,by decide+kernel,by decide,by decide,by rw[boV,if_pos Zg,U9];rfl⟩
theorem FO (W:World) (hd:DC W) (hv:AH W) (ht:A9 W):
  Ae Tryz.prog 7 #[] W (fun _:Unit=> .bool true) (fun _=>True) (fun _=>[]):=by
 have eZ:GJ 2 2 1 1=4:=by decide+kernel
 have eS:f0.spot 5 ((4-f0.st)*f0.sp)= .agg #[str [53],str [52],str [52]]:=by
  unfold FrP.spot
  rw[show f0.px 5 ((4-f0.st)*f0.sp)=5 by decide+kernel,show f0.py 5 ((4-f0.st)*f0.sp)=4 by decide+kernel,show f0.pz ((4-f0.st)*f0.sp)=4 by decide+kernel,nO5,nO4]
 refine Ab Tryz.func7 I I I<|xb<|wP I<|xf<|An Tryz.hZ tH I I I I I I I I ?_
 refine wG I I fun _=>wS 0 I I I<|zC<|?_
 rename_i b1
 refine Ym (bxs':=[⟨b1,41,opE.cells.toList,true,none⟩]) (by rw[dL];rfl) ?_
 refine zE<|zA<|?_
 refine AV (X:= { y:Nat×Nat×List Value//Vec.OK ⟨some y.1,y.2.1,y.2.2⟩ 3 4 (Fe exS) }) [false,true,false,false,false,false,false,false] (fun y=>[(1,Ai b1),(2,slv (some ⟨y.1.1,0,none⟩) 4 y.1.2.1),(3, .int .i64 0)])
  (fun y=>[⟨b1,41,opE.cells.toList,true,none⟩,⟨y.1.1,33,Fe exS++y.1.2.2,true,none⟩])
  7 [⟨b1,41,opE.cells.toList,true,none⟩] Tryz.mixed (by kernel_rfl) ?_ ?_
 ·refine qB 0 I I I<|BR<|wX<|wZ<|?_
  refine wD (X:=Nat×Nat×Nat) rfl rfl (fun W1 _=>FH W1) ?_;rintro⟨bS,bR,bT⟩ _
  refine zC<|Ah<|wX<|wZ<|?_
  refine wD (X:=Vec) rfl rfl (fun W1 hp=>Nx bR bT W1 ⟨D9 hp 1 2 rfl rfl,Aj.of_bx hp 3 rfl rfl⟩ (hd.hp hp) (hv.hp hp) (ht.hp hp)) ?_;rw[d9];rintro⟨pV,cV,jV⟩ hV;have hV:Vec.OK ⟨pV,cV,jV⟩ 3 4 (Fe exS):=hV;obtain⟨gV,rfl⟩: ∃g,pV=some g:=Option.ne_none_iff_exists'.1 (fun e=>absurd (hV.nil e) (by decide))
  refine zC<|Ah<|wX<|wZ<|wP I<|zC<|Ah<|wX<|RS.cons ?_ (RS.cons ?_ (RS.nil))
  ·refine wP I<|zC<|Ah<|wX<|RS.cons ?_ (RS.cons ?_ (RS.nil))
   ·refine wP I<|zC<|Ah<|wX<|wZ<|wP I<|zC<|Ah<|wX<|wZ<|wP I<|zC<|Ah<|?_
    refine AF I (by((repeat (first|refine AK.same ?_|refine AK.off I ?_));exact tO)) ?_
    exact A7 (⟨(gV,cV,jV),hV⟩: { y:Nat×Nat×List Value//Vec.OK ⟨some y.1,y.2.1,y.2.2⟩ 3 4 (Fe exS) }) ⟨I,I,I,tO⟩ [0,4] (by decide) I
   ·refine wP I<|zC<|Ah<|wX<|wZ<|wP I<|zC<|Ah<|wX<|wZ<|wP I<|zC<|Ah<|?_
    refine AF I (by((repeat (first|refine AK.same ?_|refine AK.off I ?_));exact tO)) ?_
    exact A7 (⟨(gV,cV,jV),hV⟩: { y:Nat×Nat×List Value//Vec.OK ⟨some y.1,y.2.1,y.2.2⟩ 3 4 (Fe exS) }) ⟨I,I,I,tO⟩ [0,4] (by decide) I
  ·refine wP I<|zC<|Ah<|wX<|wZ<|wP I<|zC<|Ah<|wX<|wZ<|wP I<|zC<|Ah<|wX<|wZ<|wP I<|zC<|Ah<|?_
   refine AF I (by((repeat (first|refine AK.same ?_|refine AK.off I ?_));exact tO)) ?_
   exact A7 (⟨(gV,cV,jV),hV⟩: { y:Nat×Nat×List Value//Vec.OK ⟨some y.1,y.2.1,y.2.2⟩ 3 4 (Fe exS) }) ⟨I,I,I,tO⟩ [0,4] (by decide) I
 rintro⟨⟨gV,cV,jV⟩,hV⟩
 refine zE<|zA<|?_
 refine AV (X:=Unit) [false,true,false,false,false,false,false,false,false] (fun _=>[(2,slv (some ⟨gV,0,none⟩) 4 cV),(3, .int .i64 0),(4,str [49,55]),(5, .int .i64 0)])
  (fun _=>[⟨gV,33,Fe exS++jV,true,none⟩])
  8 [⟨b1,41,opE.cells.toList,true,none⟩,⟨gV,33,Fe exS++jV,true,none⟩] Tryz.mixed (by kernel_rfl) ?_ ?_
 ·refine qB 0 I I I<|BR<|wX<|RS.cons ?_ (RS.cons ?_ (RS.nil))
  ·refine wD (X:=Nat×Nat×Nat) rfl rfl (fun W1 _=>FH W1) ?_;rintro⟨bS,bR,bT⟩ _
   refine zC<|Ah<|wX<|wZ<|As Tryz.hZ tH I I I I I I I I I I I fun bN=> ?_
   refine zC<|Ah<|wX<|wZ<|wC I I (fun W1 hp=>Mv bR bT bN 1 (by decide) W1 (by first|exact⟨D9 hp 2 3 I I,Aj.of_bx hp 4 I I⟩|exact⟨D9 hp 3 4 I I,Aj.of_bx hp 5 I I⟩) (by first|exact Aj.of_bx hp 5 I I|exact Aj.of_bx hp 2 I I) (hd.hp hp) (hv.hp hp) (ht.hp hp))<|zC<|Ah<|wX<|wZ<|wP I<|zC<|Ah<|wX<|RS.cons ?_ (RS.cons ?_ (RS.nil))
   ·refine wP I<|zC<|Ah<|wX<|RS.cons ?_ (RS.cons ?_ (RS.nil))
    ·refine wP I<|zC<|Ah<|wX<|wZ<|wP I<|zC<|Ah<|wX<|wZ<|wP I<|zC<|Ah<|?_
     refine AF I (by((repeat (first|refine AK.same ?_|refine AK.off I ?_));exact tO)) ?_
     exact A7 () ⟨I,I,I,I,tO⟩ [1] (by decide) I
    ·refine wP I<|zC<|Ah<|wX<|wZ<|wP I<|zC<|Ah<|wX<|wZ<|wP I<|zC<|Ah<|?_
     refine AF I (by((repeat (first|refine AK.same ?_|refine AK.off I ?_));exact tO)) ?_
     exact A7 () ⟨I,I,I,I,tO⟩ [1] (by decide) I
   ·refine wP I<|zC<|Ah<|wX<|wZ<|wP I<|zC<|Ah<|wX<|wZ<|wP I<|zC<|Ah<|wX<|wZ<|wP I<|zC<|Ah<|?_
    refine AF I (by((repeat (first|refine AK.same ?_|refine AK.off I ?_));exact tO)) ?_
    exact A7 () ⟨I,I,I,I,tO⟩ [1] (by decide) I
  ·refine As Tryz.hZ tH I I I I I I I I I I I fun bN=> ?_
   refine zC<|Ah<|wX<|wZ<|?_
   refine wD (X:=Nat×Nat×Nat) rfl rfl (fun W1 _=>FH W1) ?_;rintro⟨bS,bR,bT⟩ _
   refine zC<|Ah<|wX<|wZ<|wC I I (fun W1 hp=>Mv bR bT bN 1 (by decide) W1 (by first|exact⟨D9 hp 2 3 I I,Aj.of_bx hp 4 I I⟩|exact⟨D9 hp 3 4 I I,Aj.of_bx hp 5 I I⟩) (by first|exact Aj.of_bx hp 5 I I|exact Aj.of_bx hp 2 I I) (hd.hp hp) (hv.hp hp) (ht.hp hp))<|zC<|Ah<|wX<|wZ<|wP I<|zC<|Ah<|wX<|RS.cons ?_ (RS.cons ?_ (RS.nil))
   ·refine wP I<|zC<|Ah<|wX<|RS.cons ?_ (RS.cons ?_ (RS.nil))
    ·refine wP I<|zC<|Ah<|wX<|wZ<|wP I<|zC<|Ah<|wX<|wZ<|wP I<|zC<|Ah<|?_
     refine AF I (by((repeat (first|refine AK.same ?_|refine AK.off I ?_));exact tO)) ?_
     exact A7 () ⟨I,I,I,I,tO⟩ [1] (by decide) I
    ·refine wP I<|zC<|Ah<|wX<|wZ<|wP I<|zC<|Ah<|wX<|wZ<|wP I<|zC<|Ah<|?_
     refine AF I (by((repeat (first|refine AK.same ?_|refine AK.off I ?_));exact tO)) ?_
     exact A7 () ⟨I,I,I,I,tO⟩ [1] (by decide) I
   ·refine wP I<|zC<|Ah<|wX<|wZ<|wP I<|zC<|Ah<|wX<|wZ<|wP I<|zC<|Ah<|wX<|wZ<|wP I<|zC<|Ah<|?_
    refine AF I (by((repeat (first|refine AK.same ?_|refine AK.off I ?_));exact tO)) ?_
    exact A7 () ⟨I,I,I,I,tO⟩ [1] (by decide) I
 intro _
 refine xn<|wD (X:=Nat×Nat×Nat) I I (fun W1 _=>FH W1) ?_
 rintro⟨bS,bR,bT⟩ _
 refine wP I<|An Tryz.hZ tH I I I I I I I I ?_
 refine wC I I (fun W1 hp=>(FB W1 (some ⟨bR,0,none⟩) 1 [sqL] (by decide) (D9 hp 1 2 I I) Ks (hd.hp hp) (hv.hp hp) (ht.hp hp) 0 1 1 [53] [50] [50] (by decide) (by decide) (by decide) Zg f0 5 2 2 dJ).cast (v':= .tuple #[str [52], .agg #[str [53],str [52],str [52]], .int .i64 0]) (by rw[eZ,eS,nO4]))<|At I<|wG I I fun _=>wP I<|wS 4 I I I<|wP I<|zC<|?_
 rename_i b7
 refine xn<|AE I<|wP I<|?_
 iterate 4 refine An Tryz.hZ tH I I I I I I I I ?_
 refine As Tryz.hZ tH I I I I I I I I I I I fun bN=> ?_
 refine wC I I (fun W1 hp=>IQ exS (by decide) (some ⟨gV,0,none⟩) (some ⟨bN,0,none⟩) cV 4 W1 (Qc.of_row (junk:=jV) (Aj.of_bx hp 0 I I)) (Qc.of_row (junk:=[]) (Aj.of_bx hp 5 I I)))<|At I<|wU 47 true I ((AW _ _).trans (dT I))<|At I<|wU 51 true I ((AW _ _).trans (dT I))<|Aa I<|wB 4 I I I<|An Tryz.hZ tH I I I I I I I I ?_
 refine Wg [53] [52] [52] [53] [52] [52] I I I I I ?_
 exact wU 56 true I (dT ⟨I,I,I⟩)<|Aa I<|xc<|wR1 I I I
theorem Wf {V:Vec} {L:List SpS} (h:V.OK 3 L.length (Fe L)): ∃p cap,V.val L.length=slv p L.length cap/\ ∀ {W0 W:World} {bxs:List Bx},Hp W0 bxs W-> ∀k,nth bxs k=some (V.bx 33 (Fe L))->Qc W p L:=by
 obtain⟨pV,cV,jV⟩:=V
 cases pV with
 |none=>
  have h0:=h.nil rfl
  have hL:L=[]:=List.length_eq_zero_iff.1 h0
  exact⟨none,0,by rw[h0];rfl,fun _ _ _=> .inl hL⟩
 |some g=>exact⟨some ⟨g,0,none⟩,cV,rfl,fun hp k hk=>Qc.of_row (junk:=jV) (Aj.of_bx hp k hk rfl)⟩
theorem Ox (W:World) (p:Option Addr) (cap:Nat) (rs:List (List Sd)) (k:PlC W p rs) (s a b:Int) (x h e y:List UInt8):
  Ae Tryz.prog 3 #[B0 p rs.length cap,dmS s x h e a b,str y] W (fun _:Unit=> .bool true) (fun _=>True) (fun _=>[]):=by
 have hn:=k.n
 have hT:=k.T
 refine Ab Tryz.func3 I I I<|xb<|wF I I fun _=>wF I I fun _=>wP I<|xk<|wB 0 I I I<|wC I I (fun W1 hp=>Tm W1 p cap rs 8 (by omega) (by omega) ((k.hp hp).R))<|wP I<|?_
 by_cases hg:grt rs 8=true
 ·refine wU 27 true I hg ?_
  iterate 2 refine Af I I ?_
  refine Aa I<|?_
  iterate 2 refine Af I I ?_
  exact wP I<|xa<|zR I<|xb<|wC I I (fun W1 hp=>FO W1 (k.hp hp).d (k.hp hp).v (k.hp hp).t)<|wP I<|xo<|wR1 I I I
 have hg:grt rs 8=false:=by simpa using hg
 refine wU 27 false I hg<|wB 1 I I I<|wC I I (fun W1 _=>PV s a b x h e W1)<|?_
 by_cases hl:(lgS 20 x||lgS 20 h||lgS 20 e)=true
 ·refine wU 29 true I hl<|Aa I<|?_
  iterate 2 refine Af I I ?_
  exact wP I<|xa<|zR I<|xb<|wC I I (fun W1 hp=>FO W1 (k.hp hp).d (k.hp hp).v (k.hp hp).t)<|wP I<|xo<|wR1 I I I
 have hl:(lgS 20 x||lgS 20 h||lgS 20 e)=false:=by simpa using hl
 refine wU 29 false I hl<|Ad I<|wC I I (fun W1 _=>Qa y W1)<|?_
 by_cases hy:lgS 30 y=true
 ·exact wU 33 true I hy<|wP I<|xa<|zR I<|xb<|wC I I (fun W1 hp=>FO W1 (k.hp hp).d (k.hp hp).v (k.hp hp).t)<|wP I<|xo<|wR1 I I I
 have hy:lgS 30 y=false:=by simpa using hy
 refine wU 33 false I hy<|wP I<|xa<|zS I<|xm<|?_
 rw[Bool.or_eq_false_iff,Bool.or_eq_false_iff] at hl
 have lx:=Sa hl.1.1
 have lh:=Sa hl.1.2
 have le:=Sa hl.2
 have ly:=Sa hy
 obtain⟨z,q1,q2,q3,er,hRi⟩:=X4 rs s a b x h e (by omega) (by omega) (by omega)
 obtain⟨L,ev,hL3,hVa⟩:=a8 rs s a b x h e (by omega) (by omega) (by omega)
 obtain⟨s',ol,or,oo,oi,eo,hOp⟩:=WA rs s a b x h e y (by omega) (by omega) (by omega) (by omega)
 obtain⟨c,ec,hCh⟩:=W4 rs s a b x h e y (by omega) (by omega) (by omega) (by omega)
 refine wB 0 I I I<|wB 1 I I I<|wC I I (fun W1 hp=>(hRi W1 p cap (k.hp hp)).1)<|At I<|wG I I fun _=>wP I<|wS 2 I I I<|wP I<|xf<|wB 0 I I I<|wB 1 I I I<|wC I I (fun W1 hp=>(hRi W1 p cap (k.hp hp)).2)<|At I<|wG I I fun _=>wP I<|?_
 refine wS 3 I I I<|wP I<|xf<|wB 0 I I I<|wB 1 I I I<|wD (X:=Vec) I I (fun W1 hp=>(hVa W1 p cap (k.hp hp)).1) ?_
 intro V hV
 obtain⟨pV,cV,hVv,hVr⟩:=Wf (V:=V) hV
 rw[hVv]
 refine Ak I<|xf<|wB 0 I I I<|wB 1 I I I<|wD (X:=Vec) I I (fun W1 hp=>(hVa W1 p cap (k.hp hp)).2) ?_
 intro U hU
 obtain⟨pU,cU,hUv,hUr⟩:=Wf (V:=U) hU
 rw[hUv]
 refine Ak I<|xf<|wB 0 I I I<|wB 1 I I I<|wP I<|wC I I (fun W1 hp=>(hOp W1 p cap (k.hp hp)).1)<|Ad I<|wG I I fun _=>wS 6 I I I<|wP I<|xf<|wB 0 I I I<|?_
 refine wB 1 I I I<|wP I<|wC I I (fun W1 hp=>(hOp W1 p cap (k.hp hp)).2)<|Ad I<|wG I I fun _=>wS 7 I I I<|wP I<|xf<|wB 0 I I I<|wB 1 I I I<|wP I<|wC I I (fun W1 hp=>(hCh W1 p cap (k.hp hp)).1)<|Ak I<|xa<|?_
 refine xb<|wB 0 I I I<|wB 1 I I I<|wP I<|wC I I (fun W1 hp=>(hCh W1 p cap (k.hp hp)).2)<|Ak I<|xf<|Ad I<|wU 92 true I ((AW _ _).trans (dT I))<|wP I<|wB 2 I I I<|wB 3 I I I<|Wg q1 q2 q3 q1 q2 q3 I I I I I ?_
 refine wU 96 true I (dT ⟨I,I,I⟩)<|Ak I<|wU 101 true I (beq_iff_eq.2 I)<|At I<|wC I I (fun W1 hp=>IQ L (by omega) pV pU cV cU W1 (hVr hp 4 I) (hUr hp 5 I))<|Ak I<|wU 111 true I (beq_iff_eq.2 I)<|Aa I<|wB 6 I I I<|wB 7 I I I<|ZB s' ol or oo oi I I I I I ?_
 refine Ak I<|wU 121 true I (beq_iff_eq.2 I)<|Ak I<|wU 126 true I ((AW _ _).trans (dT I))<|Ak I<|wU 131 true I (beq_iff_eq.2 I)<|Aa I<|wC I I (fun W1 hp=>FO W1 (k.hp hp).d (k.hp hp).v (k.hp hp).t)<|Aa I<|zC<|?_
 exact zE<|zO<|wR1 I I I
end
section
open Go Go.RowKit Go.Am Go.ChangeShapes Go.WideShapes Go.Deep
set_option maxRecDepth 10000
theorem c42:Tryz.prog.cellsOf 82=7:=by kernel_rfl
theorem c27:Tryz.prog.cellsOf 48=1:=by kernel_rfl
theorem c24:Tryz.prog.cellsOf 24=1:=by kernel_rfl
theorem c22:Tryz.prog.cellsOf 22=1:=by kernel_rfl
theorem c3:Tryz.prog.cellsOf 3=1:=by kernel_rfl
theorem c4:Tryz.prog.cellsOf 4=1:=by kernel_rfl
theorem Pr {H:Type} (d:DataW H):1<=Rows.uptoBulk d:=by
 cases d with
 |lit l=>cases l<;>simp[Rows.uptoBulk]
 |nil=>simp[Rows.uptoBulk]
 |ptr d=>simp[Rows.uptoBulk]
 |slice elems spare=>simp[Rows.uptoBulk]
 |agg parts=>simp[Rows.uptoBulk]
 |iface t d=>simp[Rows.uptoBulk]
 |map entries=>simp[Rows.uptoBulk]
 |held h=>simp[Rows.uptoBulk]
theorem XB {H:Type} (l:List (DataW H)):l.length<=Rows.uptoBulkAll l:=by
 induction l with
 |nil=>simp[Rows.uptoBulkAll]
 |cons x r ih=>have:=Pr x;simp only[Rows.uptoBulkAll,List.length_cons];omega
theorem X8 {H:Type} {A:Type} (L:A->Nat) (D:A->DataW H) (is:List A) (h: ∀i,i∈is->L i+1<=Rows.uptoBulk (D i)):
  (is.map L).sum+is.length<=Rows.uptoBulkAll (is.map D):=by
 induction is with
 |nil=>simp[Rows.uptoBulkAll]
 |cons x r ih=>
  have h1:=h x (.head _)
  have h2:=ih fun i hi=>h i (.tail _ hi)
  simp only[List.map_cons,List.sum_cons,List.length_cons,Rows.uptoBulkAll]
  omega
theorem Nz {H:Type} (e s:List (DataW H)):Rows.uptoBulkAll e+1<=Rows.uptoBulk (.slice e s):=by
 simp only[Rows.uptoBulk];omega
theorem Um {w:World} {a:Addr} {v:Value} (h:w.cell? a=some v):a.spot=none/\a.block<w.heap.size:=by
 unfold World.cell? at h
 split at h
 ·rename_i hb
  refine⟨?_, ?_⟩
  ·cases hs:a.spot with
   |none=>rfl
   |some k=>simp[hs] at h
  ·exact(Array.getElem?_eq_some_iff.1 hb).1
 ·cases h
theorem KM {w:World} {base n:Nat} {a:Addr} {cs:List Value} (h:w.cells? base a n=some cs) (hn:0<n):a.spot=none/\Aj w a.block a.off cs:=by
 obtain⟨_,hl,hg⟩:=World.cells?_some h
 have h0:=hg 0 hn
 have hv:cs[0]? =some cs[0]:=List.getElem?_eq_getElem (by omega)
 rw[hv] at h0
 have hp:=Um h0
 have hs:a.spot=none:=by simpa[Addr.add] using hp.1
 refine⟨hs,⟨by simpa[Addr.add] using hp.2,fun j x hx=> ?_⟩⟩
 have hj:j<n:=by rw[<-hl];exact(List.getElem?_eq_some_iff.1 hx).1
 rw[<-hx, <-hg j hj]
 congr 1
 unfold Addr.add
 split
 ·subst_vars;cases a;simp_all
 ·rfl
theorem VG {a:Addr} (hs:a.spot=none) (n:Nat):a.add n=⟨a.block,a.off+n,none⟩:=by
 unfold Addr.add
 split
 ·subst_vars;cases a;simp_all
 ·rfl
def Sd.in64 (s:Sd):Prop:= ∀z∈[s.x,s.y,s.rise,s.run,s.plate,s.over], -9223372036854775808<=z/\z<=9223372036854775807
section
variable {H:Type} {enc:TypeId×Value->H} {w:World} {base:Nat} {spare:Nat->Bool} {held:Bool} {fuel:Nat} {cs:List Value} {x:DataW H×List MemPlace}
theorem aX (h:DataW.trod enc Tryz.prog w base spare held fuel 82 cs=some x): ∃s:Sd,cs=s.cells/\s.in64:=by
 obtain⟨xs,m,rfl,rfl,hl,hx,hf⟩:=DataW.trod_struct Tryz.underlying82 h
 rw[c42] at hl
 have g: ∀(i:Nat) (o t:Nat) (f:Field),(match Tryz.prog.underlying 82 with|some (.struct fs)=>fs[i]? |_=>none)=some f->f.offset=o->f.type=t->
   ∃y,DataW.trod enc Tryz.prog w base spare held m t ((cs.drop o).take (Tryz.prog.cellsOf t))=some y:=by
  intro i o t f hi ho ht
  rw[Tryz.underlying82] at hi
  subst ho;subst ht
  have h1:=hf i f hi
  have h2:i<xs.length:=by rw[hx];exact(Array.getElem?_eq_some_iff.1 hi).1
  rw[List.getElem?_eq_getElem h2] at h1
  exact⟨_,h1⟩
 match cs,hl with
 |[v0,v1,v2,v3,v4,v5,v6],_=>
  have gi: ∀(i o:Nat) (f:Field) (v:Value),(match Tryz.prog.underlying 82 with|some (.struct fs)=>fs[i]? |_=>none)=some f->f.offset=o->f.type=3->([v0,v1,v2,v3,v4,v5,v6].drop o).take 1=[v]->
    ∃z,v= .int .i64 z/\ -9223372036854775808<=z/\z<=9223372036854775807:=by
   intro i o f v h1 h2 h3 h4
   obtain⟨y,hy⟩:=g i o 3 f h1 h2 h3
   rw[c3,h4] at hy
   obtain⟨z,e1,_,hw⟩:=DataW.trod_int Tryz.underlying3 hy
   refine⟨z,by simpa using e1, ?_⟩
   simpa[Lit.wf,IntKind.min,IntKind.max,IntKind.signed,IntKind.bits] using hw
  obtain⟨z0,rfl,b0⟩:=gi 0 0 _ v0 (by rw[Tryz.underlying82];rfl) rfl rfl rfl
  obtain⟨z1,rfl,b1⟩:=gi 1 1 _ v1 (by rw[Tryz.underlying82];rfl) rfl rfl rfl
  obtain⟨z2,rfl,b2⟩:=gi 2 2 _ v2 (by rw[Tryz.underlying82];rfl) rfl rfl rfl
  obtain⟨z3,rfl,b3⟩:=gi 3 3 _ v3 (by rw[Tryz.underlying82];rfl) rfl rfl rfl
  obtain⟨z5,rfl,b5⟩:=gi 5 5 _ v5 (by rw[Tryz.underlying82];rfl) rfl rfl rfl
  obtain⟨z6,rfl,b6⟩:=gi 6 6 _ v6 (by rw[Tryz.underlying82];rfl) rfl rfl rfl
  obtain⟨y4,hy4⟩:=g 4 4 4 _ (by rw[Tryz.underlying82];rfl) rfl rfl
  rw[c4] at hy4
  obtain⟨z4,e4,_⟩:=DataW.trod_bool Tryz.underlying4 hy4
  obtain rfl:v4= .bool z4:=by simpa using e4
  refine⟨⟨z0,z1,z2,z3,z4,z5,z6⟩,I, ?_⟩
  intro z hz
  simp only[List.mem_cons,List.not_mem_nil,or_false] at hz
  rcases hz with rfl|rfl|rfl|rfl|rfl|rfl<;>assumption
theorem Wq (h:DataW.trod enc Tryz.prog w base spare held fuel 48 cs=some x):
  ∃(p:Option Addr) (cap:Nat) (l:List Sd),cs=[slv p l.length cap]/\Cg w p l/\(∀s∈l,s.in64)/\l.length+1<=Rows.uptoBulk x.1:=by
 rcases open_slice Tryz.underlying48 h with⟨rfl,rfl⟩|⟨a,len,cap,m,n,D,Pl,rfl,_,hl,_,hm,rfl,hx⟩
 ·exact⟨none,0,[],rfl, .inl rfl,(fun _ hs=>by cases hs),Pr _⟩
 have hlm:len<=m:=by rw[hm];split<;>omega
 obtain⟨S,hS⟩:=choose_lt (α:=Sd) (n:=len) (p:=fun i s=>w.cells? base (a.add (i*7)) 7=some s.cells/\s.in64) fun i hi=>by
  obtain⟨cs',h1,h2⟩:=hx i (by omega)
  rw[c42] at h1
  obtain⟨s,rfl,h3⟩:=aX h2
  exact⟨s,h1,h3⟩
 refine⟨some a,cap,(List.range len).map S,by simp, ?_, ?_, ?_⟩
 ·by_cases h0:len=0
  ·subst h0;exact .inl rfl
  ·have hs:a.spot=none:=by simpa[Addr.add] using(KM (hS 0 (by omega)).1 (by decide)).1
   refine .inr ⟨a.block,a.off,by cases a;simp_all,⟨fun i s hi=> ?_⟩⟩
   simp only[List.getElem?_map,Option.map_eq_some_iff] at hi
   obtain⟨k,hk,rfl⟩:=hi
   have hk':i<len/\k=i:=by
    have:=List.getElem?_eq_some_iff.1 hk
    obtain⟨h1,h2⟩:=this
    simp at h1 h2
    exact⟨h1,h2.symm⟩
   obtain⟨h1,rfl⟩:=hk'
   have:=(KM (hS k h1).1 (by decide)).2
   rwa [VG hs] at this
 ·intro s hs
  simp only[List.mem_map,List.mem_range] at hs
  obtain⟨i,hi,rfl⟩:=hs
  exact(hS i hi).2
 ·have h1:=XB ((List.range len).map D)
  have h2:=Nz ((List.range len).map D) ((List.range (m-len)).map fun j=>D (len+j))
  simp only[List.length_map,List.length_range] at h1⊢
  omega
theorem Vf (h:DataW.trod enc Tryz.prog w base spare held fuel 22 cs=some x):
  ∃(p:Option Addr) (cap:Nat) (rs:List (List Sd)),cs=[slv p rs.length cap]/\AL w p rs/\(∀l∈rs, ∀s∈l,s.in64)/\tot rs+rs.length+1<=Rows.uptoBulk x.1:=by
 rcases open_slice Tryz.underlying22 h with⟨rfl,rfl⟩|⟨a,len,cap,m,n,D,Pl,rfl,_,hl,_,hm,rfl,hx⟩
 ·exact⟨none,0,[],rfl, .inl rfl,(fun _ hs=>by cases hs),Pr _⟩
 have hlm:len<=m:=by rw[hm];split<;>omega
 obtain⟨L,hL⟩:=choose_lt (α:=List Sd) (n:=len) (p:=fun i l=> ∃q c,w.cells? base (a.add (i*1)) 1=some [slv q l.length c]/\Cg w q l/\(∀s∈l,s.in64)/\l.length+1<=Rows.uptoBulk (D i)) fun i hi=>by
  obtain⟨cs',h1,h2⟩:=hx i (by omega)
  rw[c27] at h1
  obtain⟨q,c,l,rfl,h3,h4,h5⟩:=Wq h2
  exact⟨l,q,c,h1,h3,h4,h5⟩
 refine⟨some a,cap,(List.range len).map L,by simp, ?_, ?_, ?_⟩
 ·by_cases h0:len=0
  ·subst h0;exact .inl rfl
  ·obtain⟨q0,c0,h00,_⟩:=hL 0 (by omega)
   have hs:a.spot=none:=by simpa[Addr.add] using(KM h00 (by decide)).1
   refine .inr ⟨a.block,a.off,by cases a;simp_all,⟨fun i l hi=> ?_⟩⟩
   simp only[List.getElem?_map,Option.map_eq_some_iff] at hi
   obtain⟨k,hk,rfl⟩:=hi
   have hk':i<len/\k=i:=by
    obtain⟨h1,h2⟩:=List.getElem?_eq_some_iff.1 hk
    simp at h1 h2
    exact⟨h1,h2.symm⟩
   obtain⟨h1,rfl⟩:=hk'
   obtain⟨q,c,h2,h3,_⟩:=hL k h1
   have:=(KM h2 (by decide)).2
   rw[VG hs] at this
   exact⟨q,c,this,h3⟩
 ·intro l hl'
  simp only[List.mem_map,List.mem_range] at hl'
  obtain⟨i,hi,rfl⟩:=hl'
  obtain⟨_,_,_,_,h3,_⟩:=hL i hi
  exact h3
 ·have h1:=X8 (fun i=>(L i).length) D (List.range len) fun i hi=>by
   obtain⟨_,_,_,_,_,h3⟩:=hL i (by simpa using hi)
   exact h3
  have h2:=Nz ((List.range len).map D) ((List.range (m-len)).map fun j=>D (len+j))
  simp only[tot,List.map_map,List.length_map,List.length_range] at h1⊢
  have h3:(List.range len).map (List.length∘L)=(List.range len).map fun i=>(L i).length:=rfl
  rw[h3]
  show _<=Rows.uptoBulk (DataW.slice _ _)
  omega
end
section
variable {H:Type} {enc:TypeId×Value->H} {w:World} {base:Nat} {spare:Nat->Bool} {held:Bool} {v:Value} {d:DataW H} {ps:List MemPlace}
theorem Xs {r:Reach} {b0:Nat} (hv:Value.okWide Tryz.prog w r b0 24 v) (h:DataW.Trod enc Tryz.prog w base spare held 24 v d ps):
  ∃(p:Option Addr) (cap:Nat) (rs:List (List Sd)),v=B0 p rs.length cap/\AL w p rs/\(∀l∈rs, ∀s∈l,s.in64)/\tot rs+rs.length+2<=Rows.uptoBulk d:=by
 obtain⟨cs,rfl,hc⟩:=okWide_struct Tryz.underlying24 hv
 obtain⟨fuel,hf⟩:=h
 obtain⟨xs,m,rfl,hx,hl,hn,hg⟩:=DataW.trod_struct Tryz.underlying24 hf
 rw[c24] at hc
 obtain⟨y0,rfl⟩: ∃y,xs=[y]:=by
  match xs,hn with
  |[y],_=>exact⟨y,rfl⟩
 have h0:DataW.trod enc Tryz.prog w base spare held m 22 (List.take (Tryz.prog.cellsOf 22) (List.drop 0 cs.toList))=some y0:=hg 0 _ rfl
 rw[c22] at h0
 obtain⟨c0,rfl⟩: ∃c,cs= #[c]:=by
  obtain⟨l⟩:=cs
  match l,hc with
  |[c],_=>exact⟨c,rfl⟩
 obtain⟨p,cap,rs,e1,e2,e3,e4⟩:=Vf h0
 simp only[Prod.mk.injEq] at hx
 obtain⟨rfl,_⟩:=hx
 refine⟨p,cap,rs, ?_,e2,e3, ?_⟩
 ·have:c0=slv p rs.length cap:=by simpa[Value.cells] using e1
  rw[this]
 ·simp only[List.map_cons,List.map_nil,Rows.uptoBulk,Rows.uptoBulkAll]
  have:y0.1=(y0:DataW H×List MemPlace).1:=rfl
  omega
end
end
section
open Go
noncomputable abbrev laidL:List (String×DataW Unit):=Rows.openingDormersRow.laid
end
section
open Go Go.RowKit Go.Am Go.ChangeShapes Go.WideShapes Go.Deep Go.ChangeAt
set_option maxRecDepth 100000
section
variable {H:Type} {enc:TypeId×Value->H} {w:World} {base:Nat} {spare:Nat->Bool} {held:Bool} {v:Value} {d:DataW H} {ps:List MemPlace}
end
theorem own:ownKnob Tryz.prog.godebug=none:=by kernel_rfl
theorem QN:laidOutB Tryz.prog=true:=by kernel_rfl
theorem Kv:(laidL.all fun x=>x.2.handleName?.isNone)=true:=by kernel_rfl
theorem T4 {W:World} (h:laidMetH Tryz.prog laidL W):A9 W:=by
 rw[MakeChecks.laidMetH_plain _ _ _ Kv] at h
 exact Lib.tabIs_of_head (g:=1) (t:=356) (e:=321) (n:=20) (by kernel_rfl) (by kernel_rfl) (by kernel_rfl) (by kernel_rfl) (by kernel_rfl) (by kernel_rfl) h.tail.tail
theorem eY {W:World} (hS:W.ShapedOpen Tryz.prog):AH W:=
 cell_of_shapedOpen_int (g:=4) (t:=3) (zero:= #[.int .i64 0]) hS (of_decide_eq_true (by kernel_rfl)) (by kernel_rfl) rfl (by kernel_rfl) (by kernel_rfl) Tryz.underlying3
noncomputable def witW (os:Os):World:=World.laidAll Tryz.prog os laidL
theorem Yj (os:Os) (args:Array Value):laidMetH Tryz.prog laidL ((witW os).forCall (fun _ _=>0) ⟨#[],args,[]⟩).memory:=by
 rw[MakeChecks.laidMetH_plain _ _ _ Kv]
 exact laidMet_laidAll _ (by kernel_rfl) (by kernel_rfl)
theorem U6 (os:Os) (args:Array Value):((witW os).forCall (fun _ _=>0) ⟨#[],args,[]⟩).Shaped Tryz.prog:=
 World.shaped_of_ZipB (by kernel_rfl) (by kernel_rfl)
theorem bM {H:Type} {enc:TypeId×Value->H} (os:Os) {f:FuncId} {fn:Func} {s:OpenSpec} {conds:List PathCond} (args:Array Value)
  (hok:Input.okWideB Tryz.prog ((witW os).forCall (fun _ _=>0) ⟨#[],args,[]⟩) f ⟨#[],args,[]⟩=true)
  (hrow:s.preRow enc Tryz.prog fn conds false laidL ((witW os).forCall (fun _ _=>0) ⟨#[],args,[]⟩).memory args):
  ∃(w:World) (tape:Tape) (i:Input),w.os=os/\(w.forCall tape i).Shaped Tryz.prog/\i.vars=[]/\Input.okWide Tryz.prog (w.forCall tape i) .any w.heap.size f i/\
   s.preRow enc Tryz.prog fn conds false laidL (w.forCall tape i).memory i.args/\({}:Assume).holds Tryz.prog (lone (Frame.enter Tryz.prog f i.args .normal) [] (w.forCall tape i)):=
 ⟨witW os,fun _ _=>0,⟨#[],args,[]⟩,World.laidAll_os _ _ _,U6 os args,(Input.okWide_of_okWideB (base:=0) hok).1,(Input.okWide_of_okWideB hok).2,hrow,by
  simp only[Assume.holds]
  exact⟨by simp,by simp,by simp,by simp,by simp,by simp⟩⟩
theorem f9:Tryz.prog.cellsOf 183=2:=by kernel_rfl
theorem fQ:Tryz.prog.cellsOf 184=8:=by kernel_rfl
theorem fU:Tryz.prog.cellsOf 4=1:=by kernel_rfl
theorem gQ:Tryz.prog.cellsOf 3=1:=by kernel_rfl
section
variable {H:Type} {enc:TypeId×Value->H} {w:World} {base:Nat} {spare:Nat->Bool} {held:Bool} {fuel:Nat} {cs:List Value} {x:DataW H×List MemPlace}
theorem KA (h:DataW.trod enc Tryz.prog w base spare held fuel 183 cs=some x): ∃(b:Bool) (z:Int),cs=[.bool b, .int .i64 z]/\x.1= .agg [.lit (.bool b), .lit (.int .i64 z)]:=by
 obtain⟨xs,m,rfl,rfl,hl,hn,hg⟩:=DataW.trod_struct Tryz.underlying183 h
 rw[f9] at hl
 match cs,hl with
 |[u,v],_=>
  match xs,hn with
  |[y0,y1],_=>
   have h0:DataW.trod enc Tryz.prog w base spare held m 4 (([u,v].drop 0).take (Tryz.prog.cellsOf 4))=some y0:=hg 0 _ rfl
   have h1:DataW.trod enc Tryz.prog w base spare held m 3 (([u,v].drop 1).take (Tryz.prog.cellsOf 3))=some y1:=hg 1 _ rfl
   rw[fU] at h0
   rw[gQ] at h1
   obtain⟨b,e0,f0⟩:=DataW.trod_bool Tryz.underlying4 h0
   obtain⟨z,e1,f1,_⟩:=DataW.trod_int Tryz.underlying3 h1
   refine⟨b,z, ?_, ?_⟩
   ·have a0:u= .bool b:=by simpa using e0
    have a1:v= .int .i64 z:=by simpa using e1
    rw[a0,a1]
   ·simp[f0,f1]
theorem WO (h:DataW.trod enc Tryz.prog w base spare held fuel 184 cs=some x) (hx:x.1= .agg [.agg [.lit (.bool false), .lit (.int .i64 1)], .agg [.lit (.bool true), .lit (.int .i64 (-1))], .agg [.lit (.bool false), .lit (.int .i64 (-1))], .agg [.lit (.bool true), .lit (.int .i64 1)]]):cs=dQ:=by
 obtain⟨xs,m,rfl,rfl,hl,hn,hg⟩:=DataW.trod_array Tryz.underlying184 h
 rw[fQ] at hl
 match cs,hl with
 |[a0,a1,a2,a3,a4,a5,a6,a7],_=>
  match xs,hn with
  |[y0,y1,y2,y3],_=>
   have h0:=hg 0 (by decide)
   have h1:=hg 1 (by decide)
   have h2:=hg 2 (by decide)
   have h3:=hg 3 (by decide)
   rw[f9] at h0 h1 h2 h3
   obtain⟨b0,z0,e0,f0⟩:=KA (x:=y0) h0
   obtain⟨b1,z1,e1,f1⟩:=KA (x:=y1) h1
   obtain⟨b2,z2,e2,f2⟩:=KA (x:=y2) h2
   obtain⟨b3,z3,e3,f3⟩:=KA (x:=y3) h3
   simp only[List.map_cons,List.map_nil,f0,f1,f2,f3,DataW.agg.injEq,List.cons.injEq,DataW.lit.injEq,Lit.bool.injEq,Lit.int.injEq,true_and,and_true] at hx
   obtain⟨⟨rfl,rfl⟩,⟨rfl,rfl⟩,⟨rfl,rfl⟩,⟨rfl,rfl⟩⟩:=hx
   simp at e0 e1 e2 e3
   obtain⟨rfl,rfl⟩:=e0
   obtain⟨rfl,rfl⟩:=e1
   obtain⟨rfl,rfl⟩:=e2
   obtain⟨rfl,rfl⟩:=e3
   rfl
end
theorem TA {W:World} (h:laidMetH Tryz.prog laidL W):DC W:=by
 rw[MakeChecks.laidMetH_plain _ _ _ Kv] at h
 obtain⟨ps,⟨g',t',cs,fuel,p,q,hg',ht',hvar,hd,_,_⟩,_⟩:=h.tail.tail.tail.tail.tail.tail
 obtain rfl := Option.some.inj ((show Tryz.prog.globalNamed "kingpost/front.directions" = some 0 by kernel_rfl).symm.trans hg')
 obtain rfl:=Option.some.inj ((show(Tryz.prog.globals[0]?).map (·.type)=some 184 by kernel_rfl).symm.trans ht')
 have e:=WO hd rfl
 have hc: ∀i u,dQ[i]? =some u->W.cell? ⟨0,i,none⟩=some u:=fun i u hu=>by
  rw[World.var?_cell hg' hvar i]
  rw[<-e] at hu
  simpa using hu
 refine⟨?_,fun m u hu=> ?_⟩
 ·obtain⟨c,ty,fr,h1,_⟩:=Sort.cells_of_cell? (hc 0 _ rfl)
  exact(Array.getElem?_eq_some_iff.1 h1).1
 ·rw[Nat.zero_add]
  exact hc m u hu
end
section
open Go Go.RowKit Go.Am Go.ChangeShapes Go.WideShapes Go.Deep
set_option maxRecDepth 10000
theorem fX:Tryz.prog.cellsOf 27=6:=by kernel_rfl
theorem gD:Tryz.prog.cellsOf 25=1:=by kernel_rfl
section
variable {H:Type} {enc:TypeId×Value->H} {w:World} {base:Nat} {spare:Nat->Bool} {held:Bool} {v:Value} {d:DataW H} {ps:List MemPlace}
theorem Oe {fuel:Nat} {u:Value} {x:DataW H×List MemPlace} (h:DataW.trod enc Tryz.prog w base spare held fuel 25 [u]=some x): ∃b:List UInt8,u=str b/\Rows.uptoBulk x.1=b.length+1:=by
 obtain⟨s,e,hx,_⟩:=DataW.trod_string Tryz.underlying25 h
 refine⟨s.data.toList, ?_, ?_⟩
 ·have:u= .string s:=by simpa using e
  rw[this]
 ·rw[hx];simp[Rows.uptoBulk]
theorem QV {r:Reach} {b0:Nat} (hv:Value.okWide Tryz.prog w r b0 27 v) (h:DataW.Trod enc Tryz.prog w base spare held 27 v d ps):
  ∃(s a b:Int) (x y z:List UInt8),v=dmS s x y z a b/\x.length+y.length+z.length<=Rows.uptoBulk d:=by
 obtain⟨cs,rfl,hc⟩:=okWide_struct Tryz.underlying27 hv
 obtain⟨fuel,hf⟩:=h
 obtain⟨xs,m,rfl,hx,hl,hn,hg⟩:=DataW.trod_struct Tryz.underlying27 hf
 rw[fX] at hc
 obtain⟨x0,x1,x2,x3,x4,x5,rfl⟩: ∃x0 x1 x2 x3 x4 x5,xs=[x0,x1,x2,x3,x4,x5]:=by
  match xs,hn with
  |[a,b,c,d,e,f],_=>exact⟨a,b,c,d,e,f,rfl⟩
 obtain⟨l⟩:=cs
 match l,hc with
 |[v0,v1,v2,v3,v4,v5],_=>
  have h0:DataW.trod enc Tryz.prog w base spare held m 3 (List.take (Tryz.prog.cellsOf 3) [v0,v1,v2,v3,v4,v5])=some x0:=hg 0 _ rfl
  have h1:DataW.trod enc Tryz.prog w base spare held m 25 (List.take (Tryz.prog.cellsOf 25) [v1,v2,v3,v4,v5])=some x1:=hg 1 _ rfl
  have h2:DataW.trod enc Tryz.prog w base spare held m 25 (List.take (Tryz.prog.cellsOf 25) [v2,v3,v4,v5])=some x2:=hg 2 _ rfl
  have h3:DataW.trod enc Tryz.prog w base spare held m 25 (List.take (Tryz.prog.cellsOf 25) [v3,v4,v5])=some x3:=hg 3 _ rfl
  have h4:DataW.trod enc Tryz.prog w base spare held m 3 (List.take (Tryz.prog.cellsOf 3) [v4,v5])=some x4:=hg 4 _ rfl
  have h5:DataW.trod enc Tryz.prog w base spare held m 3 (List.take (Tryz.prog.cellsOf 3) [v5])=some x5:=hg 5 _ rfl
  rw[c3] at h0 h4 h5
  rw[gD] at h1 h2 h3
  obtain⟨a0,e0,_⟩:=DataW.trod_int Tryz.underlying3 h0
  obtain⟨a4,e4,_⟩:=DataW.trod_int Tryz.underlying3 h4
  obtain⟨a5,e5,_⟩:=DataW.trod_int Tryz.underlying3 h5
  obtain⟨s1,rfl,k1⟩:=Oe h1
  obtain⟨s2,rfl,k2⟩:=Oe h2
  obtain⟨s3,rfl,k3⟩:=Oe h3
  have e0:v0= .int .i64 a0:=by simpa using e0
  have e4:v4= .int .i64 a4:=by simpa using e4
  have e5:v5= .int .i64 a5:=by simpa using e5
  subst e0 e4 e5
  refine⟨a0,a4,a5,s1,s2,s3,I, ?_⟩
  have hd:d= .agg [x0.1,x1.1,x2.1,x3.1,x4.1,x5.1]:=(congrArg (·.1) hx)
  rw[hd]
  simp only[Rows.uptoBulk,Rows.uptoBulkAll,k1,k2,k3]
  omega
end
end
end Go.Proofs.YtlnjmcchddbogaaGreatDoor
