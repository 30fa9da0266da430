/-
  Lemmas that the theorem journalDamage_upto_card needs (part 6 of 8).
-/
import Derived.Test.YtidgbjcdppjknaaGreatDoorJde
import Derived.Maps.RangeRun
set_option maxHeartbeats 64000000
namespace Go.Proofs.YtidgbjcdppjknaaGreatDoor
section
open Go Go.RowKit Go.Am Go.Lib
set_option maxRecDepth 10000
theorem EF {oG B:Bx} {bj:Nat} {o:Obj} {bs:List Bx} (hB:B.blk=[(bj,o)]):Ci [oG,Ad ((bj,o)::Ci bs)]=Ci (oG::B::bs):=by
 show oG.blk++(((bj,o)::Ci bs)++[])=oG.blk++(B.blk++Ci bs)
 rw[hB,List.append_nil]
 rfl
theorem LY {bs:List Bx} {W:World} (hc: ∀p∈Ci bs,W.heap[p.1]? =some p.2) (hn:((Ci bs).map (·.1)).Nodup):Hp (Ez W) bs W:=
 ⟨⟨rfl,rfl,rfl,Nat.zero_le _,fun _ hk=>absurd hk (Nat.not_lt_zero _)⟩,Fo (fun p hp=>⟨hc p hp,Nat.zero_le _⟩) hn⟩
noncomputable def secZ (text:List UInt8) (j:JbS):Option JbS:=if (CR text).2=0 then some { j with sz:=(CR text).1 } else none
theorem QL (bj:Nat) (j:JbS) (a:JbA) (text:List UInt8) (htl:text.length<=100000) (Wb W:World) (hb0:Below Wb.heap.size Wb W) (hO:Go.Am.Own Wb.heap.size [Ad [(bj,Eb j a)]] W) (hv:AQ Wb) (ht:AZ Wb) (hw:Bo Wb):
  KF 3 95 bj j a text Wb W (secZ text j):=by
 refine A0.enterL (bs:=[⟨bj,75,CT j a,true,none⟩]) (bs':=fun x:RdX=>[Ad (KM bj x)]) hb0 (FE hO I) I (fun x=>Ap _) Tryz.func95 I I I ?_
 refine xb<|wP I<|xg<|wP I<|wD (X:=Vec) I I (fun W1 hp=>O2 text (by omega) W1 (hv.hp hp) (ht.hp hp) (hw.hp hp)) ?_
 intro V hV
 refine A3 I<|Ao 5 (slv (AU V) (CR text).1.length (Bd V)) I (Bs hV)<|wP I<|xg<|Aa I<|AE I I I I<|wP I<|wS 1 I I I<|xg<|Aa I<|?_
 by_cases h0:(CR text).2=0
 ·exact wU 17 true I (beq_iff_eq.2 h0)<|wP I<|xc<|Ar tH I (.tmp I) ⟨true, { j with sz:=(CR text).1 }, { a with pS:=AU V,cS:=Bd V },(Ci [V.bx 84 ((CR text).1.flatMap szC)])⟩ I (.inl ⟨_,_,_,by unfold secZ;rw[if_pos h0],I,I,I,fun W' hm hb hn=>⟨hm.rs,hm.pu,hm.op,HA UO hV (fun q hq=>hb q (List.mem_append_left _ hq)),hm.br,hm.ld,hm.sn⟩,fun h=>h⟩) fun W1 hp=>(hp.pick [0,1,2] (by decide) I).own.regroup (EF I)
 ·exact wU 17 false I (beq_eq_false_iff_ne.2 h0)<|wP I<|xc<|Ar tH I (.tmp I) ⟨false, { j with sz:=(CR text).1 }, { a with pS:=AU V,cS:=Bd V },(Ci [V.bx 84 ((CR text).1.flatMap szC)])⟩ I (.inr ⟨by unfold secZ;rw[if_neg h0],I⟩) fun W1 hp=>(hp.pick [0,1,2] (by decide) I).own.regroup (EF I)
noncomputable def secN (text:List UInt8) (j:JbS):Option JbS:=if (outSp text).2=0 then some { j with sn:=(outSp text).1 } else none
theorem So (bj:Nat) (j:JbS) (a:JbA) (text:List UInt8) (htl:text.length<=100000) (Wb W:World) (hb0:Below Wb.heap.size Wb W) (hO:Go.Am.Own Wb.heap.size [Ad [(bj,Eb j a)]] W) (hv:AQ Wb) (ht:AZ Wb):
  KF 6 104 bj j a text Wb W (secN text j):=by
 refine A0.enterL (bs:=[⟨bj,75,CT j a,true,none⟩]) (bs':=fun x:RdX=>[Ad (KM bj x)]) hb0 (FE hO I) I (fun x=>Ap _) Tryz.func104 I I I ?_
 refine xb<|wP I<|xg<|wP I<|wD (X:=Vec) I I (fun W1 hp=>Nt text (by omega) W1 (hv.hp hp) (ht.hp hp)) ?_
 intro V hV
 refine A3 I<|Ao 5 (slv (AU V) (outSp text).1.length (Bd V)) I (Bs hV)<|wP I<|xg<|Aa I<|AE I I I I<|wP I<|wS 1 I I I<|xg<|Aa I<|?_
 by_cases h0:(outSp text).2=0
 ·exact wU 17 true I (beq_iff_eq.2 h0)<|wP I<|xc<|Ar tH I (.tmp I) ⟨true, { j with sn:=(outSp text).1 }, { a with pN:=AU V,cN:=Bd V },(Ci [V.bx 91 ((outSp text).1.flatMap alC)])⟩ I (.inl ⟨_,_,_,by unfold secN;rw[if_pos h0],I,I,I,fun W' hm hb hn=>⟨hm.rs,hm.pu,hm.op,hm.sz,hm.br,hm.ld,HA U7 hV (fun q hq=>hb q (List.mem_append_left _ hq))⟩,fun h=>h⟩) fun W1 hp=>(hp.pick [0,1,2] (by decide) I).own.regroup (EF I)
 ·exact wU 17 false I (beq_eq_false_iff_ne.2 h0)<|wP I<|xc<|Ar tH I (.tmp I) ⟨false, { j with sn:=(outSp text).1 }, { a with pN:=AU V,cN:=Bd V },(Ci [V.bx 91 ((outSp text).1.flatMap alC)])⟩ I (.inr ⟨by unfold secN;rw[if_neg h0],I⟩) fun W1 hp=>(hp.pick [0,1,2] (by decide) I).own.regroup (EF I)
noncomputable def secB (text:List UInt8) (j:JbS):Option JbS:=if (outBr text).2=0 then some { j with br:=(outBr text).1 } else none
theorem Sy (bj:Nat) (j:JbS) (a:JbA) (text:List UInt8) (htl:text.length<=100000) (Wb W:World) (hb0:Below Wb.heap.size Wb W) (hO:Go.Am.Own Wb.heap.size [Ad [(bj,Eb j a)]] W) (hv:AQ Wb) (ht:AZ Wb):
  KF 4 99 bj j a text Wb W (secB text j):=by
 refine A0.enterL (bs:=[⟨bj,75,CT j a,true,none⟩]) (bs':=fun x:RdX=>[Ad (KM bj x)]) hb0 (FE hO I) I (fun x=>Ap _) Tryz.func99 I I I ?_
 refine xb<|wP I<|xg<|wP I<|wD (X:=Vec×MkB) I I (fun W1 hp=>Jc text (by omega) W1 (hv.hp hp) (ht.hp hp)) ?_
 rintro⟨V,mk⟩ hx
 have hV:V.OK 6 (outBr text).1.length (mbC mk):=hx.2.1
 refine A3 I<|Ao 5 (slv (AU V) (outBr text).1.length (Bd V)) I (Bs hV)<|wP I<|xg<|Aa I<|AE I I I I<|wP I<|wS 1 I I I<|xg<|Aa I<|?_
 by_cases h0:(outBr text).2=0
 ·exact wU 17 true I (beq_iff_eq.2 h0)<|wP I<|xc<|Ar tH I (.tmp I) ⟨true, { j with br:=(outBr text).1 }, { a with pB:=AU V,cB:=Bd V },(Ci [V.bx 87 (mbC mk),mbB mk])⟩ I (.inl ⟨_,_,_,by unfold secB;rw[if_pos h0],I,I,I,fun W' hm hb hn=>⟨hm.rs,hm.pu,hm.op,hm.sz,UN hx.1 hx.2.1 (LY (bs:=[V.bx 87 (mbC mk),mbB mk]) hb hn) 0 1 I I,hm.ld,hm.sn⟩,fun h=>h⟩) fun W1 hp=>(hp.pick [0,1,2,3] (by decide) I).own.regroup (EF I)
 ·exact wU 17 false I (beq_eq_false_iff_ne.2 h0)<|wP I<|xc<|Ar tH I (.tmp I) ⟨false, { j with br:=(outBr text).1 }, { a with pB:=AU V,cB:=Bd V },(Ci [V.bx 87 (mbC mk),mbB mk])⟩ I (.inr ⟨by unfold secB;rw[if_neg h0],I⟩) fun W1 hp=>(hp.pick [0,1,2,3] (by decide) I).own.regroup (EF I)
def Zi (text:List UInt8) (j:JbS):Option JbS:=if (D0 text).2=0 then some { j with rs:=(D0 text).1 } else none
theorem R6 (bj:Nat) (j:JbS) (a:JbA) (text:List UInt8) (htl:text.length<=65536) (Wb W:World) (hb0:Below Wb.heap.size Wb W) (hO:Go.Am.Own Wb.heap.size [Ad [(bj,Eb j a)]] W) (hv:AQ Wb) (ht:AZ Wb):
  KF 0 87 bj j a text Wb W (Zi text j):=by
 refine A0.enterL (bs:=[⟨bj,75,CT j a,true,none⟩]) (bs':=fun x:RdX=>[Ad (KM bj x)]) hb0 (FE hO I) I (fun x=>Ap _) Tryz.func87 I I I ?_
 refine xb<|wP I<|xg<|wP I<|wD (X:=Vec×GE) I I (fun W1 hp=>QZ W1 text htl (hv.hp hp) (ht.hp hp)) ?_
 rintro⟨V,mk⟩ ⟨hM,hV⟩
 obtain⟨p,cap,hval,hrg⟩:=MI hM hV
 have hM:Fu mk (D0 text).1:=hM
 have hV:V.OK 1 (D0 text).1.length (AN mk):=hV
 have hval:V.val (D0 text).1.length=slv p (D0 text).1.length cap:=hval
 simp only[hval]
 refine Ae I<|wG I I fun _=>wS 4 I I I<|wP I<|zC<|?_
 rename_i b5
 refine xe<|wP I<|wB 4 I I I<|AE I I I I<|wP I<|wS 1 I I I<|xg<|Aa I<|?_
 by_cases h0:(D0 text).2=0
 ·exact wU 17 true I (beq_iff_eq.2 h0)<|wP I<|xc<|Ar tH I (.tmp I) ⟨true, { j with rs:=(D0 text).1 }, { a with pR:=p,cR:=cap },Ci [V.bx 208 (AN mk),mkB mk]⟩ I (.inl ⟨_,_,_,by unfold Zi;rw[if_pos h0],I,I,I,fun W' hm hb hn=>⟨hrg (LY (bs:=[V.bx 208 (AN mk),mkB mk]) hb hn) 0 1 I I,hm.pu,hm.op,hm.sz,hm.br,hm.ld,hm.sn⟩,fun h=>h⟩) fun W1 hp=>(hp.pick [0,1,2,3] (by decide) I).own.regroup (EF I)
 ·exact wU 17 false I (beq_eq_false_iff_ne.2 h0)<|wP I<|xc<|Ar tH I (.tmp I) ⟨false, { j with rs:=(D0 text).1 }, { a with pR:=p,cR:=cap },Ci [V.bx 208 (AN mk),mkB mk]⟩ I (.inr ⟨by unfold Zi;rw[if_neg h0],I⟩) fun W1 hp=>(hp.pick [0,1,2,3] (by decide) I).own.regroup (EF I)
theorem dG (a b:List UInt8) (h:a≠b):(!((⟨a.toArray⟩:ByteArray).toList==(⟨b.toArray⟩:ByteArray).toList))=true:=by rw[Hk,dF h];rfl
theorem cQ (a b:List UInt8) (h:a=b):(!((⟨a.toArray⟩:ByteArray).toList==(⟨b.toArray⟩:ByteArray).toList))=false:=by rw[Hk,dT h];rfl
theorem Ot {W:World} {g:Nat} {ws:List (List UInt8)} (h:Al W g 0 (ss ws)) (n:Nat):AB 1 IH W (some ⟨g,n,none⟩) (ws.drop n):=by
 refine .inr ⟨g,n,I,fun i hi=>⟨h.lt,fun m u hu=> ?_⟩⟩
 have hi':n+i<ws.length:=by rw[List.length_drop] at hi;omega
 have hm:m=0:=by have:=(List.getElem?_eq_some_iff.1 hu).1;simp[IH] at this;omega
 subst hm
 have:=h.get (n+i) u (by
  rw[<-hu,List.getElem_drop]
  show(ws.map str)[n+i]? =some (str ws[n+i])
  rw[List.getElem?_map,List.getElem?_eq_getElem hi'];rfl)
 rw[Nat.zero_add] at this
 rw[show n+i*1+0=n+i by omega]
 exact this
def jb0:JbS:=⟨[],[],0,0,[],[],[],[],0,0,0,0,0,[],[]⟩
def ja0:JbA:=⟨none,0,none,0,none,0,none,0,none,0,none,0,none,0⟩
def eM:List UInt8:=[106,111,98]
def Kv:List UInt8:=[116,105,108,101]
def Ww (i1 i2:Bool) (a b:List (List UInt8)):Prop:=i1=true/\i2=true/\a.length=5/\b.length=5/\a.getD 0 []=eM/\b.getD 0 []=Kv
instance (i1 i2:Bool) (a b:List (List UInt8)):Decidable (Ww i1 i2 a b):=by unfold Ww;infer_instance
def KI (i1 i2:Bool) (a b:List (List UInt8)) (r:List UInt8):Option (JbS×List UInt8):=if Ww i1 i2 a b then match Ca [] (a.drop 2),Ca [] (b.drop 1) with
 |some m,some n=>some ({ jb0 with name:=a.getD 1 [],o:=m.getD 0 0,sp:=m.getD 1 0,k:=m.getD 2 0,tw:=n.getD 0 0,tl:=n.getD 1 0,tp:=n.getD 2 0,tt:=n.getD 3 0 },r)
 |_,_=>none else none
def Lq (s:List UInt8):Option (JbS×List UInt8):=KI (cut s [10]).2.2 (cut (cut s [10]).2.1 [10]).2.2 (AI 32 (cut s [10]).1) (AI 32 (cut (cut s [10]).2.1 [10]).1) (cut (cut s [10]).2.1 [10]).2.1
theorem Ik {i1 i2:Bool} {a b:List (List UInt8)} {r:List UInt8} (h: ¬Ww i1 i2 a b):KI i1 i2 a b r=none:=by unfold KI;rw[if_neg h]
theorem bM {i1 i2:Bool} {a b:List (List UInt8)} {r:List UInt8} (h:Ca [] (a.drop 2)=none):KI i1 i2 a b r=none:=by
 unfold KI
 rw[h]
 split<;>rfl
theorem dN {i1 i2:Bool} {a b:List (List UInt8)} {r:List UInt8} (h:Ca [] (b.drop 1)=none):KI i1 i2 a b r=none:=by
 unfold KI
 rw[h]
 split
 ·split
  ·rename_i h2;cases h2
  ·rfl
 ·rfl
theorem ZL {i1 i2:Bool} {a b:List (List UInt8)} {r:List UInt8} {m n:List Int} (h:Ww i1 i2 a b) (hm:Ca [] (a.drop 2)=some m) (hn:Ca [] (b.drop 1)=some n):KI i1 i2 a b r=some ({ jb0 with name:=a.getD 1 [],o:=m.getD 0 0,sp:=m.getD 1 0,k:=m.getD 2 0,tw:=n.getD 0 0,tl:=n.getD 1 0,tp:=n.getD 2 0,tt:=n.getD 3 0 },r):=by unfold KI;rw[if_pos h,hm,hn]
def eT (o:Option (JbS×List UInt8)) (x:Bool×List UInt8×JbS):Prop:=(o=some (x.2.2,x.2.1)/\x.1=true)\/(o=none/\x.1=false)
theorem Nq (bj:Nat) (s:List UInt8) (hs:s.length<=100000) (Wb W:World) (hb0:Below Wb.heap.size Wb W) (hO:Go.Am.Own Wb.heap.size [Ad [(bj,Eb jb0 ja0)]] W) (hv:AQ Wb):
  A0 Tryz.prog Wb.heap.size 53 [Af bj,str s] W [(bj,Eb jb0 ja0)] (fun x:Bool×List UInt8×JbS=> .tuple #[str x.2.1, .bool x.1]) (eT (Lq s)) (fun x=>[(bj,Eb x.2.2 ja0)]):=by
 refine A0.enterL (bs:=[⟨bj,75,CT jb0 ja0,true,none⟩]) (bs':=fun x:Bool×List UInt8×JbS=>[Ad [(bj,Eb x.2.2 ja0)]]) hb0 (FE hO I) I (fun x=>Ap _) Tryz.func53 I I I ?_
 have hJ:Lq s=KI (cut s [10]).2.2 (cut (cut s [10]).2.1 [10]).2.2 (AI 32 (cut s [10]).1) (AI 32 (cut (cut s [10]).2.1 [10]).1) (cut (cut s [10]).2.1 [10]).2.1:=rfl
 have hc1:=GU s [10]
 have hc2:=GU (cut s [10]).2.1 [10]
 refine xb<|Aa I<|xg<|wP I<|wC I I (fun W1 hp=>C5 W1 s [10] (by omega) (hv.hp hp))<|Bb I<|wP I<|xg<|wP I<|wC I I (fun W1 hp=>C5 W1 (cut s [10]).2.1 [10] (by omega) (hv.hp hp))<|Bb I<|wP I<|?_
 refine xg<|wP I<|wD (X:=Nat) I I (fun W1 hp=>CL W1 (cut s [10]).1 (by omega) (hv.hp hp)) ?_
 intro ga _
 refine wP I<|wD (X:=Nat) I I (fun W1 hp=>CL W1 (cut (cut s [10]).2.1 [10]).1 (by omega) (hv.hp hp)) ?_
 intro gb _
 have hla:=B0 (l:=(cut s [10]).1) (n:=100000) (by omega)
 have hlb:=B0 (l:=(cut (cut s [10]).2.1 [10]).1) (n:=100000) (by omega)
 obtain⟨wa,hwa⟩: ∃v,v=AI 32 (cut s [10]).1:=⟨_,rfl⟩
 obtain⟨wb,hwb⟩: ∃v,v=AI 32 (cut (cut s [10]).2.1 [10]).1:=⟨_,rfl⟩
 obtain⟨r,hr⟩: ∃v,v=(cut (cut s [10]).2.1 [10]).2.1:=⟨_,rfl⟩
 obtain⟨i1,hi1⟩: ∃v,v=(cut s [10]).2.2:=⟨_,rfl⟩
 obtain⟨i2,hi2⟩: ∃v,v=(cut (cut s [10]).2.1 [10]).2.2:=⟨_,rfl⟩
 rw[<-hwa] at hla hJ⊢
 rw[<-hwb] at hlb hJ⊢
 rw[<-hr, <-hi1, <-hi2] at hJ
 rw[<-hr, <-hi1, <-hi2]
 refine Aa I<|xa<|xd<|Ae I<|?_
 cases hb1:i1 with
 |false=>
  rw[hb1] at hJ
  iterate 2 refine Ac I I ?_
  refine Aa I<|?_
  iterate 3 refine Ac I I ?_
  refine Aa I<|?_
  iterate 3 refine Ac I I ?_
  refine Aa I<|?_
  iterate 4 refine Ac I I ?_
  refine Aa I<|?_
  iterate 4 refine Ac I I ?_
  exact wP rfl<|xa<|zR rfl<|xb<|wP rfl<|wP rfl<|xc<|zP<|An tH rfl (.tmp rfl) (.tmp rfl) (false,[],jb0) rfl (.inr ⟨by rw[hJ];exact Ik fun h=>(by cases h.1),rfl⟩) fun W1 hp=>(hp.pick [0,1] (by decide) rfl).own.regroup rfl
 |true=>
  rw[hb1] at hJ
  refine Aa I<|?_
  cases hb2:i2 with
  |false=>
   rw[hb2] at hJ
   refine Aa I<|?_
   iterate 3 refine Ac I I ?_
   refine Aa I<|?_
   iterate 3 refine Ac I I ?_
   refine Aa I<|?_
   iterate 4 refine Ac I I ?_
   refine Aa I<|?_
   iterate 4 refine Ac I I ?_
   exact wP rfl<|xa<|zR rfl<|xb<|wP rfl<|wP rfl<|xc<|zP<|An tH rfl (.tmp rfl) (.tmp rfl) (false,[],jb0) rfl (.inr ⟨by rw[hJ];exact Ik fun h=>(by cases h.2.1),rfl⟩) fun W1 hp=>(hp.pick [0,1] (by decide) rfl).own.regroup rfl
  |true=>
   rw[hb2] at hJ
   refine A8 I<|?_
   by_cases h3:wa.length=5
   rotate_left
   ·refine wU 40 true I (bne_iff_ne.2 (show((wa.length:Nat):Int)≠5 by omega))<|Aa I<|?_
    iterate 3 refine Ac I I ?_
    refine Aa I<|?_
    iterate 4 refine Ac I I ?_
    refine Aa I<|?_
    iterate 4 refine Ac I I ?_
    exact wP I<|xa<|zR I<|xb<|Aa I<|xc<|zP<|An tH I (.tmp I) (.tmp I) (false,[],jb0) I (.inr ⟨by rw[hJ];exact Ik fun h=>h3 h.2.2.1,I⟩) fun W1 hp=>(hp.pick [0,1] (by decide) I).own.regroup I
   refine wU 40 false I (bne_eq_false_iff_eq.2 (show((wa.length:Nat):Int)=5 by omega))<|A8 I<|?_
   by_cases h4:wb.length=5
   rotate_left
   ·refine wU 45 true I (bne_iff_ne.2 (show((wb.length:Nat):Int)≠5 by omega))<|Aa I<|?_
    iterate 4 refine Ac I I ?_
    refine Aa I<|?_
    iterate 4 refine Ac I I ?_
    exact wP I<|xa<|zR I<|xb<|Aa I<|xc<|zP<|An tH I (.tmp I) (.tmp I) (false,[],jb0) I (.inr ⟨by rw[hJ];exact Ik fun h=>h4 h.2.2.2.1,I⟩) fun W1 hp=>(hp.pick [0,1] (by decide) I).own.regroup I
   refine wU 45 false I (bne_eq_false_iff_eq.2 (show((wb.length:Nat):Int)=5 by omega)) ?_
   clear hwa hwb
   obtain⟨a0,a1,a2,a3,a4,rfl⟩: ∃a0 a1 a2 a3 a4,wa=[a0,a1,a2,a3,a4]:=by
    match wa,h3 with
    |[a0,a1,a2,a3,a4],_=>exact⟨a0,a1,a2,a3,a4,rfl⟩
   obtain⟨b0,b1,b2,b3,b4,rfl⟩: ∃b0 b1 b2 b3 b4,wb=[b0,b1,b2,b3,b4]:=by
    match wb,h4 with
    |[b0,b1,b2,b3,b4],_=>exact⟨b0,b1,b2,b3,b4,rfl⟩
   refine Ae I<|wI I I (by decide) (by show _<((5:Nat):Int);decide)<|wL 0 I I (fun W1 hp=>Al.of_bx hp 2 I I) I<|wP I<|?_
   by_cases h5:a0=eM
   rotate_left
   ·refine wU 51 true I (dG _ _ h5)<|Aa I<|?_
    iterate 4 refine Ac I I ?_
    exact wP I<|xa<|zR I<|xb<|Aa I<|xc<|zP<|An tH I (.tmp I) (.tmp I) (false,[],jb0) I (.inr ⟨by rw[hJ];exact Ik fun h=>h5 h.2.2.2.2.1,I⟩) fun W1 hp=>(hp.pick [0,1] (by decide) I).own.regroup I
   refine wU 51 false I (cQ _ _ h5)<|Ae I<|wI I I (by decide) (by show _<((5:Nat):Int);decide)<|wL 0 I I (fun W1 hp=>Al.of_bx hp 3 I I) I<|wP I<|?_
   by_cases h6:b0=Kv
   rotate_left
   ·exact wU 57 true I (dG _ _ h6)<|wP I<|xa<|zR I<|xb<|Aa I<|xc<|zP<|An tH I (.tmp I) (.tmp I) (false,[],jb0) I (.inr ⟨by rw[hJ];exact Ik fun h=>h6 h.2.2.2.2.2,I⟩) fun W1 hp=>(hp.pick [0,1] (by decide) I).own.regroup I
   refine wU 57 false I (cQ _ _ h6) ?_
   have hC:Ww true true [a0,a1,a2,a3,a4] [b0,b1,b2,b3,b4]:=⟨rfl,rfl,rfl,rfl,h5,h6⟩
   refine wP I<|xa<|zS I<|zI<|xe<|wP I<|?_
   refine G8 2 tH I I I I I I I I (by show(2:Nat)<=5;decide) (by show(5:Nat)<=5;decide) ?_
   refine wD (X:=Vec×List Int×Bool) I I (fun W1 hp=>ET [a2,a3,a4] (by show 3<=1000000;decide) (fun w hw=>by have:=hla w (List.mem_of_mem_drop (i:=2) hw);omega) (some ⟨ga,2,none⟩) 3 W1 (Ot (ws:=[a0,a1,a2,a3,a4]) (by have:=Al.of_bx hp 2 I I;rwa [List.append_nil] at this) 2) (hv.hp hp)) ?_
   rintro⟨U,m,ok1⟩ ⟨hU,hx1⟩
   have hU:U.OK 1 m.length (m.flatMap C9):=hU
   refine A3 I<|Ao 13 (slv (AU U) m.length (Bd U)) I (Bs hU)<|wP I<|xg<|wP I<|?_
   refine G8 1 tH I I I I I I I I (by show(1:Nat)<=5;decide) (by show(5:Nat)<=5;decide) ?_
   refine wD (X:=Vec×List Int×Bool) I I (fun W1 hp=>ET [b1,b2,b3,b4] (by show 4<=1000000;decide) (fun w hw=>by have:=hlb w (List.mem_of_mem_drop (i:=1) hw);omega) (some ⟨gb,1,none⟩) 4 W1 (Ot (ws:=[b0,b1,b2,b3,b4]) (by have:=Al.of_bx hp 3 I I;rwa [List.append_nil] at this) 1) (hv.hp hp)) ?_
   rintro⟨V,n,ok2⟩ ⟨hV,hx2⟩
   have hV:V.OK 1 n.length (n.flatMap C9):=hV
   refine A3 I<|Ao 14 (slv (AU V) n.length (Bd V)) I (Bs hV)<|wP I<|zC<|?_
   rcases hx1 with⟨hm,e1⟩|⟨hm,_,e1⟩
   rotate_left
   ·have e1:ok1=false:=e1
    subst e1
    refine zE<|xd<|Ae I<|?_
    iterate 2 refine Ac I I ?_
    exact wP I<|xa<|zR I<|xb<|Aa I<|xc<|zP<|An tH I (.tmp I) (.tmp I) (false,[],jb0) I (.inr ⟨by rw[hJ];exact bM hm,I⟩) fun W1 hp=>(hp.pick [0,1] (by decide) I).own.regroup I
   have e1:ok1=true:=e1
   subst e1
   have hm:Ca [] ([a0,a1,a2,a3,a4].drop 2)=some m:=hm
   rcases hx2 with⟨hn,e2⟩|⟨hn,_,e2⟩
   rotate_left
   ·have e2:ok2=false:=e2
    subst e2
    exact zE<|xd<|Bb I<|xa<|zR I<|xb<|Aa I<|xc<|zP<|An tH I (.tmp I) (.tmp I) (false,[],jb0) I (.inr ⟨by rw[hJ];exact dN hn,I⟩) fun W1 hp=>(hp.pick [0,1] (by decide) I).own.regroup I
   have e2:ok2=true:=e2
   subst e2
   have hn:Ca [] ([b0,b1,b2,b3,b4].drop 1)=some n:=hn
   have hml:m.length=3:=Gt hm
   have hnl:n.length=4:=Gt hn
   rw[ZL hC hm hn] at hJ
   obtain⟨m0,m1,m2,rfl⟩: ∃m0 m1 m2,m=[m0,m1,m2]:=by
    match m,hml with
    |[m0,m1,m2],_=>exact⟨m0,m1,m2,rfl⟩
   obtain⟨n0,n1,n2,n3,rfl⟩: ∃n0 n1 n2 n3,n=[n0,n1,n2,n3]:=by
    match n,hnl with
    |[n0,n1,n2,n3],_=>exact⟨n0,n1,n2,n3,rfl⟩
   obtain⟨up,uc,uj⟩:=U
   cases up with
   |none=>exact absurd (show([m0,m1,m2]:List Int).length=0 from hU.nil rfl) (by simp)
   |some gm=>
   obtain⟨vp,vc,vj⟩:=V
   cases vp with
   |none=>exact absurd (show([n0,n1,n2,n3]:List Int).length=0 from hV.nil rfl) (by simp)
   |some gn=>
   refine zE<|xd<|Bb I<|xa<|zS I<|zI<|zE<|zA<|?_
   refine Bh (X:=Unit) [true,true,true,true,true,true,true,true,true,true,true,true,true,true,true,true,true,true,false,false,false,false,false,false,false,false,false,false] (fun _=>[(0,Af bj),(7,str r),(14,slv (some ⟨gn,0,none⟩) 4 vc)]) (fun _=>[Ad (Ay Wb.heap.size W [(bj,Eb jb0 ja0)]),⟨bj,75,CT { jb0 with name:=a1,o:=m0,sp:=m1,k:=m2 } ja0,true,none⟩,⟨gn,3,[n0,n1,n2,n3].flatMap C9++vj,true,none⟩])
    10 [Ad (Ay Wb.heap.size W [(bj,Eb jb0 ja0)]),CN,⟨ga,9,ss [a0,a1,a2,a3,a4]++[],true,none⟩,⟨gb,9,ss [b0,b1,b2,b3,b4]++[],true,none⟩,⟨gm,3,[m0,m1,m2].flatMap C9++uj,true,none⟩,⟨gn,3,[n0,n1,n2,n3].flatMap C9++vj,true,none⟩] Tryz.mixed (by kernel_rfl) ?_ ?_
   ·refine Mf I<|qI I I (by decide) (by show _<((5:Nat):Int);decide)<|qB 2 I I I<|qP I<|qI I I (by decide) (by show _<((3:Nat):Int);decide)<|qB 4 I I I<|qP I<|qI I I (by decide) (by show _<((3:Nat):Int);decide)<|qB 4 I I I<|qP I<|qI I I (by decide) (by show _<((3:Nat):Int);decide)<|qB 4 I I I<|H6 I I I I ?_
    refine qP I<|Cp<|wX<|wZ<|wS 1 I I I<|zC<|Aw<|wX<|wZ<|AE I I I I<|zC<|Aw<|wX<|wZ<|wP I<|zC<|Aw<|wX<|wZ<|wS 1 I I I<|zC<|Aw<|wX<|wZ<|?_
    refine AE I I I I<|zC<|Aw<|wX<|wZ<|wP I<|zC<|Aw<|wX<|wZ<|wS 1 I I I<|zC<|Aw<|wX<|wZ<|AE I I I I<|zC<|Aw<|wX<|wZ<|wP I<|zC<|Aw<|wX<|?_
    refine wZ<|wS 1 I I I<|zC<|Aw<|?_
    refine B6 I (by((repeat (first|refine B3.same ?_|refine B3.off I ?_));exact tO)) ?_
    exact AR () ⟨I,I,I,tO⟩ [0,1,5] (by decide) I
   intro _
   refine zE<|zA<|zU<|AO I<|qI I I (by decide) (by show _<((4:Nat):Int);decide)<|qB 2 I I I<|qP I<|qI I I (by decide) (by show _<((4:Nat):Int);decide)<|qB 2 I I I<|qP I<|qI I I (by decide) (by show _<((4:Nat):Int);decide)<|qB 2 I I I<|qP I<|qI I I (by decide) (by show _<((4:Nat):Int);decide)<|qB 2 I I I<|Ie Tryz.hZ tH I I I I I I I I ?_
   refine H6 I I I I ?_
   exact qP I<|zD<|wS 1 I I I<|xg<|Ae I<|xc<|An tH I (.tmp I) (.tmp I) (true,r, { jb0 with name:=a1,o:=m0,sp:=m1,k:=m2,tw:=n0,tl:=n1,tp:=n2,tt:=n3 }) I (.inl ⟨hJ,I⟩) fun W1 hp=>(hp.pick [0,1] (by decide) I).own.regroup I
def Bt (z:Int):Prop:= -9223372036854775808<=z/\z<=9223372036854775807
theorem C3 {z:Int} (h:Bt z):(itoa z).length<=20:=by
 unfold itoa
 split
 ·have:(decDigits z.natAbs).length<=19:=Fa 19 _ (by omega) (by have:=h.1;omega)
  rw[List.length_cons];omega
 ·have:(decDigits z.toNat).length<=19:=Fa 19 _ (by omega) (by have:=h.2;omega)
  omega
def QN (z:Int):List UInt8:=DQ [] [z]
abbrev Xk (l:List Int):List UInt8:=l.flatMap QN
theorem My {z:Int} (h:Bt z):(QN z).length<=21:=by
 have:=C3 h
 unfold QN DQ
 rw[if_pos rfl]
 show(join [itoa z] [32]++[10]).length<=21
 rw[join_one,List.length_append,List.length_singleton];omega
def Rn (x:OpS):List UInt8:=(((((((((itoa x.s++[32])++x.l)++[32])++x.r)++[32])++x.o)++[32])++x.i)++[10])
abbrev YJ (l:List OpS):List UInt8:=l.flatMap Rn
theorem Lk {x:OpS} {n:Nat} (h:Bt x.s) (hs: ∀a∈[x.l,x.r,x.o,x.i],a.length<=n):(Rn x).length<=25+4*n:=by
 have:=C3 h
 have h1:=hs x.l (by simp)
 have h2:=hs x.r (by simp)
 have h3:=hs x.o (by simp)
 have h4:=hs x.i (by simp)
 unfold Rn
 simp only[List.length_append,List.length_cons,List.length_nil]
 omega
def RX (x:LdS):List UInt8:=((((itoa x.k++[32])++itoa x.s)++[32])++x.w)++[10]
abbrev WV (l:List LdS):List UInt8:=l.flatMap RX
theorem Ma {x:LdS} {n:Nat} (h:Bt x.k) (h':Bt x.s) (hs:x.w.length<=n):(RX x).length<=43+n:=by
 have:=C3 h
 have:=C3 h'
 unfold RX
 simp only[List.length_append,List.length_cons,List.length_nil]
 omega
theorem TT (j:JbS) (a:JbA) (n:Nat) (hnn:n<=1000000) (hn:j.pu.length<=n) (hb: ∀z∈j.pu,Bt z) (_hz:21*n<=100000000) (W:World) (hA:AB 1 C9 W a.pP j.pu) (ht:AZ W):
  Ag Tryz.prog 89 #[.agg (CT j a).toArray] W (fun _:Unit=> .tuple #[str (Xk j.pu), .int .i64 0]) (fun _=>True) (fun _=>[]):=by
 have hj:CT j a=F9 j a 4 (slv a.pP j.pu.length a.cP):=rfl
 rw[hj]
 obtain⟨l,hl⟩: ∃l,l=j.pu:=⟨_,rfl⟩
 rw[<-hl] at hn hb hA⊢
 obtain⟨p,hp0⟩: ∃p,p=a.pP:=⟨_,rfl⟩
 obtain⟨cap,hcap⟩: ∃p,p=a.cP:=⟨_,rfl⟩
 rw[<-hp0] at hA⊢
 rw[<-hcap]
 refine Ab Tryz.func89 I I I<|xb<|wF I I fun _=>Aa I<|xg<|wG I I fun _=>zC<|?_
 rename_i b1 b4
 refine zE<|xd<|wP I<|wB 0 I I I<|Aa I<|xa<|zH<|Be ?_
 refine A6 (X:=Nat×BS) (fun x=>[(4,Af b4),(8,slv p l.length cap),(9, .int .i64 (l.length:Nat)),(10, .int .i64 (x.1:Nat))]) (fun x=>[⟨b1,75,F9 j a 4 (slv p l.length cap),true,none⟩,x.2.b1 b4,x.2.b2])
  (fun x=>x.1<=l.length/\x.2.OK b4 (Xk (l.take x.1))) (fun x=>l.length-x.1) (0,BS.zero) ⟨Nat.zero_le _,BS.OK.zero b4⟩ ⟨rfl,rfl,rfl,rfl,trivial⟩ [] rfl ?_
 rintro⟨i,V⟩ ⟨hi,hV⟩
 have hi:i<=l.length:=hi
 have hV:V.OK b4 (Xk (l.take i)):=hV
 refine xb<|wP I<|?_
 by_cases hlt:i<l.length
 rotate_left
 ·have e:i=l.length:=by omega
  subst e
  rw[List.take_length] at hV
  refine wU 11 false I (dF (by omega))<|xa<|zA<|zS I<|xf<|xe<|GI 1 2 I I I I hV I I I I I I ?_
  intro V2 _
  exact Aa I<|xc<|wR2 I I I
 refine wU 11 true I (dT (by show(i:Int)<(l.length:Nat);omega))<|xa<|zA<|zR I<|xh<|?_
 obtain⟨b,off,rfl,hrow⟩:=hA.row hlt
 have hr:=hrow i hlt
 have hbx:=hb _ (List.getElem_mem hlt)
 have hlen:(Xk (l.take i)).length<=21*i:=Cc QN (fun x hx=>My (hb x hx)) i
 have hle:21*(i+1)<=21*n:=Nat.mul_le_mul_left _ (by omega)
 have hsu:21*(i+1)=21*i+21:=Nat.mul_succ _ _
 have hts:=Ew QN hlt
 obtain⟨x,hx⟩: ∃x,x=l[i]:=⟨_,rfl⟩
 rw[<-hx] at hr hbx hts
 have hll:=My hbx
 refine wJ ?_
 refine wL 0 I I (fun W1 hp=>hr.hp hp) I<|wP I<|xa<|zB<|wP I<|?_
 (refine Ai Tryz.hZ tH rfl rfl rfl rfl rfl rfl rfl rfl rfl rfl rfl ?_;intro)
 rename_i bR
 refine wC rfl rfl (fun W1 hp=>HS [] [x] (by simp) (by show 1<=900;decide) (fun z hz=>by obtain rfl:=List.mem_singleton.1 hz;exact hbx) (by have:(DQ [] [x]).length<=21:=hll;omega) (some ⟨bR,0,none⟩) 1 W1 (AB.of_row (junk:=[]) BH (Al.of_bx hp 3 rfl rfl)) (ht.hp hp))<|Dr 1 2 (QN x) rfl rfl rfl rfl hV (by omega) rfl rfl rfl rfl rfl rfl ?_
 rw[<-hts]
 intro V2 hV2
 exact zC<|xj<|wP I<|wV 18 ((i+1:Nat):Int) I (Az (by omega))<|wP I<|zC<|Ax (i+1,V2) ⟨hlt,hV2⟩ (by show l.length-(i+1)<l.length-i;omega) ⟨I,I,I,I,tO⟩ [_] I
theorem S9 (j:JbS) (a:JbA) (n:Nat) (hnn:n<=1000000) (hn:j.op.length<=n) (m:Nat) (hm:m<=100000) (hb: ∀x∈j.op,Bt x.s/\ ∀a∈[x.l,x.r,x.o,x.i],a.length<=m) (hz:(25+4*m)*n<=100000000) (W:World) (hA:AB 5 opC W a.pO j.op) (ht:AZ W):
  Ag Tryz.prog 91 #[.agg (CT j a).toArray] W (fun _:Unit=> .tuple #[str (YJ j.op), .int .i64 0]) (fun _=>True) (fun _=>[]):=by
 have hj:CT j a=F9 j a 5 (slv a.pO j.op.length a.cO):=rfl
 rw[hj]
 obtain⟨l,hl⟩: ∃l,l=j.op:=⟨_,rfl⟩
 rw[<-hl] at hn hb hA⊢
 obtain⟨p,hp0⟩: ∃p,p=a.pO:=⟨_,rfl⟩
 obtain⟨cap,hcap⟩: ∃p,p=a.cO:=⟨_,rfl⟩
 rw[<-hp0] at hA⊢
 rw[<-hcap]
 refine Ab Tryz.func91 I I I<|xb<|wF I I fun _=>Aa I<|xg<|wG I I fun _=>zC<|?_
 rename_i b1 b4
 refine zE<|xd<|wP I<|wB 0 I I I<|Aa I<|xa<|zH<|Be ?_
 refine A6 (X:=Nat×BS) (fun x=>[(4,Af b4),(8,slv p l.length cap),(9, .int .i64 (l.length:Nat)),(10, .int .i64 (x.1:Nat))]) (fun x=>[⟨b1,75,F9 j a 5 (slv p l.length cap),true,none⟩,x.2.b1 b4,x.2.b2])
  (fun x=>x.1<=l.length/\x.2.OK b4 (YJ (l.take x.1))) (fun x=>l.length-x.1) (0,BS.zero) ⟨Nat.zero_le _,BS.OK.zero b4⟩ ⟨rfl,rfl,rfl,rfl,trivial⟩ [] rfl ?_
 rintro⟨i,V⟩ ⟨hi,hV⟩
 have hi:i<=l.length:=hi
 have hV:V.OK b4 (YJ (l.take i)):=hV
 refine xb<|wP I<|?_
 by_cases hlt:i<l.length
 rotate_left
 ·have e:i=l.length:=by omega
  subst e
  rw[List.take_length] at hV
  refine wU 11 false I (dF (by omega))<|xa<|zA<|zS I<|xf<|xe<|GI 1 2 I I I I hV I I I I I I ?_
  intro V2 _
  exact Aa I<|xc<|wR2 I I I
 refine wU 11 true I (dT (by show(i:Int)<(l.length:Nat);omega))<|xa<|zA<|zR I<|xh<|?_
 obtain⟨b,off,rfl,hrow⟩:=hA.row hlt
 have hr:=hrow i hlt
 have hbx:=hb _ (List.getElem_mem hlt)
 have hlen:(YJ (l.take i)).length<=(25+4*m)*i:=Cc Rn (fun x hx=>Lk (hb x hx).1 (hb x hx).2) i
 have hle:(25+4*m)*(i+1)<=(25+4*m)*n:=Nat.mul_le_mul_left _ (by omega)
 have hsu:(25+4*m)*(i+1)=(25+4*m)*i+(25+4*m):=Nat.mul_succ _ _
 have hts:=Ew Rn hlt
 obtain⟨x,hx⟩: ∃x,x=l[i]:=⟨_,rfl⟩
 rw[<-hx] at hr hbx hts
 have hll:=Lk hbx.1 hbx.2
 refine wJ ?_
 refine wL 0 I I (fun W1 hp=>hr.hp hp) I<|wG I I fun _=>wS 3 I I I<|zC<|?_
 rename_i b6
 have n1:=hbx.2 x.l (by simp)
 have n2:=hbx.2 x.r (by simp)
 have n3:=hbx.2 x.o (by simp)
 have n4:=hbx.2 x.i (by simp)
 have n0:=C3 hbx.1
 have s1:(itoa x.s++[32]).length<=21:=by rw[List.length_append,List.length_singleton];omega
 have s2:((itoa x.s++[32])++x.l).length<=21+m:=by rw[List.length_append];omega
 have s3:(((itoa x.s++[32])++x.l)++[32]).length<=22+m:=by rw[List.length_append,List.length_singleton];omega
 have s4:((((itoa x.s++[32])++x.l)++[32])++x.r).length<=22+2*m:=by rw[List.length_append];omega
 have s5:(((((itoa x.s++[32])++x.l)++[32])++x.r)++[32]).length<=23+2*m:=by rw[List.length_append,List.length_singleton];omega
 have s6:((((((itoa x.s++[32])++x.l)++[32])++x.r)++[32])++x.o).length<=23+3*m:=by rw[List.length_append];omega
 have s7:(((((((itoa x.s++[32])++x.l)++[32])++x.r)++[32])++x.o)++[32]).length<=24+3*m:=by rw[List.length_append,List.length_singleton];omega
 have s8:((((((((itoa x.s++[32])++x.l)++[32])++x.r)++[32])++x.o)++[32])++x.i).length<=24+4*m:=by rw[List.length_append];omega
 refine zE<|zU<|qP I<|qB 3 I I I<|qC I I (fun W1 hp=>AF x.s hbx.1.1 hbx.1.2 W1 (ht.hp hp))<|AP (a:=itoa x.s) (b:=[32]) I I I I I (by omega) (by decide) ?_
 refine qP I<|qB 3 I I I<|AP (a:=itoa x.s++[32]) (b:=x.l) I I I I I (by omega) (by omega) ?_
 refine AP (a:=(itoa x.s++[32])++x.l) (b:=[32]) I I I I I (by omega) (by decide) ?_
 refine qP I<|qB 3 I I I<|AP (a:=((itoa x.s++[32])++x.l)++[32]) (b:=x.r) I I I I I (by omega) (by omega) ?_
 refine AP (a:=(((itoa x.s++[32])++x.l)++[32])++x.r) (b:=[32]) I I I I I (by omega) (by decide) ?_
 refine qP I<|qB 3 I I I<|AP (a:=((((itoa x.s++[32])++x.l)++[32])++x.r)++[32]) (b:=x.o) I I I I I (by omega) (by omega) ?_
 refine AP (a:=(((((itoa x.s++[32])++x.l)++[32])++x.r)++[32])++x.o) (b:=[32]) I I I I I (by omega) (by decide) ?_
 refine qP I<|qB 3 I I I<|AP (a:=((((((itoa x.s++[32])++x.l)++[32])++x.r)++[32])++x.o)++[32]) (b:=x.i) I I I I I (by omega) (by omega) ?_
 refine AP (a:=(((((((itoa x.s++[32])++x.l)++[32])++x.r)++[32])++x.o)++[32])++x.i) (b:=[10]) I I I I I (by omega) (by decide) ?_
 refine zD<|Dr 1 2 (Rn x) I I I I hV (by omega) I I I I I I ?_
 rw[<-hts]
 intro V2 hV2
 exact zC<|xj<|wP I<|wV 35 ((i+1:Nat):Int) I (Az (by omega))<|wP I<|zC<|Ax (i+1,V2) ⟨hlt,hV2⟩ (by show l.length-(i+1)<l.length-i;omega) ⟨I,I,I,I,tO⟩ [_] I
theorem SY (j:JbS) (a:JbA) (n:Nat) (hnn:n<=1000000) (hn:j.ld.length<=n) (m:Nat) (hm:m<=100000) (hb: ∀x∈j.ld,Bt x.k/\Bt x.s/\x.w.length<=m) (hz:(43+m)*n<=100000000) (W:World) (hA:AB 3 ldC W a.pL j.ld) (ht:AZ W):
  Ag Tryz.prog 100 #[.agg (CT j a).toArray] W (fun _:Unit=> .tuple #[str (WV j.ld), .int .i64 0]) (fun _=>True) (fun _=>[]):=by
 have hj:CT j a=F9 j a 13 (slv a.pL j.ld.length a.cL):=rfl
 rw[hj]
 obtain⟨l,hl⟩: ∃l,l=j.ld:=⟨_,rfl⟩
 rw[<-hl] at hn hb hA⊢
 obtain⟨p,hp0⟩: ∃p,p=a.pL:=⟨_,rfl⟩
 obtain⟨cap,hcap⟩: ∃p,p=a.cL:=⟨_,rfl⟩
 rw[<-hp0] at hA⊢
 rw[<-hcap]
 refine Ab Tryz.func100 I I I<|xb<|wF I I fun _=>Aa I<|xg<|wG I I fun _=>zC<|?_
 rename_i b1 b4
 refine zE<|xd<|wP I<|wB 0 I I I<|Aa I<|xa<|zH<|Be ?_
 refine A6 (X:=Nat×BS) (fun x=>[(4,Af b4),(8,slv p l.length cap),(9, .int .i64 (l.length:Nat)),(10, .int .i64 (x.1:Nat))]) (fun x=>[⟨b1,75,F9 j a 13 (slv p l.length cap),true,none⟩,x.2.b1 b4,x.2.b2])
  (fun x=>x.1<=l.length/\x.2.OK b4 (WV (l.take x.1))) (fun x=>l.length-x.1) (0,BS.zero) ⟨Nat.zero_le _,BS.OK.zero b4⟩ ⟨rfl,rfl,rfl,rfl,trivial⟩ [] rfl ?_
 rintro⟨i,V⟩ ⟨hi,hV⟩
 have hi:i<=l.length:=hi
 have hV:V.OK b4 (WV (l.take i)):=hV
 refine xb<|wP I<|?_
 by_cases hlt:i<l.length
 rotate_left
 ·have e:i=l.length:=by omega
  subst e
  rw[List.take_length] at hV
  refine wU 11 false I (dF (by omega))<|xa<|zA<|zS I<|xf<|xe<|GI 1 2 I I I I hV I I I I I I ?_
  intro V2 _
  exact Aa I<|xc<|wR2 I I I
 refine wU 11 true I (dT (by show(i:Int)<(l.length:Nat);omega))<|xa<|zA<|zR I<|xh<|?_
 obtain⟨b,off,rfl,hrow⟩:=hA.row hlt
 have hr:=hrow i hlt
 have hbx:=hb _ (List.getElem_mem hlt)
 have hlen:(WV (l.take i)).length<=(43+m)*i:=Cc RX (fun x hx=>Ma (hb x hx).1 (hb x hx).2.1 (hb x hx).2.2) i
 have hle:(43+m)*(i+1)<=(43+m)*n:=Nat.mul_le_mul_left _ (by omega)
 have hsu:(43+m)*(i+1)=(43+m)*i+(43+m):=Nat.mul_succ _ _
 have hts:=Ew RX hlt
 obtain⟨x,hx⟩: ∃x,x=l[i]:=⟨_,rfl⟩
 rw[<-hx] at hr hbx hts
 have hll:=Ma hbx.1 hbx.2.1 hbx.2.2
 refine wJ ?_
 refine wL 0 I I (fun W1 hp=>hr.hp hp) I<|wG I I fun _=>wS 3 I I I<|zC<|?_
 rename_i b6
 have n1:=C3 hbx.1
 have n2:=C3 hbx.2.1
 have n3:=hbx.2.2
 have s1:(itoa x.k++[32]).length<=21:=by rw[List.length_append,List.length_singleton];omega
 have s2:((itoa x.k++[32])++itoa x.s).length<=41:=by rw[List.length_append];omega
 have s3:(((itoa x.k++[32])++itoa x.s)++[32]).length<=42:=by rw[List.length_append,List.length_singleton];omega
 have s4:((((itoa x.k++[32])++itoa x.s)++[32])++x.w).length<=42+m:=by rw[List.length_append];omega
 refine zE<|zU<|qP I<|qB 3 I I I<|qC I I (fun W1 hp=>AF x.k hbx.1.1 hbx.1.2 W1 (ht.hp hp))<|AP (a:=itoa x.k) (b:=[32]) I I I I I (by omega) (by decide) ?_
 refine qP I<|qB 3 I I I<|qC I I (fun W1 hp=>AF x.s hbx.2.1.1 hbx.2.1.2 W1 (ht.hp hp))<|AP (a:=itoa x.k++[32]) (b:=itoa x.s) I I I I I (by omega) (by omega) ?_
 refine AP (a:=(itoa x.k++[32])++itoa x.s) (b:=[32]) I I I I I (by omega) (by decide) ?_
 refine qP I<|qB 3 I I I<|AP (a:=((itoa x.k++[32])++itoa x.s)++[32]) (b:=x.w) I I I I I (by omega) (by omega) ?_
 refine AP (a:=(((itoa x.k++[32])++itoa x.s)++[32])++x.w) (b:=[10]) I I I I I (by omega) (by decide) ?_
 refine zD<|Dr 1 2 (RX x) I I I I hV (by omega) I I I I I I ?_
 rw[<-hts]
 intro V2 hV2
 exact zC<|xj<|wP I<|wV 28 ((i+1:Nat):Int) I (Az (by omega))<|wP I<|zC<|Ax (i+1,V2) ⟨hlt,hV2⟩ (by show l.length-(i+1)<l.length-i;omega) ⟨I,I,I,I,tO⟩ [_] I
section
variable {r:Option Nat} {n:Nat} {W0:World} {N:Nat} {D:List Deferred} {ops:List Oper} {Q:Exit->Act->World->Prop} {o:Oper} {rest:List Oper} {env:Env} {bxs:List Bx}
theorem Uu (i j:Nat) {x:BS} {b:Nat} {l:List UInt8} {c:Call} {f:Operand} {d:Nat} (hi:nth bxs i=some (x.b1 b)) (hj:nth bxs j=some x.b2) (hx:x.OK b l)
  (hg:Aj ops N env o=some true) (hd:o.dst=some d) (ho:o.op= .call c) (hc:c.callee= .value f) (hf:evO N env f=some (.func (.func 154) #[] #[])) (ha:Cl (evO N env) c.args.toList=some [Af b])
  (h:WL r n Tryz.prog N D ops Q rest ((d, .int .i64 (l.length:Nat))::env) (Hp W0 bxs)):WL r n Tryz.prog N D ops Q (o::rest) env (Hp W0 bxs):=by
 refine BK (capt:=[]) (vs:=[Af b]) (v:= .int .i64 (l.length:Nat)) hg hd ho hc hf ha (by kernel_rfl) (fun W hp=>Ag.of1 ((Tryz.Builder_Len_f W0.heap.size b (Lib.byteCells l) W (U5 hp i j hi hj hx)).mono ?_)) h
 rintro e W' ⟨rfl,rfl⟩
 exact⟨by rw[Lib.byteCells_length],Below.refl _ _⟩
end
def alZ (x:AlS):List Int:=[x.w,x.d,x.s,x.l,x.n]
def alK (x:AlS):Nat->List UInt8
 |0=>[]
 |k+1=>(if 0<k then alK x k++[32] else alK x k)++itoa ((alZ x).getD k 0)
def alL (x:AlS):List UInt8:=alK x 5++[10]
abbrev alT (l:List AlS):List UInt8:=l.flatMap alL
def alI (x:AlS):Prop:= ∀z∈alZ x,Bt z
theorem Qm {x:AlS} (h:alI x): ∀k,(alK x k).length<=21*k
 |0=>Nat.zero_le _
 |k+1=>by
  have ih:=Qm h k
  have hz:Bt ((alZ x).getD k 0):=by
   by_cases hk:k<(alZ x).length
   ·rw[List.getD_eq_getElem?_getD,List.getElem?_eq_getElem hk];exact h _ (List.getElem_mem hk)
   ·rw[List.getD_eq_getElem?_getD,List.getElem?_eq_none (by omega)];exact⟨by decide,by decide⟩
  have:=C3 hz
  show((if 0<k then alK x k++[32] else alK x k)++_).length<=_
  rw[List.length_append]
  split
  ·rw[List.length_append,List.length_singleton];omega
  ·omega
theorem Uo {x:AlS} (h:alI x):(alL x).length<=106:=by
 have:=Qm h 5
 unfold alL
 rw[List.length_append,List.length_singleton]
 omega
theorem Iu (l:List AlS) (p:Option Addr) (cap:Nat) (hn:l.length<=70000) (hE:DX l=0) (hb: ∀x∈l,alI x) (W:World) (hA:AB 5 alC W p l) (ht:AZ W):
  Ag Tryz.prog 103 #[slv p l.length cap] W (fun _:Unit=> .tuple (if 65536<(alT l).length then #[str [], .int .i64 4] else #[str (alT l), .int .i64 0])) (fun _=>True) (fun _=>[]):=by
 refine Ab Tryz.func103 I I I<|xb<|Aa I<|xa<|xd<|wP I<|wC I I (fun W1 hp=>(FX l p cap (by omega) W1 (hA.hp hp)).cast (by rw[hE]))<|wP I<|xa<|zS I<|zI<|xe<|wG I I fun _=>zC<|?_
 rename_i b4
 refine zE<|xd<|Ae I<|xa<|zH<|Be ?_
 refine A6 (X:=Nat×BS) (fun x=>[(4,Af b4),(12,slv p l.length cap),(13, .int .i64 (l.length:Nat)),(14, .int .i64 (x.1:Nat))]) (fun x=>[x.2.b1 b4,x.2.b2])
  (fun x=>x.1<=l.length/\x.2.OK b4 (alT (l.take x.1))) (fun x=>l.length-x.1) (0,BS.zero) ⟨Nat.zero_le _,BS.OK.zero b4⟩ ⟨rfl,rfl,rfl,rfl,trivial⟩ [] rfl ?_
 rintro⟨i,V⟩ ⟨hi,hV⟩
 have hi:i<=l.length:=hi
 have hV:V.OK b4 (alT (l.take i)):=hV
 refine xb<|wP I<|?_
 by_cases hlt:i<l.length
 rotate_left
 ·have e:i=l.length:=by omega
  subst e
  rw[List.take_length] at hV
  refine wU 15 false I (dF (by omega))<|xa<|zA<|zS I<|xf<|zE<|xd<|Uu 0 1 I I hV I I I I I I ?_
  refine wP I ?_
  by_cases h6:65536<(alT l).length
  ·exact wU 45 true I (dT (by omega))<|xa<|zR I<|xb<|Aa I<|xc<|zP<|wR2 I I (by rw[if_pos h6])
  ·refine wU 45 false I (dF (by omega))<|xa<|zS I<|zI<|xe<|GI 0 1 I I I I hV I I I I I I ?_
   intro V2 _
   exact Aa I<|xc<|wR2 I I (by rw[if_neg h6])
 refine wU 15 true I (dT (by show(i:Int)<(l.length:Nat);omega))<|xa<|zA<|zR I<|xh<|?_
 obtain⟨b,off,rfl,hrow⟩:=hA.row hlt
 have hr:=hrow i hlt
 have hbx:=hb _ (List.getElem_mem hlt)
 have hlen:(alT (l.take i)).length<=106*i:=Cc alL (fun x hx=>Uo (hb x hx)) i
 have hts:=Ew alL hlt
 obtain⟨x,hx⟩: ∃x,x=l[i]:=⟨_,rfl⟩
 rw[<-hx] at hr hbx hts
 have hll:=Qm hbx
 refine wJ ?_
 refine wL 0 I I (fun W1 hp=>hr.hp hp) I<|wG I I fun _=>wS 2 I I I<|zC<|?_
 rename_i b6
 refine zE<|xd<|wP I<|wB 2 I I I<|wP I<|wB 2 I I I<|wP I<|wB 2 I I I<|wP I<|wB 2 I I I<|wP I<|wB 2 I I I<|?_
 (refine Ai Tryz.hZ tH rfl rfl rfl rfl rfl rfl rfl rfl rfl rfl rfl ?_;intro)
 refine Aa I<|zC<|?_
 rename_i b28
 refine zE<|zH<|B2 [V.b1 b4,V.b2,⟨b28,3,(alZ x).flatMap C9++[],true,none⟩] [0,1,3] (by decide) I I ?_
 refine A6 (X:=Nat×BS) (fun y=>[(4,Af b4),(12,slv (some ⟨b,off,none⟩) l.length cap),(13, .int .i64 (l.length:Nat)),(14, .int .i64 (i:Nat)),(28,slv (some ⟨b28,0,none⟩) 5 5),(29, .int .i64 5),(30, .int .i64 (y.1:Nat))]) (fun y=>[y.2.b1 b4,y.2.b2,⟨b28,3,(alZ x).flatMap C9++[],true,none⟩])
  (fun y=>y.1<=5/\y.2.OK b4 (alT (l.take i)++alK x y.1)) (fun y=>5-y.1) (0,V) ⟨Nat.zero_le _,by show V.OK b4 (alT (l.take i)++[]);rw[List.append_nil];exact hV⟩ ⟨rfl,rfl,rfl,rfl,rfl,rfl,rfl,trivial⟩ [] rfl ?_
 rintro⟨k,V3⟩ ⟨hk,hV3⟩
 have hk:k<=5:=hk
 have hV3:V3.OK b4 (alT (l.take i)++alK x k):=hV3
 have hlk:=hll k
 refine xb<|wP I<|?_
 by_cases hkl:k<5
 rotate_left
 ·have e:k=5:=by omega
  subst e
  refine wU 31 false I (dF (by omega))<|xa<|zA<|zS I<|xf<|zE<|zB<|?_
  refine KU 0 1 10 I I I I hV3 (by rw[List.length_append];omega) I I I I I I ?_
  rw[List.append_assoc,show alK x 5++[10]=alL x from rfl, <-hts]
  intro V4 hV4
  exact zC<|xj<|wP I<|wV 43 ((i+1:Nat):Int) I (Az (by omega))<|wP I<|zC<|Ax (i+1,V4) ⟨hlt,hV4⟩ (by show l.length-(i+1)<l.length-i;omega) ⟨I,I,I,I,tO⟩ [_] I
 refine wU 31 true I (dT (by show(k:Int)<5;omega))<|xa<|zA<|zR I<|xh<|?_
 have hz:Bt ((alZ x).getD k 0):=by
  have:k<(alZ x).length:=hkl
  rw[List.getD_eq_getElem?_getD,List.getElem?_eq_getElem this];exact hbx _ (List.getElem_mem this)
 have hsx:alK x (k+1)=(if 0<k then alK x k++[32] else alK x k)++itoa ((alZ x).getD k 0):=rfl
 have hat: ∀ {bs:List Bx} {W1:World},Hp W bs W1->nth bs 2=some ⟨b28,3,(alZ x).flatMap C9++[],true,none⟩->Al W1 b28 (0+k*1) [.int .i64 ((alZ x).getD k 0)]:=fun hp h2=>by
  obtain⟨b,off,e,hr⟩:=(AB.of_row (junk:=[]) (l:=alZ x) BH (Al.of_bx hp 2 h2 rfl)).row (i:=k) hkl
  cases e
  exact CU 0 hr hkl
 obtain⟨z,hzd⟩: ∃z,z=(alZ x).getD k 0:=⟨_,rfl⟩
 rw[<-hzd] at hz hsx hat
 have hzl:=C3 hz
 refine wP I<|wJ ?_
 refine wL 0 I I (fun W1 hp=>hat hp I) I<|Aa I<|xa<|xd<|Aa I<|?_
 by_cases h0:0<k
 ·rw[if_pos h0] at hsx
  refine wU 36 true I (dT (by show(k:Int)>0;omega))<|xa<|zR I<|zB<|?_
  refine KU 0 1 32 I I I I hV3 (by rw[List.length_append];omega) I I I I I I ?_
  intro V4 hV4
  rw[List.append_assoc] at hV4
  refine xa<|zB<|wP I<|wC I I (fun W1 hp=>AF z hz.1 hz.2 W1 (ht.hp hp))<|?_
  refine Dr 0 1 (itoa z) I I I I hV4 (by rw[List.length_append,List.length_append,List.length_singleton];omega) I I I I I I ?_
  rw[List.append_assoc, <-hsx]
  intro V5 hV5
  exact zC<|xj<|wP I<|wV 41 ((k+1:Nat):Int) I (Az (by omega))<|wP I<|zC<|Ax (k+1,V5) ⟨hkl,hV5⟩ (by show 5-(k+1)<5-k;omega) ⟨I,I,I,I,I,I,I,tO⟩ [] I
 ·rw[if_neg h0] at hsx
  refine wU 36 false I (dF (by show¬(k:Int)>0;omega))<|xa<|zS I<|zI<|zE<|zB<|wP I<|wC I I (fun W1 hp=>AF z hz.1 hz.2 W1 (ht.hp hp))<|?_
  refine Dr 0 1 (itoa z) I I I I hV3 (by rw[List.length_append];omega) I I I I I I ?_
  rw[List.append_assoc, <-hsx]
  intro V5 hV5
  exact zC<|xj<|wP I<|wV 41 ((k+1:Nat):Int) I (Az (by omega))<|wP I<|zC<|Ax (k+1,V5) ⟨hkl,hV5⟩ (by show 5-(k+1)<5-k;omega) ⟨I,I,I,I,I,I,I,tO⟩ [] I
def DZ (g:Int×Int):List UInt8:=(itoa g.1++[45])++itoa g.2
def Et (b:BrS):List (List UInt8):=[itoa b.w,itoa b.d,itoa b.l,itoa b.n,itoa b.c]
def Sz (b:BrS):List UInt8:=join (Et b++b.g.map DZ) [32]++[10]
abbrev WB (l:List BrS):List UInt8:=l.flatMap Sz
structure Yl (b:BrS):Prop where
 w:Bt b.w
 d:Bt b.d
 l:Bt b.l
 n:Bt b.n
 c:Bt b.c
 g: ∀x∈b.g,Bt x.1/\Bt x.2
 k:b.g.length<=16
theorem Y7 {g:Int×Int} (h:Bt g.1/\Bt g.2):(DZ g).length<=41:=by
 have:=C3 h.1
 have:=C3 h.2
 unfold DZ
 simp only[List.length_append,List.length_cons,List.length_nil]
 omega
theorem Pi {ws:List (List UInt8)} {n:Nat} (h: ∀w∈ws,w.length<=n):(join ws [32]).length<=(n+1)*ws.length:=by
 induction ws with
 |nil=>exact Nat.zero_le _
 |cons a r ih=>
  have ha:=h a (List.mem_cons_self ..)
  cases r with
  |nil=>rw[join_one,List.length_singleton];omega
  |cons c r=>
   have:=ih fun w hw=>h w (List.mem_cons_of_mem _ hw)
   rw[Gm,List.length_append,List.length_cons,List.length_cons (a:=a),Nat.mul_succ]
   omega
theorem JY {b:BrS} (h:Yl b) {k:Nat} (hk:k<=b.g.length):(∀w∈Et b++(b.g.take k).map DZ,w.length<=41)/\(Et b++(b.g.take k).map DZ).length=5+k:=by
 refine⟨fun w hw=> ?_,by rw[List.length_append,List.length_map,List.length_take,Nat.min_eq_left hk];rfl⟩
 rcases List.mem_append.1 hw with hw|hw
 ·have h1:=C3 h.w
  have h2:=C3 h.d
  have h3:=C3 h.l
  have h4:=C3 h.n
  have h5:=C3 h.c
  simp only[Et,List.mem_cons,List.not_mem_nil,or_false] at hw
  rcases hw with rfl|rfl|rfl|rfl|rfl<;>omega
 ·obtain⟨g,hg,rfl⟩:=List.mem_map.1 hw
  exact Y7 (h.g g (List.mem_of_mem_take hg))
theorem L3 {b:BrS} (h:Yl b):(Sz b).length<=890:=by
 obtain⟨h1,h2⟩:=JY h (Nat.le_refl _)
 have hk:=h.k
 rw[List.take_length] at h1 h2
 have:=Pi h1
 rw[h2] at this
 unfold Sz
 rw[List.length_append,List.length_singleton]
 omega
theorem MV (l:List BrS) (p:Option Addr) (cap:Nat) (hn:l.length<=1000) (hE:Cz l=0) (hb: ∀x∈l,Yl x) (W:World) (hA:Hg W p l) (ht:AZ W):
  Ag Tryz.prog 98 #[slv p l.length cap] W (fun _:Unit=> .tuple #[str (WB l), .int .i64 0]) (fun _=>True) (fun _=>[]):=by
 have hgl: ∀b∈l,b.g.length<=1000000:=fun b h=>by have:=(hb b h).k;omega
 refine Ab Tryz.func98 I I I<|xb<|Aa I<|xa<|xd<|wP I<|wC I I (fun W1 hp=>(GO l p cap (by omega) hgl W1 (hA.hp hp)).cast (by rw[hE]))<|wP I<|xa<|zS I<|zI<|xe<|wG I I fun _=>zC<|?_
 rename_i b4
 refine zE<|xd<|Ae I<|xa<|zH<|Be ?_
 refine A6 (X:=Nat×BS) (fun x=>[(4,Af b4),(13,slv p l.length cap),(14, .int .i64 (l.length:Nat)),(15, .int .i64 (x.1:Nat))]) (fun x=>[x.2.b1 b4,x.2.b2])
  (fun x=>x.1<=l.length/\x.2.OK b4 (WB (l.take x.1))) (fun x=>l.length-x.1) (0,BS.zero) ⟨Nat.zero_le _,BS.OK.zero b4⟩ ⟨rfl,rfl,rfl,rfl,trivial⟩ [] rfl ?_
 rintro⟨i,V⟩ ⟨hi,hV⟩
 have hi:i<=l.length:=hi
 have hV:V.OK b4 (WB (l.take i)):=hV
 refine xb<|wP I<|?_
 by_cases hlt:i<l.length
 rotate_left
 ·have e:i=l.length:=by omega
  subst e
  rw[List.take_length] at hV
  refine wU 16 false I (dF (by omega))<|xa<|zA<|zS I<|xf<|xe<|GI 0 1 I I I I hV I I I I I I ?_
  intro V2 _
  exact Aa I<|xc<|wR2 I I I
 refine wU 16 true I (dT (by show(i:Int)<(l.length:Nat);omega))<|xa<|zA<|zR I<|xh<|?_
 obtain⟨b,off,rfl,hrow⟩:=hA.row hlt
 obtain⟨q,cq,hr,hG⟩:=hrow i hlt
 have hbx:=hb _ (List.getElem_mem hlt)
 have hlen:(WB (l.take i)).length<=890*i:=Cc Sz (fun x hx=>L3 (hb x hx)) i
 have hts:=Ew Sz hlt
 obtain⟨x,hx⟩: ∃x,x=l[i]:=⟨_,rfl⟩
 rw[<-hx] at hr hbx hts hG
 have hll:=L3 hbx
 refine wJ ?_
 refine wL 0 I I (fun W1 hp=>hr.hp hp) I<|wG I I fun _=>wS 2 I I I<|zC<|?_
 rename_i b6
 refine zE<|zA<|zU<|qP I<|qB 2 I I I<|qC I I (fun W1 hp=>AF x.w hbx.w.1 hbx.w.2 W1 (ht.hp hp))<|qP I<|qB 2 I I I<|qC I I (fun W1 hp=>AF x.d hbx.d.1 hbx.d.2 W1 (ht.hp hp))<|qP I<|qB 2 I I I<|qC I I (fun W1 hp=>AF x.l hbx.l.1 hbx.l.2 W1 (ht.hp hp))<|qP I<|qB 2 I I I<|qC I I (fun W1 hp=>AF x.n hbx.n.1 hbx.n.2 W1 (ht.hp hp))<|qP I<|qB 2 I I I<|qC I I (fun W1 hp=>AF x.c hbx.c.1 hbx.c.2 W1 (ht.hp hp))<|zD<|?_
 (refine Ai Tryz.hZ tH rfl rfl rfl rfl rfl rfl rfl rfl rfl rfl rfl ?_;intro)
 refine wP I<|zC<|?_
 rename_i b34
 refine zE<|xd<|wP I<|wB 2 I I I<|Aa I<|xa<|zH<|?_
 refine A6 (X:=Nat×Vec) (fun y=>[(4,Af b4),(7,y.2.val (Et x++(x.g.take y.1).map DZ).length),(13,slv (some ⟨b,off,none⟩) l.length cap),(14, .int .i64 (l.length:Nat)),(15, .int .i64 (i:Nat)),(36,slv q x.g.length cq),(37, .int .i64 (x.g.length:Nat)),(38, .int .i64 (y.1:Nat))]) (fun y=>[V.b1 b4,V.b2,⟨b6,87,brC x q cq,true,none⟩,y.2.bx 9 (ss (Et x++(x.g.take y.1).map DZ))])
  (fun y=>y.1<=x.g.length/\y.2.OK 1 (Et x++(x.g.take y.1).map DZ).length (ss (Et x++(x.g.take y.1).map DZ))) (fun y=>x.g.length-y.1) (0,⟨some b34,5,[]⟩) ⟨Nat.zero_le _,⟨rfl,fun h=>(by cases h),fun _=>⟨by show 5<=5;omega,by simp only[maxLen];omega,rfl⟩⟩⟩ ⟨rfl,rfl,rfl,rfl,rfl,rfl,rfl,rfl,trivial⟩ [] rfl ?_
 rintro⟨k,U⟩ ⟨hk,hU⟩
 have hk:k<=x.g.length:=hk
 have hU:U.OK 1 (Et x++(x.g.take k).map DZ).length (ss (Et x++(x.g.take k).map DZ)):=hU
 obtain⟨hw1,hw2⟩:=JY hbx hk
 have hgk:=hbx.k
 refine xb<|wP I<|?_
 by_cases hkl:k<x.g.length
 rotate_left
 ·have e:k=x.g.length:=by omega
  subst e
  rw[List.take_length] at hU hw1 hw2
  refine wU 39 false I (dF (by omega))<|xa<|zA<|zS I<|xf<|xe<|?_
  have hjl:=Pi hw1
  rw[hw2] at hjl
  obtain⟨up,uc,uj⟩:=U
  cases up with
  |none=>exact absurd (hU.nil rfl) (by rw[hw2];omega)
  |some gu=>
  have hcp:=(hU.cap (by simp)).1
  refine Ao 7 (.slice (some ⟨gu,0,none⟩) (Et x++x.g.map DZ).length uc) I (by show Value.slice _ (Et x++(x.g.take x.g.length).map DZ).length _=_;rw[List.take_length])<|wP I<|wC I I (fun W1 hp=>GD hp 3 (g:=gu) (cap:=uc) (junk:=uj) (ws:=Et x++x.g.map DZ) (by show some (Bx.mk gu _ (ss (Et x++(x.g.take x.g.length).map DZ)++uj) true none)=_;rw[List.take_length]) hcp (by omega) (by omega))<|Dr 0 1 (join (Et x++x.g.map DZ) [32]) I I I I hV (by omega) I I I I I I ?_
  intro V3 hV3
  refine xa<|zB<|?_
  refine KU 0 1 10 I I I I hV3 (by rw[List.length_append];omega) I I I I I I ?_
  rw[List.append_assoc,show join (Et x++x.g.map DZ) [32]++[10]=Sz x from rfl, <-hts]
  intro V4 hV4
  exact zC<|xj<|wP I<|wV 58 ((i+1:Nat):Int) I (Az (by omega))<|wP I<|zC<|Ax (i+1,V4) ⟨hlt,hV4⟩ (by show l.length-(i+1)<l.length-i;omega) ⟨I,I,I,I,tO⟩ [_,_] I
 refine wU 39 true I (dT (by show(k:Int)<(x.g.length:Nat);omega))<|xa<|zA<|zR I<|xh<|?_
 have htk:x.g.take (k+1)=x.g.take k++[x.g[k]]:=by rw[List.take_add_one,List.getElem?_eq_getElem hkl];rfl
 have hw3:=(JY hbx (show k+1<=x.g.length from hkl)).2
 obtain⟨gb,go,rfl,hgrow⟩:=hG.row hkl
 have hgr:=hgrow k hkl
 have hgi:=hbx.g _ (List.getElem_mem hkl)
 obtain⟨g,hgd⟩: ∃g,g=x.g[k]:=⟨_,rfl⟩
 rw[<-hgd] at htk hgr hgi
 have m1:=C3 hgi.1
 have m2:=C3 hgi.2
 refine wJ ?_
 refine wL 0 I I (fun W1 hp=>hgr.hp hp) I<|wG I I fun _=>wS 4 I I I<|zC<|?_
 rename_i b9
 refine Le ?_
 refine Bh (X:= { y:Vec//y.OK 1 (Et x++(x.g.take (k+1)).map DZ).length (ss (Et x++(x.g.take (k+1)).map DZ)) }) [true,true,true,true,true,true,true,true,true,false,false,false] (fun y=>[(4,Af b4),(7,y.1.val (Et x++(x.g.take (k+1)).map DZ).length),(13,slv (some ⟨b,off,none⟩) l.length cap),(14, .int .i64 (l.length:Nat)),(15, .int .i64 (i:Nat)),(36,slv (some ⟨gb,go,none⟩) x.g.length cq),(37, .int .i64 (x.g.length:Nat)),(38, .int .i64 (k:Nat))]) (fun y=>[V.b1 b4,V.b2,⟨b6,87,brC x (some ⟨gb,go,none⟩) cq,true,none⟩,y.1.bx 9 (ss (Et x++(x.g.take (k+1)).map DZ))])
  3 [V.b1 b4,V.b2,⟨b6,87,brC x (some ⟨gb,go,none⟩) cq,true,none⟩,U.bx 9 (ss (Et x++(x.g.take k).map DZ)),⟨b9,177,gpC g,true,none⟩] Tryz.mixed (by kernel_rfl) ?_ ?_
 ·refine AO I<|qB 4 I I I<|qC I I (fun W1 hp=>AF g.1 hgi.1.1 hgi.1.2 W1 (ht.hp hp))<|AP (a:=itoa g.1) (b:=[45]) I I I I I (by omega) (by decide) ?_
  refine qP I<|qB 4 I I I<|qC I I (fun W1 hp=>AF g.2 hgi.2.1 hgi.2.2 W1 (ht.hp hp))<|?_
  refine AP (a:=itoa g.1++[45]) (b:=itoa g.2) I I I I I (by rw[List.length_append,List.length_singleton];omega) (by omega) ?_
  refine Cp<|wX<|wZ<|?_
  (refine Ai Tryz.hZ tH rfl rfl rfl rfl rfl rfl rfl rfl rfl rfl rfl ?_;intro)
  refine zC<|Aw<|wX<|wZ<|?_
  refine AA (V:=U) (len:=(Et x++(x.g.take k).map DZ).length) (xs:=ss (Et x++(x.g.take k).map DZ)) 3 5 Tryz.vec126 (Et x++(x.g.take (k+1)).map DZ).length (ss (Et x++(x.g.take (k+1)).map DZ)) rfl rfl rfl rfl rfl rfl rfl rfl rfl rfl rfl hU rfl rfl (by rw[htk,List.map_append,List.length_append,List.length_append,List.length_append];rfl) (by rw[htk,List.map_append, <-List.append_assoc];show ss (Et x++(x.g.take k).map DZ)++ss [DZ g]=ss (Et x++(x.g.take k).map DZ++[DZ g]);exact(List.map_append ..).symm) (by rw[hw3];simp only[maxLen];omega) (by rw[hw3];omega) rfl ?_;intro g2 c2 j2 hU2
  refine zC<|Aw<|wY<|wZ<|wP I<|zC<|Aw<|Cq I (by kernel_rfl) ?_
  exact AR ⟨⟨some g2,c2,j2⟩,hU2⟩ ⟨I,I,I,I,I,I,I,I,tO⟩ [0,1,2,3] (by decide) I
 rintro⟨U2,hU2⟩
 exact xj<|wP I<|wV 53 ((k+1:Nat):Int) I (Az (by omega))<|wP I<|zC<|Ax (k+1,U2) ⟨hkl,hU2⟩ (by show x.g.length-(k+1)<x.g.length-k;omega) ⟨I,I,I,I,I,I,I,I,tO⟩ [] I
theorem DN {z a b:Int} (h:wn z a b) (ha: -4611686018427387904<=a) (hb:b<=4611686018427387904):Bt z:=by
 unfold wn at h
 unfold Bt
 omega
theorem UG (l:List Int): ∀(k i:Nat),OX l i k=0-> ∀j,i<=j->j<i+k->wn (l.getD j 0) 0 1048576
 |0,_,_,_,h1,h2=>absurd h2 (by omega)
 |k+1,i,h,j,h1,h2=>by
  rw[Oa] at h
  obtain⟨a,h⟩:=BP (by decide) h
  obtain⟨_,h⟩:=BP (by decide) h
  by_cases e:j=i
  ·subst e;exact Classical.not_not.1 a
  ·exact UG l k (i+1) h j (by omega) (by omega)
theorem Yv {l:List Int} (h:F4 l=0): ∀z∈l,Bt z:=by
 obtain⟨_,h⟩:=BP (by decide) h
 intro z hz
 obtain⟨j,hj,rfl⟩:=List.getElem_of_mem hz
 have a:=UG l _ 0 h j (Nat.zero_le _) (by omega)
 rw[List.getD_eq_getElem?_getD,List.getElem?_eq_getElem hj] at a
 exact DN (show wn l[j] 0 1048576 from a) (by decide) (by decide)
theorem UZ (l:List AlS): ∀(k i:Nat),P4 l i k=0-> ∀j,i<=j->j<i+k->alR (l.getD j default)
 |0,_,_,_,h1,h2=>absurd h2 (by omega)
 |k+1,i,h,j,h1,h2=>by
  rw[Ob] at h
  obtain⟨a,h⟩:=BP (by decide) h
  obtain⟨_,h⟩:=BP (by decide) h
  by_cases e:j=i
  ·subst e;exact Classical.not_not.1 a
  ·exact UZ l k (i+1) h j (by omega) (by omega)
theorem LE {l:List AlS} (h:DX l=0): ∀x∈l,alI x:=by
 obtain⟨_,h⟩:=BP (by decide) h
 intro x hx
 obtain⟨j,hj,rfl⟩:=List.getElem_of_mem hx
 have a:=UZ l _ 0 h j (Nat.zero_le _) (by omega)
 rw[List.getD_eq_getElem?_getD,List.getElem?_eq_getElem hj] at a
 have a:alR l[j]:=a
 generalize l[j]=y at a
 intro z hz
 obtain⟨⟨⟨a1,a2⟩,a3,a4⟩,a5⟩:=a
 simp only[alZ,List.mem_cons,List.not_mem_nil,or_false] at hz
 rcases hz with rfl|rfl|rfl|rfl|rfl
 ·exact DN a1 (by decide) (by decide)
 ·exact DN a2 (by decide) (by decide)
 ·exact DN a3 (by decide) (by decide)
 ·exact DN a4 (by decide) (by decide)
 ·exact DN a5 (by decide) (by decide)
theorem Od: ∀ {l:List BrS},GW l=0-> ∀b∈l,Hj b=0
 |[],_,b,hb=>absurd hb List.not_mem_nil
 |a::l,h,b,hb=>by
  have e:(if Hj a≠0 then Hj a else GW l)=0:=h
  by_cases h0:Hj a=0
  ·rw[if_neg fun h=>h h0] at e
   rcases List.mem_cons.1 hb with rfl|hb
   ·exact h0
   ·exact Od e b hb
  ·rw[if_pos h0] at e;exact absurd e h0
theorem U9 (L:Int) (g:List (Int×Int)): ∀(k i:Nat),OV L g i k=0-> ∀j,i<=j->j<i+k->0<=(g.getD j (0,0)).1/\(g.getD j (0,0)).1<(g.getD j (0,0)).2/\(g.getD j (0,0)).2<=L
 |0,_,_,_,h1,h2=>absurd h2 (by omega)
 |k+1,i,h,j,h1,h2=>by
  rw[Oh] at h
  obtain⟨a,h⟩:=BP (by decide) h
  obtain⟨_,h⟩:=BP (by decide) h
  by_cases e:j=i
  ·subst e;omega
  ·exact U9 L g k (i+1) h j (by omega) (by omega)
theorem Z3 {b:BrS} (h:Hj b=0):Yl b:=by
 obtain⟨a,h⟩:=BP (by decide) h
 obtain⟨hk,h⟩:=BP (by decide) h
 obtain⟨h1,h2,h3,h4,h5⟩:=Classical.not_not.1 a
 refine⟨DN h1 (by decide) (by decide),DN h2 (by decide) (by decide),DN h3 (by decide) (by decide),DN h4 (by decide) (by decide),DN h5 (by decide) (by decide),fun x hx=> ?_,by omega⟩
 obtain⟨j,hj,rfl⟩:=List.getElem_of_mem hx
 have:=U9 b.l b.g _ 0 h j (Nat.zero_le _) (by omega)
 rw[List.getD_eq_getElem?_getD,List.getElem?_eq_getElem hj] at this
 have this:0<=(b.g[j]).1/\(b.g[j]).1<(b.g[j]).2/\(b.g[j]).2<=b.l:=this
 unfold wn at h3
 unfold Bt
 omega
theorem JE {l:List BrS} (h:Cz l=0):l.length<=64/\ ∀b∈l,Yl b:=by
 obtain⟨a,h⟩:=BP (by decide) h
 exact⟨by omega,fun b hb=>Z3 (Od h b hb)⟩
theorem Vf (l:List LdS): ∀(k i:Nat),ldE1 l i k=0-> ∀j,i<=j->j<i+k-> ¬ldK (l.getD j default)/\ ¬ldR (l.getD j default)
 |0,_,_,_,h1,h2=>absurd h2 (by omega)
 |k+1,i,h,j,h1,h2=>by
  rw[On] at h
  obtain⟨a,h⟩:=BP (by decide) h
  obtain⟨b,h⟩:=BP (by decide) h
  by_cases e:j=i
  ·subst e;exact⟨a,b⟩
  ·by_cases h0:wgtE (l.getD i default).w≠0
   ·rw[if_pos h0] at h;exact absurd h h0
   ·rw[if_neg h0] at h;exact Vf l k (i+1) h j (by omega) (by omega)
theorem YD {l:List LdS} (h:loadE l=0):l.length<=64/\ ∀x∈l,Bt x.k/\Bt x.s:=by
 obtain⟨a,h⟩:=BP (by decide) h
 refine⟨by omega,fun x hx=> ?_⟩
 obtain⟨j,hj,rfl⟩:=List.getElem_of_mem hx
 have:=Vf l _ 0 h j (Nat.zero_le _) (by omega)
 rw[List.getD_eq_getElem?_getD,List.getElem?_eq_getElem hj] at this
 have h1: ¬ldK l[j]:=this.1
 have h2: ¬ldR l[j]:=this.2
 unfold ldK at h1
 unfold ldR at h2
 unfold Bt
 omega
theorem YQ {rs:List (List Sd)} {L:List OpS} (h:Lp rs L=0) (hT:rs.flatten.length<=1000000):L.length<=32/\ ∀x∈L,Bt x.s:=by
 unfold Lp at h
 by_cases h0:(Es L).2≠0
 ·rw[if_pos h0] at h;exact absurd h h0
 rw[if_neg h0] at h
 obtain⟨_,h⟩:=BP (by decide) h
 obtain⟨h2,h⟩:=BP (by decide) h
 refine⟨?_,fun x hx=> ?_⟩
 ·by_cases h32:32<L.length
  ·exact absurd (show(Es L).2=4 by unfold Es;rw[if_pos h32]) (by intro e;rw[e] at h0;exact h0 (by decide))
  ·omega
 ·by_cases hw:wn x.s 0 ((rs.flatten.length:Int)-1)
  ·exact DN hw (by decide) (by omega)
  ·exact absurd (List.any_eq_true.2 ⟨x,hx,by rw[dF hw];rfl⟩) h2
structure Ns (j:JbS) (a:JbA):Prop where
 ok:jobE j=0
 z:RE j a
 nm:j.name.length<=65537
 pu:j.pu.length<=65537
 op: ∀x∈j.op, ∀a∈[x.l,x.r,x.o,x.i],a.length<=65537
 sz:j.sz.length<=65537
 ld: ∀x∈j.ld,x.w.length<=65537
 sn:j.sn.length<=65537
structure fD (j:JbS):Prop where
 rs:chk j.rs=0
 o:Bt j.o
 sp:Bt j.sp
 k:Bt j.k
 pu: ∀z∈j.pu,Bt z
 op:j.op.length<=32/\ ∀x∈j.op,Bt x.s
 sz:D4 j.sz=0
 br:Cz j.br=0
 ld:j.ld.length<=64/\ ∀x∈j.ld,Bt x.k/\Bt x.s
 sn:DX j.sn=0
 tl:Bt j.tw/\Bt j.tl/\Bt j.tp/\Bt j.tt
theorem GV {c x:Int} (h:(if c≠0 then c else x)=0):c=0/\x=0:=by
 by_cases h0:c≠0
 ·rw[if_pos h0] at h;exact absurd h h0
 ·rw[if_neg h0] at h;exact⟨Classical.not_not.1 h0,h⟩
theorem Xj {w l p t:Int} (h:Gi w l p t=0):Bt w/\Bt l/\Bt p/\Bt t:=by
 unfold Gi at h
 by_cases h0:wn w 1 2000/\wn l 1 2000/\wn p 0 (l-1)/\wn t 0 1000
 ·obtain⟨h1,h2,h3,h4⟩:=h0
  unfold wn at h1 h2 h3 h4
  unfold Bt
  omega
 ·rw[if_neg h0] at h;cases h
theorem FF {j:JbS} (h:jobE j=0):fD j:=by
 unfold jobE at h
 obtain⟨_,h⟩:=BP (by decide) h
 obtain⟨hr,h⟩:=GV h
 obtain⟨ho,h⟩:=BP (by decide) h
 obtain⟨h1,h2⟩:=Classical.not_not.1 ho
 obtain⟨hpu,h⟩:=GV h
 obtain⟨hop,h⟩:=GV h
 obtain⟨hsz,h⟩:=GV h
 obtain⟨hbr,h⟩:=GV h
 obtain⟨hk,h⟩:=BP (by decide) h
 obtain⟨htl,h⟩:=GV h
 obtain⟨hld,h⟩:=GV h
 have hT:=(Ln hr).2.1
 exact⟨hr,DN h1 (by decide) (by decide),DN h2 (by decide) (by decide),DN (Classical.not_not.1 hk) (by decide) (by decide),Yv hpu,YQ hop (by rw[Kx];omega),hsz,hbr,YD hld,h,Xj htl⟩
def Pk:Nat->List UInt8:=fun k=>[[112,108,97,110],[112,117,114,108,105,110,115],[111,112,101,110,105,110,103,115],[115,105,122,101,115],[98,97,114,115],[108,111,97,100,115],[115,112,97,110,115]].getD k []
def prF:Nat->Nat:=fun k=>[85,89,91,93,97,100,102].getD k 0
def rdF:Nat->Nat:=fun k=>[87,90,92,95,99,101,104].getD k 0
abbrev fvJ (n:Nat):Value:= .func (.func n) #[] #[]
def Qq (k:Nat):List Value:=[str (Pk k),fvJ (prF k),fvJ (rdF k)]
def T6:List Nat:=[0,1,2,3,4,5,6]
theorem lt7 {k:Nat} (h:k<7):k=0\/k=1\/k=2\/k=3\/k=4\/k=5\/k=6:=by omega
theorem Mp (k:Nat):(Pk k).length<=8:=by
 by_cases h:k<7
 ·rcases lt7 h with rfl|rfl|rfl|rfl|rfl|rfl|rfl<;>decide
 ·show([[112,108,97,110],[112,117,114,108,105,110,115],[111,112,101,110,105,110,103,115],[115,105,122,101,115],[98,97,114,115],[108,111,97,100,115],[115,112,97,110,115]].getD k []).length<=8
  rw[List.getD_eq_getElem?_getD,List.getElem?_eq_none (by show 7<=k;omega)]
  exact Nat.zero_le _
theorem SC {k:Nat} (h:k<7):Bm Tryz.prog (prF k)=true:=by
 rcases lt7 h with rfl|rfl|rfl|rfl|rfl|rfl|rfl<;>kernel_rfl
theorem Tu {k:Nat} (h:k<7):Bm Tryz.prog (rdF k)=true:=by
 rcases lt7 h with rfl|rfl|rfl|rfl|rfl|rfl|rfl<;>kernel_rfl
abbrev ZC:Value:= .agg #[str [], .nilFunc, .nilFunc]
theorem HQ (W:World):Ag Tryz.prog 55 #[] W (fun g:Nat=>slv (some ⟨g,0,none⟩) 7 7) (fun _=>True) (fun g=>[⟨g,118,T6.flatMap Qq++[],true,none⟩]):=by
 refine Ab Tryz.func55 I I I<|xb<|wP I<|xg<|?_
 iterate 7 refine EJ ZC tH I I I I I (fun W=>by kernel_rfl) I I ?_
 refine EQ ZC tH I I I I I (fun W=>by kernel_rfl) I I I I I (fun g=> ?_)
 exact wP I<|xc<|Ar tH I (.tmp I) g I tO fun W1 hp=>hp.own
theorem T5 {W0 W:World} {bs:List Bx} {g:Nat} (hp:Hp W0 bs W) (i:Nat) (hi:nth bs i=some ⟨g,118,T6.flatMap Qq++[],true,none⟩) {k:Nat} (hk:k<7):Al W g (0+k*3) (Qq k):=by
 obtain⟨b,off,e,hr⟩:=(AB.of_row (k:=3) (c:=Qq) (junk:=[]) (l:=T6) (fun _=>rfl) (Al.of_bx hp i hi rfl)).row (i:=k) hk
 cases e
 have h:=hr k hk
 have e:T6[k]'hk=k:=by rcases lt7 hk with rfl|rfl|rfl|rfl|rfl|rfl|rfl<;>rfl
 rw[e] at h
 exact h
def prT (k:Nat) (j:JbS):List UInt8×Int:=match k with
 |0=>(Bj j.rs,0)
 |1=>(Xk j.pu,0)
 |2=>(YJ j.op,0)
 |3=>(szT j.sz,0)
 |4=>(WB j.br,0)
 |5=>(WV j.ld,0)
 |_=>if 65536<(alT j.sn).length then([],4) else(alT j.sn,0)
def XD:Nat->Nat:=fun k=>[20000,1400000,8500000,2100000,58000,4300000,7000000].getD k 0
theorem Ut {j:JbS} {a:JbA} (h:Ns j a) {k:Nat} (hk:k<7):(prT k j).1.length<=XD k:=by
 have v:=FF h.ok
 rcases lt7 hk with rfl|rfl|rfl|rfl|rfl|rfl|rfl
 ·obtain⟨hne,hT,_⟩:=Ln v.rs
  have h1:=(Li (Ok v.rs).1 j.rs.length (Nat.le_refl _)).1
  have h2:=J5 hne j.rs.length (Nat.le_refl _)
  rw[List.take_length] at h1 h2
  show(Bj j.rs).length<=20000
  omega
 ·have h1:=Cc QN (l:=j.pu) (n:=21) (fun x hx=>My (v.pu x hx)) j.pu.length
  rw[List.take_length] at h1
  have:=h.pu
  show(j.pu.flatMap QN).length<=1400000
  omega
 ·have h1:=Cc Rn (l:=j.op) (n:=25+4*65537) (fun x hx=>Lk (v.op.2 x hx) (h.op x hx)) j.op.length
  rw[List.take_length] at h1
  have:=v.op.1
  show(j.op.flatMap Rn).length<=8500000
  omega
 ·have h1:=Cc szL (l:=j.sz) (n:=31) (fun x hx=>by
   obtain⟨i,hi,rfl⟩:=List.getElem_of_mem hx
   obtain⟨a,b,c⟩:=M6 v.sz hi
   exact P9 a b c) j.sz.length
  rw[List.take_length] at h1
  have:=h.sz
  show(j.sz.flatMap szL).length<=2100000
  omega
 ·obtain⟨h0,hb⟩:=JE v.br
  have h1:=Cc Sz (l:=j.br) (n:=890) (fun x hx=>L3 (hb x hx)) j.br.length
  rw[List.take_length] at h1
  show(j.br.flatMap Sz).length<=58000
  omega
 ·have h1:=Cc RX (l:=j.ld) (n:=43+65537) (fun x hx=>Ma (v.ld.2 x hx).1 (v.ld.2 x hx).2 (h.ld x hx)) j.ld.length
  rw[List.take_length] at h1
  have:=v.ld.1
  show(j.ld.flatMap RX).length<=4300000
  omega
 ·have h1:=Cc alL (l:=j.sn) (n:=106) (fun x hx=>Uo (LE v.sn x hx)) j.sn.length
  rw[List.take_length] at h1
  have:=h.sn
  show(if 65536<(alT j.sn).length then(([]:List UInt8),(4:Int)) else(alT j.sn,0)).1.length<=7000000
  split
  ·exact Nat.zero_le _
  ·show(alT j.sn).length<=7000000
   omega
theorem VM (j:JbS) (a:JbA) (h:Ns j a) (W:World) (hm:Gb W j a) (ht:AZ W):
  Ag Tryz.prog 85 #[.agg (CT j a).toArray] W (fun _:Unit=> .tuple #[str (prT 0 j).1, .int .i64 (prT 0 j).2]) (fun _=>True) (fun _=>[]):=by
 have v:=FF h.ok
 exact Ab Tryz.func85 I I I<|xb<|wF I I fun _=>Aa I<|xg<|wP I<|wB 0 I I I<|wC I I (fun W1 hp=>Yy W1 a.pR a.cR j.rs h.z.rs (hm.hp hp).rs v.rs (ht.hp hp))<|A3 I<|xc<|wR2 I I I
theorem VG (j:JbS) (a:JbA) (h:Ns j a) (W:World) (hm:Gb W j a) (ht:AZ W) (hw:Bo W):
  Ag Tryz.prog 93 #[.agg (CT j a).toArray] W (fun _:Unit=> .tuple #[str (prT 3 j).1, .int .i64 (prT 3 j).2]) (fun _=>True) (fun _=>[]):=by
 have v:=FF h.ok
 exact Ab Tryz.func93 I I I<|xb<|wF I I fun _=>Aa I<|xg<|wP I<|wB 0 I I I<|wC I I (fun W1 hp=>P6 j.sz a.pS a.cS (by have:=h.sz;omega) v.sz W1 (hm.hp hp).sz (ht.hp hp) (hw.hp hp))<|A3 I<|xc<|wR2 I I I
theorem Wa (j:JbS) (a:JbA) (h:Ns j a) (W:World) (hm:Gb W j a) (ht:AZ W):
  Ag Tryz.prog 97 #[.agg (CT j a).toArray] W (fun _:Unit=> .tuple #[str (prT 4 j).1, .int .i64 (prT 4 j).2]) (fun _=>True) (fun _=>[]):=by
 have v:=FF h.ok
 exact Ab Tryz.func97 I I I<|xb<|wF I I fun _=>Aa I<|xg<|wP I<|wB 0 I I I<|wC I I (fun W1 hp=>MV j.br a.pB a.cB (by have:=(JE v.br).1;omega) v.br (JE v.br).2 W1 (hm.hp hp).br (ht.hp hp))<|A3 I<|xc<|wR2 I I I
theorem Vi (j:JbS) (a:JbA) (h:Ns j a) (W:World) (hm:Gb W j a) (ht:AZ W):
  Ag Tryz.prog 102 #[.agg (CT j a).toArray] W (fun _:Unit=> .tuple #[str (prT 6 j).1, .int .i64 (prT 6 j).2]) (fun _=>True) (fun _=>[]):=by
 have v:=FF h.ok
 refine Ab Tryz.func102 I I I<|xb<|wF I I fun _=>Aa I<|xg<|wP I<|wB 0 I I I<|?_
 by_cases h6:65536<(alT j.sn).length
 ·have e:prT 6 j=([],4):=by show(if _ then _ else _)=_;rw[if_pos h6]
  exact wC I I (fun W1 hp=>(Iu j.sn a.pN a.cN (by have:=h.sn;omega) v.sn (LE v.sn) W1 (hm.hp hp).sn (ht.hp hp)).cast (v':= .tuple #[str [], .int .i64 4]) (by rw[if_pos h6]))<|A3 I<|xc<|wR2 I I (by rw[e])
 ·have e:prT 6 j=(alT j.sn,0):=by show(if _ then _ else _)=_;rw[if_neg h6]
  exact wC I I (fun W1 hp=>(Iu j.sn a.pN a.cN (by have:=h.sn;omega) v.sn (LE v.sn) W1 (hm.hp hp).sn (ht.hp hp)).cast (v':= .tuple #[str (alT j.sn), .int .i64 0]) (by rw[if_neg h6]))<|A3 I<|xc<|wR2 I I (by rw[e])
theorem X3 {k:Nat} (hk:k<7) (j:JbS) (a:JbA) (h:Ns j a) (W:World) (hm:Gb W j a) (ht:AZ W) (hw:Bo W):
  Ag Tryz.prog (prF k) #[.agg (CT j a).toArray] W (fun _:Unit=> .tuple #[str (prT k j).1, .int .i64 (prT k j).2]) (fun _=>True) (fun _=>[]):=by
 have v:=FF h.ok
 rcases lt7 hk with rfl|rfl|rfl|rfl|rfl|rfl|rfl
 ·exact VM j a h W hm ht
 ·exact TT j a 65537 (by decide) h.pu v.pu (by decide) W hm.pu ht
 ·exact S9 j a 32 (by decide) v.op.1 65537 (by decide) (fun x hx=>⟨v.op.2 x hx,h.op x hx⟩) (by decide) W hm.op ht
 ·exact VG j a h W hm ht hw
 ·exact Wa j a h W hm ht
 ·exact SY j a 64 (by decide) v.ld.1 65537 (by decide) (fun x hx=>⟨(v.ld.2 x hx).1,(v.ld.2 x hx).2,h.ld x hx⟩) (by decide) W hm.ld ht
 ·exact Vi j a h W hm ht
def Y9 (j:JbS):List UInt8:=DQ (([106,111,98,32]:List UInt8)++j.name) [j.o,j.sp,j.k]++DQ Kv [j.tw,j.tl,j.tp,j.tt]
def upT (j:JbS):Nat->List UInt8
 |0=>Y9 j
 |k+1=>upT j k++((Pk k++[10])++(prT k j).1)
def Xt (j:JbS):List UInt8×Int:=if (prT 6 j).2≠0 then([],(prT 6 j).2) else if 65536<(upT j 7++[101,110,100,10]).length then([],4) else(upT j 7++[101,110,100,10],0)
def VO:Nat->Nat
 |0=>530000
 |k+1=>VO k+(9+XD k)
theorem NI {w:List UInt8} {l:List Int} {n:Nat} (hw:w.length<=n) (h20:20<=n) (hl: ∀z∈l,Bt z):(DQ w l).length<=(n+1)*(l.length+1)+1:=by
 have h: ∀x∈(if w=[] then[] else[w])++l.map itoa,x.length<=n:=fun x hx=>by
  rcases List.mem_append.1 hx with hx|hx
  ·split at hx
   ·cases hx
   ·obtain rfl:=List.mem_singleton.1 hx;exact hw
  ·obtain⟨z,hz,rfl⟩:=List.mem_map.1 hx
   have:=C3 (hl z hz)
   omega
 have hk:((if w=[] then[] else[w])++l.map itoa).length<=l.length+1:=by
  rw[List.length_append,List.length_map]
  split
  ·rw[List.length_nil];omega
  ·rw[List.length_singleton];omega
 have h1:=Pi h
 have h2:=Nat.mul_le_mul_left (n+1) hk
 unfold DQ
 rw[List.length_append,List.length_singleton]
 omega
section
variable {r:Option Nat} {n:Nat} {P:Program} {N:Nat} {D:List Deferred} {ops:List Oper} {Q:Exit->Act->World->Prop} {o:Oper} {rest:List Oper} {env:Env} {A:World->Prop}
theorem IC {d:Nat} {t u:TypeId} {x y:Operand} {a b:List UInt8} (hg:Aj ops N env o=some true) (hd:o.dst=some d) (ho:o.op= .binOp .add t x y u) (hx:evO N env x=some (str a)) (hy:evO N env y=some (str b)) (ha:a.length<=40000000) (hb:b.length<=40000000)
  (h:WL r n P N D ops Q rest ((d,str (a++b))::env) A):WL r n P N D ops Q (o::rest) env A:=
 Bf hg hd (fun c e=>by rw[ho] at e;cases e) (fun ρ W hρ _=>by
  have hs:=run_string_add_sum (P:=P) W ⟨a.toArray⟩ ⟨b.toArray⟩ (by simp[ByteArray.size];omega)
  rw[ByteArray.mk_append_mk] at hs
  simp[execOp,ho,hρ _ _ hx,hρ _ _ hy,eqGuard,binOp,hs]) h
end
theorem Pn {j:JbS} {a:JbA} (h:Ns j a): ∀ {k:Nat},k<=7->(upT j k).length<=VO k
 |0,_=>by
  have v:=FF h.ok
  have h1:=NI (w:=([106,111,98,32]:List UInt8)++j.name) (l:=[j.o,j.sp,j.k]) (n:=65541) (by rw[List.length_append];have:=h.nm;show 4+_<=_;omega) (by decide) (fun z hz=>by
   simp only[List.mem_cons,List.not_mem_nil,or_false] at hz
   rcases hz with rfl|rfl|rfl
   ·exact v.o
   ·exact v.sp
   ·exact v.k)
  have h2:=NI (w:=Kv) (l:=[j.tw,j.tl,j.tp,j.tt]) (n:=20) (by decide) (by decide) (fun z hz=>by
   simp only[List.mem_cons,List.not_mem_nil,or_false] at hz
   rcases hz with rfl|rfl|rfl|rfl
   ·exact v.tl.1
   ·exact v.tl.2.1
   ·exact v.tl.2.2.1
   ·exact v.tl.2.2.2)
  show(Y9 j).length<=530000
  unfold Y9
  rw[List.length_append]
  have e1:([j.o,j.sp,j.k]:List Int).length=3:=rfl
  have e2:([j.tw,j.tl,j.tp,j.tt]:List Int).length=4:=rfl
  rw[e1] at h1
  rw[e2] at h2
  omega
 |k+1,hk=>by
  have ih:=Pn h (show k<=7 by omega)
  have h1:=Ut h (show k<7 by omega)
  have h2:=Mp k
  show(upT j k++((Pk k++[10])++(prT k j).1)).length<=VO k+(9+XD k)
  rw[List.length_append,List.length_append,List.length_append,List.length_singleton]
  omega
theorem UE {k:Nat} (h:k<=7):VO k<=40000000:=by
 match k,h with
 |0,_=>decide
 |1,_=>decide
 |2,_=>decide
 |3,_=>decide
 |4,_=>decide
 |5,_=>decide
 |6,_=>decide
 |7,_=>decide
theorem Z7 {k:Nat} (h:k<7):XD k<=8500000:=by
 rcases lt7 h with rfl|rfl|rfl|rfl|rfl|rfl|rfl<;>decide
theorem ZY {k:Nat} {j:JbS} (hk:k<7) (h:(prT k j).2≠0):k=6:=by
 rcases lt7 hk with rfl|rfl|rfl|rfl|rfl|rfl|rfl
 ·exact absurd I h
 ·exact absurd I h
 ·exact absurd I h
 ·exact absurd I h
 ·exact absurd I h
 ·exact absurd I h
 ·rfl
theorem Sf (j:JbS) (a:JbA) (h:Ns j a) (W:World) (hm:Gb W j a) (ht:AZ W) (hw:Bo W):
  Ag Tryz.prog 107 #[.agg (CT j a).toArray] W (fun _:Unit=> .tuple #[str (Xt j).1, .int .i64 (Xt j).2]) (fun _=>True) (fun _=>[]):=by
 have v:=FF h.ok
 have hT:Xt j=if (prT 6 j).2≠0 then([],(prT 6 j).2) else if 65536<(upT j 7++[101,110,100,10]).length then([],4) else(upT j 7++[101,110,100,10],0):=rfl
 have hu0:=Pn h (k:=0) (by decide)
 have hU0:upT j 0=DQ (([106,111,98,32]:List UInt8)++j.name) [j.o,j.sp,j.k]++DQ Kv [j.tw,j.tl,j.tp,j.tt]:=rfl
 have hb0:VO 0=530000:=rfl
 have hl1:(DQ (([106,111,98,32]:List UInt8)++j.name) [j.o,j.sp,j.k]).length<=530000:=by rw[hU0,List.length_append] at hu0;omega
 have hl2:(DQ Kv [j.tw,j.tl,j.tp,j.tt]).length<=530000:=by rw[hU0,List.length_append] at hu0;omega
 have hnm:=h.nm
 refine Ab Tryz.func107 I I I<|xb<|wF I I fun _=>Aa I<|xg<|wG I I fun _=>zC<|?_
 rename_i b1 b4
 refine zE<|Be ?_
 refine xb<|wP I<|wB 0 I I I<|IC (a:=[106,111,98,32]) (b:=j.name) I I I I I (by decide) (by omega) ?_
 refine wP I<|wB 0 I I I<|wP I<|wB 0 I I I<|wP I<|wB 0 I I I<|?_
 (refine Ai Tryz.hZ tH rfl rfl rfl rfl rfl rfl rfl rfl rfl rfl rfl ?_;intro)
 rename_i bR
 refine wC I I (fun W1 hp=>HS (([106,111,98,32]:List UInt8)++j.name) [j.o,j.sp,j.k] (by simp) (by show 3<=900;decide) (fun z hz=>by
   simp only[List.mem_cons,List.not_mem_nil,or_false] at hz
   rcases hz with rfl|rfl|rfl
   ·exact v.o
   ·exact v.sp
   ·exact v.k) (by omega) (some ⟨bR,0,none⟩) 3 W1 (AB.of_row (junk:=[]) BH (Al.of_bx hp 3 I I)) (ht.hp hp)) ?_
 refine Dr 1 2 (DQ (([106,111,98,32]:List UInt8)++j.name) [j.o,j.sp,j.k]) I I I I (BS.OK.zero b4) (by show 0+_<=_;omega) I I I I I I ?_
 intro V1 hV1
 have hV1:V1.OK b4 (DQ (([106,111,98,32]:List UInt8)++j.name) [j.o,j.sp,j.k]):=hV1
 refine xg<|Aa I<|wB 0 I I I<|Aa I<|wB 0 I I I<|Aa I<|wB 0 I I I<|Aa I<|wB 0 I I I<|?_
 (refine Ai Tryz.hZ tH rfl rfl rfl rfl rfl rfl rfl rfl rfl rfl rfl ?_;intro)
 rename_i bQ
 refine wC I I (fun W1 hp=>HS Kv [j.tw,j.tl,j.tp,j.tt] (by simp) (by show 4<=900;decide) (fun z hz=>by
   simp only[List.mem_cons,List.not_mem_nil,or_false] at hz
   rcases hz with rfl|rfl|rfl|rfl
   ·exact v.tl.1
   ·exact v.tl.2.1
   ·exact v.tl.2.2.1
   ·exact v.tl.2.2.2) (by omega) (some ⟨bQ,0,none⟩) 4 W1 (AB.of_row (junk:=[]) BH (Al.of_bx hp 4 I I)) (ht.hp hp)) ?_
 refine Dr 1 2 (DQ Kv [j.tw,j.tl,j.tp,j.tt]) I I I I hV1 (by omega) I I I I I I ?_
 rw[<-hU0]
 intro V2 hV2
 refine xa<|xd<|wD (X:=Nat) I I (fun W1 _=>HQ W1) ?_
 intro g _
 refine Aa I<|xa<|zH<|B2 [⟨b1,75,CT j a,true,none⟩,V2.b1 b4,V2.b2,⟨g,118,T6.flatMap Qq++[],true,none⟩] [0,1,2,5] (by decide) I I ?_
 refine A6 (X:=Nat×BS) (fun x=>[(1,Af b1),(4,Af b4),(36,slv (some ⟨g,0,none⟩) 7 7),(37, .int .i64 7),(38, .int .i64 (x.1:Nat))]) (fun x=>[⟨b1,75,CT j a,true,none⟩,x.2.b1 b4,x.2.b2,⟨g,118,T6.flatMap Qq++[],true,none⟩])
  (fun x=>x.1<=7/\x.2.OK b4 (upT j x.1)/\ ∀i,i<x.1->(prT i j).2=0) (fun x=>7-x.1) (0,V2) ⟨Nat.zero_le _,hV2,fun i hi=>absurd hi (Nat.not_lt_zero _)⟩ ⟨rfl,rfl,rfl,rfl,rfl,trivial⟩ [] rfl ?_
 rintro⟨i,V⟩ ⟨hi,hV,hz⟩
 have hi:i<=7:=hi
 have hV:V.OK b4 (upT j i):=hV
 have hz: ∀k,k<i->(prT k j).2=0:=hz
 have hu:=Pn h hi
 have hbu:=UE hi
 refine xb<|wP I<|?_
 by_cases hlt:i<7
 rotate_left
 ·obtain rfl:i=7:=by omega
  rw[if_neg fun h=>h (hz 6 (by decide))] at hT
  refine wU 39 false I (dF (by omega))<|xa<|zA<|zS I<|xf<|xe<|?_
  refine Dr 1 2 [101,110,100,10] I I I I hV (by show _+4<=_;omega) I I I I I I ?_
  intro V3 hV3
  refine xa<|xd<|Uu 1 2 I I hV3 I I I I I I ?_
  refine wP I ?_
  by_cases h6:65536<(upT j 7++[101,110,100,10]).length
  ·rw[if_pos h6] at hT
   exact wU 61 true I (dT (by omega))<|xa<|zR I<|xb<|Aa I<|xc<|zP<|wR2 I I (by rw[hT])
  ·rw[if_neg h6] at hT
   refine wU 61 false I (dF (by omega))<|xa<|zS I<|zI<|xe<|GI 1 2 I I I I hV3 I I I I I I ?_
   intro V4 _
   exact Aa I<|xc<|wR2 I I (by rw[hT])
 refine wU 39 true I (dT (by show(i:Int)<7;omega))<|xa<|zA<|zR I<|xh<|?_
 have hpl:=Ut h hlt
 have hbl:=Z7 hlt
 have hwl:=Mp i
 refine wJ ?_
 refine wL 0 I I (fun W1 hp=>T5 hp 3 I hlt) I<|AY (z:=ZC) I I I (fun W=>by kernel_rfl) fun b6=> ?_
 refine wS 4 I I I<|xg<|wP I<|wB 4 I I I<|wB 0 I I I<|BK (capt:=[]) I I I I I I (SC hlt) (fun W1 hp=>X3 hlt j a h W1 (hm.hp hp) (ht.hp hp) (hw.hp hp))<|A8 I<|xa<|xd<|Aa I<|?_
 by_cases he:(prT i j).2=0
 rotate_left
 ·obtain rfl:=ZY hlt he
  rw[if_pos he] at hT
  exact wU 50 true I (bne_iff_ne.2 he)<|xa<|zR I<|xb<|Ae I<|xc<|zP<|xi<|wR2 I I (by rw[hT])
 refine wU 50 false I (bne_eq_false_iff_eq.2 he)<|xa<|zS I<|zI<|zE<|zB<|wP I<|wB 4 I I I<|IC (a:=Pk i) (b:=[10]) I I I I I (by omega) (by decide) ?_
 refine wP I ?_
 refine IC (a:=Pk i++[10]) (b:=(prT i j).1) I I I I I (by rw[List.length_append,List.length_singleton];omega) (by omega) ?_
 refine Dr 1 2 ((Pk i++[10])++(prT i j).1) I I I I hV (by rw[List.length_append,List.length_append,List.length_singleton];have hs:VO i+(9+XD i)<=40000000:=UE (k:=i+1) hlt;omega) I I I I I I ?_
 intro V3 hV3
 refine zC<|xj<|wP I<|wV 58 ((i+1:Nat):Int) I (Az (by omega))<|wP I<|zC<|?_
 exact Ax (i+1,V3) ⟨hlt,hV3,fun k hk=>by
  by_cases e:k=i
  ·subst e;exact he
  ·exact hz k (by omega)⟩ (by show 7-(i+1)<7-i;omega) ⟨I,I,I,I,I,tO⟩ [_] I
noncomputable def jobP (j:JbS):List UInt8×Int:=if jobE j≠0 then([],1) else Xt j
theorem OZ (j:JbS) (a:JbA) (hz:RE j a) (hi:jobE j=0->Ns j a) (W:World) (hm:Gb W j a) (hv:DM W) (ht:AZ W) (hw:Bo W):
  Ag Tryz.prog 57 #[.agg (CT j a).toArray] W (fun _:Unit=> .tuple #[str (jobP j).1, .int .i64 (jobP j).2]) (fun _=>True) (fun _=>[]):=by
 have hP:jobP j=if jobE j≠0 then([],1) else Xt j:=rfl
 refine Ab Tryz.func57 I I I<|xb<|wF I I fun _=>Aa I<|xa<|xd<|wB 0 I I I<|wC I I (fun W1 hp=>Pr j a hz W1 (hm.hp hp) (hv.hp hp) (ht.hp hp))<|wP I<|?_
 by_cases h0:jobE j=0
 rotate_left
 ·rw[if_pos h0] at hP
  exact wU 6 true I (bne_iff_ne.2 h0)<|xa<|zR I<|xb<|Aa I<|xc<|zP<|wR2 I I (by rw[hP])
 rw[if_neg fun h=>h h0] at hP
 exact wU 6 false I (bne_eq_false_iff_eq.2 h0)<|xa<|zS I<|zI<|xe<|wB 0 I I I<|wC I I (fun W1 hp=>Sf j a (hi h0) W1 (hm.hp hp) (ht.hp hp) (hw.hp hp))<|A3 I<|xc<|wR2 I I (by rw[hP])
theorem Vv {n:Nat} {W W':World} {L L' M:List (Nat×Obj)} (h:Xu n W W' L L') (hM: ∀p∈M,W.heap[p.1]? =some p.2) (hn:((L++M).map (·.1)).Nodup):Xu n W W' (L++M) (L'++M):=by
 rw[List.map_append,List.nodup_append] at hn
 obtain⟨_,n2,n3⟩:=hn
 have hlt: ∀q∈M,q.1<W.heap.size:=fun q hq=>(Array.getElem?_eq_some_iff.1 (hM q hq)).1
 have hne: ∀q∈M, ∀p∈L,p.1≠q.1:=fun q hq p hp=>n3 p.1 (List.mem_map.2 ⟨p,hp,rfl⟩) q.1 (List.mem_map.2 ⟨q,hq,rfl⟩)
 refine⟨h.os,h.tape,h.output,h.size,fun p hp=> ?_, ?_,fun p hp=> ?_,fun x hx hl=>h.old x (fun q hq=>hx q (List.mem_append_left _ hq)) hl⟩
 ·rcases List.mem_append.1 hp with hp|hp
  ·rcases h.sub p hp with⟨q,hq,e⟩|e
   ·exact .inl ⟨q,List.mem_append_left _ hq,e⟩
   ·exact .inr e
  ·exact .inl ⟨p,List.mem_append_right _ hp,I⟩
 ·rw[List.map_append,List.nodup_append]
  refine⟨h.nd,n2,fun x hx y hy e=> ?_⟩
  obtain⟨p,hp,rfl⟩:=List.mem_map.1 hx
  obtain⟨q,hq,rfl⟩:=List.mem_map.1 hy
  rcases h.sub p hp with⟨p',hp',e'⟩|e'
  ·exact hne q hq p' hp' (e'.trans e)
  ·have:=hlt q hq;omega
 ·rcases List.mem_append.1 hp with hp|hp
  ·exact h.new p hp
  ·rw[h.old p.1 (fun q hq=>hne p hp q hq) (hlt p hp)];exact hM p hp
theorem Ss {n g:Nat} {vs:List Value} {W:World} {L M:List (Nat×Obj)} {X:Type} {val:X->Value} {Φ:X->Prop} {L':X->List (Nat×Obj)} (h:A0 Tryz.prog n g vs W L val Φ L') (hM: ∀p∈M,W.heap[p.1]? =some p.2) (hn:((L++M).map (·.1)).Nodup):A0 Tryz.prog n g vs W (L++M) val Φ (fun x=>L' x++M):=by
 refine⟨h.out.mono ?_⟩
 rintro e W' ⟨x,he,hx,hT⟩
 exact⟨x,he,hx,Vv hT hM hn⟩
noncomputable def secJ (k:Nat) (text:List UInt8) (j:JbS):Option JbS:=match k with
 |0=>Zi text j
 |1=>Ze text j
 |2=>ZR text j
 |3=>secZ text j
 |4=>secB text j
 |5=>ZT text j
 |_=>secN text j
structure RJ (k:Nat) (j:JbS) (a:JbA):Prop where
 pu:k<=1->j.pu=[]/\a.pP=none/\a.cP=0
 op:k<=2->j.op=[]/\a.pO=none/\a.cO=0
 ld:k<=5->j.ld=[]/\a.pL=none/\a.cL=0
theorem Xh {k:Nat} (hk:k<7) (bj:Nat) (j:JbS) (a:JbA) (hn:RJ k j a) (text:List UInt8) (htl:text.length<=65536) (Wb W:World) (hb0:Below Wb.heap.size Wb W) (hO:Go.Am.Own Wb.heap.size [Ad [(bj,Eb j a)]] W) (hv:AQ Wb) (ht:AZ Wb) (hw:Bo Wb):
  KF k (rdF k) bj j a text Wb W (secJ k text j):=by
 rcases lt7 hk with rfl|rfl|rfl|rfl|rfl|rfl|rfl
 ·exact R6 bj j a text htl Wb W hb0 hO hv ht
 ·exact TR bj j a (hn.pu (by decide)).1 (hn.pu (by decide)).2.1 (hn.pu (by decide)).2.2 text (by omega) Wb W hb0 hO hv
 ·exact SZ bj j a (hn.op (by decide)).1 (hn.op (by decide)).2.1 (hn.op (by decide)).2.2 text (by omega) Wb W hb0 hO hv
 ·exact QL bj j a text (by omega) Wb W hb0 hO hv ht hw
 ·exact Sy bj j a text (by omega) Wb W hb0 hO hv ht
 ·exact TY bj j a (hn.ld (by decide)).1 (hn.ld (by decide)).2.1 (hn.ld (by decide)).2.2 text (by omega) Wb W hb0 hO hv
 ·exact So bj j a text (by omega) Wb W hb0 hO hv ht
theorem Fp {α β:Type} {o:Option α} {f:α->β} {y:β} (h:o.map f=some y): ∃x,o=some x/\f x=y:=by
 cases o with
 |none=>cases h
 |some x=>injection h with h;exact⟨x,rfl,h⟩
theorem E8 {α:Type} {p:Prop} [Decidable p] {x y:α} (h:(if p then some x else none)=some y):p/\x=y:=by
 by_cases hp:p
 ·rw[if_pos hp] at h;injection h with h;exact⟨hp,h⟩
 ·rw[if_neg hp] at h;cases h
theorem Wx {k:Nat} (hk:k<7) {text:List UInt8} {j j1:JbS} (h:secJ k text j=some j1):(k≠1->j1.pu=j.pu)/\(k≠2->j1.op=j.op)/\(k≠5->j1.ld=j.ld):=by
 rcases lt7 hk with rfl|rfl|rfl|rfl|rfl|rfl|rfl
 ·obtain⟨_,rfl⟩:=E8 (show(if (D0 text).2=0 then _ else none)=some j1 from h);exact⟨fun _=>rfl,fun _=>rfl,fun _=>rfl⟩
 ·obtain⟨l,_,rfl⟩:=Fp (show(CZ IG [] (Bg text)).map _=some j1 from h);exact⟨fun h=>absurd rfl h,fun _=>rfl,fun _=>rfl⟩
 ·obtain⟨l,_,rfl⟩:=Fp (show(CZ JQ [] (Bg text)).map _=some j1 from h);exact⟨fun _=>rfl,fun h=>absurd rfl h,fun _=>rfl⟩
 ·obtain⟨_,rfl⟩:=E8 (show(if (CR text).2=0 then _ else none)=some j1 from h);exact⟨fun _=>rfl,fun _=>rfl,fun _=>rfl⟩
 ·obtain⟨_,rfl⟩:=E8 (show(if (outBr text).2=0 then _ else none)=some j1 from h);exact⟨fun _=>rfl,fun _=>rfl,fun _=>rfl⟩
 ·obtain⟨l,_,rfl⟩:=Fp (show(CZ IN [] (Bg text)).map _=some j1 from h);exact⟨fun _=>rfl,fun _=>rfl,fun h=>absurd rfl h⟩
 ·obtain⟨_,rfl⟩:=E8 (show(if (outSp text).2=0 then _ else none)=some j1 from h);exact⟨fun _=>rfl,fun _=>rfl,fun _=>rfl⟩
theorem RJ.next {k:Nat} (hk:k<7) {text:List UInt8} {j j1:JbS} {a:JbA} {p:Option Addr} {c:Nat} (hn:RJ k j a) (h:secJ k text j=some j1):RJ (k+1) j1 (eF k a p c):=by
 obtain⟨h1,h2,h3⟩:=Wx hk h
 refine⟨fun hle=> ?_,fun hle=> ?_,fun hle=> ?_⟩
 ·obtain rfl:k=0:=by omega
  rw[h1 (by decide)]
  exact hn.pu (by decide)
 ·rw[h2 (by omega)]
  have:=hn.op (by omega)
  rcases(show k=0\/k=1 by omega) with rfl|rfl<;>exact this
 ·rw[h3 (by omega)]
  have:=hn.ld (by omega)
  rcases(show k=0\/k=1\/k=2\/k=3\/k=4 by omega) with rfl|rfl|rfl|rfl|rfl<;>exact this
structure JbN (n:Nat) (j:JbS):Prop where
 nm:j.name.length<=n
 rs:j.rs.length<=24
 tot:tot j.rs<=24
 pu:j.pu.length<=n
 op:j.op.length<=n
 ops: ∀x∈j.op, ∀a∈[x.l,x.r,x.o,x.i],a.length<=n
 sz:j.sz.length<=n
 br:j.br.length<=64
 brs: ∀b∈j.br,b.g.length<=16
 ld:j.ld.length<=n
 lds: ∀x∈j.ld,x.w.length<=n
 sn:j.sn.length<=n
theorem M0 {α:Type} (f:List UInt8->Option α): ∀ {ls:List (List UInt8)} {acc l:List α},Pu f acc ls=some l->l.length<=acc.length+ls.length
 |[],acc,l,h=>by injection h with h;rw[<-h];exact Nat.le_add_right _ _
 |[a],acc,l,h=>by
  have e:(if a=[] then some acc else none)=some l:=h
  obtain⟨_,rfl⟩:=E8 e
  exact Nat.le_add_right _ _
 |a::b::ls,acc,l,h=>by
  have e:(match f a with
   |none=>none
   |some x=>Pu f (acc++[x]) (b::ls))=some l:=h
  cases ha:f a with
  |none=>rw[ha] at e;cases e
  |some x=>
   rw[ha] at e
   have:=M0 f e
   rw[List.length_append,List.length_singleton] at this
   rw[List.length_cons]
   omega
theorem YE (s:List UInt8):(AI 10 s).length<=s.length+1:=by
 induction s with
 |nil=>exact Nat.le_refl _
 |cons a r ih=>
  unfold AI
  split
  ·rw[List.length_cons,List.length_cons];omega
  ·rw[List.length_cons,List.length_tail,List.length_cons];omega
theorem NT: ∀ {r:List (List UInt8)} {acc l:List AlS},rowsA acc r=some l->l.length=acc.length+r.length
 |[],acc,l,h=>by injection h with h;rw[<-h];rfl
 |w::r,acc,l,h=>by
  cases hw:rwJ w with
  |none=>rw[IV hw] at h;cases h
  |some x=>
   rw[Ls hw] at h
   have:=NT h
   rw[List.length_append,List.length_singleton] at this
   rw[List.length_cons];omega
theorem HL {n:Nat} {w:List UInt8} (hw:w.length<=n) (i:Nat):((AI 32 (trimSuffix w [10])).getD i []).length<=n:=by
 have h1:=H3 w [10]
 by_cases hi:i<(AI 32 (trimSuffix w [10])).length
 ·rw[List.getD_eq_getElem?_getD,List.getElem?_eq_getElem hi]
  exact B0 (n:=n) (by omega) _ (List.getElem_mem hi)
 ·rw[List.getD_eq_getElem?_getD,List.getElem?_eq_none (by omega)];exact Nat.zero_le _
theorem Vm {k:Nat} (hk:k<7) {text:List UInt8} {j j1:JbS} {n:Nat} (hn:text.length+1<=n) (hj:JbN n j) (h:secJ k text j=some j1):JbN n j1:=by
 obtain⟨hl1,hl2⟩:=MC text
 rcases lt7 hk with rfl|rfl|rfl|rfl|rfl|rfl|rfl
 ·obtain⟨h0,rfl⟩:=E8 (show(if (D0 text).2=0 then _ else none)=some j1 from h)
  have hc:(D0 text).1.length<=24/\tot (D0 text).1<=24:=by
   unfold D0 at h0⊢
   cases hp:DP [] text with
   |none=>rw[hp] at h0;cases h0
   |some rs=>
    rw[hp] at h0
    have h0:(if chk rs=0 then(rs,(0:Int)) else([],chk rs)).2=0:=h0
    show(if chk rs=0 then(rs,(0:Int)) else([],chk rs)).1.length<=24/\tot (if chk rs=0 then(rs,(0:Int)) else([],chk rs)).1<=24
    by_cases hc:chk rs=0
    ·rw[if_pos hc]
     obtain⟨hne,hT,_⟩:=Ln hc
     have h2:=J5 hne rs.length (Nat.le_refl _)
     rw[List.take_length] at h2
     exact⟨by show rs.length<=24;omega,hT⟩
    ·rw[if_neg hc] at h0;exact absurd h0 hc
  exact { hj with rs:=hc.1,tot:=hc.2 }
 ·obtain⟨l,hl,rfl⟩:=Fp (show(CZ IG [] (Bg text)).map _=some j1 from h)
  have:=Gn hl
  exact { hj with pu:=by show l.length<=n;rw[this];show 0+_<=n;omega }
 ·obtain⟨l,hl,rfl⟩:=Fp (show(CZ JQ [] (Bg text)).map _=some j1 from h)
  have h1:=Gn hl
  have h2:=Kq (p:=fun x:OpS=> ∀a∈[x.l,x.r,x.o,x.i],a.length<=n) (fun w hw x hx=>by
   have hwl:=hl1 w hw
   cases hm:Ca [] ((AI 32 (trimSuffix w [10])).take 1) with
   |none=>rw[Ow hm] at hx;cases hx
   |some m=>
    rw[NR hm] at hx
    obtain⟨_,rfl⟩:=E8 hx
    intro a ha
    simp only[List.mem_cons,List.not_mem_nil,or_false] at ha
    rcases ha with rfl|rfl|rfl|rfl
    ·exact HL (by omega) 1
    ·exact HL (by omega) 2
    ·exact HL (by omega) 3
    ·exact HL (by omega) 4) hl (fun x hx=>absurd hx List.not_mem_nil)
  exact { hj with op:=by show l.length<=n;rw[h1];show 0+_<=n;omega,ops:=h2 }
 ·obtain⟨h0,rfl⟩:=E8 (show(if (CR text).2=0 then _ else none)=some j1 from h)
  have hc:(CR text).1.length<=n:=by
   unfold CR
   split
   ·exact Nat.zero_le _
   ·cases hp:Dx EG [] text with
    |none=>exact Nat.zero_le _
    |some l=>
     have h1:=M0 EG hp
     have h2:=YE text
     show(if D4 l=0 then(l,(0:Int)) else([],D4 l)).1.length<=n
     split
     ·show l.length<=n
      have h3:l.length<=0+(AI 10 text).length:=h1
      omega
     ·exact Nat.zero_le _
  exact { hj with sz:=hc }
 ·obtain⟨h0,rfl⟩:=E8 (show(if (outBr text).2=0 then _ else none)=some j1 from h)
  have hc:Cz (outBr text).1=0:=by
   unfold outBr at h0⊢
   split at h0
   ·cases h0
   ·rename_i h6
    rw[if_neg h6]
    cases hp:Dx barP [] text with
    |none=>rw[hp] at h0;cases h0
    |some l=>
     rw[hp] at h0
     have h0:(if Cz l=0 then(l,(0:Int)) else([],Cz l)).2=0:=h0
     show Cz (if Cz l=0 then(l,(0:Int)) else([],Cz l)).1=0
     by_cases hc:Cz l=0
     ·rw[if_pos hc];exact hc
     ·rw[if_neg hc] at h0;exact absurd h0 hc
  obtain⟨h1,h2⟩:=JE hc
  exact { hj with br:=h1,brs:=fun b hb=>(h2 b hb).k }
 ·obtain⟨l,hl,rfl⟩:=Fp (show(CZ IN [] (Bg text)).map _=some j1 from h)
  have h1:=Gn hl
  have h2:=Kq (p:=fun x:LdS=>x.w.length<=n) (fun w hw x hx=>by
   have hwl:=hl1 w hw
   by_cases h3:(AI 32 (trimSuffix w [10])).length=3
   ·cases hm:Ca [] ((AI 32 (trimSuffix w [10])).take 2) with
    |none=>rw[Oq hm] at hx;cases hx
    |some m=>
     rw[NM h3 hm] at hx
     injection hx with hx
     rw[<-hx]
     exact HL (by omega) 2
   ·rw[Lx h3] at hx;cases hx) hl (fun x hx=>absurd hx List.not_mem_nil)
  exact { hj with ld:=by show l.length<=n;rw[h1];show 0+_<=n;omega,lds:=h2 }
 ·obtain⟨h0,rfl⟩:=E8 (show(if (outSp text).2=0 then _ else none)=some j1 from h)
  have hc:(outSp text).1.length<=n:=by
   unfold outSp
   split
   ·exact Nat.zero_le _
   ·cases hp:rowsA [] (Bg text) with
    |none=>exact Nat.zero_le _
    |some l=>
     have h1:=NT hp
     show(if DX l=0 then(l,(0:Int)) else([],DX l)).1.length<=n
     split
     ·show l.length<=n
      have h3:l.length=0+(Bg text).length:=h1
      omega
     ·exact Nat.zero_le _
  exact { hj with sn:=hc }
theorem JbN.z {j:JbS} {a:JbA} (h:JbN 65537 j) (hc:j.op.length<=a.cO):RE j a:=
 ⟨by have:=h.nm;omega,by have:=h.rs;omega,by have:=h.tot;omega,by have:=h.pu;omega,by have:=h.op;omega,fun x hx y hy=>by have:=h.ops x hx y hy;omega,hc,by have:=h.sz;omega,by have:=h.br;omega,fun b hb=>by have:=h.brs b hb;omega,by have:=h.ld;omega,fun x hx=>by have:=h.lds x hx;omega,by have:=h.sn;omega⟩
theorem JbN.i {j:JbS} {a:JbA} (h:JbN 65537 j) (hc:j.op.length<=a.cO) (ok:jobE j=0):Ns j a:=⟨ok,h.z hc,h.nm,h.pu,h.ops,h.sz,h.lds,h.sn⟩
def EV (k:Nat):List UInt8:=if k+1<7 then Pk (k+1) else[101,110,100]
def I4:List UInt8:=[112,108,97,110,10]
noncomputable def lpJ:Nat->Nat->List UInt8->JbS->Option JbS
 |0,_,_,j=>some j
 |n+1,k,rest,j=>if (BZ rest (EV k)).2.2=true then match secJ k (BZ rest (EV k)).1 j with
  |some j1=>lpJ n (k+1) (BZ rest (EV k)).2.1 j1
  |none=>none else none
theorem dS {n k:Nat} {rest:List UInt8} {j:JbS} (h:(BZ rest (EV k)).2.2=false):lpJ (n+1) k rest j=none:=by
 show(if _ then _ else none)=none
 rw[if_neg (by rw[h];decide)]
theorem XY {n k:Nat} {rest:List UInt8} {j:JbS} (h:secJ k (BZ rest (EV k)).1 j=none):lpJ (n+1) k rest j=none:=by
 show(if _ then(match secJ k (BZ rest (EV k)).1 j with
  |some j1=>lpJ n (k+1) (BZ rest (EV k)).2.1 j1
  |none=>none) else none)=none
 rw[h]
 split<;>rfl
theorem XJ {n k:Nat} {rest:List UInt8} {j j1:JbS} (h0:(BZ rest (EV k)).2.2=true) (h:secJ k (BZ rest (EV k)).1 j=some j1):lpJ (n+1) k rest j=lpJ n (k+1) (BZ rest (EV k)).2.1 j1:=by
 show(if _ then(match secJ k (BZ rest (EV k)).1 j with
  |some j1=>lpJ n (k+1) (BZ rest (EV k)).2.1 j1
  |none=>none) else none)=_
 rw[if_pos h0,h]
noncomputable def bodyJ (s:List UInt8) (j0:JbS) (r:List UInt8):Int:=match lpJ 7 0 r j0 with
 |none=>3
 |some j=>if (jobP j).2=0/\(jobP j).1=s then 0 else 3
theorem M3 {s r:List UInt8} {j0:JbS} (h:lpJ 7 0 r j0=none):bodyJ s j0 r=3:=by unfold bodyJ;rw[h]
theorem SI {s r:List UInt8} {j0 j:JbS} (h:lpJ 7 0 r j0=some j):bodyJ s j0 r=if (jobP j).2=0/\(jobP j).1=s then 0 else 3:=by unfold bodyJ;rw[h]
noncomputable def parJ (s:List UInt8):Int:=if 65536<s.length then 4 else match Lq s with
 |none=>3
 |some x=>if hasPrefix x.2 I4=true then bodyJ s x.1 (trimPrefix x.2 I4) else 3
theorem XN (s w:List UInt8):(BZ s w).1.length<=s.length+1/\(BZ s w).2.1.length<=s.length:=by
 have h:=GU s (([10]++w)++[10])
 unfold BZ
 split
 ·rename_i hp
  refine⟨Nat.zero_le _, ?_⟩
  show(trimPrefix s (w++[10])).length<=s.length
  unfold trimPrefix
  rw[if_pos hp,List.length_drop]
  omega
 ·refine⟨?_,h.2⟩
  show((cut s (([10]++w)++[10])).1++[10]).length<=s.length+1
  rw[List.length_append,List.length_singleton];omega
theorem Xy (k:Nat):(EV k).length<=8:=by
 unfold EV
 split
 ·exact Mp _
 ·decide
theorem Vw {s:List UInt8} {x:JbS×List UInt8} (h:Lq s=some x) (hs:s.length<=65536):JbN 65537 x.1/\x.2.length<=65536/\RJ 0 x.1 ja0:=by
 have h1:=GU s [10]
 have h2:=GU (cut s [10]).2.1 [10]
 have h3:=B0 (l:=(cut s [10]).1) (n:=65536) (by omega)
 unfold Lq KI at h
 split at h
 ·split at h
  ·rename_i m n _ _
   injection h with h
   subst h
   refine⟨⟨?_,(show(0:Nat)<=24 by decide),(show tot ([]:List (List Sd))<=24 by decide),Nat.zero_le _,Nat.zero_le _,fun x hx=>absurd hx List.not_mem_nil,Nat.zero_le _,Nat.zero_le _,fun x hx=>absurd hx List.not_mem_nil,Nat.zero_le _,fun x hx=>absurd hx List.not_mem_nil,Nat.zero_le _⟩,by show(cut (cut s [10]).2.1 [10]).2.1.length<=65536;omega,⟨fun _=>⟨I,I,I⟩,fun _=>⟨I,I,I⟩,fun _=>⟨I,I,I⟩⟩⟩
   show((AI 32 (cut s [10]).1).getD 1 []).length<=65537
   by_cases hi:1<(AI 32 (cut s [10]).1).length
   ·rw[List.getD_eq_getElem?_getD,List.getElem?_eq_getElem hi]
    have:=h3 _ (List.getElem_mem hi)
    show((AI 32 (cut s [10]).1)[1]).length<=65537
    omega
   ·rw[List.getD_eq_getElem?_getD,List.getElem?_eq_none (by omega)];exact Nat.zero_le _
  ·cases h
 ·cases h
theorem Yi {s:List UInt8} {x:JbS×List UInt8} (h:Lq s=some x) (W:World):Gb W x.1 ja0:=by
 unfold Lq KI at h
 split at h
 ·split at h
  ·injection h with h
   subst h
   exact⟨.inl I, .inl I, .inl I, .inl I, .inl I, .inl I, .inl I⟩
  ·cases h
 ·cases h
structure LpX where
 k:Nat
 r:List UInt8
 j:JbS
 a:JbA
 L:List (Nat×Obj)
structure LpI (r0:List UInt8) (j0:JbS) (x:LpX):Prop where
 le:x.k<=7
 eq:lpJ (7-x.k) x.k x.r x.j=lpJ 7 0 r0 j0
 nil:RJ x.k x.j x.a
 sz:JbN 65537 x.j
 len:x.r.length<=65535
 cO:x.j.op.length<=x.a.cO
 mem: ∀W',(∀q∈x.L,W'.heap[q.1]? =some q.2)->(x.L.map (·.1)).Nodup->Gb W' x.j x.a
abbrev aK (g:Nat):Bx:=⟨g,118,T6.flatMap Qq++[],true,none⟩
def YL (n:Nat) (v:Value):Prop:= ∃c:List Value,v= .agg c.toArray/\c.length=n/\DI c=true
theorem Pe (s:List UInt8) (hs1:s.length<=1000000) (W:World) (hv:AQ W) (ht:AZ W) (hw:Bo W):
  Ag Tryz.prog 31 #[str s] W (fun v:Value=> .tuple #[v, .int .i64 (parJ s)]) (YL 15) (fun _=>[]):=by
 refine Ab Tryz.func31 I I I<|xb<|wG I I fun _=>wP I<|zC<|?_
 rename_i b2
 refine zE<|xd<|Aa I<|Ao 17 (.int .i64 (s.length:Nat)) I (congrArg (fun n:Nat=>Value.int .i64 (n:Int)) (A5 s))<|wP I<|?_
 by_cases h4:65536<s.length
 ·have hP:parJ s=4:=by unfold parJ;rw[if_pos h4]
  refine wU 18 true I (dT (by omega))<|xa<|zR I<|xb<|Ak Tryz.hZ tH I I I I I I I I ?_
  exact wS 0 I I I<|wP I<|xc<|zP<|An tH I (.cell 0 I I I I I) (.tmp I) _ (by rw[hP]) ⟨_,I,I,I⟩ fun W _=>As.nil _ _
 have hs0:s.length<=65536:=by omega
 have hP:parJ s=match Lq s with
   |none=>3
   |some x=>if hasPrefix x.2 I4=true then bodyJ s x.1 (trimPrefix x.2 I4) else 3:=by unfold parJ;rw[if_neg h4]
 refine wU 18 false I (dF (by omega))<|xa<|zS I<|zI<|xe<|wG I I fun _=>zC<|?_
 rename_i b4
 refine xe<|wP I<|Ah 1 (capt:=[]) (X:=Bool×List UInt8×JbS) (L':=fun x=>[(b4,Eb x.2.2 ja0)]) (Φ:=eT (Lq s)) (val:=fun x=> .tuple #[str x.2.1, .bool x.1]) (fun x=>Ad [(b4,Eb x.2.2 ja0)]) I I I I I I (by kernel_rfl) I (fun _ _=>rfl) (fun W1 hp=>Nq b4 s (by omega) W W1 hp.below ((hp.pick [1] (by decide) I).own.regroup I) hv) ?_
 rintro⟨ok,r,j0⟩ hx
 have hx:(Lq s=some (j0,r)/\ok=true)\/(Lq s=none/\ok=false):=hx
 refine A8 I<|zC<|?_
 rcases hx with⟨hh,rfl⟩|⟨hh,rfl⟩
 rotate_left
 ·rw[hh] at hP
  have hP:parJ s=3:=hP
  refine zE<|xd<|Aa I<|xa<|zR I<|xb<|Ak Tryz.hZ tH I I I I I I I I ?_
  exact wS 0 I I I<|wP I<|xc<|zP<|An tH I (.cell 0 I I I I I) (.tmp I) _ (by rw[hP]) ⟨_,I,I,I⟩ fun W _=>As.nil _ _
 rw[hh] at hP
 have hP:parJ s=if hasPrefix r I4=true then bodyJ s j0 (trimPrefix r I4) else 3:=hP
 obtain⟨hz0,hr0,hn0⟩:=Vw hh hs0
 have hz0:JbN 65537 j0:=hz0
 have hr0:r.length<=65536:=hr0
 have hn0:RJ 0 j0 ja0:=hn0
 refine zE<|xd<|Aa I<|xa<|zS I<|zI<|zE<|xd<|wP I<|wC I I (fun W1 _=>DB r I4 W1)<|A8 I<|zC<|?_
 cases hpf:hasPrefix r I4 with
 |false=>
  rw[if_neg (by rw[hpf];decide)] at hP
  refine xe<|Aa I<|xa<|zR I<|xb<|Ak Tryz.hZ tH I I I I I I I I ?_
  exact wS 0 I I I<|wP I<|xc<|zP<|An tH I (.cell 0 I I I I I) (.tmp I) _ (by rw[hP]) ⟨_,I,I,I⟩ fun W _=>As.nil _ _
 |true=>
 rw[if_pos hpf] at hP
 have hr1:(trimPrefix r I4).length<=65535:=by
  unfold trimPrefix
  rw[if_pos hpf,List.length_drop]
  show r.length-5<=65535
  omega
 obtain⟨r1,hr1d⟩: ∃v,v=trimPrefix r I4:=⟨_,rfl⟩
 rw[<-hr1d] at hP hr1⊢
 refine xe<|Aa I<|xa<|zS I<|zI<|xe<|wD (X:=Nat) I I (fun W1 _=>HQ W1) ?_
 intro g _
 refine wP I<|xa<|xd<|Ae I<|xa<|zH<|?_
 refine A6 (X:=LpX) (fun x=>[(0,str s),(2,Af b2),(4,Af b4),(5,str x.r),(7,slv (some ⟨g,0,none⟩) 7 7),(37,slv (some ⟨g,0,none⟩) 7 7),(38, .int .i64 7),(39, .int .i64 (x.k:Nat))]) (fun x=>[⟨b2,75,CT jb0 ja0,true,none⟩,Ad ((b4,Eb x.j x.a)::x.L),aK g])
  (LpI r1 j0) (fun x=>7-x.k) ⟨0,r1,j0,ja0,[]⟩ ⟨Nat.zero_le _,rfl,hn0,hz0,hr1,by rw[(hn0.op (by decide)).1];exact Nat.zero_le _,fun W' _ _=>Yi hh W'⟩ ⟨rfl,rfl,rfl,rfl,rfl,rfl,rfl,rfl,trivial⟩ [] rfl ?_
 rintro⟨k,rest,j,a,L⟩ ⟨hk,hE,hn,hz,hrl,hcO,hmem⟩
 have hk:k<=7:=hk
 have hE:lpJ (7-k) k rest j=lpJ 7 0 r1 j0:=hE
 have hn:RJ k j a:=hn
 have hz:JbN 65537 j:=hz
 have hrl:rest.length<=65535:=hrl
 have hcO:j.op.length<=a.cO:=hcO
 have hmem: ∀W',(∀q∈L,W'.heap[q.1]? =some q.2)->(L.map (·.1)).Nodup->Gb W' j a:=hmem
 have hmm: ∀ {bs:List Bx} {W1:World},Hp W bs W1->nth bs 1=some (Ad ((b4,Eb j a)::L))->(∀q∈L,W1.heap[q.1]? =some q.2)/\(((b4,Eb j a)::L).map (·.1)).Nodup:=fun hp h1=>by
  rw[AT] at h1
  exact⟨fun q hq=>(hp.own.cell 1 _ h1 q (List.mem_cons_of_mem _ hq)).1,hp.own.nd 1 _ h1⟩
 refine xb<|wP I<|?_
 by_cases hlt:k<7
 rotate_left
 ·obtain rfl:k=7:=by omega
  have hE:lpJ 7 0 r1 j0=some j:=hE.symm
  rw[SI hE] at hP
  refine wU 40 false I (dF (by show¬((7:Nat):Int)<7;omega))<|xa<|zA<|zS I<|xf<|zE<|xd<|wL 0 I I (fun W1 hp=>Al.of_grp hp 1 I (List.mem_cons_self ..)) I<|wC I I (fun W1 hp=>OZ j a (hz.z hcO) (hz.i hcO) W1 (hmem W1 (hmm hp I).1 (List.nodup_cons.1 (hmm hp I).2).2) (hv.hp hp).max (ht.hp hp) (hw.hp hp))<|A8 I<|xg<|?_
  refine Aa I<|?_
  by_cases h0:(jobP j).2=0
  rotate_left
  ·rw[if_neg fun h=>h0 h.1] at hP
   refine wU 80 true I (bne_iff_ne.2 h0)<|wP I<|?_
   iterate 3 refine Ac I I ?_
   refine wP I<|xa<|zR I<|xb<|Ak Tryz.hZ tH I I I I I I I I ?_
   exact wS 0 I I I<|wP I<|xc<|zP<|An tH I (.cell 0 I I I I I) (.tmp I) _ (by rw[hP]) ⟨_,I,I,I⟩ fun W _=>As.nil _ _
  refine wU 80 false I (bne_eq_false_iff_eq.2 h0)<|A3 I<|?_
  by_cases h1:(jobP j).1=s
  rotate_left
  ·rw[if_neg fun h=>h1 h.2] at hP
   refine wU 84 true I (dG _ _ h1)<|wP I<|xa<|zR I<|xb<|Ak Tryz.hZ tH I I I I I I I I ?_
   exact wS 0 I I I<|wP I<|xc<|zP<|An tH I (.cell 0 I I I I I) (.tmp I) _ (by rw[hP]) ⟨_,I,I,I⟩ fun W _=>As.nil _ _
  rw[if_pos ⟨h0,h1⟩] at hP
  exact wU 84 false I (cQ _ _ h1)<|wP I<|xa<|zS I<|zI<|xe<|wL 0 I I (fun W1 hp=>Al.of_grp hp 1 I (List.mem_cons_self ..)) I<|wS 0 I I I<|wP I<|xc<|An tH I (.cell 0 I I I I I) (.tmp I) _ (by rw[hP]) ⟨_,I,I,I⟩ fun W _=>As.nil _ _
 refine wU 40 true I (dT (by show(k:Int)<7;omega))<|xa<|zA<|zR I<|xh<|?_
 rw[show 7-k=(7-(k+1))+1 by omega] at hE
 refine wP I<|Ao 41 (.int .i64 (k:Nat)) I I<|Ao 39 (.int .i64 (k:Nat)) I I<|wJ ?_
 refine wL 0 I I (fun W1 hp=>T5 hp 2 I hlt) I<|AY (z:=ZC) I I I (fun W=>by kernel_rfl) fun b9=> ?_
 refine wP I<|wS 3 I I I<|xg<|wP I<|xa<|xd<|Aa I<|wV 45 ((k+1:Nat):Int) I (Az (by omega))<|Ae I<|wU 48 (decide (k+1<7)) I (decide_eq_decide.2 (by show((k+1:Nat):Int)<((7:Nat):Int)↔k+1<7;omega))<|xa<|Bz (X:=Unit) (fun _=>[(0,str s),(2,Af b2),(4,Af b4),(5,str rest),(7,slv (some ⟨g,0,none⟩) 7 7),(37,slv (some ⟨g,0,none⟩) 7 7),(38, .int .i64 7),(39, .int .i64 (k:Nat)),(9,Af b9),(10,str (EV k))]) (fun _=>[⟨b2,75,CT jb0 ja0,true,none⟩,Ad ((b4,Eb j a)::L),aK g,⟨b9,118,Qq k,true,none⟩]) (fun _=>True) ?_ ?_
 ·refine Av I (fun hc=> ?_) (fun hc=> ?_)
  ·have hc:k+1<7:=of_decide_eq_true hc
   have hx:EV k=Pk (k+1):=by unfold EV;rw[if_pos hc]
   refine zB<|Ae I<|wV 51 ((k+1:Nat):Int) I (Az (by omega))<|wJ ?_
   exact wP I<|wL 0 I I (fun W1 hp=>T5 hp 2 I hc) I<|wP I<|zC<|Au () tO ⟨I,I,I,I,I,I,I,I,I,congrArg (fun c=>some (str c)) hx.symm,tO⟩ [] I
  ·have hc: ¬k+1<7:=of_decide_eq_false hc
   have hx:EV k=[101,110,100]:=by unfold EV;rw[if_neg hc]
   exact zI<|Au () tO ⟨I,I,I,I,I,I,I,I,I,congrArg (fun c=>some (str c)) hx.symm,tO⟩ [] I
 intro _ _
 have hul:=XN rest (EV k)
 have hnl:=Xy k
 refine xb<|Aa I<|wC I I (fun W1 hp=>Qe rest (EV k) (by omega) (by omega) W1 (hv.hp hp))<|Bb I<|wP I<|zC<|?_
 cases hu:(BZ rest (EV k)).2.2 with
 |false=>
  rw[dS hu] at hE
  rw[M3 hE.symm] at hP
  refine zE<|xd<|Ae I<|?_
  iterate 5 refine Ac I I ?_
  refine wP I<|xa<|zR I<|xb<|Ak Tryz.hZ tH I I I I I I I I ?_
  exact wS 0 I I I<|wP I<|xc<|zP<|xi<|An tH I (.cell 0 I I I I I) (.tmp I) _ (by rw[hP]) ⟨_,I,I,I⟩ fun W _=>As.nil _ _
 |true=>
  refine zE<|xd<|A3 I<|wB 3 I I I<|wP I<|?_
  refine Ah 1 (capt:=[]) (X:=RdX) (L':=fun x=>KM b4 x++L) (Φ:=dY k (secJ k (BZ rest (EV k)).1 j) j a) (val:=fun x=> .bool x.b) (fun x=>Ad ((b4,Eb x.j x.a)::(x.L++L))) I I I I I I (Tu hlt) I (fun _ _=>rfl) (fun W1 hp=>Ss (L:=[(b4,Eb j a)]) (Xh hlt b4 j a hn _ (by omega) W W1 hp.below (Fo (bs:=[Ad [(b4,Eb j a)]]) (fun q hq=>by
   obtain rfl:=List.mem_singleton.1 (show q∈[(b4,Eb j a)] from hq)
   exact hp.own.cell 1 _ I _ (List.mem_cons_self ..)) (List.nodup_cons.2 ⟨List.not_mem_nil,List.nodup_nil⟩)) hv ht hw) (hmm hp I).1 (hmm hp I).2) ?_
  rintro x hx
  rcases hx with⟨j1,p,c,hj1,hb,hxj,hxa,hxm,hxc⟩|⟨hno,hb⟩
  rotate_left
  ·rw[XY hno] at hE
   rw[M3 hE.symm] at hP
   rw[hb]
   refine Aa I<|xa<|zR I<|xb<|Ak Tryz.hZ tH I I I I I I I I ?_
   exact wS 0 I I I<|wP I<|xc<|zP<|xi<|An tH I (.cell 0 I I I I I) (.tmp I) _ (by rw[hP]) ⟨_,I,I,I⟩ fun W _=>As.nil _ _
  rw[XJ hu hj1] at hE
  rw[hb]
  subst hxj
  refine Aa I<|xa<|zS I<|zI<|zE<|zB<|Aa I<|zC<|xj<|wP I<|wV 73 ((k+1:Nat):Int) I (Az (by omega))<|wP I<|zC<|?_
  exact Ax ⟨k+1,(BZ rest (EV k)).2.1,x.j,x.a,x.L++L⟩ ⟨hlt,hE,by rw[hxa];exact hn.next hlt hj1,Vm hlt (by omega) hz hj1,by show(BZ rest (EV k)).2.1.length<=65535;omega,hxc hcO,fun W' hb' hn'=>by
   have hn':((x.L++L).map (·.1)).Nodup:=hn'
   rw[List.map_append,List.nodup_append] at hn'
   exact hxm W' (hmem W' (fun q hq=>hb' q (List.mem_append_right _ hq)) hn'.2.1) (fun q hq=>hb' q (List.mem_append_left _ hq)) hn'.1⟩ (by show 7-(k+1)<7-k;omega) ⟨I,I,I,I,I,I,I,I,tO⟩ [_] I
end
end Go.Proofs.YtidgbjcdppjknaaGreatDoor
namespace Go.Am
open Go Go.RowKit Go.Proofs
def Bn (b:Nat) (es:List MapEntry) (clock:Nat):Bx:=⟨b,0,[],true,some (.obj (.map es.toArray clock))⟩
def H5 (b m since:Nat) (seen:List Nat) (last:Nat):Bx:=⟨b,0,[],true,some (.obj (.mapIter (some m) since seen.toArray last))⟩
def mapAt (d:TypeDesc) (z key:Value) (es:List MapEntry):Option (Value×Bool):=match Instr.findNow d key es 0 with
 |some (some (_,v))=>some (v,true)
 |some none=>some (z,false)
 |none=>none
theorem Hp.allocO {W0 W:World} {bxs:List Bx} (h:Hp W0 bxs W) (B:Bx) (hb:B.b=W.heap.size) (ho:B.sole=true):Hp W0 (bxs++[B]) (W.alloc B.obj):=by
 refine h.append ((Below.refl _ _).alloc (Nat.le_refl _) _) (Own.one_sole ho ⟨?_,hb▸Nat.le_refl _⟩)
 show(W.heap.push _)[B.b]? =_
 rw[hb,Array.getElem?_push_size]
theorem Hp.mapAt {W0 W:World} {bxs:List Bx} (h:Hp W0 bxs W) {k b clock:Nat} {es:List MapEntry} (hk:nth bxs k=some (Bn b es clock)):W.heap[b]? =some (.map es.toArray clock):=by
 rw[AT] at hk
 exact(h.at_ _ _ hk I).1
theorem Hp.iterAt {W0 W:World} {bxs:List Bx} (h:Hp W0 bxs W) {k b m since last:Nat} {seen:List Nat} (hk:nth bxs k=some (H5 b m since seen last)):W.heap[b]? =some (.mapIter (some m) since seen.toArray last):=by
 rw[AT] at hk
 exact(h.at_ _ _ hk I).1
section
variable {r:Option Nat} {n:Nat} {P:Program} {W0:World} {N:Nat} {D:List Deferred}
variable {ops rest:List Oper} {Q:Exit->Act->World->Prop} {o:Oper} {env:Env} {bxs:List Bx}
theorem Mm {d:Nat} {t:TypeId} (hg:Aj ops N env o=some true) (hd:o.dst=some d) (ho:o.op= .makeMap t none)
  (h: ∀b,WL r n P N D ops Q rest ((d, .map (some b))::env) (Hp W0 (bxs++[Bn b [] 0]))):WL r n P N D ops Q (o::rest) env (Hp W0 bxs):= .mk fun a W ha hd' hp=>by
 refine By hg ha (fun c e=>by rw[ho] at e;cases e) ?_
 have:(execOp (ov env a).eval o).run P W= .ok (.value (.map (some W.heap.size))) (W.alloc (.map #[] 0)):=by
  simp[execOp,ho,Instr.makeMap]
 rw[this]
 simp only[Oper.uponIn,hd]
 exact(h W.heap.size).out a _ ha hd' (hp.allocO (Bn W.heap.size [] 0) I I)
theorem N2 (k:Nat) {t kt et:TypeId} {d:TypeDesc} {m x y:Operand} {key v:Value} {b clock:Nat} {es:List MapEntry} (ht:P.underlying t=some (.map kt et)) (hkt:P.underlying kt=some d) (hg:Aj ops N env o=some true) (hd:o.dst=none) (ho:o.op= .insert t m x y)
  (hk:nth bxs k=some (Bn b es clock)) (hm:evO N env m=some (.map (some b))) (hx:evO N env x=some key) (hy:evO N env y=some v) (hi:MapKept.IsKey d key) (hf:Instr.findNow d key es 0=some none)
  (h:WL r n P N D ops Q rest env (Hp W0 (bxs.set k (Bn b (es++[{ key:=key,val:=v,born:=clock }]) (clock+1))))):WL r n P N D ops Q (o::rest) env (Hp W0 bxs):= .mk fun a W ha hd' hp=>by
 refine By hg ha (fun c e=>by rw[ho] at e;cases e) ?_
 have hb:=hp.mapAt hk
 have hr:(Instr.mapUpdate t (.map (some b)) key v).run P W= .ok () { W with heap:=W.heap.setIfInBounds b (.map (es.toArray.push { key:=key,val:=v,born:=clock }) (clock+1)) }:=by
  simp[Instr.mapUpdate,run_underlying ht,MapKept.run_getObj_map hb,MapKept.run_checkKey hkt hi,MapKept.run_findKey hkt hf,MapKept.run_setObj_map _ hb,Result.andThen]
 have:(execOp (ov env a).eval o).run P W= .ok .skip { W with heap:=W.heap.setIfInBounds b (.map (es.toArray.push { key:=key,val:=v,born:=clock }) (clock+1)) }:=by
  simp[execOp,ho,A4 ha _ _ hm,A4 ha _ _ hx,A4 ha _ _ hy,hr]
 rw[this]
 simp only[Oper.uponIn,hd]
 refine h.out a _ ha hd' ?_
 rw[AT] at hk
 refine hp.updO hk I I ⟨I,I,I, ?_⟩
 show _=W.heap.setIfInBounds b (.map (es++[_]).toArray (clock+1))
 rw[List.push_toArray]
theorem BR (k:Nat) {t kt et:TypeId} {d:TypeDesc} {m x:Operand} {dst:Nat} {key z v:Value} {c ok:Bool} {b clock:Nat} {es:List MapEntry} (ht:P.underlying t=some (.map kt et)) (hkt:P.underlying kt=some d) (hz: ∀W,(zeroValue et).run P W= .ok z W) (hg:Aj ops N env o=some true) (hd:o.dst=some dst) (ho:o.op= .lookup t m x c)
  (hk:nth bxs k=some (Bn b es clock)) (hm:evO N env m=some (.map (some b))) (hx:evO N env x=some key) (hi:MapKept.IsKey d key) (hv:mapAt d z key es=some (v,ok))
  (h:WL r n P N D ops Q rest ((dst,if c=true then .tuple #[v, .bool ok] else v)::env) (Hp W0 bxs)):WL r n P N D ops Q (o::rest) env (Hp W0 bxs):=by
 refine Bf hg hd (fun c e=>by rw[ho] at e;cases e) (fun ρ W hρ hp=> ?_) h
 have hb:=hp.mapAt hk
 have hf: ∃a,Instr.findNow d key es 0=some a/\((a.map (·.2)=some v/\ok=true)\/(a=none/\v=z/\ok=false)):=by
  unfold mapAt at hv
  split at hv<;>rename_i e<;>first|cases hv|skip
  ·exact⟨_,e, .inl ⟨I,I⟩⟩
  ·exact⟨_,e, .inr ⟨I,I,I⟩⟩
 obtain⟨a,hf,hc⟩:=hf
 have hr:(Instr.lookup t (.map (some b)) key c).run P W= .ok (if c=true then .tuple #[v, .bool ok] else v) W:=by
  rcases hc with⟨h1,rfl⟩|⟨rfl,rfl,rfl⟩
  ·cases a with
   |none=>cases h1
   |some p=>
    obtain⟨i,u⟩:=p
    injection h1 with h1
    subst h1
    cases c<;>simp[Instr.lookup,run_underlying ht,MapKept.run_getObj_map hb,MapKept.run_checkKey hkt hi,MapKept.run_findKey hkt hf,Result.andThen]
  ·cases c<;>simp[Instr.lookup,run_underlying ht,MapKept.run_getObj_map hb,MapKept.run_checkKey hkt hi,MapKept.run_findKey hkt hf,hz,Result.andThen]
 simp[execOp,ho,hρ _ _ hm,hρ _ _ hx,hr]
theorem XM (k:Nat) {t kt et:TypeId} {m:Operand} {dst b clock:Nat} {es:List MapEntry} (ht:P.underlying t=some (.map kt et)) (hg:Aj ops N env o=some true) (hd:o.dst=some dst) (ho:o.op= .range t m)
  (hk:nth bxs k=some (Bn b es clock)) (hm:evO N env m=some (.map (some b)))
  (h: ∀i,WL r n P N D ops Q rest ((dst, .pointer (some ⟨i,0,none⟩))::env) (Hp W0 (bxs++[H5 i b clock [] clock]))):WL r n P N D ops Q (o::rest) env (Hp W0 bxs):= .mk fun a W ha hd' hp=>by
 refine By hg ha (fun c e=>by rw[ho] at e;cases e) ?_
 have hb:=hp.mapAt hk
 have:(execOp (ov env a).eval o).run P W= .ok (.value (.pointer (some ⟨W.heap.size,0,none⟩))) (W.alloc (.mapIter (some b) clock #[] clock)):=by
  simp[execOp,ho,A4 ha _ _ hm,run_range_map W t kt et b _ _ ht hb]
 rw[this]
 simp only[Oper.uponIn,hd]
 exact(h W.heap.size).out a _ ha hd' (hp.allocO (H5 W.heap.size b clock [] clock) I I)
theorem ZI (k j:Nat) {dst i b clock last:Nat} {x:Operand} {es:List MapEntry} {seen:List Nat} (hg:Aj ops N env o=some true) (hd:o.dst=some dst) (ho:o.op= .next x false)
  (hk:nth bxs k=some (Bn b es clock)) (hj:nth bxs j=some (H5 i b clock seen last)) (hx:evO N env x=some (.pointer (some ⟨i,0,none⟩))) (hold: ∀e∈es,e.born<clock) (hl:clock<=last)
  (h0:(∀e∈es,e.born∈seen)->WL r n P N D ops Q rest ((dst, .tuple #[.bool false])::env) (Hp W0 bxs))
  (h1: ∀e,e∈es->e.born∉seen->WL r n P N D ops Q rest ((dst, .tuple #[.bool true,e.key,e.val])::env) (Hp W0 (bxs.set j (H5 i b clock (seen++[e.born]) clock)))):WL r n P N D ops Q (o::rest) env (Hp W0 bxs):= .mk fun a W ha hd' hp=>by
 refine By hg ha (fun c e=>by rw[ho] at e;cases e) ?_
 have hb:=hp.mapAt hk
 have hi:=hp.iterAt hj
 have key:(execOp (ov env a).eval o).run P W=((Instr.next (.pointer (some ⟨i,0,none⟩)) false o.type).run P W).andThen fun v w=> .ok (.value v) w:=by
  simp[execOp,ho,A4 ha _ _ hx]
 rw[key]
 rcases run_next_at (P:=P) W o.type i b clock last seen.toArray es.toArray clock hi hb (by simpa using hold) hl with⟨hs,hr⟩|⟨e,he,W1,hW,hr⟩
 ·rw[hr]
  simp only[Result.andThen,Oper.uponIn,hd]
  refine(h0 fun e he=> ?_).out a _ ha hd' hp
  have hne:leftOf es.toArray seen.toArray= #[]:=Array.eq_empty_of_size_eq_zero hs
  unfold leftOf at hne
  rw[Array.filter_eq_empty_iff] at hne
  have:=hne e (by simpa using he)
  simpa using this
 ·rw[hr]
  simp only[Result.andThen,Oper.uponIn,hd]
  unfold leftOf at he
  simp at he
  refine(h1 e he.1 he.2).out a _ ha hd' ?_
  have hp1:Hp W0 bxs W1:=by
   rcases hW with rfl|rfl
   ·exact hp
   ·exact hp.grow (Below.refl _ _).drew
  rw[AT] at hj
  refine hp1.updO hj I I ⟨I,I,I, ?_⟩
  show _=W1.heap.setIfInBounds i (.mapIter (some b) clock (seen++[e.born]).toArray clock)
  rw[<-List.push_toArray]
  rfl
theorem Xq (k j:Nat) {dst i b clock:Nat} {x:Operand} {es:List MapEntry} {seen:List Nat} {e:MapEntry} (hg:Aj ops N env o=some true) (hd:o.dst=some dst) (ho:o.op= .entry x)
  (hk:nth bxs k=some (Bn b es clock)) (hj:nth bxs j=some (H5 i b clock (seen++[e.born]) clock)) (hx:evO N env x=some (.pointer (some ⟨i,0,none⟩))) (he:e∈es) (hn:(es.map (·.born)).Nodup)
  (h:WL r n P N D ops Q rest ((dst, .tuple #[e.key,e.val])::env) (Hp W0 bxs)):WL r n P N D ops Q (o::rest) env (Hp W0 bxs):=by
 refine Bf hg hd (fun c e=>by rw[ho] at e;cases e) (fun ρ W hρ hp=> ?_) h
 have hb:=hp.mapAt hk
 have hi:=hp.iterAt hj
 rw[<-List.push_toArray] at hi
 have:=run_entry_at (P:=P) W i b clock seen.toArray es.toArray clock e hi hb (by simpa using he) (by simpa using hn)
 simp[execOp,ho,hρ _ _ hx,this]
end
end Go.Am
namespace Go.Proofs.YtidgbjcdppjknaaGreatDoor
section
open Go Go.RowKit Go.Am Go.Lib
set_option maxRecDepth 10000
def rdC (g n i:Nat) (bad:Bool):List Value:=[.slice (some ⟨g,if i<n then i else n-1,none⟩) (n-i) (n-i), .bool bad]
def rdL (b g:Nat) (ws:List (List UInt8)) (i:Nat) (bad:Bool):List (Nat×Obj):=[(b, .cells (rdC g ws.length i bad).toArray 131 (0,0)),(g, .cells (ss ws++[]).toArray 9 (0,0))]
def rdN (n i:Nat):Nat:=if i<n then i+1 else i
def rdB (n i:Nat) (bad:Bool):Bool:=bad||decide (n<=i)
theorem X4 {n b g i:Nat} {bad:Bool} {ws:List (List UInt8)} {W:World} {c:List Value} (hO:Go.Am.Own n [Ad (rdL b g ws i bad)] W) (hc:rdC g ws.length i bad=c):Go.Am.Own n [⟨b,131,c,true,none⟩,⟨g,9,ss ws++[],true,none⟩] W:=by subst hc;exact hO.regroup rfl
theorem eH {W0 W:World} {bxs:List Bx} {ws:List (List UInt8)} {g i:Nat} (hp:Hp W0 bxs W) (k:Nat) (hk:nth bxs k=some ⟨g,9,ss ws++[],true,none⟩) (hi:i<ws.length):Al W g (i+0*1) [str (ws.getD i [])]:=by
 have:=Oj hp k hk hi
 rwa [show 0+i*1=i+0*1 by omega] at this
theorem dA (g n i:Nat) (hi:i<n):Value.slice (some ⟨g,if n-i=1 then i else i+1*1,none⟩) (n-i-1) (n-i-1)= .slice (some ⟨g,if i+1<n then i+1 else n-1,none⟩) (n-(i+1)) (n-(i+1)):=by
 have h:(if n-i=1 then i else i+1*1)=(if i+1<n then i+1 else n-1):=by split<;>split<;>omega
 rw[h,Nat.sub_sub]
theorem Bp (b g:Nat) (ws:List (List UInt8)) (i:Nat) (bad:Bool) (hi:i<=ws.length) (Wb W:World) (hb0:Below Wb.heap.size Wb W) (hO:Go.Am.Own Wb.heap.size [Ad (rdL b g ws i bad)] W):
  A0 Tryz.prog Wb.heap.size 110 [Af b] W (rdL b g ws i bad) (fun _:Unit=>str (ws.getD i [])) (fun _=>True) (fun _=>rdL b g ws (rdN ws.length i) (rdB ws.length i bad)):=by
 by_cases hlt:i<ws.length
 ·rw[show rdN ws.length i=i+1 from if_pos hlt,show rdB ws.length i bad=bad by unfold rdB;rw[dF (by omega),Bool.or_false]]
  refine A0.enterL (bs:=[⟨b,131,rdC g ws.length i bad,true,none⟩,⟨g,9,ss ws++[],true,none⟩]) (bs':=fun _:Unit=>[Ad (rdL b g ws (i+1) bad)]) hb0 (X4 hO I) I (fun x=>Ap _) Tryz.func110 I I I ?_
  refine xb<|wP I<|xa<|xd<|wP I<|AE I I I I<|wP I<|wB 1 I I I<|Aa I<|wU 9 false I (beq_eq_false_iff_ne.2 (show((((ws.length-i:Nat)):Nat):Int)≠0 by omega))<|xa<|zS I<|zI<|xe<|wP I<|AE I I I I<|?_
  refine wP I<|wB 1 I I I<|Ao 16 (.slice (some ⟨g,i,none⟩) (ws.length-i) (ws.length-i)) I (by rw[if_pos hlt])<|wJ ?_
  refine wL 0 I I (fun W1 hp=>eH hp 2 I hlt) I<|wP I<|xg<|Aa I<|AE I I I I<|wP I<|wB 1 I I I<|Ao 23 (.slice (some ⟨g,i,none⟩) (ws.length-i) (ws.length-i)) I (by rw[if_pos hlt])<|G8 1 tH I I I I I I I I (by omega) (Nat.le_refl _) ?_
  exact Ao 24 (.slice (some ⟨g,if i+1<ws.length then i+1 else ws.length-1,none⟩) (ws.length-(i+1)) (ws.length-(i+1))) I (dA g ws.length i hlt)<|AE I I I I<|wP I<|wS 1 I I I<|xg<|Aa I<|xc<|Ar tH I (.tmp I) () I tO fun W1 hp=>(hp.pick [0,1,2] (by decide) I).own.regroup I
 ·rw[show rdN ws.length i=i from if_neg hlt,show rdB ws.length i bad=true by unfold rdB;rw[dT (by omega),Bool.or_true],show ws.getD i []=[] by rw[List.getD_eq_getElem?_getD,List.getElem?_eq_none (by omega)];rfl]
  refine A0.enterL (bs:=[⟨b,131,rdC g ws.length i bad,true,none⟩,⟨g,9,ss ws++[],true,none⟩]) (bs':=fun _:Unit=>[Ad (rdL b g ws i true)]) hb0 (X4 hO I) I (fun x=>Ap _) Tryz.func110 I I I ?_
  refine xb<|wP I<|xa<|xd<|wP I<|AE I I I I<|wP I<|wB 1 I I I<|Aa I<|wU 9 true I (beq_iff_eq.2 (show((((ws.length-i:Nat)):Nat):Int)=0 by omega))<|xa<|zR I<|xb<|wP I<|AE I I I I<|wP I<|wS 1 I I I<|?_
  exact xg<|wP I<|xc<|zP<|Ar tH I (.tmp I) () I tO fun W1 hp=>(hp.pick [0,1,2] (by decide) I).own.regroup I
def okW (w:List UInt8):Bool:=match atoiAll w with
 | .ok _=>true
 |_=>false
theorem dM {w:List UInt8} {n:Int} (h:atoiAll w= .ok n):okW w=true:=by unfold okW;rw[h]
theorem bW {w:List UInt8} (h: ∀n,atoiAll w≠ .ok n):okW w=false:=by
 unfold okW
 split
 ·rename_i n e;exact absurd e (h n)
 ·rfl
def rdI (ws:List (List UInt8)) (i:Nat) (bad:Bool):Bool:=rdB ws.length i bad|| !okW (ws.getD i [])
theorem Dp {ws:List (List UInt8)} {m:Nat} (h: ∀w∈ws,w.length<=m) (i:Nat):(ws.getD i []).length<=m:=by
 rw[List.getD_eq_getElem?_getD]
 cases e:ws[i]? with
 |none=>exact Nat.zero_le _
 |some w=>exact h w (List.mem_of_getElem? e)
theorem TL (b g:Nat) (ws:List (List UInt8)) (i:Nat) (bad:Bool) (hl: ∀w∈ws,w.length<=1000000) (hi:i<=ws.length) (Wb W:World) (hb0:Below Wb.heap.size Wb W) (hO:Go.Am.Own Wb.heap.size [Ad (rdL b g ws i bad)] W) (hv:AQ Wb):
  A0 Tryz.prog Wb.heap.size 111 [Af b] W (rdL b g ws i bad) (fun x:Int=> .int .i64 x) (fun x=> ∀n,atoiAll (ws.getD i [])= .ok n->x=n) (fun _=>rdL b g ws (rdN ws.length i) (rdI ws i bad)):=by
 refine A0.enterL (bs:=[Ad (rdL b g ws i bad)]) (bs':=fun _:Int=>[Ad (rdL b g ws (rdN ws.length i) (rdI ws i bad))]) hb0 hO (Ap _) (fun x=>Ap _) Tryz.func111 I I I ?_
 have hwl:=Dp hl i
 obtain⟨w,hw⟩: ∃w,w=ws.getD i []:=⟨_,rfl⟩
 obtain⟨b1,hb1⟩: ∃v,v=rdB ws.length i bad:=⟨_,rfl⟩
 obtain⟨b2,hb2⟩: ∃v,v=rdI ws i bad:=⟨_,rfl⟩
 have hb2':b2=(b1|| !okW w):=by rw[hb2,hb1,hw];rfl
 obtain⟨i1,hi1⟩: ∃v,v=rdN ws.length i:=⟨_,rfl⟩
 rw[<-hw] at hwl
 rw[<-hb2, <-hi1, <-hw]
 refine xb<|wP I<|xg<|wP I<|?_
 refine Ah 1 (B:=Ad (rdL b g ws i bad)) (X:=Unit) (fun _=>Ad (rdL b g ws i1 b1)) I I I I I I (by kernel_rfl) I (fun _ _=>rfl) (fun W1 hp=>by rw[hb1,hi1];exact Bp b g ws i bad hi Wb W1 hp.below (hp.pick [1] (by decide) I).own) ?_
 intro _ _
 rw[<-hw]
 refine wD (X:=Int×Value) I I (fun W1 hp=>EA W1 w hwl (hv.hp hp)) ?_
 rintro⟨z,ev⟩ hz
 refine A8 I<|xa<|zA<|B2 [Ad (Ay Wb.heap.size W (rdL b g ws i bad)),⟨b,131,rdC g ws.length i1 b1,true,none⟩,⟨g,9,ss ws++[],true,none⟩] [0,1] (by decide) I I ?_
 refine zB<|Aa I<|AE I I I I<|wP I<|wB 1 I I I<|wP I<|?_
 cases b1 with
 |true=>
  have hb2':b2=true:=hb2'
  subst hb2'
  iterate 2 refine Ac I I ?_
  refine wP I<|AE I I I I<|wP I<|wS 1 I I I<|xg<|Aa I<|xc<|?_
  exact Ar tH I (.tmp I) z I (fun n e=>by
   rcases hz with⟨m,hm,e2⟩|⟨hno,_⟩
   ·rw[hm] at e;injection e with e;injection e2 with e2;rw[e2,e]
   ·exact absurd e (hno n)) fun W1 hp=>(hp.pick [0,1,2] (by decide) I).own.regroup I
 |false=>
  refine wP I ?_
  rcases hz with⟨n,hn',e⟩|⟨hno,a,ha⟩
  ·injection e with e1 e2
   subst e1 e2
   have hb2':b2=false:=by rw[hb2',dM hn'];rfl
   subst hb2'
   refine Bf (v:= .bool false) rfl rfl (fun c e=>by cases e) (fun ρ W hρ _=>C4 Tryz.underlying104 rfl (hρ _ _ rfl) (hρ _ _ rfl) (.inl ⟨rfl,rfl⟩) W) ?_
   exact wP I<|AE I I I I<|wP I<|wS 1 I I I<|xg<|Aa I<|xc<|Ar tH I (.tmp I) z I (fun n e=>by rw[hn'] at e;injection e) fun W1 hp=>(hp.pick [0,1,2] (by decide) I).own.regroup I
  ·change ev=_ at ha
   subst ha
   have hb2':b2=true:=by rw[hb2',bW hno];rfl
   subst hb2'
   refine Bf (v:= .bool true) rfl rfl (fun c e=>by cases e) (fun ρ W hρ _=>C4 Tryz.underlying104 rfl (hρ _ _ rfl) (hρ _ _ rfl) (.inr ⟨⟨_,_,rfl⟩,rfl⟩) W) ?_
   exact wP I<|AE I I I I<|wP I<|wS 1 I I I<|xg<|Aa I<|xc<|Ar tH I (.tmp I) z I (fun n e=>absurd e (hno n)) fun W1 hp=>(hp.pick [0,1,2] (by decide) I).own.regroup I
theorem Tm (b g:Nat) (ws:List (List UInt8)) (i:Nat) (bad:Bool) (hi:i<=ws.length) (Wb W:World) (hb0:Below Wb.heap.size Wb W) (hO:Go.Am.Own Wb.heap.size [Ad (rdL b g ws i bad)] W):
  A0 Tryz.prog Wb.heap.size 112 [Af b] W (rdL b g ws i bad) (fun _:Unit=>str (ws.getD i [])) (fun _=>True) (fun _=>rdL b g ws (rdN ws.length i) (rdB ws.length i bad)):=by
 refine A0.enterL (bs:=[Ad (rdL b g ws i bad)]) (bs':=fun _:Unit=>[Ad (rdL b g ws (rdN ws.length i) (rdB ws.length i bad))]) hb0 hO (Ap _) (fun x=>Ap _) Tryz.func112 I I I ?_
 refine xb<|wP I<|xg<|wP I<|Ah 1 (B:=Ad (rdL b g ws i bad)) (X:=Unit) (fun _=>Ad (rdL b g ws (rdN ws.length i) (rdB ws.length i bad))) I I I I I I (by kernel_rfl) I (fun _ _=>rfl) (fun W1 hp=>Bp b g ws i bad hi Wb W1 hp.below (hp.pick [1] (by decide) I).own) ?_
 intro _ _
 exact wP I<|xc<|Ar tH I (.tmp I) () I tO fun W1 hp=>(hp.pick [0,1] (by decide) I).own
def Br:List (List UInt8×Int):=[([110,97,109,101],1),([115,105,100,101],2),([115,112,97,99,105,110,103],3),([112,117,114,108,105,110],4),([111,112,101,110,105,110,103],5),([115,105,122,101],6),([98,97,114],7),([107,101,114,102],8),([116,105,108,101],9),([108,111,97,100],10),([115,112,97,110],11),([114,101,109,111,118,101],12)]
def CI:List (Int×List UInt8):=[(4,[112,117,114,108,105,110]),(5,[111,112,101,110,105,110,103]),(6,[115,105,122,101]),(7,[98,97,114]),(10,[108,111,97,100]),(11,[115,112,97,110])]
def Cx:List (List UInt8×Int)->Nat->List MapEntry
 |[],_=>[]
 |p::r,n=> { key:=str p.1,val:= .int .i64 p.2,born:=n }::Cx r (n+1)
def Ir:List (Int×List UInt8)->Nat->List MapEntry
 |[],_=>[]
 |p::r,n=> { key:= .int .i64 p.1,val:=str p.2,born:=n }::Ir r (n+1)
def Hu (T:List (List UInt8×Int)) (w:List UInt8):Option Int:=(T.find? fun p=>decide (p.1=w)).map (·.2)
def Cr (T:List (Int×List UInt8)) (k:Int):Option (List UInt8):=(T.find? fun p=>decide (p.1=k)).map (·.2)
theorem X1 (w k:List UInt8):Instr.sameNow .string (str w) (str k)=some (decide (k=w)):=by
 show some ((⟨w.toArray⟩:ByteArray)==⟨k.toArray⟩)=_
 congr 1
 by_cases h:k=w
 ·subst h;rw[dT rfl];exact(MapKept.bytes_beq _ _).2 rfl
 ·rw[dF h]
  cases e:((⟨w.toArray⟩:ByteArray)==⟨k.toArray⟩) with
  |false=>rfl
  |true=>
   have:=(MapKept.bytes_beq _ _).1 e
   injection this with this
   exact absurd (List.toArray_inj this).symm h
theorem Ys (a b:Int):Instr.sameNow (.int .i64) (.int .i64 a) (.int .i64 b)=some (decide (b=a)):=by
 show(if IntKind.i64=IntKind.i64 then some (a==b) else none)=_
 rw[if_pos rfl]
 congr 1
 by_cases h:b=a
 ·subst h;simp
 ·rw[dF h];exact beq_eq_false_iff_ne.2 fun e=>h e.symm
theorem Om (w:List UInt8): ∀(T:List (List UInt8×Int)) (n i:Nat),(Instr.findNow .string (str w) (Cx T n) i).map (Option.map (·.2))=some ((Hu T w).map fun v=>Value.int .i64 v)
 |[],_,_=>rfl
 |p::r,n,i=>by
  show(match Instr.sameNow .string (str w) (str p.1) with
   |some true=>some (some (i,Value.int .i64 p.2))
   |some false=>Instr.findNow .string (str w) (Cx r (n+1)) (i+1)
   |none=>none).map (Option.map (fun q:Nat×Value=>q.2))=_
  rw[X1]
  unfold Hu
  by_cases h:p.1=w
  ·rw[dT h,List.find?_cons_of_pos (by rw[dT h])];rfl
  ·rw[dF h,List.find?_cons_of_neg (by rw[dF h];simp)];exact Om w r (n+1) (i+1)
theorem Oy (k:Int): ∀(T:List (Int×List UInt8)) (n i:Nat),(Instr.findNow (.int .i64) (.int .i64 k) (Ir T n) i).map (Option.map (·.2))=some ((Cr T k).map str)
 |[],_,_=>rfl
 |p::r,n,i=>by
  show(match Instr.sameNow (.int .i64) (.int .i64 k) (.int .i64 p.1) with
   |some true=>some (some (i,str p.2))
   |some false=>Instr.findNow (.int .i64) (.int .i64 k) (Ir r (n+1)) (i+1)
   |none=>none).map (Option.map (fun q:Nat×Value=>q.2))=_
  rw[Ys]
  unfold Cr
  by_cases h:p.1=k
  ·rw[dT h,List.find?_cons_of_pos (by rw[dT h])];rfl
  ·rw[dF h,List.find?_cons_of_neg (by rw[dF h];simp)];exact Oy k r (n+1) (i+1)
theorem Q7 {d:TypeDesc} {z key:Value} {es:List MapEntry} {o:Option Value} (h:(Instr.findNow d key es 0).map (Option.map (·.2))=some o):mapAt d z key es=some (o.getD z,o.isSome):=by
 unfold mapAt
 cases e:Instr.findNow d key es 0 with
 |none=>rw[e] at h;cases h
 |some x=>
  rw[e] at h
  cases x with
  |none=>injection h with h;subst h;rfl
  |some p=>injection h with h;subst h;rfl
theorem Do (w:List UInt8):mapAt .string (.int .i64 0) (str w) (Cx Br 0)=some (.int .i64 ((Hu Br w).getD 0),(Hu Br w).isSome):=by
 rw[Q7 (Om w Br 0 0)]
 cases Hu Br w<;>rfl
theorem Xf (k:Int):mapAt (.int .i64) (str []) (.int .i64 k) (Ir CI 0)=some (str ((Cr CI k).getD []),(Cr CI k).isSome):=by
 rw[Q7 (Oy k CI 0 0)]
 cases Cr CI k<;>rfl
theorem BF (W:World):Ag Tryz.prog 109 #[] W (fun b:Nat=> .map (some b)) (fun _=>True) (fun b=>[Bn b (Cx Br 0) 12]):=by
 refine Ab Tryz.func109 I I I<|xb<|wP I<|xa<|zA<|CK ?_
 refine Mm I I I ?_
 intro b
 iterate 12 refine N2 0 Tryz.underlying169 Tryz.underlying9 I I I I I I I (by trivial) (by kernel_rfl) ?_
 exact Aa I<|xc<|Ar tH I (.tmp I) b I tO fun W1 hp=>hp.own
theorem FS (W:World):Ag Tryz.prog 115 #[] W (fun b:Nat=> .map (some b)) (fun _=>True) (fun b=>[Bn b (Ir CI 0) 6]):=by
 refine Ab Tryz.func115 I I I<|xb<|wP I<|xa<|zA<|CK ?_
 refine Mm I I I ?_
 intro b
 iterate 6 refine N2 0 Tryz.underlying178 Tryz.underlying3 I I I I I I I (by trivial) (by kernel_rfl) ?_
 exact Aa I<|xc<|Ar tH I (.tmp I) b I tO fun W1 hp=>hp.own
section
variable {r:Option Nat} {n:Nat} {P:Program} {N:Nat} {D:List Deferred} {ops:List Oper} {Q:Exit->Act->World->Prop} {o:Oper} {rest:List Oper} {env:Env} {A A2:World->Prop} {R:Act->World->Prop}
theorem Ws {d:Nat} {t e:TypeId} {m:Nat} {x y:Operand} {b:Nat} {k:IntKind} (l:Nat) (ht:P.underlying t=some (.array m e)) (hs: ∀W,(Go.sizeOf e).run P W= .ok 1 W) (hg:Aj ops N env o=some true) (hd:o.dst=some d) (ho:o.op= .slice t x (some y) none none)
  (hx:evO N env x=some (.pointer (some ⟨b,0,none⟩))) (hy:evO N env y=some (.int k (l:Nat))) (hl:Nat.ble (l+1) m=true)
  (h:WL r n P N D ops Q rest ((d, .slice (some ⟨b,l,none⟩) (m-l) (m-l))::env) A):WL r n P N D ops Q (o::rest) env A:=
 Bf hg hd (fun c e=>by rw[ho] at e;cases e) (fun ρ W hρ _=>by
  have hl:=Nat.le_of_ble_eq_true hl
  have h1: ¬m=l:=by omega
  have h2:l<=m:=by omega
  simp[execOp,ho,Instr.sliceAt,Instr.sliceBounds,Instr.sliceBound,asIntOf,Instr.sureAddr,run_underlying ht,hs,hρ _ _ hx,hρ _ _ hy,Addr.add_none,h1,h2]) h
end
def Bw:List (List UInt8):=Ba.drop 1
theorem S7 {W:World} (h:Bo W) {j:Nat} (hj:j<12):W.cell? ⟨1,1+j,none⟩=some (.string ((Bw.map fun w=>(⟨w.toArray⟩:ByteArray)).getD j ByteArray.empty)):=by
 have h13:Ba.length=13:=rfl
 have hget:Ba[1+j]? =some Ba[1+j]:=List.getElem?_eq_getElem (by omega)
 have:=h.get (1+j) (str Ba[1+j]) (by
  rw[<-JL,List.append_nil,List.getElem?_map,hget];rfl)
 rw[Nat.zero_add] at this
 rw[this,List.getD_eq_getElem?_getD,List.getElem?_map]
 unfold Bw
 rw[List.getElem?_drop,hget]
 rfl
theorem GK (W:World) (hw:Bo W):Ag Tryz.prog 114 #[] W (fun x:Nat×Nat×List Value=> .slice (some ⟨x.1,0,none⟩) 12 x.2.1) (fun _=>True) (fun x=>[⟨x.1,9,ss Bw++x.2.2,true,none⟩]):=by
 refine Ab Tryz.func114 I I I<|xb<|wP I<|xa<|zA<|CK ?_
 refine Ws 1 Tryz.underlying217 Tryz.sizeOf9 I I I I I I ?_
 refine wD (X:=Nat×Nat×List Value) (val:=fun x=> .slice (some ⟨x.1,0,none⟩) 12 x.2.1) (Φ:=fun _=>True) (nb:=fun x=>[⟨x.1,9,ss Bw++x.2.2,true,none⟩]) I I (fun W1 hp=> ?_) ?_
 ·have h:=Tryz.slices_Clone_string 1 1 12 12 (Bw.map fun w=>(⟨w.toArray⟩:ByteArray)) W1 (by decide) (by decide) (fun j hj=>S7 (hw.hp hp) (by rw[List.length_map] at hj;exact hj))
  refine⟨h.mono ?_⟩
  rintro e W' ⟨v',rfl,⟨_,hv⟩,hne,hb⟩
  rcases hv with⟨rfl,_⟩|⟨g,cap,cur,rfl,hg,hcur,_,_,_,htake⟩
  ·exact absurd I hne
  ·refine⟨(g,cap,cur.toList.drop 12),I,tO,hb,Own.one_sole I ⟨?_,hg⟩⟩
   rw[hcur]
   show some (Obj.cells cur _ (0,0))=some (Obj.cells (ss Bw++cur.toList.drop 12).toArray _ (0,0))
   have e:ss Bw=cur.toList.take 12:=htake.symm
   rw[e,List.take_append_drop]
 ·rintro⟨g,cap,junk⟩ _
  exact wP I<|xc<|Ar tH I (.tmp I) (g,cap,junk) I tO fun W1 hp=>hp.own
structure EdS where
 k:Int:=0
 ix:Int:=0
 x:Int:=0
 y:Int:=0
 ri:Int:=0
 ru:Int:=0
 gb:Bool:=false
 pl:Int:=0
 ov:Int:=0
 op:OpS:=⟨0,[],[],[],[]⟩
 sz:SzS:=⟨0,0,0⟩
 br:BrS:=⟨0,0,0,0,0,[]⟩
 ld:LdS:=⟨0,0,[]⟩
 al:AlS:=⟨0,0,0,0,0⟩
 tw:Int:=0
 tl:Int:=0
 tp:Int:=0
 tt:Int:=0
 nb:Int:=0
 tx:List UInt8:=[]
def edV (e:EdS) (q:Option Addr) (cap:Nat):List Value:=[.int .i64 e.k, .int .i64 e.ix, .int .i64 e.x, .int .i64 e.y, .int .i64 e.ri, .int .i64 e.ru, .bool e.gb, .int .i64 e.pl, .int .i64 e.ov, .int .i64 e.op.s,str e.op.l,str e.op.r,str e.op.o,str e.op.i, .int .i64 e.sz.k, .int .i64 e.sz.w, .int .i64 e.sz.d, .int .i64 e.br.w, .int .i64 e.br.d, .int .i64 e.br.l, .int .i64 e.br.n, .int .i64 e.br.c, .slice q e.br.g.length cap, .int .i64 e.ld.k, .int .i64 e.ld.s,str e.ld.w, .int .i64 e.al.w, .int .i64 e.al.d, .int .i64 e.al.s, .int .i64 e.al.l, .int .i64 e.al.n, .int .i64 e.tw, .int .i64 e.tl, .int .i64 e.tp, .int .i64 e.tt, .int .i64 e.nb,str e.tx]
def stI (n:Nat):Nat->Nat
 |0=>1
 |k+1=>rdN n (stI n k)
def stB (ws:List (List UInt8)):List Bool->Bool
 |[]=>false
 |true::r=>rdI ws (stI ws.length r.length) (stB ws r)
 |false::r=>rdB ws.length (stI ws.length r.length) (stB ws r)
def wd (ws:List (List UInt8)) (k:Nat):List UInt8:=ws.getD (stI ws.length k) []
def atV (w:List UInt8):Int:=match atoiAll w with
 | .ok n=>n
 |_=>0
def iw (ws:List (List UInt8)) (k:Nat):Int:=atV (wd ws k)
theorem Pv {n:Nat} (h:1<=n): ∀k,stI n k<=n
 |0=>h
 |k+1=>by
  have:=Pv h k
  show rdN n (stI n k)<=n
  unfold rdN
  split<;>omega
theorem AG {ws:List (List UInt8)} {t:Bool} {r:List Bool} (h:stB ws (t::r)=false):stB ws r=false:=by
 cases t
 ·exact(Bool.or_eq_false_iff.1 h).1
 ·exact(Bool.or_eq_false_iff.1 (Bool.or_eq_false_iff.1 h).1).1
theorem AX {ws:List (List UInt8)} {r:List Bool} (h:stB ws (true::r)=false) {x:Int} (hx: ∀n,atoiAll (wd ws r.length)= .ok n->x=n):x=iw ws r.length:=by
 have h2:(!okW (wd ws r.length))=false:=(Bool.or_eq_false_iff.1 h).2
 have h1:okW (wd ws r.length)=true:=by
  cases e:okW (wd ws r.length) with
  |true=>rfl
  |false=>rw[e] at h2;cases h2
 obtain⟨n,e⟩: ∃n,atoiAll (wd ws r.length)= .ok n:=by
  unfold okW at h1
  split at h1
  ·rename_i n e
   exact⟨n,e⟩
  ·cases h1
 rw[hx n e]
 unfold iw atV
 rw[e]
structure EdX where
 e:EdS
 V:Vec
 i:Nat
 bad:Bool
def EdR (ws:List (List UInt8)) (ops:List Bool) (e:EdS) (x:EdX):Prop:=x.V=Vec.empty/\x.i=stI ws.length ops.length/\x.bad=stB ws ops/\(x.bad=false->x.e=e)
abbrev kdW (ws:List (List UInt8)):Int:=(Hu Br (ws.getD 0 [])).getD 0
abbrev Fg (b g:Nat) (ws:List (List UInt8)) (Wb W:World) (Φ:EdX->Prop):Prop:=A0 Tryz.prog Wb.heap.size 59 [Af b] W (rdL b g ws 0 false) (fun x:EdX=> .agg (edV x.e (AU x.V) (Bd x.V)).toArray) Φ (fun x=>rdL b g ws x.i x.bad++(x.V.bx 177 (x.e.br.g.flatMap gpC)).blk)
def rdT (b g:Nat) (ws:List (List UInt8)) (L:List Bool):List (Nat×Obj):=rdL b g ws (stI ws.length L.length) (stB ws L)
theorem AW (b g:Nat) (ws:List (List UInt8)) (L:List Bool) (h1:1<=ws.length) (hl: ∀w∈ws,w.length<=1000000) (Wb W:World) (hb0:Below Wb.heap.size Wb W) (hO:Go.Am.Own Wb.heap.size [Ad (rdT b g ws L)] W) (hv:AQ Wb):
  A0 Tryz.prog Wb.heap.size 111 [Af b] W (rdT b g ws L) (fun x:Int=> .int .i64 x) (fun x=> ∀n,atoiAll (wd ws L.length)= .ok n->x=n) (fun _=>rdT b g ws (true::L)):=
 TL b g ws (stI ws.length L.length) (stB ws L) hl (Pv h1 _) Wb W hb0 hO hv
theorem JM (b g:Nat) (ws:List (List UInt8)) (L:List Bool) (h1:1<=ws.length) (Wb W:World) (hb0:Below Wb.heap.size Wb W) (hO:Go.Am.Own Wb.heap.size [Ad (rdT b g ws L)] W):
  A0 Tryz.prog Wb.heap.size 112 [Af b] W (rdT b g ws L) (fun _:Unit=>str (wd ws L.length)) (fun _=>True) (fun _=>rdT b g ws (false::L)):=
 Tm b g ws (stI ws.length L.length) (stB ws L) (Pv h1 _) Wb W hb0 hO
theorem Mv (b g:Nat) (ws:List (List UInt8)) (L:List Bool) (h1:1<=ws.length) (Wb W:World) (hb0:Below Wb.heap.size Wb W) (hO:Go.Am.Own Wb.heap.size [Ad (rdT b g ws L)] W):
  A0 Tryz.prog Wb.heap.size 110 [Af b] W (rdT b g ws L) (fun _:Unit=>str (wd ws L.length)) (fun _=>True) (fun _=>rdT b g ws (false::L)):=
 Bp b g ws (stI ws.length L.length) (stB ws L) (Pv h1 _) Wb W hb0 hO
theorem Bk {n:Nat} (h:1<=n):rdN n 0=1/\rdB n 0 false=false:=⟨if_pos h,by unfold rdB;rw[dF (by omega)];rfl⟩
theorem PS (b g:Nat) (ws:List (List UInt8)) (h1:1<=ws.length) (Wb W:World) (hb0:Below Wb.heap.size Wb W) (hO:Go.Am.Own Wb.heap.size [Ad (rdL b g ws 0 false)] W) (hk:kdW ws=1):
  Fg b g ws Wb W (EdR ws [false] { k:=1,tx:=wd ws 0 }):=by
 refine A0.enterL (bs:=[Ad (rdL b g ws 0 false)]) (bs':=fun x:EdX=>[Ad (rdL b g ws x.i x.bad++(x.V.bx 177 (x.e.br.g.flatMap gpC)).blk)]) hb0 hO (Ap _) (fun x=>Ap _) Tryz.func59 I I I ?_
 refine xb<|wG I I fun _=>zC<|?_
 rename_i b2
 refine xe<|wD (X:=Nat) I I (fun W1 _=>BF W1) ?_
 intro bm _
 refine wP I ?_
 refine Ah 1 (B:=Ad (rdL b g ws 0 false)) (X:=Unit) (fun _=>Ad (rdT b g ws [])) I I I I I I (by kernel_rfl) I (fun _ _=>by show rdL b g ws 1 false=_;rw[(Bk h1).1,(Bk h1).2]) (fun W1 hp=>Bp b g ws 0 false (Nat.zero_le _) Wb W1 hp.below (hp.pick [1] (by decide) I).own) ?_
 intro _ _
 refine BR 3 (d:= .string) Tryz.underlying169 Tryz.underlying9 Tryz.zeroValue3 I I I I I I tO (Do (ws.getD 0 [])) ?_
 refine wV 10 1 I hk<|Ak Tryz.hZ tH I I I I I I I I ?_
 refine wG I I fun _=>wS 4 I I I<|zC<|?_
 rename_i b3
 refine AM (bs':=[Ad (Ay Wb.heap.size W (rdL b g ws 0 false)),Ad (rdT b g ws []),⟨b2,93,edV {} none 0,true,none⟩,Bn bm (Cx Br 0) 12,⟨b3,93,edV { k:=1 } none 0,true,none⟩]) I ?_
 refine zE<|xd<|wP I<|wB 4 I I I<|xa<|zH<|xb<|Aa I<|xa<|zR I<|zB<|wP I<|Ah 1 (B:=Ad (rdT b g ws [])) (X:=Unit) (fun _=>Ad (rdT b g ws [false])) I I I I I I (by kernel_rfl) I (fun _ _=>rfl) (fun W1 hp=>Mv b g ws [] h1 Wb W1 hp.below (hp.pick [1] (by decide) I).own) ?_
 intro _ _
 refine wP I<|wS 4 I I I<|zC<|AM (bs':=[Ad (Ay Wb.heap.size W (rdL b g ws 0 false)),Ad (rdT b g ws [false]),⟨b2,93,edV {} none 0,true,none⟩,Bn bm (Cx Br 0) 12,⟨b3,93,edV { k:=1,tx:=wd ws 0 } none 0,true,none⟩]) I ?_
 refine zN<|xe<|wB 4 I I I<|wS 2 I I I<|xc<|?_
 exact Ar tH I (.cell 2 I I I I I) (⟨{ k:=1,tx:=wd ws 0 },Vec.empty,stI ws.length 1,stB ws [false]⟩:EdX) I ⟨I,I,I,fun h=>by
  have e1:stB ws [false]=false:=h
  have e0:=AG e1
  rfl⟩ fun W1 hp=>(hp.pick [0,1] (by decide) rfl).own.regroup rfl
theorem P5 (b g:Nat) (ws:List (List UInt8)) (h1:1<=ws.length) (hl: ∀w∈ws,w.length<=1000000) (Wb W:World) (hb0:Below Wb.heap.size Wb W) (hO:Go.Am.Own Wb.heap.size [Ad (rdL b g ws 0 false)] W) (hv:AQ Wb) (hk:kdW ws=2):
  Fg b g ws Wb W (EdR ws [true,true,true,true,true,true,true,true] { k:=2,ix:=iw ws 0,x:=iw ws 1,y:=iw ws 2,ri:=iw ws 3,ru:=iw ws 4,gb:=(iw ws 7==1),pl:=iw ws 5,ov:=iw ws 6 }):=by
 refine A0.enterL (bs:=[Ad (rdL b g ws 0 false)]) (bs':=fun x:EdX=>[Ad (rdL b g ws x.i x.bad++(x.V.bx 177 (x.e.br.g.flatMap gpC)).blk)]) hb0 hO (Ap _) (fun x=>Ap _) Tryz.func59 I I I ?_
 refine xb<|wG I I fun _=>zC<|?_
 rename_i b2
 refine xe<|wD (X:=Nat) I I (fun W1 _=>BF W1) ?_
 intro bm _
 refine wP I ?_
 refine Ah 1 (B:=Ad (rdL b g ws 0 false)) (X:=Unit) (fun _=>Ad (rdT b g ws [])) I I I I I I (by kernel_rfl) I (fun _ _=>by show rdL b g ws 1 false=_;rw[(Bk h1).1,(Bk h1).2]) (fun W1 hp=>Bp b g ws 0 false (Nat.zero_le _) Wb W1 hp.below (hp.pick [1] (by decide) I).own) ?_
 intro _ _
 refine BR 3 (d:= .string) Tryz.underlying169 Tryz.underlying9 Tryz.zeroValue3 I I I I I I tO (Do (ws.getD 0 [])) ?_
 refine wV 10 2 I hk<|Ak Tryz.hZ tH I I I I I I I I ?_
 refine wG I I fun _=>wS 4 I I I<|zC<|?_
 rename_i b3
 refine AM (bs':=[Ad (Ay Wb.heap.size W (rdL b g ws 0 false)),Ad (rdT b g ws []),⟨b2,93,edV {} none 0,true,none⟩,Bn bm (Cx Br 0) 12,⟨b3,93,edV { k:=2 } none 0,true,none⟩]) I ?_
 refine zE<|xd<|wP I<|wB 4 I I I<|xa<|zH<|xb<|Aa I<|xa<|zS I<|xb<|Aa I<|xa<|zR I<|zA<|?_
 refine zB<|wP I<|Ah 1 (B:=Ad (rdT b g ws [])) (X:=Int) (fun _=>Ad (rdT b g ws [true])) I I I I I I (by kernel_rfl) I (fun _ _=>rfl) (fun W1 hp=>AW b g ws [] h1 hl Wb W1 hp.below (hp.pick [1] (by decide) I).own hv) ?_
 intro v0 f0
 refine wP I<|wS 4 I I I<|zC<|AM (bs':=[Ad (Ay Wb.heap.size W (rdL b g ws 0 false)),Ad (rdT b g ws [true]),⟨b2,93,edV {} none 0,true,none⟩,Bn bm (Cx Br 0) 12,⟨b3,93,edV { k:=2,ix:=v0 } none 0,true,none⟩]) I ?_
 refine xe<|wP I<|Ah 1 (B:=Ad (rdT b g ws [true])) (X:=Int) (fun _=>Ad (rdT b g ws [true,true])) I I I I I I (by kernel_rfl) I (fun _ _=>rfl) (fun W1 hp=>AW b g ws [true] h1 hl Wb W1 hp.below (hp.pick [1] (by decide) I).own hv) ?_
 intro v1 f1
 refine wP I<|Ah 1 (B:=Ad (rdT b g ws [true,true])) (X:=Int) (fun _=>Ad (rdT b g ws [true,true,true])) I I I I I I (by kernel_rfl) I (fun _ _=>rfl) (fun W1 hp=>AW b g ws [true,true] h1 hl Wb W1 hp.below (hp.pick [1] (by decide) I).own hv) ?_
 intro v2 f2
 refine wP I<|Ah 1 (B:=Ad (rdT b g ws [true,true,true])) (X:=Int) (fun _=>Ad (rdT b g ws [true,true,true,true])) I I I I I I (by kernel_rfl) I (fun _ _=>rfl) (fun W1 hp=>AW b g ws [true,true,true] h1 hl Wb W1 hp.below (hp.pick [1] (by decide) I).own hv) ?_
 intro v3 f3
 refine wP I<|Ah 1 (B:=Ad (rdT b g ws [true,true,true,true])) (X:=Int) (fun _=>Ad (rdT b g ws [true,true,true,true,true])) I I I I I I (by kernel_rfl) I (fun _ _=>rfl) (fun W1 hp=>AW b g ws [true,true,true,true] h1 hl Wb W1 hp.below (hp.pick [1] (by decide) I).own hv) ?_
 intro v4 f4
 refine wP I<|Ah 1 (B:=Ad (rdT b g ws [true,true,true,true,true])) (X:=Int) (fun _=>Ad (rdT b g ws [true,true,true,true,true,true])) I I I I I I (by kernel_rfl) I (fun _ _=>rfl) (fun W1 hp=>AW b g ws [true,true,true,true,true] h1 hl Wb W1 hp.below (hp.pick [1] (by decide) I).own hv) ?_
 intro v5 f5
 refine wP I<|Ah 1 (B:=Ad (rdT b g ws [true,true,true,true,true,true])) (X:=Int) (fun _=>Ad (rdT b g ws [true,true,true,true,true,true,true])) I I I I I I (by kernel_rfl) I (fun _ _=>rfl) (fun W1 hp=>AW b g ws [true,true,true,true,true,true] h1 hl Wb W1 hp.below (hp.pick [1] (by decide) I).own hv) ?_
 intro v6 f6
 refine Ak Tryz.hZ tH I I I I I I I I ?_
 refine wP I<|wS 4 I I I<|zC<|AM (bs':=[Ad (Ay Wb.heap.size W (rdL b g ws 0 false)),Ad (rdT b g ws [true,true,true,true,true,true,true]),⟨b2,93,edV {} none 0,true,none⟩,Bn bm (Cx Br 0) 12,⟨b3,93,edV { k:=2,ix:=v0,x:=v1,y:=v2,ri:=v3,ru:=v4,pl:=v5,ov:=v6 } none 0,true,none⟩]) I ?_
 refine zE<|zB<|wP I<|Ah 1 (B:=Ad (rdT b g ws [true,true,true,true,true,true,true])) (X:=Int) (fun _=>Ad (rdT b g ws [true,true,true,true,true,true,true,true])) I I I I I I (by kernel_rfl) I (fun _ _=>rfl) (fun W1 hp=>AW b g ws [true,true,true,true,true,true,true] h1 hl Wb W1 hp.below (hp.pick [1] (by decide) I).own hv) ?_
 intro v7 f7
 refine Ae I<|wS 4 I I I<|zC<|AM (bs':=[Ad (Ay Wb.heap.size W (rdL b g ws 0 false)),Ad (rdT b g ws [true,true,true,true,true,true,true,true]),⟨b2,93,edV {} none 0,true,none⟩,Bn bm (Cx Br 0) 12,⟨b3,93,edV { k:=2,ix:=v0,x:=v1,y:=v2,ri:=v3,ru:=v4,gb:=(v7==1),pl:=v5,ov:=v6 } none 0,true,none⟩]) I ?_
 refine zN<|xe<|wB 4 I I I<|wS 2 I I I<|xc<|?_
 exact Ar tH I (.cell 2 I I I I I) (⟨{ k:=2,ix:=v0,x:=v1,y:=v2,ri:=v3,ru:=v4,gb:=(v7==1),pl:=v5,ov:=v6 },Vec.empty,stI ws.length 8,stB ws [true,true,true,true,true,true,true,true]⟩:EdX) I ⟨I,I,I,fun h=>by
  have e8:stB ws [true,true,true,true,true,true,true,true]=false:=h
  have e7:=AG e8
  have e6:=AG e7
  have e5:=AG e6
  have e4:=AG e5
  have e3:=AG e4
  have e2:=AG e3
  have e1:=AG e2
  have e0:=AG e1
  have g0:v0=iw ws 0:=AX e1 f0
  have g1:v1=iw ws 1:=AX e2 f1
  have g2:v2=iw ws 2:=AX e3 f2
  have g3:v3=iw ws 3:=AX e4 f3
  have g4:v4=iw ws 4:=AX e5 f4
  have g5:v5=iw ws 5:=AX e6 f5
  have g6:v6=iw ws 6:=AX e7 f6
  have g7:v7=iw ws 7:=AX e8 f7
  subst g0 g1 g2 g3 g4 g5 g6 g7
  rfl⟩ fun W1 hp=>(hp.pick [0,1] (by decide) rfl).own.regroup rfl
theorem Pq (b g:Nat) (ws:List (List UInt8)) (h1:1<=ws.length) (hl: ∀w∈ws,w.length<=1000000) (Wb W:World) (hb0:Below Wb.heap.size Wb W) (hO:Go.Am.Own Wb.heap.size [Ad (rdL b g ws 0 false)] W) (hv:AQ Wb) (hk:kdW ws=3):
  Fg b g ws Wb W (EdR ws [true,true] { k:=3,ix:=iw ws 0,nb:=iw ws 1 }):=by
 refine A0.enterL (bs:=[Ad (rdL b g ws 0 false)]) (bs':=fun x:EdX=>[Ad (rdL b g ws x.i x.bad++(x.V.bx 177 (x.e.br.g.flatMap gpC)).blk)]) hb0 hO (Ap _) (fun x=>Ap _) Tryz.func59 I I I ?_
 refine xb<|wG I I fun _=>zC<|?_
 rename_i b2
 refine xe<|wD (X:=Nat) I I (fun W1 _=>BF W1) ?_
 intro bm _
 refine wP I ?_
 refine Ah 1 (B:=Ad (rdL b g ws 0 false)) (X:=Unit) (fun _=>Ad (rdT b g ws [])) I I I I I I (by kernel_rfl) I (fun _ _=>by show rdL b g ws 1 false=_;rw[(Bk h1).1,(Bk h1).2]) (fun W1 hp=>Bp b g ws 0 false (Nat.zero_le _) Wb W1 hp.below (hp.pick [1] (by decide) I).own) ?_
 intro _ _
 refine BR 3 (d:= .string) Tryz.underlying169 Tryz.underlying9 Tryz.zeroValue3 I I I I I I tO (Do (ws.getD 0 [])) ?_
 refine wV 10 3 I hk<|Ak Tryz.hZ tH I I I I I I I I ?_
 refine wG I I fun _=>wS 4 I I I<|zC<|?_
 rename_i b3
 refine AM (bs':=[Ad (Ay Wb.heap.size W (rdL b g ws 0 false)),Ad (rdT b g ws []),⟨b2,93,edV {} none 0,true,none⟩,Bn bm (Cx Br 0) 12,⟨b3,93,edV { k:=3 } none 0,true,none⟩]) I ?_
 refine zE<|xd<|wP I<|wB 4 I I I<|xa<|zH<|xb<|Aa I<|xa<|zS I<|xb<|Aa I<|xa<|zS I<|zA<|?_
 refine zB<|Aa I<|xa<|zR I<|zB<|wP I<|Ah 1 (B:=Ad (rdT b g ws [])) (X:=Int) (fun _=>Ad (rdT b g ws [true])) I I I I I I (by kernel_rfl) I (fun _ _=>rfl) (fun W1 hp=>AW b g ws [] h1 hl Wb W1 hp.below (hp.pick [1] (by decide) I).own hv) ?_
 intro v0 f0
 refine wP I<|Ah 1 (B:=Ad (rdT b g ws [true])) (X:=Int) (fun _=>Ad (rdT b g ws [true,true])) I I I I I I (by kernel_rfl) I (fun _ _=>rfl) (fun W1 hp=>AW b g ws [true] h1 hl Wb W1 hp.below (hp.pick [1] (by decide) I).own hv) ?_
 intro v1 f1
 refine wP I<|wS 4 I I I<|wP I<|wS 4 I I I<|zC<|AM (bs':=[Ad (Ay Wb.heap.size W (rdL b g ws 0 false)),Ad (rdT b g ws [true,true]),⟨b2,93,edV {} none 0,true,none⟩,Bn bm (Cx Br 0) 12,⟨b3,93,edV { k:=3,ix:=v0,nb:=v1 } none 0,true,none⟩]) I ?_
 refine zN<|xe<|wB 4 I I I<|wS 2 I I I<|xc<|?_
 exact Ar tH I (.cell 2 I I I I I) (⟨{ k:=3,ix:=v0,nb:=v1 },Vec.empty,stI ws.length 2,stB ws [true,true]⟩:EdX) I ⟨I,I,I,fun h=>by
  have e2:stB ws [true,true]=false:=h
  have e1:=AG e2
  have e0:=AG e1
  have g0:v0=iw ws 0:=AX e1 f0
  have g1:v1=iw ws 1:=AX e2 f1
  subst g0 g1
  rfl⟩ fun W1 hp=>(hp.pick [0,1] (by decide) rfl).own.regroup rfl
theorem OD (b g:Nat) (ws:List (List UInt8)) (h1:1<=ws.length) (hl: ∀w∈ws,w.length<=1000000) (Wb W:World) (hb0:Below Wb.heap.size Wb W) (hO:Go.Am.Own Wb.heap.size [Ad (rdL b g ws 0 false)] W) (hv:AQ Wb) (hk:kdW ws=4):
  Fg b g ws Wb W (EdR ws [true] { k:=4,nb:=iw ws 0 }):=by
 refine A0.enterL (bs:=[Ad (rdL b g ws 0 false)]) (bs':=fun x:EdX=>[Ad (rdL b g ws x.i x.bad++(x.V.bx 177 (x.e.br.g.flatMap gpC)).blk)]) hb0 hO (Ap _) (fun x=>Ap _) Tryz.func59 I I I ?_
 refine xb<|wG I I fun _=>zC<|?_
 rename_i b2
 refine xe<|wD (X:=Nat) I I (fun W1 _=>BF W1) ?_
 intro bm _
 refine wP I ?_
 refine Ah 1 (B:=Ad (rdL b g ws 0 false)) (X:=Unit) (fun _=>Ad (rdT b g ws [])) I I I I I I (by kernel_rfl) I (fun _ _=>by show rdL b g ws 1 false=_;rw[(Bk h1).1,(Bk h1).2]) (fun W1 hp=>Bp b g ws 0 false (Nat.zero_le _) Wb W1 hp.below (hp.pick [1] (by decide) I).own) ?_
 intro _ _
 refine BR 3 (d:= .string) Tryz.underlying169 Tryz.underlying9 Tryz.zeroValue3 I I I I I I tO (Do (ws.getD 0 [])) ?_
 refine wV 10 4 I hk<|Ak Tryz.hZ tH I I I I I I I I ?_
 refine wG I I fun _=>wS 4 I I I<|zC<|?_
 rename_i b3
 refine AM (bs':=[Ad (Ay Wb.heap.size W (rdL b g ws 0 false)),Ad (rdT b g ws []),⟨b2,93,edV {} none 0,true,none⟩,Bn bm (Cx Br 0) 12,⟨b3,93,edV { k:=4 } none 0,true,none⟩]) I ?_
 refine zE<|xd<|wP I<|wB 4 I I I<|xa<|zH<|xb<|Aa I<|xa<|zS I<|xb<|Aa I<|xa<|zS I<|zA<|?_
 refine zB<|Aa I<|xa<|zS I<|xd<|Aa I<|xa<|zR I<|zI<|zE<|zR I<|zB<|wP I<|Ah 1 (B:=Ad (rdT b g ws [])) (X:=Int) (fun _=>Ad (rdT b g ws [true])) I I I I I I (by kernel_rfl) I (fun _ _=>rfl) (fun W1 hp=>AW b g ws [] h1 hl Wb W1 hp.below (hp.pick [1] (by decide) I).own hv) ?_
 intro v0 f0
 refine wP I<|wS 4 I I I<|zC<|AM (bs':=[Ad (Ay Wb.heap.size W (rdL b g ws 0 false)),Ad (rdT b g ws [true]),⟨b2,93,edV {} none 0,true,none⟩,Bn bm (Cx Br 0) 12,⟨b3,93,edV { k:=4,nb:=v0 } none 0,true,none⟩]) I ?_
 refine zN<|xe<|wB 4 I I I<|wS 2 I I I<|xc<|?_
 exact Ar tH I (.cell 2 I I I I I) (⟨{ k:=4,nb:=v0 },Vec.empty,stI ws.length 1,stB ws [true]⟩:EdX) I ⟨I,I,I,fun h=>by
  have e1:stB ws [true]=false:=h
  have e0:=AG e1
  have g0:v0=iw ws 0:=AX e1 f0
  subst g0
  rfl⟩ fun W1 hp=>(hp.pick [0,1] (by decide) rfl).own.regroup rfl
theorem Pz (b g:Nat) (ws:List (List UInt8)) (h1:1<=ws.length) (hl: ∀w∈ws,w.length<=1000000) (Wb W:World) (hb0:Below Wb.heap.size Wb W) (hO:Go.Am.Own Wb.heap.size [Ad (rdL b g ws 0 false)] W) (hv:AQ Wb) (hk:kdW ws=5):
  Fg b g ws Wb W (EdR ws [false,false,false,false,true,true] { k:=5,ix:=iw ws 0,op:=⟨iw ws 1,wd ws 2,wd ws 3,wd ws 4,wd ws 5⟩ }):=by
 refine A0.enterL (bs:=[Ad (rdL b g ws 0 false)]) (bs':=fun x:EdX=>[Ad (rdL b g ws x.i x.bad++(x.V.bx 177 (x.e.br.g.flatMap gpC)).blk)]) hb0 hO (Ap _) (fun x=>Ap _) Tryz.func59 I I I ?_
 refine xb<|wG I I fun _=>zC<|?_
 rename_i b2
 refine xe<|wD (X:=Nat) I I (fun W1 _=>BF W1) ?_
 intro bm _
 refine wP I ?_
 refine Ah 1 (B:=Ad (rdL b g ws 0 false)) (X:=Unit) (fun _=>Ad (rdT b g ws [])) I I I I I I (by kernel_rfl) I (fun _ _=>by show rdL b g ws 1 false=_;rw[(Bk h1).1,(Bk h1).2]) (fun W1 hp=>Bp b g ws 0 false (Nat.zero_le _) Wb W1 hp.below (hp.pick [1] (by decide) I).own) ?_
 intro _ _
 refine BR 3 (d:= .string) Tryz.underlying169 Tryz.underlying9 Tryz.zeroValue3 I I I I I I tO (Do (ws.getD 0 [])) ?_
 refine wV 10 5 I hk<|Ak Tryz.hZ tH I I I I I I I I ?_
 refine wG I I fun _=>wS 4 I I I<|zC<|?_
 rename_i b3
 refine AM (bs':=[Ad (Ay Wb.heap.size W (rdL b g ws 0 false)),Ad (rdT b g ws []),⟨b2,93,edV {} none 0,true,none⟩,Bn bm (Cx Br 0) 12,⟨b3,93,edV { k:=5 } none 0,true,none⟩]) I ?_
 refine zE<|xd<|wP I<|wB 4 I I I<|xa<|zH<|xb<|Aa I<|xa<|zS I<|xb<|Aa I<|xa<|zS I<|zA<|?_
 refine zB<|Aa I<|xa<|zS I<|xd<|Aa I<|xa<|zS I<|zB<|Aa I<|xa<|zS I<|xb<|Aa I<|?_
 refine xa<|zR I<|xb<|wP I<|Ah 1 (B:=Ad (rdT b g ws [])) (X:=Int) (fun _=>Ad (rdT b g ws [true])) I I I I I I (by kernel_rfl) I (fun _ _=>rfl) (fun W1 hp=>AW b g ws [] h1 hl Wb W1 hp.below (hp.pick [1] (by decide) I).own hv) ?_
 intro v0 f0
 refine wP I<|wS 4 I I I<|zC<|AM (bs':=[Ad (Ay Wb.heap.size W (rdL b g ws 0 false)),Ad (rdT b g ws [true]),⟨b2,93,edV {} none 0,true,none⟩,Bn bm (Cx Br 0) 12,⟨b3,93,edV { k:=5,ix:=v0 } none 0,true,none⟩]) I ?_
 refine zE<|zB<|wP I<|Ah 1 (B:=Ad (rdT b g ws [true])) (X:=Int) (fun _=>Ad (rdT b g ws [true,true])) I I I I I I (by kernel_rfl) I (fun _ _=>rfl) (fun W1 hp=>AW b g ws [true] h1 hl Wb W1 hp.below (hp.pick [1] (by decide) I).own hv) ?_
 intro v1 f1
 refine wP I<|Ah 1 (B:=Ad (rdT b g ws [true,true])) (X:=Unit) (fun _=>Ad (rdT b g ws [false,true,true])) I I I I I I (by kernel_rfl) I (fun _ _=>rfl) (fun W1 hp=>JM b g ws [true,true] h1 Wb W1 hp.below (hp.pick [1] (by decide) I).own) ?_
 intro _ _
 refine wP I<|Ah 1 (B:=Ad (rdT b g ws [false,true,true])) (X:=Unit) (fun _=>Ad (rdT b g ws [false,false,true,true])) I I I I I I (by kernel_rfl) I (fun _ _=>rfl) (fun W1 hp=>JM b g ws [false,true,true] h1 Wb W1 hp.below (hp.pick [1] (by decide) I).own) ?_
 intro _ _
 refine wP I<|Ah 1 (B:=Ad (rdT b g ws [false,false,true,true])) (X:=Unit) (fun _=>Ad (rdT b g ws [false,false,false,true,true])) I I I I I I (by kernel_rfl) I (fun _ _=>rfl) (fun W1 hp=>JM b g ws [false,false,true,true] h1 Wb W1 hp.below (hp.pick [1] (by decide) I).own) ?_
 intro _ _
 refine wP I<|Ah 1 (B:=Ad (rdT b g ws [false,false,false,true,true])) (X:=Unit) (fun _=>Ad (rdT b g ws [false,false,false,false,true,true])) I I I I I I (by kernel_rfl) I (fun _ _=>rfl) (fun W1 hp=>JM b g ws [false,false,false,true,true] h1 Wb W1 hp.below (hp.pick [1] (by decide) I).own) ?_
 intro _ _
 refine Ak Tryz.hZ tH I I I I I I I I ?_
 refine wP I<|wS 4 I I I<|zC<|AM (bs':=[Ad (Ay Wb.heap.size W (rdL b g ws 0 false)),Ad (rdT b g ws [false,false,false,false,true,true]),⟨b2,93,edV {} none 0,true,none⟩,Bn bm (Cx Br 0) 12,⟨b3,93,edV { k:=5,ix:=v0,op:=⟨v1,wd ws 2,wd ws 3,wd ws 4,wd ws 5⟩ } none 0,true,none⟩]) I ?_
 refine zN<|xe<|wB 4 I I I<|wS 2 I I I<|xc<|?_
 exact Ar tH I (.cell 2 I I I I I) (⟨{ k:=5,ix:=v0,op:=⟨v1,wd ws 2,wd ws 3,wd ws 4,wd ws 5⟩ },Vec.empty,stI ws.length 6,stB ws [false,false,false,false,true,true]⟩:EdX) I ⟨I,I,I,fun h=>by
  have e6:stB ws [false,false,false,false,true,true]=false:=h
  have e5:=AG e6
  have e4:=AG e5
  have e3:=AG e4
  have e2:=AG e3
  have e1:=AG e2
  have e0:=AG e1
  have g0:v0=iw ws 0:=AX e1 f0
  have g1:v1=iw ws 1:=AX e2 f1
  subst g0 g1
  rfl⟩ fun W1 hp=>(hp.pick [0,1] (by decide) rfl).own.regroup rfl
theorem OM (b g:Nat) (ws:List (List UInt8)) (h1:1<=ws.length) (hl: ∀w∈ws,w.length<=1000000) (Wb W:World) (hb0:Below Wb.heap.size Wb W) (hO:Go.Am.Own Wb.heap.size [Ad (rdL b g ws 0 false)] W) (hv:AQ Wb) (hk:kdW ws=8):
  Fg b g ws Wb W (EdR ws [true] { k:=8,nb:=iw ws 0 }):=by
 refine A0.enterL (bs:=[Ad (rdL b g ws 0 false)]) (bs':=fun x:EdX=>[Ad (rdL b g ws x.i x.bad++(x.V.bx 177 (x.e.br.g.flatMap gpC)).blk)]) hb0 hO (Ap _) (fun x=>Ap _) Tryz.func59 I I I ?_
 refine xb<|wG I I fun _=>zC<|?_
 rename_i b2
 refine xe<|wD (X:=Nat) I I (fun W1 _=>BF W1) ?_
 intro bm _
 refine wP I ?_
 refine Ah 1 (B:=Ad (rdL b g ws 0 false)) (X:=Unit) (fun _=>Ad (rdT b g ws [])) I I I I I I (by kernel_rfl) I (fun _ _=>by show rdL b g ws 1 false=_;rw[(Bk h1).1,(Bk h1).2]) (fun W1 hp=>Bp b g ws 0 false (Nat.zero_le _) Wb W1 hp.below (hp.pick [1] (by decide) I).own) ?_
 intro _ _
 refine BR 3 (d:= .string) Tryz.underlying169 Tryz.underlying9 Tryz.zeroValue3 I I I I I I tO (Do (ws.getD 0 [])) ?_
 refine wV 10 8 I hk<|Ak Tryz.hZ tH I I I I I I I I ?_
 refine wG I I fun _=>wS 4 I I I<|zC<|?_
 rename_i b3
 refine AM (bs':=[Ad (Ay Wb.heap.size W (rdL b g ws 0 false)),Ad (rdT b g ws []),⟨b2,93,edV {} none 0,true,none⟩,Bn bm (Cx Br 0) 12,⟨b3,93,edV { k:=8 } none 0,true,none⟩]) I ?_
 refine zE<|xd<|wP I<|wB 4 I I I<|xa<|zH<|xb<|Aa I<|xa<|zS I<|xb<|Aa I<|xa<|zS I<|zA<|?_
 refine zB<|Aa I<|xa<|zS I<|xd<|Aa I<|xa<|zS I<|zB<|Aa I<|xa<|zR I<|zB<|wP I<|Ah 1 (B:=Ad (rdT b g ws [])) (X:=Int) (fun _=>Ad (rdT b g ws [true])) I I I I I I (by kernel_rfl) I (fun _ _=>rfl) (fun W1 hp=>AW b g ws [] h1 hl Wb W1 hp.below (hp.pick [1] (by decide) I).own hv) ?_
 intro v0 f0
 refine wP I<|wS 4 I I I<|zC<|AM (bs':=[Ad (Ay Wb.heap.size W (rdL b g ws 0 false)),Ad (rdT b g ws [true]),⟨b2,93,edV {} none 0,true,none⟩,Bn bm (Cx Br 0) 12,⟨b3,93,edV { k:=8,nb:=v0 } none 0,true,none⟩]) I ?_
 refine zN<|xe<|wB 4 I I I<|wS 2 I I I<|xc<|?_
 exact Ar tH I (.cell 2 I I I I I) (⟨{ k:=8,nb:=v0 },Vec.empty,stI ws.length 1,stB ws [true]⟩:EdX) I ⟨I,I,I,fun h=>by
  have e1:stB ws [true]=false:=h
  have e0:=AG e1
  have g0:v0=iw ws 0:=AX e1 f0
  subst g0
  rfl⟩ fun W1 hp=>(hp.pick [0,1] (by decide) rfl).own.regroup rfl
theorem Qi (b g:Nat) (ws:List (List UInt8)) (h1:1<=ws.length) (hl: ∀w∈ws,w.length<=1000000) (Wb W:World) (hb0:Below Wb.heap.size Wb W) (hO:Go.Am.Own Wb.heap.size [Ad (rdL b g ws 0 false)] W) (hv:AQ Wb) (hk:kdW ws=9):
  Fg b g ws Wb W (EdR ws [true,true,true,true] { k:=9,tw:=iw ws 0,tl:=iw ws 1,tp:=iw ws 2,tt:=iw ws 3 }):=by
 refine A0.enterL (bs:=[Ad (rdL b g ws 0 false)]) (bs':=fun x:EdX=>[Ad (rdL b g ws x.i x.bad++(x.V.bx 177 (x.e.br.g.flatMap gpC)).blk)]) hb0 hO (Ap _) (fun x=>Ap _) Tryz.func59 I I I ?_
 refine xb<|wG I I fun _=>zC<|?_
 rename_i b2
 refine xe<|wD (X:=Nat) I I (fun W1 _=>BF W1) ?_
 intro bm _
 refine wP I ?_
 refine Ah 1 (B:=Ad (rdL b g ws 0 false)) (X:=Unit) (fun _=>Ad (rdT b g ws [])) I I I I I I (by kernel_rfl) I (fun _ _=>by show rdL b g ws 1 false=_;rw[(Bk h1).1,(Bk h1).2]) (fun W1 hp=>Bp b g ws 0 false (Nat.zero_le _) Wb W1 hp.below (hp.pick [1] (by decide) I).own) ?_
 intro _ _
 refine BR 3 (d:= .string) Tryz.underlying169 Tryz.underlying9 Tryz.zeroValue3 I I I I I I tO (Do (ws.getD 0 [])) ?_
 refine wV 10 9 I hk<|Ak Tryz.hZ tH I I I I I I I I ?_
 refine wG I I fun _=>wS 4 I I I<|zC<|?_
 rename_i b3
 refine AM (bs':=[Ad (Ay Wb.heap.size W (rdL b g ws 0 false)),Ad (rdT b g ws []),⟨b2,93,edV {} none 0,true,none⟩,Bn bm (Cx Br 0) 12,⟨b3,93,edV { k:=9 } none 0,true,none⟩]) I ?_
 refine zE<|xd<|wP I<|wB 4 I I I<|xa<|zH<|xb<|Aa I<|xa<|zS I<|xb<|Aa I<|xa<|zS I<|zA<|?_
 refine zB<|Aa I<|xa<|zS I<|xd<|Aa I<|xa<|zS I<|zB<|Aa I<|xa<|zS I<|xb<|Aa I<|?_
 refine xa<|zS I<|xb<|Aa I<|xa<|zS I<|xb<|Aa I<|xa<|zS I<|xb<|Aa I<|xa<|zR I<|?_
 refine zB<|wP I<|Ah 1 (B:=Ad (rdT b g ws [])) (X:=Int) (fun _=>Ad (rdT b g ws [true])) I I I I I I (by kernel_rfl) I (fun _ _=>rfl) (fun W1 hp=>AW b g ws [] h1 hl Wb W1 hp.below (hp.pick [1] (by decide) I).own hv) ?_
 intro v0 f0
 refine wP I<|Ah 1 (B:=Ad (rdT b g ws [true])) (X:=Int) (fun _=>Ad (rdT b g ws [true,true])) I I I I I I (by kernel_rfl) I (fun _ _=>rfl) (fun W1 hp=>AW b g ws [true] h1 hl Wb W1 hp.below (hp.pick [1] (by decide) I).own hv) ?_
 intro v1 f1
 refine wP I<|Ah 1 (B:=Ad (rdT b g ws [true,true])) (X:=Int) (fun _=>Ad (rdT b g ws [true,true,true])) I I I I I I (by kernel_rfl) I (fun _ _=>rfl) (fun W1 hp=>AW b g ws [true,true] h1 hl Wb W1 hp.below (hp.pick [1] (by decide) I).own hv) ?_
 intro v2 f2
 refine wP I<|Ah 1 (B:=Ad (rdT b g ws [true,true,true])) (X:=Int) (fun _=>Ad (rdT b g ws [true,true,true,true])) I I I I I I (by kernel_rfl) I (fun _ _=>rfl) (fun W1 hp=>AW b g ws [true,true,true] h1 hl Wb W1 hp.below (hp.pick [1] (by decide) I).own hv) ?_
 intro v3 f3
 refine Ak Tryz.hZ tH I I I I I I I I ?_
 refine wP I<|wS 4 I I I<|zC<|AM (bs':=[Ad (Ay Wb.heap.size W (rdL b g ws 0 false)),Ad (rdT b g ws [true,true,true,true]),⟨b2,93,edV {} none 0,true,none⟩,Bn bm (Cx Br 0) 12,⟨b3,93,edV { k:=9,tw:=v0,tl:=v1,tp:=v2,tt:=v3 } none 0,true,none⟩]) I ?_
 refine zN<|xe<|wB 4 I I I<|wS 2 I I I<|xc<|?_
 exact Ar tH I (.cell 2 I I I I I) (⟨{ k:=9,tw:=v0,tl:=v1,tp:=v2,tt:=v3 },Vec.empty,stI ws.length 4,stB ws [true,true,true,true]⟩:EdX) I ⟨I,I,I,fun h=>by
  have e4:stB ws [true,true,true,true]=false:=h
  have e3:=AG e4
  have e2:=AG e3
  have e1:=AG e2
  have e0:=AG e1
  have g0:v0=iw ws 0:=AX e1 f0
  have g1:v1=iw ws 1:=AX e2 f1
  have g2:v2=iw ws 2:=AX e3 f2
  have g3:v3=iw ws 3:=AX e4 f3
  subst g0 g1 g2 g3
  rfl⟩ fun W1 hp=>(hp.pick [0,1] (by decide) rfl).own.regroup rfl
theorem Na (b g:Nat) (ws:List (List UInt8)) (h1:1<=ws.length) (hl: ∀w∈ws,w.length<=1000000) (Wb W:World) (hb0:Below Wb.heap.size Wb W) (hO:Go.Am.Own Wb.heap.size [Ad (rdL b g ws 0 false)] W) (hv:AQ Wb) (hk:kdW ws=10):
  Fg b g ws Wb W (EdR ws [false,true,true,true] { k:=10,ix:=iw ws 0,ld:=⟨iw ws 1,iw ws 2,wd ws 3⟩ }):=by
 refine A0.enterL (bs:=[Ad (rdL b g ws 0 false)]) (bs':=fun x:EdX=>[Ad (rdL b g ws x.i x.bad++(x.V.bx 177 (x.e.br.g.flatMap gpC)).blk)]) hb0 hO (Ap _) (fun x=>Ap _) Tryz.func59 I I I ?_
 refine xb<|wG I I fun _=>zC<|?_
 rename_i b2
 refine xe<|wD (X:=Nat) I I (fun W1 _=>BF W1) ?_
 intro bm _
 refine wP I ?_
 refine Ah 1 (B:=Ad (rdL b g ws 0 false)) (X:=Unit) (fun _=>Ad (rdT b g ws [])) I I I I I I (by kernel_rfl) I (fun _ _=>by show rdL b g ws 1 false=_;rw[(Bk h1).1,(Bk h1).2]) (fun W1 hp=>Bp b g ws 0 false (Nat.zero_le _) Wb W1 hp.below (hp.pick [1] (by decide) I).own) ?_
 intro _ _
 refine BR 3 (d:= .string) Tryz.underlying169 Tryz.underlying9 Tryz.zeroValue3 I I I I I I tO (Do (ws.getD 0 [])) ?_
 refine wV 10 10 I hk<|Ak Tryz.hZ tH I I I I I I I I ?_
 refine wG I I fun _=>wS 4 I I I<|zC<|?_
 rename_i b3
 refine AM (bs':=[Ad (Ay Wb.heap.size W (rdL b g ws 0 false)),Ad (rdT b g ws []),⟨b2,93,edV {} none 0,true,none⟩,Bn bm (Cx Br 0) 12,⟨b3,93,edV { k:=10 } none 0,true,none⟩]) I ?_
 refine zE<|xd<|wP I<|wB 4 I I I<|xa<|zH<|xb<|Aa I<|xa<|zS I<|xb<|Aa I<|xa<|zS I<|zA<|?_
 refine zB<|Aa I<|xa<|zS I<|xd<|Aa I<|xa<|zS I<|zB<|Aa I<|xa<|zS I<|xb<|Aa I<|?_
 refine xa<|zS I<|xb<|Aa I<|xa<|zS I<|xb<|Aa I<|xa<|zS I<|xb<|Aa I<|xa<|zS I<|?_
 refine xb<|Aa I<|xa<|zR I<|xb<|wP I<|Ah 1 (B:=Ad (rdT b g ws [])) (X:=Int) (fun _=>Ad (rdT b g ws [true])) I I I I I I (by kernel_rfl) I (fun _ _=>rfl) (fun W1 hp=>AW b g ws [] h1 hl Wb W1 hp.below (hp.pick [1] (by decide) I).own hv) ?_
 intro v0 f0
 refine wP I<|wS 4 I I I<|zC<|AM (bs':=[Ad (Ay Wb.heap.size W (rdL b g ws 0 false)),Ad (rdT b g ws [true]),⟨b2,93,edV {} none 0,true,none⟩,Bn bm (Cx Br 0) 12,⟨b3,93,edV { k:=10,ix:=v0 } none 0,true,none⟩]) I ?_
 refine zE<|zB<|wP I<|Ah 1 (B:=Ad (rdT b g ws [true])) (X:=Int) (fun _=>Ad (rdT b g ws [true,true])) I I I I I I (by kernel_rfl) I (fun _ _=>rfl) (fun W1 hp=>AW b g ws [true] h1 hl Wb W1 hp.below (hp.pick [1] (by decide) I).own hv) ?_
 intro v1 f1
 refine wP I<|Ah 1 (B:=Ad (rdT b g ws [true,true])) (X:=Int) (fun _=>Ad (rdT b g ws [true,true,true])) I I I I I I (by kernel_rfl) I (fun _ _=>rfl) (fun W1 hp=>AW b g ws [true,true] h1 hl Wb W1 hp.below (hp.pick [1] (by decide) I).own hv) ?_
 intro v2 f2
 refine wP I<|Ah 1 (B:=Ad (rdT b g ws [true,true,true])) (X:=Unit) (fun _=>Ad (rdT b g ws [false,true,true,true])) I I I I I I (by kernel_rfl) I (fun _ _=>rfl) (fun W1 hp=>JM b g ws [true,true,true] h1 Wb W1 hp.below (hp.pick [1] (by decide) I).own) ?_
 intro _ _
 refine Ak Tryz.hZ tH I I I I I I I I ?_
 refine wP I<|wS 4 I I I<|zC<|AM (bs':=[Ad (Ay Wb.heap.size W (rdL b g ws 0 false)),Ad (rdT b g ws [false,true,true,true]),⟨b2,93,edV {} none 0,true,none⟩,Bn bm (Cx Br 0) 12,⟨b3,93,edV { k:=10,ix:=v0,ld:=⟨v1,v2,wd ws 3⟩ } none 0,true,none⟩]) I ?_
 refine zN<|xe<|wB 4 I I I<|wS 2 I I I<|xc<|?_
 exact Ar tH I (.cell 2 I I I I I) (⟨{ k:=10,ix:=v0,ld:=⟨v1,v2,wd ws 3⟩ },Vec.empty,stI ws.length 4,stB ws [false,true,true,true]⟩:EdX) I ⟨I,I,I,fun h=>by
  have e4:stB ws [false,true,true,true]=false:=h
  have e3:=AG e4
  have e2:=AG e3
  have e1:=AG e2
  have e0:=AG e1
  have g0:v0=iw ws 0:=AX e1 f0
  have g1:v1=iw ws 1:=AX e2 f1
  have g2:v2=iw ws 2:=AX e3 f2
  subst g0 g1 g2
  rfl⟩ fun W1 hp=>(hp.pick [0,1] (by decide) rfl).own.regroup rfl
theorem MR (b g:Nat) (ws:List (List UInt8)) (h1:1<=ws.length) (hl: ∀w∈ws,w.length<=1000000) (Wb W:World) (hb0:Below Wb.heap.size Wb W) (hO:Go.Am.Own Wb.heap.size [Ad (rdL b g ws 0 false)] W) (hv:AQ Wb) (hk:kdW ws=11):
  Fg b g ws Wb W (EdR ws [true,true,true,true,true] { k:=11,al:=⟨iw ws 0,iw ws 1,iw ws 2,iw ws 3,iw ws 4⟩ }):=by
 refine A0.enterL (bs:=[Ad (rdL b g ws 0 false)]) (bs':=fun x:EdX=>[Ad (rdL b g ws x.i x.bad++(x.V.bx 177 (x.e.br.g.flatMap gpC)).blk)]) hb0 hO (Ap _) (fun x=>Ap _) Tryz.func59 I I I ?_
 refine xb<|wG I I fun _=>zC<|?_
 rename_i b2
 refine xe<|wD (X:=Nat) I I (fun W1 _=>BF W1) ?_
 intro bm _
 refine wP I ?_
 refine Ah 1 (B:=Ad (rdL b g ws 0 false)) (X:=Unit) (fun _=>Ad (rdT b g ws [])) I I I I I I (by kernel_rfl) I (fun _ _=>by show rdL b g ws 1 false=_;rw[(Bk h1).1,(Bk h1).2]) (fun W1 hp=>Bp b g ws 0 false (Nat.zero_le _) Wb W1 hp.below (hp.pick [1] (by decide) I).own) ?_
 intro _ _
 refine BR 3 (d:= .string) Tryz.underlying169 Tryz.underlying9 Tryz.zeroValue3 I I I I I I tO (Do (ws.getD 0 [])) ?_
 refine wV 10 11 I hk<|Ak Tryz.hZ tH I I I I I I I I ?_
 refine wG I I fun _=>wS 4 I I I<|zC<|?_
 rename_i b3
 refine AM (bs':=[Ad (Ay Wb.heap.size W (rdL b g ws 0 false)),Ad (rdT b g ws []),⟨b2,93,edV {} none 0,true,none⟩,Bn bm (Cx Br 0) 12,⟨b3,93,edV { k:=11 } none 0,true,none⟩]) I ?_
 refine zE<|xd<|wP I<|wB 4 I I I<|xa<|zH<|xb<|Aa I<|xa<|zS I<|xb<|Aa I<|xa<|zS I<|zA<|?_
 refine zB<|Aa I<|xa<|zS I<|xd<|Aa I<|xa<|zS I<|zB<|Aa I<|xa<|zS I<|xb<|Aa I<|?_
 refine xa<|zS I<|xb<|Aa I<|xa<|zS I<|xb<|Aa I<|xa<|zS I<|xb<|Aa I<|xa<|zS I<|?_
 refine xb<|Aa I<|xa<|zS I<|xb<|Aa I<|xa<|zR I<|zB<|wP I<|Ah 1 (B:=Ad (rdT b g ws [])) (X:=Int) (fun _=>Ad (rdT b g ws [true])) I I I I I I (by kernel_rfl) I (fun _ _=>rfl) (fun W1 hp=>AW b g ws [] h1 hl Wb W1 hp.below (hp.pick [1] (by decide) I).own hv) ?_
 intro v0 f0
 refine wP I<|Ah 1 (B:=Ad (rdT b g ws [true])) (X:=Int) (fun _=>Ad (rdT b g ws [true,true])) I I I I I I (by kernel_rfl) I (fun _ _=>rfl) (fun W1 hp=>AW b g ws [true] h1 hl Wb W1 hp.below (hp.pick [1] (by decide) I).own hv) ?_
 intro v1 f1
 refine wP I<|Ah 1 (B:=Ad (rdT b g ws [true,true])) (X:=Int) (fun _=>Ad (rdT b g ws [true,true,true])) I I I I I I (by kernel_rfl) I (fun _ _=>rfl) (fun W1 hp=>AW b g ws [true,true] h1 hl Wb W1 hp.below (hp.pick [1] (by decide) I).own hv) ?_
 intro v2 f2
 refine wP I<|Ah 1 (B:=Ad (rdT b g ws [true,true,true])) (X:=Int) (fun _=>Ad (rdT b g ws [true,true,true,true])) I I I I I I (by kernel_rfl) I (fun _ _=>rfl) (fun W1 hp=>AW b g ws [true,true,true] h1 hl Wb W1 hp.below (hp.pick [1] (by decide) I).own hv) ?_
 intro v3 f3
 refine wP I<|Ah 1 (B:=Ad (rdT b g ws [true,true,true,true])) (X:=Int) (fun _=>Ad (rdT b g ws [true,true,true,true,true])) I I I I I I (by kernel_rfl) I (fun _ _=>rfl) (fun W1 hp=>AW b g ws [true,true,true,true] h1 hl Wb W1 hp.below (hp.pick [1] (by decide) I).own hv) ?_
 intro v4 f4
 refine Ak Tryz.hZ tH I I I I I I I I ?_
 refine wP I<|wS 4 I I I<|zC<|AM (bs':=[Ad (Ay Wb.heap.size W (rdL b g ws 0 false)),Ad (rdT b g ws [true,true,true,true,true]),⟨b2,93,edV {} none 0,true,none⟩,Bn bm (Cx Br 0) 12,⟨b3,93,edV { k:=11,al:=⟨v0,v1,v2,v3,v4⟩ } none 0,true,none⟩]) I ?_
 refine zN<|xe<|wB 4 I I I<|wS 2 I I I<|xc<|?_
 exact Ar tH I (.cell 2 I I I I I) (⟨{ k:=11,al:=⟨v0,v1,v2,v3,v4⟩ },Vec.empty,stI ws.length 5,stB ws [true,true,true,true,true]⟩:EdX) I ⟨I,I,I,fun h=>by
  have e5:stB ws [true,true,true,true,true]=false:=h
  have e4:=AG e5
  have e3:=AG e4
  have e2:=AG e3
  have e1:=AG e2
  have e0:=AG e1
  have g0:v0=iw ws 0:=AX e1 f0
  have g1:v1=iw ws 1:=AX e2 f1
  have g2:v2=iw ws 2:=AX e3 f2
  have g3:v3=iw ws 3:=AX e4 f3
  have g4:v4=iw ws 4:=AX e5 f4
  subst g0 g1 g2 g3 g4
  rfl⟩ fun W1 hp=>(hp.pick [0,1] (by decide) rfl).own.regroup rfl
theorem Pw (b g:Nat) (ws:List (List UInt8)) (h1:1<=ws.length) (Wb W:World) (hb0:Below Wb.heap.size Wb W) (hO:Go.Am.Own Wb.heap.size [Ad (rdL b g ws 0 false)] W) (hk:kdW ws=0):
  Fg b g ws Wb W (EdR ws [] { k:=0 }):=by
 refine A0.enterL (bs:=[Ad (rdL b g ws 0 false)]) (bs':=fun x:EdX=>[Ad (rdL b g ws x.i x.bad++(x.V.bx 177 (x.e.br.g.flatMap gpC)).blk)]) hb0 hO (Ap _) (fun x=>Ap _) Tryz.func59 I I I ?_
 refine xb<|wG I I fun _=>zC<|?_
 rename_i b2
 refine xe<|wD (X:=Nat) I I (fun W1 _=>BF W1) ?_
 intro bm _
 refine wP I ?_
 refine Ah 1 (B:=Ad (rdL b g ws 0 false)) (X:=Unit) (fun _=>Ad (rdT b g ws [])) I I I I I I (by kernel_rfl) I (fun _ _=>by show rdL b g ws 1 false=_;rw[(Bk h1).1,(Bk h1).2]) (fun W1 hp=>Bp b g ws 0 false (Nat.zero_le _) Wb W1 hp.below (hp.pick [1] (by decide) I).own) ?_
 intro _ _
 refine BR 3 (d:= .string) Tryz.underlying169 Tryz.underlying9 Tryz.zeroValue3 I I I I I I tO (Do (ws.getD 0 [])) ?_
 refine wV 10 0 I hk<|Ak Tryz.hZ tH I I I I I I I I ?_
 refine wG I I fun _=>wS 4 I I I<|zC<|?_
 rename_i b3
 refine AM (bs':=[Ad (Ay Wb.heap.size W (rdL b g ws 0 false)),Ad (rdT b g ws []),⟨b2,93,edV {} none 0,true,none⟩,Bn bm (Cx Br 0) 12,⟨b3,93,edV { k:=0 } none 0,true,none⟩]) I ?_
 refine zE<|xd<|wP I<|wB 4 I I I<|xa<|zH<|xb<|Aa I<|xa<|zS I<|xb<|Aa I<|xa<|zS I<|zA<|?_
 refine zB<|Aa I<|xa<|zS I<|xd<|Aa I<|xa<|zS I<|zB<|Aa I<|xa<|zS I<|xb<|Aa I<|?_
 refine xa<|zS I<|xb<|Aa I<|xa<|zS I<|xb<|Aa I<|xa<|zS I<|xb<|Aa I<|xa<|zS I<|?_
 refine xb<|Aa I<|xa<|zS I<|xb<|Aa I<|xa<|zS I<|xb<|Aa I<|xa<|zS I<|zI<|zN<|zE<|?_
 refine xb<|wB 4 I I I<|wS 2 I I I<|xc<|?_
 exact Ar tH I (.cell 2 I I I I I) (⟨{ k:=0 },Vec.empty,stI ws.length 0,stB ws []⟩:EdX) I ⟨I,I,I,fun h=>by
  have e0:stB ws []=false:=h
  rfl⟩ fun W1 hp=>(hp.pick [0,1] (by decide) rfl).own.regroup rfl
theorem O6 (b g:Nat) (ws:List (List UInt8)) (h1:1<=ws.length) (hl: ∀w∈ws,w.length<=1000000) (Wb W:World) (hb0:Below Wb.heap.size Wb W) (hO:Go.Am.Own Wb.heap.size [Ad (rdL b g ws 0 false)] W) (hv:AQ Wb) (hw:Bo Wb) (hk:kdW ws=6):
  Fg b g ws Wb W (EdR ws [true,true,false] { k:=6,sz:=⟨w64 (1+EK (wd ws 0) Bw 0),iw ws 1,iw ws 2⟩ }):=by
 refine A0.enterL (bs:=[Ad (rdL b g ws 0 false)]) (bs':=fun x:EdX=>[Ad (rdL b g ws x.i x.bad++(x.V.bx 177 (x.e.br.g.flatMap gpC)).blk)]) hb0 hO (Ap _) (fun x=>Ap _) Tryz.func59 I I I ?_
 refine xb<|wG I I fun _=>zC<|?_
 rename_i b2
 refine xe<|wD (X:=Nat) I I (fun W1 _=>BF W1) ?_
 intro bm _
 refine wP I ?_
 refine Ah 1 (B:=Ad (rdL b g ws 0 false)) (X:=Unit) (fun _=>Ad (rdT b g ws [])) I I I I I I (by kernel_rfl) I (fun _ _=>by show rdL b g ws 1 false=_;rw[(Bk h1).1,(Bk h1).2]) (fun W1 hp=>Bp b g ws 0 false (Nat.zero_le _) Wb W1 hp.below (hp.pick [1] (by decide) I).own) ?_
 intro _ _
 refine BR 3 (d:= .string) Tryz.underlying169 Tryz.underlying9 Tryz.zeroValue3 I I I I I I tO (Do (ws.getD 0 [])) ?_
 refine wV 10 6 I hk<|Ak Tryz.hZ tH I I I I I I I I ?_
 refine wG I I fun _=>wS 4 I I I<|zC<|?_
 rename_i b3
 refine AM (bs':=[Ad (Ay Wb.heap.size W (rdL b g ws 0 false)),Ad (rdT b g ws []),⟨b2,93,edV {} none 0,true,none⟩,Bn bm (Cx Br 0) 12,⟨b3,93,edV { k:=6 } none 0,true,none⟩]) I ?_
 refine zE<|xd<|wP I<|wB 4 I I I<|xa<|zH<|xb<|Aa I<|xa<|zS I<|xb<|Aa I<|xa<|zS I<|zA<|?_
 refine zB<|Aa I<|xa<|zS I<|xd<|Aa I<|xa<|zS I<|zB<|Aa I<|xa<|zS I<|xb<|Aa I<|?_
 refine xa<|zS I<|xb<|Aa I<|xa<|zR I<|xb<|wD (X:=Nat×Nat×List Value) I I (fun W1 hp=>GK W1 (hw.hp hp)) ?_
 rintro⟨gk,ck,jk⟩ _
 refine wP I<|Ah 1 (B:=Ad (rdT b g ws [])) (X:=Unit) (fun _=>Ad (rdT b g ws [false])) I I I I I I (by kernel_rfl) I (fun _ _=>rfl) (fun W1 hp=>Mv b g ws [] h1 Wb W1 hp.below (hp.pick [1] (by decide) I).own) ?_
 intro _ _
 refine wC I I (fun W1 hp=>Jr (wd ws 0) Bw (some ⟨gk,0,none⟩) ck (by decide) W1 (AB.of_row (junk:=jk) Gr (by rw[<-JL];exact Al.of_bx hp 5 I I)))<|Ae I<|wS 4 I I I<|zC<|AM (bs':=[Ad (Ay Wb.heap.size W (rdL b g ws 0 false)),Ad (rdT b g ws [false]),⟨b2,93,edV {} none 0,true,none⟩,Bn bm (Cx Br 0) 12,⟨b3,93,edV { k:=6,sz:=⟨w64 (1+EK (wd ws 0) Bw 0),0,0⟩ } none 0,true,none⟩,⟨gk,9,ss Bw++jk,true,none⟩]) I ?_
 refine zE<|zB<|wP I<|Ah 1 (B:=Ad (rdT b g ws [false])) (X:=Int) (fun _=>Ad (rdT b g ws [true,false])) I I I I I I (by kernel_rfl) I (fun _ _=>rfl) (fun W1 hp=>AW b g ws [false] h1 hl Wb W1 hp.below (hp.pick [1] (by decide) I).own hv) ?_
 intro v1 f1
 refine wP I<|Ah 1 (B:=Ad (rdT b g ws [true,false])) (X:=Int) (fun _=>Ad (rdT b g ws [true,true,false])) I I I I I I (by kernel_rfl) I (fun _ _=>rfl) (fun W1 hp=>AW b g ws [true,false] h1 hl Wb W1 hp.below (hp.pick [1] (by decide) I).own hv) ?_
 intro v2 f2
 refine Aa I<|wS 4 I I I<|Aa I<|wS 4 I I I<|zC<|AM (bs':=[Ad (Ay Wb.heap.size W (rdL b g ws 0 false)),Ad (rdT b g ws [true,true,false]),⟨b2,93,edV {} none 0,true,none⟩,Bn bm (Cx Br 0) 12,⟨b3,93,edV { k:=6,sz:=⟨w64 (1+EK (wd ws 0) Bw 0),v1,v2⟩ } none 0,true,none⟩,⟨gk,9,ss Bw++jk,true,none⟩]) I ?_
 refine zN<|xe<|wB 4 I I I<|wS 2 I I I<|xc<|?_
 exact Ar tH I (.cell 2 I I I I I) (⟨{ k:=6,sz:=⟨w64 (1+EK (wd ws 0) Bw 0),v1,v2⟩ },Vec.empty,stI ws.length 3,stB ws [true,true,false]⟩:EdX) I ⟨I,I,I,fun h=>by
  have e3:stB ws [true,true,false]=false:=h
  have e2:=AG e3
  have e1:=AG e2
  have e0:=AG e1
  have g1:v1=iw ws 1:=AX e2 f1
  have g2:v2=iw ws 2:=AX e3 f2
  subst g1 g2
  rfl⟩ fun W1 hp=>(hp.pick [0,1] (by decide) rfl).own.regroup rfl
def Fe (w:List UInt8):Int:=((CI.find? fun p=>decide (p.2=w)).map (·.1)).getD 0
theorem Wn: ∀p∈CI,Fe p.2=p.1:=by decide
theorem Ym {w:List UInt8} (h: ∀p∈CI,p.2≠w):Fe w=0:=by
 unfold Fe
 rw[List.find?_eq_none.2 fun p hp=>by rw[dF (h p hp)];simp]
 rfl
theorem Sr: ∀(T:List (Int×List UInt8)) (n:Nat) (e:MapEntry),e∈Ir T n-> ∃p∈T,e.key= .int .i64 p.1/\e.val=str p.2
 |[],_,_,h=>by cases h
 |p::r,n,e,h=>by
  rcases List.mem_cons.1 (show e∈({ key:= .int .i64 p.1,val:=str p.2,born:=n }:MapEntry)::Ir r (n+1) from h) with rfl|h
  ·exact⟨p,List.mem_cons_self ..,I,I⟩
  ·obtain⟨q,hq,h1⟩:=Sr r (n+1) e h
   exact⟨q,List.mem_cons_of_mem _ hq,h1⟩
theorem Sc: ∀(T:List (Int×List UInt8)) (n:Nat) (p:Int×List UInt8),p∈T-> ∃e∈Ir T n,e.key= .int .i64 p.1/\e.val=str p.2
 |[],_,_,h=>by cases h
 |q::r,n,p,h=>by
  rcases List.mem_cons.1 h with rfl|h
  ·exact⟨_,List.mem_cons_self ..,I,I⟩
  ·obtain⟨e,he,h1⟩:=Sc r (n+1) p h
   exact⟨e,List.mem_cons_of_mem _ he,h1⟩
theorem Jk:(∀e∈Ir CI 0,e.born<6)/\((Ir CI 0).map (·.born)).Nodup:=by
 have h:(Ir CI 0).map (·.born)=[0,1,2,3,4,5]:=rfl
 refine⟨fun e he=> ?_,by rw[h];decide⟩
 have:e.born∈(Ir CI 0).map (·.born):=List.mem_map.2 ⟨e,he,rfl⟩
 rw[h] at this
 simp at this
 omega
theorem Zm {a b:List UInt8} (h:str a=str b):a=b:=by
 injection h with h
 injection h with h
 exact List.toArray_inj h
def Hc (seen:List Nat):List Nat->Nat
 |[]=>0
 |a::l=>(if a∈seen then 0 else 1)+Hc seen l
theorem Qv (seen:List Nat) (b:Nat): ∀l:List Nat,Hc (seen++[b]) l<=Hc seen l
 |[]=>Nat.le_refl _
 |a::l=>by
  have:=Qv seen b l
  show(if a∈seen++[b] then 0 else 1)+Hc (seen++[b]) l<=(if a∈seen then 0 else 1)+Hc seen l
  by_cases h:a∈seen
  ·rw[if_pos h,if_pos (List.mem_append_left _ h)];omega
  ·rw[if_neg h];split<;>omega
theorem S4 (seen:List Nat) (b:Nat) (hn:b∉seen): ∀l:List Nat,b∈l->Hc (seen++[b]) l<Hc seen l
 |[],h=>by cases h
 |a::l,h=>by
  have hle:=Qv seen b l
  show(if a∈seen++[b] then 0 else 1)+Hc (seen++[b]) l<(if a∈seen then 0 else 1)+Hc seen l
  by_cases e:b=a
  ·subst e
   rw[if_pos (List.mem_append_right _ (List.mem_cons_self ..)),if_neg hn];omega
  ·have hb:b∈l:=(List.mem_cons.1 h).resolve_left e
   have:=S4 seen b hn l hb
   by_cases ha:a∈seen
   ·rw[if_pos ha,if_pos (List.mem_append_left _ ha)];omega
   ·rw[if_neg ha];split<;>omega
theorem MT (b g:Nat) (ws:List (List UInt8)) (h1:1<=ws.length) (hl: ∀w∈ws,w.length<=1000000) (Wb W:World) (hb0:Below Wb.heap.size Wb W) (hO:Go.Am.Own Wb.heap.size [Ad (rdL b g ws 0 false)] W) (hv:AQ Wb) (hk:kdW ws=12):
  Fg b g ws Wb W (EdR ws [true,false] { k:=12,nb:=Fe (wd ws 0),ix:=iw ws 1 }):=by
 refine A0.enterL (bs:=[Ad (rdL b g ws 0 false)]) (bs':=fun x:EdX=>[Ad (rdL b g ws x.i x.bad++(x.V.bx 177 (x.e.br.g.flatMap gpC)).blk)]) hb0 hO (Ap _) (fun x=>Ap _) Tryz.func59 I I I ?_
 refine xb<|wG I I fun _=>zC<|?_
 rename_i b2
 refine xe<|wD (X:=Nat) I I (fun W1 _=>BF W1) ?_
 intro bm _
 refine wP I ?_
 refine Ah 1 (B:=Ad (rdL b g ws 0 false)) (X:=Unit) (fun _=>Ad (rdT b g ws [])) I I I I I I (by kernel_rfl) I (fun _ _=>by show rdL b g ws 1 false=_;rw[(Bk h1).1,(Bk h1).2]) (fun W1 hp=>Bp b g ws 0 false (Nat.zero_le _) Wb W1 hp.below (hp.pick [1] (by decide) I).own) ?_
 intro _ _
 refine BR 3 (d:= .string) Tryz.underlying169 Tryz.underlying9 Tryz.zeroValue3 I I I I I I tO (Do (ws.getD 0 [])) ?_
 refine wV 10 12 I hk<|Ak Tryz.hZ tH I I I I I I I I ?_
 refine wG I I fun _=>wS 4 I I I<|zC<|?_
 rename_i b3
 refine AM (bs':=[Ad (Ay Wb.heap.size W (rdL b g ws 0 false)),Ad (rdT b g ws []),⟨b2,93,edV {} none 0,true,none⟩,Bn bm (Cx Br 0) 12,⟨b3,93,edV { k:=12 } none 0,true,none⟩]) I ?_
 refine zE<|xd<|wP I<|wB 4 I I I<|xa<|zH<|xb<|Aa I<|xa<|zS I<|xb<|Aa I<|xa<|zS I<|zA<|?_
 refine zB<|Aa I<|xa<|zS I<|xd<|Aa I<|xa<|zS I<|zB<|Aa I<|xa<|zS I<|xb<|Aa I<|?_
 refine xa<|zS I<|xb<|Aa I<|xa<|zS I<|xb<|Aa I<|xa<|zS I<|xb<|Aa I<|xa<|zS I<|?_
 refine xb<|Aa I<|xa<|zS I<|xb<|Aa I<|xa<|zS I<|xb<|Aa I<|xa<|zR I<|xb<|wP I<|Ah 1 (B:=Ad (rdT b g ws [])) (X:=Unit) (fun _=>Ad (rdT b g ws [false])) I I I I I I (by kernel_rfl) I (fun _ _=>rfl) (fun W1 hp=>Mv b g ws [] h1 Wb W1 hp.below (hp.pick [1] (by decide) I).own) ?_
 intro _ _
 refine wP I<|zC<|AM (bs':=[Ad (Ay Wb.heap.size W (rdL b g ws 0 false)),Ad (rdT b g ws [false]),⟨b2,93,edV {} none 0,true,none⟩,Bn bm (Cx Br 0) 12,⟨b3,93,edV { k:=12 } none 0,true,none⟩]) I ?_
 refine zE<|xd<|wD (X:=Nat) I I (fun W1 _=>FS W1) ?_
 intro br _
 refine XM 5 Tryz.underlying178 I I I I I ?_
 intro bi
 refine xa<|zH<|?_
 refine A6 (X:=List Nat×Int) (fun _=>[(0,Af b),(2,Af b2),(3,Af b3),(4,str (wd ws 0)),(170,Af bi)]) (fun x=>[Ad (Ay Wb.heap.size W (rdL b g ws 0 false)),Ad (rdT b g ws [false]),⟨b2,93,edV {} none 0,true,none⟩,Bn bm (Cx Br 0) 12,⟨b3,93,edV { k:=12,nb:=x.2 } none 0,true,none⟩,Bn br (Ir CI 0) 6,H5 bi br 6 x.1 6])
  (fun x=>(x.2=0\/x.2=Fe (wd ws 0))/\ ∀e∈Ir CI 0,e.born∈x.1->e.val=str (wd ws 0)->x.2=Fe (wd ws 0)) (fun x=>Hc x.1 [0,1,2,3,4,5]) ([],0) ⟨.inl rfl,fun e _ h=>by cases h⟩ ⟨rfl,rfl,rfl,rfl,rfl,trivial⟩ [] rfl ?_
 rintro⟨seen,nb⟩ ⟨hn1,hn2⟩
 have hn1:nb=0\/nb=Fe (wd ws 0):=hn1
 have hn2: ∀e∈Ir CI 0,e.born∈seen->e.val=str (wd ws 0)->nb=Fe (wd ws 0):=hn2
 refine xb<|ZI 5 6 I I I I I I Jk.1 (Nat.le_refl _) ?_ ?_
 ·intro hall
  refine wP I<|zC<|?_
  have hnb:nb=Fe (wd ws 0):=by
   by_cases hx: ∃p∈CI,p.2=wd ws 0
   ·obtain⟨p,hp,he⟩:=hx
    obtain⟨e,hm,h2,h3⟩:=Sc CI 0 p hp
    exact hn2 e hm (hall e hm) (by rw[h3,he])
   ·rcases hn1 with rfl|rfl
    ·exact(Ym fun p hp e=>hx ⟨p,hp,e⟩).symm
    ·rfl
  subst hnb
  refine zE<|zA<|zS I<|xf<|zE<|zB<|wP I<|Ah 1 (B:=Ad (rdT b g ws [false])) (X:=Int) (fun _=>Ad (rdT b g ws [true,false])) I I I I I I (by kernel_rfl) I (fun _ _=>rfl) (fun W1 hp=>AW b g ws [false] h1 hl Wb W1 hp.below (hp.pick [1] (by decide) I).own hv) ?_
  intro v1 f1
  refine wP I<|wS 4 I I I<|zC<|AM (bs':=[Ad (Ay Wb.heap.size W (rdL b g ws 0 false)),Ad (rdT b g ws [true,false]),⟨b2,93,edV {} none 0,true,none⟩,Bn bm (Cx Br 0) 12,⟨b3,93,edV { k:=12,nb:=Fe (wd ws 0),ix:=v1 } none 0,true,none⟩,Bn br (Ir CI 0) 6,H5 bi br 6 seen 6]) I ?_
  refine zN<|xe<|wB 4 I I I<|wS 2 I I I<|xc<|?_
  exact Ar tH I (.cell 2 I I I I I) (⟨{ k:=12,nb:=Fe (wd ws 0),ix:=v1 },Vec.empty,stI ws.length 2,stB ws [true,false]⟩:EdX) I ⟨I,I,I,fun h=>by
   have e2:stB ws [true,false]=false:=h
   have e1:=AG e2
   have e0:=AG e1
   have g1:v1=iw ws 1:=AX e2 f1
   subst g1
   rfl⟩ fun W1 hp=>(hp.pick [0,1] (by decide) rfl).own.regroup rfl
 ·intro e hm hns
  obtain⟨p,hp,hek,hev⟩:=Sr CI 0 e hm
  refine wP I<|xa<|zA<|zR I<|zI<|zE<|zH<|xb<|Xq 5 6 I I I I I I hm Jk.2 ?_
  rw[hek,hev]
  refine A3 I<|xg<|Ae I<|?_
  have hb6:e.born∈[0,1,2,3,4,5]:=List.mem_range.2 (Jk.1 e hm)
  have hlt:Hc (seen++[e.born]) [0,1,2,3,4,5]<Hc seen [0,1,2,3,4,5]:=S4 seen e.born hns _ hb6
  by_cases hw:p.2=wd ws 0
  ·refine wU 178 true I ((Hk _ _).trans (dT hw))<|xa<|zR I<|zB<|Aa I<|wS 4 I I I<|zC<|?_
   have hr:p.1=Fe (wd ws 0):=by rw[<-hw,Wn p hp]
   rw[hr]
   exact zN<|Ax (seen++[e.born],Fe (wd ws 0)) ⟨.inr I,fun _ _ _ _=>rfl⟩ hlt ⟨I,I,I,I,I,tO⟩ [] I
  ·refine wU 178 false I ((Hk _ _).trans (dF hw))<|xa<|zS I<|zI<|zN<|?_
   exact Ax (seen++[e.born],nb) ⟨hn1,fun e' he' hin hval=>by
    rcases List.mem_append.1 hin with hin|hin
    ·exact hn2 e' he' hin hval
    ·have he:e'=e:=born_inj Jk.2 he' hm (List.mem_singleton.1 hin)
     rw[he,hev] at hval
     exact absurd (Zm hval) hw⟩ hlt ⟨I,I,I,I,I,tO⟩ [] I
def wrC (p v:Value) (wide num:Int):List Value:=[p,v, .int .i64 wide, .int .i64 num]
abbrev wrO (p v:Value) (wide num:Int):Obj:= .cells (wrC p v wide num).toArray 185 (0,0)
section
variable {P:Program} {o:Oper}
theorem Mg {ρ:Operand->Value} {t u te:TypeId} {x:Operand} {a:Option Addr} (ht:P.underlying t=some (.pointer te)) (ho:o.op= .binOp .eql t x (.const (.pointer none)) u) (hx:ρ x= .pointer a) (hc:ρ (.const (.pointer none))= .pointer none) (W:World):
  (execOp ρ o).run P W= .ok (.value (.bool a.isNone)) W:=by
 have h1:(binOp .eql t (.pointer a) (.pointer none)).run P W= .ok (.bool a.isNone) W:=by
  have h: ∀d:Nat,(Op.equalIn (d+1) t (.pointer a) (.pointer none)).run P W= .ok a.isNone W:=fun d=>by
   cases a<;>simp[Op.equalIn,run_underlying ht]
  simp only[binOp]
  simp[Op.equal,Op.maxDepth,h 9999]
 have h2:(eqGuard .eql t x (.const (.pointer none)) (.pointer a) (.pointer none)).run P W= .ok () W:=by simp[eqGuard]
 simp only[execOp,ho,hx,hc,Sem.run_bind,h2,h1,Result.andThen_ok,Sem.run_pure]
theorem R3 {ρ:Operand->Value} {t u te:TypeId} {x y:Operand} {a:Addr} {j:TypeInfo} (ht:P.underlying t=some (.pointer te)) (hte:P.info? te=some j) (ho:o.op= .binOp .neq t x y u) (hx:ρ x= .pointer (some a)) (hy:ρ y= .pointer (some a)) (W:World):
  (execOp ρ o).run P W= .ok (.value (.bool false)) W:=by
 have h2:(eqGuard .neq t x y (.pointer (some a)) (.pointer (some a))).run P W= .ok () W:=by simp[eqGuard]
 simp only[execOp,ho,hx,hy,Sem.run_bind,h2,Lib.run_neq_ptr_same W a ht hte,Result.andThen_ok,Sem.run_pure]
end
theorem Q4 {W0 W:World} {bxs:List Bx} (hp:Hp W0 bxs W) (k:Nat) {b:Nat} {p v:Value} {wide num:Int} (hk:nth bxs k=some ⟨b,185,wrC p v wide num,true,none⟩):W.shape? b=some (185,4):=by
 rw[AT] at hk
 have:=(hp.at_ _ _ hk rfl).1
 simp only[World.shape?,this]
 rfl
theorem Vs (v:Value) (W:World):(callFunc 247 #[v]).run Tryz.prog W= .ok (.value v) W:=by
 rw[run_callFunc_extern Tryz.func247 (by kernel_rfl) (by kernel_rfl) (by kernel_rfl) (e:=Extern.AbiNoEscape.same) (by kernel_rfl)]
 rfl
theorem KC (b:Nat) (p v:Value) (wide num:Int) (hp0:p= .pointer none\/p=Af b) (Wb W:World) (hb0:Below Wb.heap.size Wb W) (hO:Go.Am.Own Wb.heap.size [Ad [(b,wrO p v wide num)]] W):
  A0 Tryz.prog Wb.heap.size 201 [Af b] W [(b,wrO p v wide num)] (fun _:Unit=> .tuple #[]) (fun _=>True) (fun _=>[(b,wrO (Af b) v wide num)]):=by
 refine A0.enterL (bs:=[⟨b,185,wrC p v wide num,true,none⟩]) (bs':=fun _:Unit=>[Ad [(b,wrO (Af b) v wide num)]]) hb0 (hO.regroup I) I (fun x=>Ap _) Tryz.func201 I I I ?_
 obtain⟨j,hj,hjs⟩: ∃j,Tryz.prog.info? 183=some j/\j.size≠0:=⟨_,rfl,by decide⟩
 refine xb<|wP I<|AE I I I I<|wP I<|wB 1 I I I<|?_
 rcases hp0 with rfl|rfl
 ·refine Bf (v:= .bool true) rfl rfl (fun c e=>by cases e) (fun ρ W hρ _=>Mg (a:=none) Tryz.underlying181 rfl (hρ _ _ rfl) (hρ _ _ rfl) W) ?_
  refine xa<|zR I<|zB<|Aa I<|?_
  refine Bf (v:=Af b) rfl rfl (fun c e=>by cases e) (fun ρ W hρ hp=>by
   have:=Lib.run_to_unsafe (P:=Tryz.prog) W ⟨b,0,none⟩ Tryz.underlying181 Tryz.underlying326 hj hjs (Q4 hp 1 rfl) (Nat.zero_lt_succ 3)
   simp[execOp,hρ (.tmp 8) (Af b) rfl,this]) ?_
  refine dV (capt:=[]) (v:=Af b) I I I I I I (fun W _=>Vs _ W) ?_
  refine Bf (v:=Af b) rfl rfl (fun c e=>by cases e) (fun ρ W hρ hp=>by
   have:=Lib.run_from_unsafe (P:=Tryz.prog) W ⟨b,0,none⟩ Tryz.underlying326 Tryz.underlying181 hj (Q4 hp 1 rfl) (by kernel_rfl)
   simp[execOp,hρ (.tmp 10) (Af b) rfl,this]) ?_
  exact AE I I I I<|wP I<|wS 1 I I I<|zC<|Cj tH I () I tO fun W1 hp=>(hp.pick [0,1] (by decide) I).own.regroup I
 ·refine Bf (v:= .bool false) rfl rfl (fun c e=>by cases e) (fun ρ W hρ _=>Mg (a:=some ⟨b,0,none⟩) Tryz.underlying181 rfl (hρ _ _ rfl) (hρ _ _ rfl) W) ?_
  refine xa<|zS rfl<|xb<|wP rfl<|AE rfl rfl rfl rfl<|wP rfl<|wB 1 rfl rfl rfl<|wP rfl<|Bf (v:= .bool false) rfl rfl (fun c e=>by cases e) (fun ρ W hρ _=>R3 (a:=⟨b,0,none⟩) Tryz.underlying181 hj rfl (hρ _ _ rfl) (hρ _ _ rfl) W) ?_
  exact xa<|zS I<|zI<|Cj tH I () I tO fun W1 hp=>(hp.pick [0,1] (by decide) I).own.regroup I
section
variable {r:Option Nat} {n:Nat} {P:Program} {W0:World} {N:Nat} {D:List Deferred} {ops rest:List Oper} {Q:Exit->Act->World->Prop} {o:Oper} {env:Env} {bxs:List Bx}
theorem O5 {t u ty e:TypeId} {i:TypeInfo} (ht:P.underlying t=some (.slice e)) (hu:P.underlying u=some .string) (hi:P.info? e=some i) (hz:i.zero=some (.int .u8 0)) (hsize:i.size=1) (hby:i.bytes=1)
  {w:World} {base:Nat} {v:Value} {n:Nat} {xs:List Value} (hown:w.ownsRow base e 1 v n xs) (s:ByteArray) (h63:n+s.size<=maxLen) (hbytes:n+s.size<=140737488355328) (hbase:base<=w.heap.size):
  ∃v' w',(Builtin.append_ #[t,u] ty #[v, .string s]).run P w= .ok v' w'/\w'.ownsRow base e 1 v' (n+s.size) (xs++strCells s)/\w.grownBy w' v.ownBlock/\
   (v'.ownBlock=v.ownBlock\/ ∃g cap,v'= .slice (some ⟨g,0,none⟩) (n+s.size) cap/\w.heap.size<=g):=by
 obtain⟨v',w',hr,h1,h2,h3⟩:=run_append_own_string (P:=P) w base t u ty e i ht hu hi hz hsize hby v n xs hown s h63 hbytes hbase
 refine⟨v',w',hr,h1,h2, ?_⟩
 rcases hown.2 with⟨rfl,rfl⟩|⟨g,cap,cur,rfl,hbg,hg,hnc,hcm,hcs,htake⟩
 ·obtain⟨v2,w2,hr2,h4,_,_⟩:=run_append_own_string (P:=P) w w.heap.size t u ty e i ht hu hi hz hsize hby (.slice none 0 0) 0 xs ⟨hown.1, .inl ⟨rfl,rfl⟩⟩ s h63 hbytes (Nat.le_refl _)
  rw[hr] at hr2
  injection hr2 with e1 e2
  subst e1
  rcases h4.2 with⟨rfl,_⟩|⟨g,cap,cur,rfl,hbg,_⟩
  ·exact .inl I
  ·exact .inr ⟨g,cap,I,hbg⟩
 ·by_cases hroom:n+s.size<=cap
  ·have hr2:=run_append_room_string (P:=P) w t u ty e i ht hu hi hsize g n cap cur hg s hroom (by omega)
   rw[hr] at hr2
   injection hr2 with e1 e2
   subst e1
   exact .inl I
  ·have hxl:xs.length=n:=by simpa using hown.1
   have holds: ∀j u,xs[j]? =some u->w.cell? ((⟨g,0,none⟩:Addr).add j)=some u:=hown.cells (g:=g) rfl
   have hr2:=run_append_grow_string (P:=P) w t u ty e i (.int .u8 0) ht hu hi hz ⟨g,0,none⟩ n cap xs (by rw[hsize];simpa using hxl) holds s (by omega) (by simp only[maxLen] at h63;omega) (by rw[hby];exact growslice_fits (by omega) (by omega))
   rw[hr] at hr2
   injection hr2 with e1 e2
   subst e1
   exact .inr ⟨_,_,I,Nat.le_refl _⟩
theorem SK {t u e ty:TypeId} {z:Value} (hty:VecTy P t e 1 1 z) (hz:z= .int .u8 0) (hu:P.underlying u=some .string) {W:World} (h:Hp W0 bxs W) (k:Nat) {V:Vec} {n:Nat} {xs:List Value} (s:ByteArray) (hk:nth bxs k=some (V.bx e xs)) (hV:V.OK 1 n xs)
  (h63:n+s.size<=maxLen) (hbytes:n+s.size<=140737488355328):
  ∃(V':Vec) (W':World),(Builtin.append_ #[t,u] ty #[V.val n, .string s]).run P W= .ok (V'.val (n+s.size)) W'/\V'.OK 1 (n+s.size) (xs++strCells s)/\Hp W0 (bxs.set k (V'.bx e (xs++strCells s))) W':=by
 rw[AT] at hk
 obtain⟨i,hi,hz',hsz,hby⟩:=hty.hi
 subst hz
 have hown:W.ownsRow W0.heap.size e 1 (V.val n) n xs:=by
  refine⟨hV.len, ?_⟩
  obtain⟨p,cap,junk⟩:=V
  cases p with
  |none=>exact .inl ⟨rfl,hV.nil rfl⟩
  |some g=>
   obtain⟨h3,h4,h5⟩:=hV.cap (by simp)
   have hb:W.heap[g]? =some (.cells (xs++junk).toArray e (0,0))/\W0.heap.size<=g:=h.at_ k _ hk rfl
   refine .inr ⟨g,cap,_,I,hb.2,hb.1,h3,h4,by simpa using h5, ?_⟩
   rw[<-hV.len]
   simp
 obtain⟨v',W',hr,hown',hgrow,hat⟩:=O5 (P:=P) (ty:=ty) hty.ht hu hi hz' hsz hby hown s h63 hbytes h.below.size
 have hoth: ∀x,(∀q∈(V.bx e xs).blk,q.1≠x)->x<W.heap.size->W'.heap[x]? =W.heap[x]? :=fun x hx hlt=>by
  refine hgrow.block x hlt ?_
  intro he
  obtain⟨p,cap,junk⟩:=V
  cases p with
  |none=>simp[Vec.val,Value.ownBlock] at he
  |some g=>
   simp[Vec.val,Value.ownBlock] at he
   exact hx (g,_) (List.mem_cons_self ..) he.symm
 rcases hown'.2 with⟨hv,hn⟩|⟨g,cap,cur,hv,hbg,hg,hnc,hcm,hcs,htake⟩
 ·refine⟨Vec.empty,W',by rw[hr,hv,hn];rfl,⟨hown'.1,fun _=>hn,fun h=>absurd I h⟩, ?_⟩
  exact h.turn hk (fun p hp=>by cases hp) List.nodup_nil hgrow.os hgrow.tape hgrow.output hgrow.size (fun p hp=>by cases hp) hoth
 ·have hcur:cur.toList=(xs++strCells s)++cur.toList.drop ((n+s.size)*1):=by
   conv=>lhs;rw[<-List.take_append_drop ((n+s.size)*1) cur.toList]
   rw[htake]
  refine⟨⟨some g,cap,cur.toList.drop ((n+s.size)*1)⟩,W',by rw[hr,hv];rfl,⟨hown'.1,fun h=>by simp at h,fun _=>⟨hnc,hcm, ?_⟩⟩, ?_⟩
  ·have:=congrArg List.length hcur
   rw[List.length_append] at this
   simp only[Array.length_toList] at this
   rw[<-this,hcs]
  ·refine h.turn hk (fun p hp=> ?_) (List.nodup_cons.2 ⟨List.not_mem_nil,List.nodup_nil⟩) hgrow.os hgrow.tape hgrow.output hgrow.size (fun p hp=> ?_) hoth
   ·obtain rfl:=List.mem_singleton.1 hp
    show(∃q∈(V.bx e xs).blk,q.1=g)\/W.heap.size<=g
    rcases hat with hat|⟨g2,cap2,hv2,hge⟩
    ·left
     obtain⟨p,cap',junk⟩:=V
     rw[hv] at hat
     cases p with
     |none=>simp[Vec.val,Value.ownBlock] at hat
     |some g'=>
      simp[Vec.val,Value.ownBlock] at hat
      exact⟨(g',_),List.mem_cons_self ..,hat.symm⟩
    ·right
     rw[hv] at hv2
     injection hv2 with hv2
     injection hv2 with hv2
     injection hv2 with hv2
     omega
   ·obtain rfl:=List.mem_singleton.1 hp
    show W'.heap[g]? =some (.cells ((xs++strCells s)++cur.toList.drop ((n+s.size)*1)).toArray e (0,0))
    rw[<-hcur]
    exact hg
theorem Qj (k:Nat) {d:Nat} {t u e:TypeId} {z:Value} (hty:VecTy P t e 1 1 z) (hz:z= .int .u8 0) (hu:P.underlying u=some .string) {c:Call} {s x:Operand} {V:Vec} {len:Nat} {xs:List Value} {b:ByteArray}
  (hg:Aj ops N env o=some true) (hd:o.dst=some d) (ho:o.op= .call c) (hc:c.callee= .builtin .append) (ha:c.args= #[s,x]) (hat:c.argTypes= #[t,u])
  (hs:evO N env s=some (V.val len)) (hx:evO N env x=some (.string b)) (hk:nth bxs k=some (V.bx e xs)) (hV:V.OK 1 len xs)
  (h63:len+b.size<=maxLen) (hbytes:len+b.size<=140737488355328)
  (h: ∀V':Vec,V'.OK 1 (len+b.size) (xs++strCells b)->WL r n P N D ops Q rest ((d,V'.val (len+b.size))::env) (Hp W0 (bxs.set k (V'.bx e (xs++strCells b))))):WL r n P N D ops Q (o::rest) env (Hp W0 bxs):= .mk fun act W h2 h3 hp=>by
 refine By hg h2 (fun c e=>by rw[ho] at e;cases e) ?_
 obtain⟨V',W',hr,hV',hp'⟩:=SK (ty:=o.type) hty hz hu hp k b hk hV h63 hbytes
 have e1:c.args.map (ov env act).eval= #[V.val len, .string b]:=by rw[ha];simp[A4 h2 _ _ hs,A4 h2 _ _ hx]
 have:(execOp (ov env act).eval o).run P W= .ok (.value (V'.val (len+b.size))) W':=by
  simp only[execOp,ho,resolve,hc,invoke,builtin,e1,hat,Sem.run_bind,Sem.run_pure,Result.andThen_ok,hr]
 rw[this]
 simp only[Oper.uponIn,hd]
 exact(h V' hV').out act W' h2 h3 hp'
end
def bcs (l:List UInt8):List Value:=strCells ⟨l.toArray⟩
theorem Pp (a b:List UInt8):bcs (a++b)=bcs a++bcs b:=by simp[bcs,strCells]
theorem Zs (l:List UInt8):(bcs l).length=l.length:=by
 have:=strCells_length ⟨l.toArray⟩
 rw[Dl] at this
 exact this
abbrev wrV (V:Vec) (n:Nat):Value:=slv (AU V) n (Bd V)
abbrev wrL (b:Nat) (p:Value) (V:Vec) (l:List UInt8) (wide num:Int):List (Nat×Obj):=(b,wrO p (wrV V l.length) wide num)::(V.bx 5 (bcs l)).blk
abbrev wrB (b:Nat) (p:Value) (V:Vec) (l:List UInt8) (wide num:Int):List Bx:=[⟨b,185,wrC p (wrV V l.length) wide num,true,none⟩,V.bx 5 (bcs l)]
theorem FC (b:Nat) (p v:Value) (wide num:Int) (B:Bx):Ci [⟨b,185,wrC p v wide num,true,none⟩,B]=(b,wrO p v wide num)::B.blk:=by
 show _::(B.blk++[])=_
 rw[List.append_nil]
 rfl
theorem M9 {n b:Nat} {p:Value} {V:Vec} {l:List UInt8} {wide num:Int} {W:World} (hO:Go.Am.Own n [Ad (wrL b p V l wide num)] W):Go.Am.Own n (wrB b p V l wide num) W:=hO.regroup ((FC ..).trans (Ap _).symm)
theorem Mj {n b:Nat} {p:Value} {V:Vec} {l:List UInt8} {wide num:Int} {W:World} {B:Bx} (hO:Go.Am.Own n (B::wrB b p V l wide num) W):Go.Am.Own n [B,Ad (wrL b p V l wide num)] W:=hO.regroup (by
 show B.blk++(wrL b p V l wide num++[])=B.blk++Ci (wrB b p V l wide num)
 rw[FC,List.append_nil])
def BC (b:Nat) (p:Value) (V:Vec) (l:List UInt8):Prop:=(p= .pointer none\/p=Af b)/\V.OK 1 l.length (bcs l)
theorem TS (b:Nat) (p:Value) (V:Vec) (l:List UInt8) (wide num:Int) (Wb W:World) (hb0:Below Wb.heap.size Wb W) (hO:Go.Am.Own Wb.heap.size [Ad (wrL b p V l wide num)] W):
  A0 Tryz.prog Wb.heap.size 154 [Af b] W (wrL b p V l wide num) (fun _:Unit=> .int .i64 (l.length:Nat)) (fun _=>True) (fun _=>wrL b p V l wide num):=by
 refine A0.enterL (bs:=wrB b p V l wide num) (bs':=fun _:Unit=>[Ad (wrL b p V l wide num)]) hb0 (M9 hO) (FC ..) (fun x=>Ap _) Tryz.func154 I I I ?_
 exact xb<|wP I<|xg<|wP I<|AE I I I I<|wP I<|wB 1 I I I<|Aa I<|xc<|Ar tH I (.tmp I) () I tO fun W1 hp=>Mj (hp.pick [0,1,2] (by decide) I).own
theorem Mn (b:Nat) (p:Value) (V:Vec) (l s:List UInt8) (wide num:Int) (h:BC b p V l) (hl:l.length+s.length<=1000000000) (Wb W:World) (hb0:Below Wb.heap.size Wb W) (hO:Go.Am.Own Wb.heap.size [Ad (wrL b p V l wide num)] W):
  A0 Tryz.prog Wb.heap.size 142 [Af b,str s] W (wrL b p V l wide num) (fun _:Vec=> .tuple #[.int .i64 (s.length:Nat), .nilIface]) (fun V'=>BC b (Af b) V' (l++s)) (fun V'=>wrL b (Af b) V' (l++s) wide num):=by
 refine A0.enterL (bs:=wrB b p V l wide num) (bs':=fun V':Vec=>[Ad (wrL b (Af b) V' (l++s) wide num)]) hb0 (M9 hO) (FC ..) (fun x=>Ap _) Tryz.func142 I I I ?_
 have hsz:=Dl s
 refine xb<|Aa I<|xg<|wP I<|Ah 1 (X:=Unit) (fun _=>⟨b,185,wrC (Af b) (wrV V l.length) wide num,true,none⟩) I I I I I I (by kernel_rfl) I (fun _ _=>rfl) (fun W1 hp=>KC b p (wrV V l.length) wide num h.1 Wb W1 hp.below ((hp.pick [1] (by decide) I).own.regroup I)) ?_
 intro _ _
 refine xg<|Aa I<|AE I I I I<|wP I<|wB 1 I I I<|wP I<|Ao 12 (V.val l.length) I (Bs h.2).symm<|?_
 refine Qj 2 (V:=V) (len:=l.length) (xs:=bcs l) (b:=⟨s.toArray⟩) Tryz.vec44 I Tryz.underlying9 I I I I I I I I I h.2 (by rw[hsz];unfold maxLen;omega) (by rw[hsz];omega) ?_
 intro V' hV'
 rw[hsz] at hV'
 have hV2:V'.OK 1 (l++s).length (bcs (l++s)):=by rw[List.length_append,Pp];exact hV'
 exact Ao 14 (wrV V' (l++s).length) I (by rw[hsz, <-List.length_append];exact Bs hV2)<|AE I I I I<|wP I<|wS 1 I I I<|xg<|Aa I<|Ao 18 (.int .i64 (s.length:Nat)) I (congrArg (fun m:Nat=>Value.int .i64 (m:Int)) hsz)<|Aa I<|xc<|An tH I (.tmp I) (.tmp I) V' I ⟨.inr I,hV2⟩ fun W1 hp=>Mj (B:=Ad (Ay Wb.heap.size W (wrL b p V l wide num))) (by rw[show strCells ⟨s.toArray⟩=bcs s from I, <-Pp] at hp;exact(hp.pick [0,1,2] (by decide) I).own)
theorem QO (b:Nat) (p:Value) (V:Vec) (l:List UInt8) (c:UInt8) (wide num:Int) (h:BC b p V l) (hl:l.length<=1000000000) (Wb W:World) (hb0:Below Wb.heap.size Wb W) (hO:Go.Am.Own Wb.heap.size [Ad (wrL b p V l wide num)] W):
  A0 Tryz.prog Wb.heap.size 144 [Af b, .int .u8 c.toNat] W (wrL b p V l wide num) (fun _:Vec=> .nilIface) (fun V'=>BC b (Af b) V' (l++[c])) (fun V'=>wrL b (Af b) V' (l++[c]) wide num):=by
 refine A0.enterL (bs:=wrB b p V l wide num) (bs':=fun V':Vec=>[Ad (wrL b (Af b) V' (l++[c]) wide num)]) hb0 (M9 hO) (FC ..) (fun x=>Ap _) Tryz.func144 I I I ?_
 refine xb<|wP I<|xg<|wP I<|Ah 1 (X:=Unit) (fun _=>⟨b,185,wrC (Af b) (wrV V l.length) wide num,true,none⟩) I I I I I I (by kernel_rfl) I (fun _ _=>rfl) (fun W1 hp=>KC b p (wrV V l.length) wide num h.1 Wb W1 hp.below ((hp.pick [1] (by decide) I).own.regroup I)) ?_
 intro _ _
 refine xg<|Aa I<|AE I I I I<|wP I<|wB 1 I I I<|wP I<|?_
 (refine Ai Tryz.hZ tH rfl rfl rfl rfl rfl rfl rfl rfl rfl rfl rfl ?_;intro)
 refine Ao 11 (V.val l.length) I (Bs h.2).symm ?_
 have hc:bcs [c]=[.int .u8 c.toNat]:=rfl
 refine AA (V:=V) (len:=l.length) (xs:=bcs l) 2 3 Tryz.vec44 (l++[c]).length (bcs (l++[c])) I I I I I I I I I I I h.2 I I (by rw[List.length_append];rfl) (by rw[Pp,hc];rfl) (by rw[List.length_append];unfold maxLen;show l.length+1<=_;omega) (by rw[List.length_append];show(l.length+1)*1<=_;omega) I ?_
 intro g cap junk hV'
 exact AE I I I I<|wP I<|wS 1 I I I<|xg<|wP I<|xc<|Ar tH I (.tmp I) (⟨some g,cap,junk⟩:Vec) I ⟨.inr I,hV'⟩ fun W1 hp=>Mj (V:=⟨some g,cap,junk⟩) (B:=Ad (Ay Wb.heap.size W (wrL b p V l wide num))) (hp.pick [0,1,2] (by decide) I).own
def At (l s:List UInt8):List UInt8:=if 0<l.length then l++[32]++s else l++s
theorem Cs (l s:List UInt8):(At l s).length<=l.length+1+s.length:=by
 unfold At
 split<;>simp only[List.length_append,List.length_singleton]<;>omega
theorem AV (b:Nat) (p:Value) (V:Vec) (l s:List UInt8) (wide num:Int) (h:BC b p V l) (hl:l.length+s.length<=900000000) (Wb W:World) (hb0:Below Wb.heap.size Wb W) (hO:Go.Am.Own Wb.heap.size [Ad (wrL b p V l wide num)] W):
  A0 Tryz.prog Wb.heap.size 172 [Af b,str s] W (wrL b p V l wide num) (fun _:Vec=> .tuple #[]) (fun V'=>BC b (Af b) V' (At l s)) (fun V'=>wrL b (Af b) V' (At l s) wide num):=by
 refine A0.enterL (bs:=[Ad (wrL b p V l wide num)]) (bs':=fun V':Vec=>[Ad (wrL b (Af b) V' (At l s) wide num)]) hb0 hO (Ap _) (fun x=>Ap _) Tryz.func172 I I I ?_
 refine xd<|wP I<|AE I I I I<|wP I<|Ah 1 (X:=Unit) (fun _=>Ad (wrL b p V l wide num)) I I I I I I (by kernel_rfl) I (fun _ _=>rfl) (fun W1 hp=>TS b p V l wide num Wb W1 hp.below (hp.pick [1] (by decide) I).own) ?_
 intro _ _
 refine wP I ?_
 by_cases hlt:0<l.length
 ·have hw:At l s=l++[32]++s:=if_pos hlt
  rw[hw]
  refine wU 8 true I (dT (by omega))<|xa<|zR I<|zB<|wP I<|AE I I I I<|wP I<|Ah 1 (B:=Ad (wrL b p V l wide num)) (X:=Vec) (fun V'=>Ad (wrL b (Af b) V' (l++[32]) wide num)) I I I I I I (by kernel_rfl) I (fun _ _=>rfl) (fun W1 hp=>QO b p V l 32 wide num h (by omega) Wb W1 hp.below (hp.pick [1] (by decide) I).own) ?_
  intro V1 hV1
  refine xa<|zB<|wP I<|AE I I I I<|Aa I<|?_
  refine Ah 1 (B:=Ad (wrL b (Af b) V1 (l++[32]) wide num)) (X:=Vec) (fun V'=>Ad (wrL b (Af b) V' (l++[32]++s) wide num)) I I I I I I (by kernel_rfl) I (fun _ _=>rfl) (fun W1 hp=>Mn b (Af b) V1 (l++[32]) s wide num hV1 (by rw[List.length_append];show l.length+1+s.length<=_;omega) Wb W1 hp.below (hp.pick [1] (by decide) I).own) ?_
  intro V2 hV2
  exact zC<|Cj tH I V2 I hV2 fun W1 hp=>(hp.pick [0,1] (by decide) I).own
 ·have hw:At l s=l++s:=if_neg hlt
  rw[hw]
  refine wU 8 false I (dF (by omega))<|xa<|zS I<|zI<|zE<|zB<|wP I<|AE I I I I<|Aa I<|Ah 1 (B:=Ad (wrL b p V l wide num)) (X:=Vec) (fun V'=>Ad (wrL b (Af b) V' (l++s) wide num)) I I I I I I (by kernel_rfl) I (fun _ _=>rfl) (fun W1 hp=>Mn b p V l s wide num h (by omega) Wb W1 hp.below (hp.pick [1] (by decide) I).own) ?_
  intro V2 hV2
  exact zC<|Cj tH I V2 I hV2 fun W1 hp=>(hp.pick [0,1] (by decide) I).own
def US (n:Int):Prop:=n< -1073741824\/1073741824<n
instance (n:Int):Decidable (US n):=by unfold US;infer_instance
def A9 (l:List UInt8) (ns:List Int):List UInt8:=ns.foldl (fun l n=>At l (itoa n)) l
def AK (w:Int) (ns:List Int):Int:=ns.foldl (fun w n=>if US n then 2 else w) w
theorem E5 {α β:Type} (f:β->α->β) (a:β) {l:List α} {i:Nat} (h:i<l.length):(l.take (i+1)).foldl f a=f ((l.take i).foldl f a) l[i]:=by
 rw[List.take_succ_eq_append_getElem h,List.foldl_append]
 rfl
theorem Cv {ns:List Int} (h: ∀n∈ns,Bt n) (l:List UInt8):(A9 l ns).length<=l.length+21*ns.length:=by
 induction ns generalizing l with
 |nil=>exact Nat.le_refl _
 |cons n ns ih=>
  have h1:=ih (fun m hm=>h m (List.mem_cons_of_mem _ hm)) (At l (itoa n))
  have h2:=Cs l (itoa n)
  have h3:=C3 (h n (List.mem_cons_self ..))
  show(A9 (At l (itoa n)) ns).length<=_
  rw[List.length_cons]
  omega
theorem Df (B:Bx) (b:Nat) (p:Value) (V:Vec) (l:List UInt8) (wide num:Int):Ci [B,Ad (wrL b p V l wide num)]=Ci (B::wrB b p V l wide num):=by
 show B.blk++(wrL b p V l wide num++[])=B.blk++Ci (wrB b p V l wide num)
 rw[FC,List.append_nil]
theorem BE (b:Nat) (p:Value) (V:Vec) (l:List UInt8) (wide num:Int) (h:BC b p V l) (ns:List Int) (q:Option Addr) (cap:Nat) (hl:l.length+21*ns.length<=800000000) (hr: ∀n∈ns,Bt n)
  (Wb W:World) (hb0:Below Wb.heap.size Wb W) (hO:Go.Am.Own Wb.heap.size [Ad (wrL b p V l wide num)] W) (hA:AB 1 C9 W q ns) (hne: ∀a,q=some a-> ∀x∈wrL b p V l wide num,x.1≠a.block) (ht:AZ Wb):
  A0 Tryz.prog Wb.heap.size 173 [Af b,slv q ns.length cap] W (wrL b p V l wide num) (fun _:Value×Vec=> .tuple #[]) (fun x=>BC b x.1 x.2 (A9 l ns)) (fun x=>wrL b x.1 x.2 (A9 l ns) (AK wide ns) num):=by
 refine A0.enterL (bs:=wrB b p V l wide num) (bs':=fun x:Value×Vec=>[Ad (wrL b x.1 x.2 (A9 l ns) (AK wide ns) num)]) hb0 (M9 hO) (FC ..) (fun x=>Ap _) Tryz.func173 I I I ?_
 refine xb<|Ae I<|xa<|zH<|?_
 refine A6 (X:=Nat×Value×Vec) (fun x=>[(0,Af b),(6,slv q ns.length cap),(7, .int .i64 (ns.length:Nat)),(8, .int .i64 (x.1:Nat))]) (fun x=>Ad (Ay Wb.heap.size W (wrL b p V l wide num))::wrB b x.2.1 x.2.2 (A9 l (ns.take x.1)) (AK wide (ns.take x.1)) num)
  (fun x=>x.1<=ns.length/\BC b x.2.1 x.2.2 (A9 l (ns.take x.1))) (fun x=>ns.length-x.1) (0,p,V) ⟨Nat.zero_le _,h⟩ ⟨rfl,rfl,rfl,rfl,trivial⟩ [] rfl ?_
 rintro⟨i,p1,V1⟩ ⟨hi,h1⟩
 have hi:i<=ns.length:=hi
 have h1:BC b p1 V1 (A9 l (ns.take i)):=h1
 refine xb<|wP I<|?_
 by_cases hlt:i<ns.length
 rotate_left
 ·have e:i=ns.length:=by omega
  subst e
  refine wU 9 false I (dF (by omega))<|xa<|zA<|zS I<|xf<|?_
  rw[List.take_length] at h1
  exact Cj tH I (p1,V1) I h1 fun W1 hp=>Mj (B:=Ad (Ay Wb.heap.size W (wrL b p V l wide num))) (by rw[List.take_length] at hp;exact hp.own)
 refine wU 9 true I (dT (by show(i:Int)<(ns.length:Nat);omega))<|xa<|zA<|zR I<|xh<|?_
 obtain⟨bq,off,rfl,hrow⟩:=hA.row hlt
 have hri:=hrow i hlt
 have hrn:=hr _ (List.getElem_mem hlt)
 have hS:A9 l (ns.take (i+1))=At (A9 l (ns.take i)) (itoa ns[i]):=E5 _ _ hlt
 have hW:AK wide (ns.take (i+1))=if US ns[i] then 2 else AK wide (ns.take i):=E5 _ _ hlt
 have hlen:=Cv (fun n hn=>hr n (List.mem_of_mem_take hn)) l (ns:=ns.take i)
 rw[List.length_take,Nat.min_eq_left hi] at hlen
 obtain⟨n,hnn⟩: ∃n,n=ns[i]:=⟨_,rfl⟩
 rw[<-hnn] at hri hrn hS hW
 have h20:=C3 hrn
 obtain⟨li,hli⟩: ∃x,x=A9 l (ns.take i):=⟨_,rfl⟩
 obtain⟨wi,hwi⟩: ∃x,x=AK wide (ns.take i):=⟨_,rfl⟩
 rw[<-hli] at h1 hS hlen
 rw[<-hwi] at hW
 rw[<-hli, <-hwi]
 refine wJ ?_
 refine wL 0 I I (fun W1 hp=>(EL hb0 hp).row hri (hne _ I)) I<|wP I<|xa<|xd<|Aa I<|?_
 by_cases c1:n< -1073741824
 ·refine wU 13 true I (dT c1)<|wP I<|?_
  iterate 2 refine Ac I I ?_
  refine wP I<|xa<|zR I<|zB<|wP I<|AE I I I I<|wP I<|wS 1 I I I<|zC<|?_
  have hW2:AK wide (ns.take (i+1))=2:=by rw[hW];exact if_pos (.inl c1)
  refine zE<|B2 [Ad (Ay Wb.heap.size W (wrL b p V l wide num)),Ad (wrL b p1 V1 li (2) num)] [0,1,2] (by decide) I (Df _ b p1 V1 li (2) num) ?_
  refine zB<|Aa I<|wC I I (fun W1 hp=>AF n hrn.1 hrn.2 W1 (ht.hp hp))<|Ah 1 (B:=Ad (wrL b p1 V1 li (2) num)) (X:=Vec) (fun V'=>Ad (wrL b (Af b) V' (At li (itoa n)) (2) num)) I I I I I I (by kernel_rfl) I (fun _ _=>rfl) (fun W1 hp=>AV b p1 V1 li (itoa n) (2) num h1 (by omega) Wb W1 hp.below (hp.pick [1] (by decide) I).own) ?_
  intro V2 hV2
  refine zC<|xj<|wP I<|wV 25 ((i+1:Nat):Int) I (Az (by omega))<|wP I<|zC<|?_
  refine Ey (Ad (Ay Wb.heap.size W (wrL b p V l wide num))::wrB b (Af b) V2 (A9 l (ns.take (i+1))) (AK wide (ns.take (i+1))) num) [0,1] (by decide) I (by rw[hS,hW2];exact(Df _ b (Af b) V2 (At li (itoa n)) (2) num).symm) ?_
  exact Ax (i+1,Af b,V2) ⟨hlt,by show BC b (Af b) V2 (A9 l (ns.take (i+1)));rw[hS];exact hV2⟩ (by show ns.length-(i+1)<ns.length-i;omega) ⟨I,I,I,I,tO⟩ [] I
 ·refine wU 13 false I (dF c1)<|Ae I<|?_
  by_cases c2:1073741824<n
  ·refine wU 16 true I (dT c2)<|wP I<|xa<|zR I<|zB<|wP I<|AE I I I I<|wP I<|wS 1 I I I<|zC<|?_
   have hW2:AK wide (ns.take (i+1))=2:=by rw[hW];exact if_pos (.inr c2)
   refine zE<|B2 [Ad (Ay Wb.heap.size W (wrL b p V l wide num)),Ad (wrL b p1 V1 li (2) num)] [0,1,2] (by decide) I (Df _ b p1 V1 li (2) num) ?_
   refine zB<|Aa I<|wC I I (fun W1 hp=>AF n hrn.1 hrn.2 W1 (ht.hp hp))<|Ah 1 (B:=Ad (wrL b p1 V1 li (2) num)) (X:=Vec) (fun V'=>Ad (wrL b (Af b) V' (At li (itoa n)) (2) num)) I I I I I I (by kernel_rfl) I (fun _ _=>rfl) (fun W1 hp=>AV b p1 V1 li (itoa n) (2) num h1 (by omega) Wb W1 hp.below (hp.pick [1] (by decide) I).own) ?_
   intro V2 hV2
   refine zC<|xj<|wP I<|wV 25 ((i+1:Nat):Int) I (Az (by omega))<|wP I<|zC<|?_
   refine Ey (Ad (Ay Wb.heap.size W (wrL b p V l wide num))::wrB b (Af b) V2 (A9 l (ns.take (i+1))) (AK wide (ns.take (i+1))) num) [0,1] (by decide) I (by rw[hS,hW2];exact(Df _ b (Af b) V2 (At li (itoa n)) (2) num).symm) ?_
   exact Ax (i+1,Af b,V2) ⟨hlt,by show BC b (Af b) V2 (A9 l (ns.take (i+1)));rw[hS];exact hV2⟩ (by show ns.length-(i+1)<ns.length-i;omega) ⟨I,I,I,I,tO⟩ [] I
  ·refine wU 16 false I (dF c2)<|wP I<|xa<|zS I<|zI<|zE<|?_
   have hW2:AK wide (ns.take (i+1))=wi:=by rw[hW];exact if_neg (fun h=>h.elim c1 c2)
   refine B2 [Ad (Ay Wb.heap.size W (wrL b p V l wide num)),Ad (wrL b p1 V1 li (wi) num)] [0,1,2] (by decide) I (Df _ b p1 V1 li (wi) num) ?_
   refine zB<|Aa I<|wC I I (fun W1 hp=>AF n hrn.1 hrn.2 W1 (ht.hp hp))<|Ah 1 (B:=Ad (wrL b p1 V1 li (wi) num)) (X:=Vec) (fun V'=>Ad (wrL b (Af b) V' (At li (itoa n)) (wi) num)) I I I I I I (by kernel_rfl) I (fun _ _=>rfl) (fun W1 hp=>AV b p1 V1 li (itoa n) (wi) num h1 (by omega) Wb W1 hp.below (hp.pick [1] (by decide) I).own) ?_
   intro V2 hV2
   refine zC<|xj<|wP I<|wV 25 ((i+1:Nat):Int) I (Az (by omega))<|wP I<|zC<|?_
   refine Ey (Ad (Ay Wb.heap.size W (wrL b p V l wide num))::wrB b (Af b) V2 (A9 l (ns.take (i+1))) (AK wide (ns.take (i+1))) num) [0,1] (by decide) I (by rw[hS,hW2];exact(Df _ b (Af b) V2 (At li (itoa n)) (wi) num).symm) ?_
   exact Ax (i+1,Af b,V2) ⟨hlt,by show BC b (Af b) V2 (A9 l (ns.take (i+1)));rw[hS];exact hV2⟩ (by show ns.length-(i+1)<ns.length-i;omega) ⟨I,I,I,I,tO⟩ [] I
def Ea (l:List UInt8) (ns:List (List UInt8)):List UInt8:=ns.foldl At l
def FT (w:Int) (ns:List (List UInt8)):Int:=ns.foldl (fun w n=>if w=0 then(rdR n).2 else w) w
theorem LT {m:Nat} {ns:List (List UInt8)} (h: ∀n∈ns,n.length<=m) (l:List UInt8):(Ea l ns).length<=l.length+(m+1)*ns.length:=by
 induction ns generalizing l with
 |nil=>exact Nat.le_add_right _ _
 |cons n ns ih=>
  have h1:=ih (fun m hm=>h m (List.mem_cons_of_mem _ hm)) (At l n)
  have h2:=Cs l n
  have h3:=h n (List.mem_cons_self ..)
  show(Ea (At l n) ns).length<=_
  rw[List.length_cons,Nat.mul_succ]
  omega
theorem K1 (b:Nat) (p:Value) (V:Vec) (l:List UInt8) (wide num:Int) (h:BC b p V l) (ns:List (List UInt8)) (q:Option Addr) (cap:Nat) (hl:l.length+1000001*ns.length<=800000000) (hr: ∀n∈ns,n.length<=1000000)
  (Wb W:World) (hb0:Below Wb.heap.size Wb W) (hO:Go.Am.Own Wb.heap.size [Ad (wrL b p V l wide num)] W) (hA:AB 1 IH W q ns) (hne: ∀a,q=some a-> ∀x∈wrL b p V l wide num,x.1≠a.block) (hv:DM Wb) (ht:AZ Wb):
  A0 Tryz.prog Wb.heap.size 174 [Af b,slv q ns.length cap] W (wrL b p V l wide num) (fun _:Value×Vec=> .tuple #[]) (fun x=>BC b x.1 x.2 (Ea l ns)) (fun x=>wrL b x.1 x.2 (Ea l ns) wide (FT num ns)):=by
 refine A0.enterL (bs:=wrB b p V l wide num) (bs':=fun x:Value×Vec=>[Ad (wrL b x.1 x.2 (Ea l ns) wide (FT num ns))]) hb0 (M9 hO) (FC ..) (fun x=>Ap _) Tryz.func174 I I I ?_
 refine xb<|Ae I<|xa<|zH<|?_
 refine A6 (X:=Nat×Value×Vec) (fun x=>[(0,Af b),(7,slv q ns.length cap),(8, .int .i64 (ns.length:Nat)),(9, .int .i64 (x.1:Nat))]) (fun x=>Ad (Ay Wb.heap.size W (wrL b p V l wide num))::wrB b x.2.1 x.2.2 (Ea l (ns.take x.1)) wide (FT num (ns.take x.1)))
  (fun x=>x.1<=ns.length/\BC b x.2.1 x.2.2 (Ea l (ns.take x.1))) (fun x=>ns.length-x.1) (0,p,V) ⟨Nat.zero_le _,h⟩ ⟨rfl,rfl,rfl,rfl,trivial⟩ [] rfl ?_
 rintro⟨i,p1,V1⟩ ⟨hi,h1⟩
 have hi:i<=ns.length:=hi
 have h1:BC b p1 V1 (Ea l (ns.take i)):=h1
 refine xb<|wP I<|?_
 by_cases hlt:i<ns.length
 rotate_left
 ·have e:i=ns.length:=by omega
  subst e
  refine wU 10 false I (dF (by omega))<|xa<|zA<|zS I<|xf<|?_
  rw[List.take_length] at h1
  exact Cj tH I (p1,V1) I h1 fun W1 hp=>Mj (B:=Ad (Ay Wb.heap.size W (wrL b p V l wide num))) (by rw[List.take_length] at hp;exact hp.own)
 refine wU 10 true I (dT (by show(i:Int)<(ns.length:Nat);omega))<|xa<|zA<|zR I<|xh<|?_
 obtain⟨bq,off,rfl,hrow⟩:=hA.row hlt
 have hri:=hrow i hlt
 have hrn:=hr _ (List.getElem_mem hlt)
 have hS:Ea l (ns.take (i+1))=At (Ea l (ns.take i)) ns[i]:=E5 _ _ hlt
 have hW:FT num (ns.take (i+1))=if FT num (ns.take i)=0 then(rdR ns[i]).2 else FT num (ns.take i):=E5 _ _ hlt
 have hlen:=LT (m:=1000000) (fun n hn=>hr n (List.mem_of_mem_take hn)) l (ns:=ns.take i)
 rw[List.length_take,Nat.min_eq_left hi] at hlen
 obtain⟨n,hnn⟩: ∃n,n=ns[i]:=⟨_,rfl⟩
 rw[<-hnn] at hri hrn hS hW
 obtain⟨li,hli⟩: ∃x,x=Ea l (ns.take i):=⟨_,rfl⟩
 obtain⟨wi,hwi⟩: ∃x,x=FT num (ns.take i):=⟨_,rfl⟩
 rw[<-hli] at h1 hS hlen
 rw[<-hwi] at hW
 rw[<-hli, <-hwi]
 refine wJ ?_
 refine wL 0 I I (fun W1 hp=>(EL hb0 hp).row hri (hne _ I)) I<|wP I<|xa<|xd<|wP I<|wC I I (fun W1 hp=>GX n (by omega) W1 (hv.hp hp) (ht.hp hp))<|wP I<|xg<|wP I<|AE I I I I<|wP I<|wB 1 I I I<|wP I<|?_
 by_cases c1:wi=0
 ·refine wU 19 true I (beq_iff_eq.2 c1)<|xa<|zR I<|zB<|Aa I<|AE I I I I<|wP I<|wS 1 I I I<|zC<|?_
  have hW2:FT num (ns.take (i+1))=((rdR n).2):=by rw[hW];exact if_pos c1
  refine zE<|B2 [Ad (Ay Wb.heap.size W (wrL b p V l wide num)),Ad (wrL b p1 V1 li wide ((rdR n).2))] [0,1,2] (by decide) I (Df _ b p1 V1 li wide ((rdR n).2)) ?_
  refine zB<|Aa I<|Ah 1 (B:=Ad (wrL b p1 V1 li wide ((rdR n).2))) (X:=Vec) (fun V'=>Ad (wrL b (Af b) V' (At li n) wide ((rdR n).2))) I I I I I I (by kernel_rfl) I (fun _ _=>rfl) (fun W1 hp=>AV b p1 V1 li n wide ((rdR n).2) h1 (by omega) Wb W1 hp.below (hp.pick [1] (by decide) I).own) ?_
  intro V2 hV2
  refine zC<|xj<|wP I<|wV 27 ((i+1:Nat):Int) I (Az (by omega))<|wP I<|zC<|?_
  refine Ey (Ad (Ay Wb.heap.size W (wrL b p V l wide num))::wrB b (Af b) V2 (Ea l (ns.take (i+1))) wide (FT num (ns.take (i+1)))) [0,1] (by decide) I (by rw[hS,hW2];exact(Df _ b (Af b) V2 (At li n) wide ((rdR n).2)).symm) ?_
  exact Ax (i+1,Af b,V2) ⟨hlt,by show BC b (Af b) V2 (Ea l (ns.take (i+1)));rw[hS];exact hV2⟩ (by show ns.length-(i+1)<ns.length-i;omega) ⟨I,I,I,I,tO⟩ [] I
 ·refine wU 19 false I (beq_eq_false_iff_ne.2 c1)<|xa<|zS I<|zI<|zE<|?_
  have hW2:FT num (ns.take (i+1))=wi:=by rw[hW];exact if_neg c1
  refine B2 [Ad (Ay Wb.heap.size W (wrL b p V l wide num)),Ad (wrL b p1 V1 li wide wi)] [0,1,2] (by decide) I (Df _ b p1 V1 li wide wi) ?_
  refine zB<|Aa I<|Ah 1 (B:=Ad (wrL b p1 V1 li wide wi)) (X:=Vec) (fun V'=>Ad (wrL b (Af b) V' (At li n) wide wi)) I I I I I I (by kernel_rfl) I (fun _ _=>rfl) (fun W1 hp=>AV b p1 V1 li n wide wi h1 (by omega) Wb W1 hp.below (hp.pick [1] (by decide) I).own) ?_
  intro V2 hV2
  refine zC<|xj<|wP I<|wV 27 ((i+1:Nat):Int) I (Az (by omega))<|wP I<|zC<|?_
  refine Ey (Ad (Ay Wb.heap.size W (wrL b p V l wide num))::wrB b (Af b) V2 (Ea l (ns.take (i+1))) wide (FT num (ns.take (i+1)))) [0,1] (by decide) I (by rw[hS,hW2];exact(Df _ b (Af b) V2 (At li n) wide wi).symm) ?_
  exact Ax (i+1,Af b,V2) ⟨hlt,by show BC b (Af b) V2 (Ea l (ns.take (i+1)));rw[hS];exact hV2⟩ (by show ns.length-(i+1)<ns.length-i;omega) ⟨I,I,I,I,tO⟩ [] I
end
end Go.Proofs.YtidgbjcdppjknaaGreatDoor
