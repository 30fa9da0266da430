/-
  Lemmas that the theorem convexMass_upto_card needs (part 6 of 7).
-/
import Derived.Test.YthndmdimmgkpgaaGreatDoorCme
set_option maxHeartbeats 64000000
namespace Go.Proofs.YthndmdimmgkpgaaGreatDoor
section
open Go Go.RowKit Go.Am Go.Lib
set_option maxRecDepth 10000
-- BOXES 12
-- CODE2
theorem Rr {N:Nat} {D:List Deferred} {Q:Exit→Act→World→Prop} {ex:Exit} {env:Env} {W0:World} {bxs bxs':List Bx} (e:bxs=bxs') (h:NE N D Q ex env (Hp W0 bxs')):NE N D Q ex env (Hp W0 bxs):=e▸h
theorem VD:Ad 2=[50]:=(congrArg Ad (show(2:Rat)=q2 2 1 by decide+kernel)).trans ns2
theorem Wm:Ad 3=[51]:=(congrArg Ad (show(3:Rat)=q2 3 1 by decide+kernel)).trans ns3
structure Qn (p q:Ah):Prop where
 x:Sz2 p.1 q.2
 y:Sz2 q.1 p.2
 s:Sz2 (p.1*q.2) (q.1*p.2)
theorem Kl (c:Nat) (p q:Ah) (hz:Qn p q) (W:World) (hc:C9 W c) (hv:BU W) (ht:AO W):
  Aj Tryz.prog 46 #[Ai c,sdV p q] W (fun _:Unit=>str (Ad (Cn p q))) (fun _=>True) (fun _=>[]):=by
 refine Ac (args:=[Ai c,sdV p q]) Tryz.func46 I I I ?_
 refine zA (zB ?_)
 (refine A5 rfl rfl rfl rfl ?_;intro)
 refine wP I (Aa (zE (zA (zU (qP I ?_)))))
 refine B5 Tryz.underlying66 Tryz.sizeOf35 I I I I I ⟨by decide,by decide⟩ ?_
 refine qP I (qB 0 I I I ?_)
 refine B5 Tryz.underlying66 Tryz.sizeOf35 I I I I I ⟨by decide,by decide⟩ ?_
 refine qP I (qB 0 I I I (qC I I (fun W hp=>Cj c p.1 q.2 hz.x W (hc.hp hp) (hv.hp hp) (ht.hp hp)) (qP I ?_)))
 refine B5 Tryz.underlying66 Tryz.sizeOf35 I I I I I ⟨by decide,by decide⟩ ?_
 refine qP I (qB 0 I I I ?_)
 refine B5 Tryz.underlying66 Tryz.sizeOf35 I I I I I ⟨by decide,by decide⟩ ?_
 refine qP I (qB 0 I I I (qC I I (fun W hp=>Cj c q.1 p.2 hz.y W (hc.hp hp) (hv.hp hp) (ht.hp hp)) (qP I (qP I (AU (Aa (zE (zA (zB (wP I (wP I (wP I (wC I I (fun W hp=>CC c (p.1*q.2) (q.1*p.2) hz.s W (hc.hp hp) (hv.hp hp) (ht.hp hp)) ?_)))))))))))))
 exact wP I (Aa (zE (zO (wR1 I I I))))
def crK (l:List Ah) (k:Nat):Rat:=Bd (fun i=>Cn (Ae l i) (Ae l (i+1))) k
theorem Qr (l:List Ah) (k:Nat):crK l (k+1)=crK l k+Cn (Ae l k) (Ae l (k+1)):=rfl
structure ArZ (l:List Ah):Prop where
 d: ∀i,i<l.length→Qn (Ae l i) (Ae l (i+1))
 s: ∀i,i<l.length→Sz2 (crK l i) (Cn (Ae l i) (Ae l (i+1)))
 h:Sz2 (AS l) 2
abbrev caB (c:Nat):Bx:=⟨c,61,[.int .i64 0],true,none⟩
abbrev nuB (b:Nat) (q:Rat):Bx:=⟨b,23,[str (Ad q)],true,none⟩
theorem Hs (l:List Ah) (hz:ArZ l) (p:Option Addr) (cap:Nat) (W:World) (h:Gi W p l):
  Aj Tryz.prog 15 #[slv p l.length cap] W (fun _:Unit=> .tuple #[str (Ad (AS l/2)), .int .i64 0]) (fun _=>True) (fun _=>[]):=by
 have hn:=h.n
 refine Ac (args:=[slv p l.length cap]) Tryz.func15 I I I ?_
 refine zA (zB (wP I (wP I (Aa (zE (zA (zA (zB (wP I (wC I I (fun W1 hp=>FU l p cap W1 (h.hp hp)) (wP I (Aa (zE ?_)))))))))))))
 refine zA (zB (wP I (wP I (Aa (zE (zS I (zI (zE (zA (zB ?_))))))))))
 refine Ay Tryz.hZ tH I I I I I I I I ?_
 (refine A5 rfl rfl rfl rfl ?_;intro)
 (refine Ag Tryz.hZ rfl rfl rfl rfl ?_;intro)
 (refine Ag Tryz.hZ rfl rfl rfl rfl ?_;intro)
 refine wS 1 I I I (wS 2 I I I (Aa ?_))
 rename_i bC b5 b6
 refine Rr (bxs':=[caB bC,ckB b5 bC,nuB b6 (crK l 0)]) (by show _=[caB bC,ckB b5 bC,nuB b6 0];rw[nuB,CJ];rfl) ?_
 refine zE (zA (zA (zB (wP I ?_))))
 refine wD (X:=Nat) I I (fun W1 _=>DW p l.length cap W1) ?_
 intro bp _
 refine Aa (zE (zH ?_))
 refine Fp (X:=Nat) (fun k=>[caB bC,ckB b5 bC,nuB b6 (crK l k),lsB bp (slv p l.length cap)])
  (fun j x=>x=j) (fun _ _=>False) 0 rfl (by kernel_rfl) (EK l bp p cap (by omega)) (fun _=>rfl)
  rfl [] rfl (fun k x W1 _ hp=>⟨Ak.of_bx hp 3 rfl rfl,(h.hp hp).m⟩) ?_ ?_ (fun _ _ _ _ _ h=>h.elim)
 ·rintro k k' d l' rec L hk e1 hrec
  obtain rfl:k'=k:=e1
  have hk:k'<l.length:=hk
  have hsu:=Qr l k'
  refine zB ?_
  (refine Ag Tryz.hZ rfl rfl rfl rfl ?_;intro)
  refine wS 7 I I I (Aa ?_)
  rename_i b8
  refine Dc 6 hrec I ?_
  refine CF ?_
  refine Bb (X:=Unit) [true,true,true,true,true,true,false] (fun _=>[(5,Ai b5)]) (fun _=>[AP L,caB bC,ckB b5 bC,nuB b6 (crK l (k'+1)),lsB bp (slv p l.length cap),BD d,Bm l' rec .busy none])
   1 [AP L,caB bC,ckB b5 bC,nuB b6 (crK l k'),lsB bp (slv p l.length cap),BD d,Bm l' rec .busy none,⟨b8,66,(sdV (Ae l k') (Ae l (k'+1))).cells.toList,true,none⟩] Tryz.mixed (by kernel_rfl) ?_ ?_
  ·refine qB 2 I I I (qB 3 I I I (qB 2 I I I (qB 7 I I I (qC I I (fun W1 hp=>Kl bC (Ae l k') (Ae l (k'+1)) (hz.d k' hk) W1 (Bu hp 1 I) (h.hp hp).v (h.hp hp).t) (qC I I (fun W1 hp=>CD bC (crK l k') (Cn (Ae l k') (Ae l (k'+1))) (hz.s k' hk) W1 (Bu hp 1 I) (h.hp hp).v (h.hp hp).t) (Ck ?_))))))
   rw[←hsu]
   refine wX (wZ (wS 3 I I I (Aa (Ab ?_))))
   refine AN I (by kernel_rfl) ?_
   exact Ar () ⟨I,tO⟩ [0,1,2,3,4,5,6] (by decide) I
  intro _
  exact zN (Ct 6 (k'+1) hrec I I [] I)
 ·rintro k' d l' rec e1
  obtain rfl:k'=l.length:=e1
  refine zN (zE (zA (zA (zB (wB 1 I I I (wB 2 I I I (wC I I (fun W1 hp=>(by have:=GO bC (AS l) 2 hz.h (by decide) W1 (Bu hp 0 I) (h.hp hp).v (h.hp hp).t;rwa [VD] at this)) (wP I (Aa (zE (zA (zB (wB 1 I I I ?_)))))))))))))
  refine AL I I I I ?_
  refine wP I (wB 0 I I I (wP I (Aa (zE (zR I (zA (zB (wP I (wP I (wP I (Aa (zE (zO ?_)))))))))))))
  refine zP ?_
  refine CN 4 I ?_
  exact wR2 I I I
-- BOXES 12
-- CODE2
def moX (l:List Ah) (k:Nat):Rat:=Bd (fun i=>((Ae l i).1+(Ae l (i+1)).1)*Cn (Ae l i) (Ae l (i+1))) k
def moY (l:List Ah) (k:Nat):Rat:=Bd (fun i=>((Ae l i).2+(Ae l (i+1)).2)*Cn (Ae l i) (Ae l (i+1))) k
theorem TB (l:List Ah) (k:Nat):moX l (k+1)=moX l k+((Ae l k).1+(Ae l (k+1)).1)*Cn (Ae l k) (Ae l (k+1)):=rfl
theorem Ve (l:List Ah) (k:Nat):moY l (k+1)=moY l k+((Ae l k).2+(Ae l (k+1)).2)*Cn (Ae l k) (Ae l (k+1)):=rfl
structure CeZ (l:List Ah):Prop where
 d: ∀i,i<l.length→Qn (Ae l i) (Ae l (i+1))
 s: ∀i,i<l.length→Sz2 (crK l i) (Cn (Ae l i) (Ae l (i+1)))
 x1: ∀i,i<l.length→Sz2 (Ae l i).1 (Ae l (i+1)).1
 x2: ∀i,i<l.length→Sz2 ((Ae l i).1+(Ae l (i+1)).1) (Cn (Ae l i) (Ae l (i+1)))
 x3: ∀i,i<l.length→Sz2 (moX l i) (((Ae l i).1+(Ae l (i+1)).1)*Cn (Ae l i) (Ae l (i+1)))
 y1: ∀i,i<l.length→Sz2 (Ae l i).2 (Ae l (i+1)).2
 y2: ∀i,i<l.length→Sz2 ((Ae l i).2+(Ae l (i+1)).2) (Cn (Ae l i) (Ae l (i+1)))
 y3: ∀i,i<l.length→Sz2 (moY l i) (((Ae l i).2+(Ae l (i+1)).2)*Cn (Ae l i) (Ae l (i+1)))
 m:Sz2 3 (AS l)
 nz:(3*AS l).num≠0
 dx:Sz2 (CT l) (3*AS l)
 dy:Sz2 (Da l) (3*AS l)
abbrev ptB (b:Nat) (a c:List UInt8):Bx:=⟨b,35,[str a,str c],true,none⟩
theorem FY (l:List Ah) (hz:CeZ l) (p:Option Addr) (cap:Nat) (W:World) (h:Gi W p l):
  Aj Tryz.prog 35 #[slv p l.length cap] W (fun _:Unit=> .tuple #[.agg #[str (Ad (CT l/(3*AS l))),str (Ad (Da l/(3*AS l)))], .int .i64 0]) (fun _=>True) (fun _=>[]):=by
 have hn:=h.n
 refine Ac (args:=[slv p l.length cap]) Tryz.func35 I I I ?_
 refine zA (zB ?_)
 (refine Ag Tryz.hZ rfl rfl rfl rfl ?_;intro)
 refine wP I (Aa ?_)
 rename_i b2
 refine zE (zA (zA (zB (wP I (wC I I (fun W1 hp=>FU l p cap W1 (h.hp hp)) (wP I (Aa (zE (zA (zB (wP I (wP I (Aa ?_)))))))))))))
 refine zE (zS I (zI (zE (zA (zB ?_)))))
 refine Ay Tryz.hZ tH I I I I I I I I ?_
 (refine A5 rfl rfl rfl rfl ?_;intro)
 (refine Ag Tryz.hZ rfl rfl rfl rfl ?_;intro)
 refine wS 2 I I I (Aa ?_)
 rename_i bC b5
 refine zE (zA (zB ?_))
 (refine Ag Tryz.hZ rfl rfl rfl rfl ?_;intro)
 (refine Ag Tryz.hZ rfl rfl rfl rfl ?_;intro)
 (refine Ag Tryz.hZ rfl rfl rfl rfl ?_;intro)
 refine wS 3 I I I (wS 4 I I I (wS 5 I I I (Aa ?_)))
 rename_i b6 b7 b8
 refine Rr (bxs':=[ptB b2 [] [],caB bC,ckB b5 bC,nuB b6 (moX l 0),nuB b7 (moY l 0),nuB b8 (crK l 0)]) (by show _=[ptB b2 [] [],caB bC,ckB b5 bC,nuB b6 0,nuB b7 0,nuB b8 0];rw[nuB,nuB,nuB,CJ];rfl) ?_
 refine zE (zA (zA (zB (wP I ?_))))
 refine wD (X:=Nat) I I (fun W1 _=>DW p l.length cap W1) ?_
 intro bp _
 refine Aa (zE (zH ?_))
 refine Fp (X:=Nat) (fun k=>[ptB b2 [] [],caB bC,ckB b5 bC,nuB b6 (moX l k),nuB b7 (moY l k),nuB b8 (crK l k),lsB bp (slv p l.length cap)])
  (fun j x=>x=j) (fun _ _=>False) 0 rfl (by kernel_rfl) (EK l bp p cap (by omega)) (fun _=>rfl)
  rfl [] rfl (fun k x W1 _ hp=>⟨Ak.of_bx hp 6 rfl rfl,(h.hp hp).m⟩) ?_ ?_ (fun _ _ _ _ _ h=>h.elim)
 ·rintro k k' d l' rec L hk e1 hrec
  obtain rfl:k'=k:=e1
  have hk:k'<l.length:=hk
  have hsu:=Qr l k'
  have hsx:=TB l k'
  have hsy:=Ve l k'
  refine zB ?_
  (refine Ag Tryz.hZ rfl rfl rfl rfl ?_;intro)
  refine wS 10 I I I (Aa ?_)
  rename_i b10
  refine Dc 9 hrec I ?_
  refine CF (zA (zB (wB 3 I I I (wB 10 I I I (wC I I (fun W1 hp=>Kl bC (Ae l k') (Ae l (k'+1)) (hz.d k' hk) W1 (Bu hp 2 I) (h.hp hp).v (h.hp hp).t) (wP I (Aa (zE (A0 ?_)))))))))
  refine Bb (X:=Unit) [true,true,true,true,true,true,true,true,true,true,true,true,true,true,false] (fun _=>[(5,Ai b5),(6,Ai b6),(7,Ai b7),(8,Ai b8),(10,Ai b10),(11,str (Ad (Cn (Ae l k') (Ae l (k'+1)))))]) (fun _=>[AP L,ptB b2 [] [],caB bC,ckB b5 bC,nuB b6 (moX l (k'+1)),nuB b7 (moY l k'),nuB b8 (crK l k'),lsB bp (slv p l.length cap),BD d,Bm l' rec .busy none,⟨b10,66,(sdV (Ae l k') (Ae l (k'+1))).cells.toList,true,none⟩])
   1 [AP L,ptB b2 [] [],caB bC,ckB b5 bC,nuB b6 (moX l k'),nuB b7 (moY l k'),nuB b8 (crK l k'),lsB bp (slv p l.length cap),BD d,Bm l' rec .busy none,⟨b10,66,(sdV (Ae l k') (Ae l (k'+1))).cells.toList,true,none⟩] Tryz.mixed (by kernel_rfl) ?_ ?_
  ·refine qB 3 I I I (qB 4 I I I (qB 3 I I I (qB 3 I I I ?_)))
   refine B5 Tryz.underlying66 Tryz.sizeOf35 I I I I I ⟨by decide,by decide⟩ ?_
   refine qP I (qB 10 I I I ?_)
   refine B5 Tryz.underlying66 Tryz.sizeOf35 I I I I I ⟨by decide,by decide⟩ ?_
   refine qP I (qB 10 I I I (qC I I (fun W1 hp=>CD bC (Ae l k').1 (Ae l (k'+1)).1 (hz.x1 k' hk) W1 (Bu hp 2 I) (h.hp hp).v (h.hp hp).t) (qP I (qC I I (fun W1 hp=>Cj bC ((Ae l k').1+(Ae l (k'+1)).1) (Cn (Ae l k') (Ae l (k'+1))) (hz.x2 k' hk) W1 (Bu hp 2 I) (h.hp hp).v (h.hp hp).t) (qC I I (fun W1 hp=>CD bC (moX l k') _ (hz.x3 k' hk) W1 (Bu hp 2 I) (h.hp hp).v (h.hp hp).t) (Ck ?_))))))
   rw[←hsx]
   refine wX (wZ (wS 4 I I I (Aa (Ab ?_))))
   refine AN I (by kernel_rfl) ?_
   exact Ar () ⟨I,I,I,I,I,I,tO⟩ [0,1,2,3,4,5,6,7,8,9,10] (by decide) I
  intro _
  refine zE (A0 ?_)
  refine Bb (X:=Unit) [true,true,true,true,true,true,true,true,true,true,true,true,true,true,false] (fun _=>[(5,Ai b5),(8,Ai b8),(11,str (Ad (Cn (Ae l k') (Ae l (k'+1)))))]) (fun _=>[AP L,ptB b2 [] [],caB bC,ckB b5 bC,nuB b6 (moX l (k'+1)),nuB b7 (moY l (k'+1)),nuB b8 (crK l k'),lsB bp (slv p l.length cap),BD d,Bm l' rec .busy none])
   1 [AP L,ptB b2 [] [],caB bC,ckB b5 bC,nuB b6 (moX l (k'+1)),nuB b7 (moY l k'),nuB b8 (crK l k'),lsB bp (slv p l.length cap),BD d,Bm l' rec .busy none,⟨b10,66,(sdV (Ae l k') (Ae l (k'+1))).cells.toList,true,none⟩] Tryz.mixed (by kernel_rfl) ?_ ?_
  ·refine qB 3 I I I (qB 5 I I I (qB 3 I I I (qB 3 I I I ?_)))
   refine B5 Tryz.underlying66 Tryz.sizeOf35 I I I I I ⟨by decide,by decide⟩ ?_
   refine qP I (qB 10 I I I ?_)
   refine B5 Tryz.underlying66 Tryz.sizeOf35 I I I I I ⟨by decide,by decide⟩ ?_
   refine qP I (qB 10 I I I (qC I I (fun W1 hp=>CD bC (Ae l k').2 (Ae l (k'+1)).2 (hz.y1 k' hk) W1 (Bu hp 2 I) (h.hp hp).v (h.hp hp).t) (qP I (qC I I (fun W1 hp=>Cj bC ((Ae l k').2+(Ae l (k'+1)).2) (Cn (Ae l k') (Ae l (k'+1))) (hz.y2 k' hk) W1 (Bu hp 2 I) (h.hp hp).v (h.hp hp).t) (qC I I (fun W1 hp=>CD bC (moY l k') _ (hz.y3 k' hk) W1 (Bu hp 2 I) (h.hp hp).v (h.hp hp).t) (Ck ?_))))))
   rw[←hsy]
   refine wX (wZ (wS 5 I I I (Aa (Ab ?_))))
   refine AN I (by kernel_rfl) ?_
   exact Ar () ⟨I,I,I,tO⟩ [0,1,2,3,4,5,6,7,8,9] (by decide) I
  intro _
  refine zE (zB (wB 3 I I I (wB 6 I I I (wP I (wC I I (fun W1 hp=>CD bC (crK l k') (Cn (Ae l k') (Ae l (k'+1))) (hz.s k' hk) W1 (Bu hp 2 I) (h.hp hp).v (h.hp hp).t) ?_)))))
  rw[←hsu]
  exact wS 6 I I I (Aa (zN (Ct 9 (k'+1) hrec I I [] I)))
 ·rintro k' d l' rec e1
  obtain rfl:k'=l.length:=e1
  have ec:crK l l.length=AS l:=rfl
  have ex:moX l l.length=CT l:=rfl
  have ey:moY l l.length=Da l:=rfl
  rw[ec,ex,ey]
  refine zN (zE (zA (zB (wB 2 I I I (wB 5 I I I (wC I I (fun W1 hp=>(by have:=Cj bC 3 (AS l) hz.m W1 (Bu hp 1 I) (h.hp hp).v (h.hp hp).t;rwa [Wm] at this)) (wS 5 I I I (Aa (zE (A0 ?_))))))))))
  refine Bb (X:=Nat) [true,true,true,true,true,true,true,true,true,false,false] (fun b=>[(2,Ai b2),(5,Ai b5),(12,Ai b)]) (fun b=>[ptB b2 [] [],caB bC,ckB b5 bC,BD d,ptB b (Ad (CT l/(3*AS l))) (Ad (Da l/(3*AS l)))])
   2 [ptB b2 [] [],caB bC,ckB b5 bC,nuB b6 (CT l),nuB b7 (Da l),nuB b8 (3*AS l),lsB bp (slv p l.length cap),BD d,Bm l' rec .exhausted none] Tryz.mixed (by kernel_rfl) ?_ ?_
  ·refine qB 2 I I I (qB 3 I I I (qB 5 I I I (qC I I (fun W1 hp=>GO bC (CT l) (3*AS l) hz.dx hz.nz W1 (Bu hp 1 I) (h.hp hp).v (h.hp hp).t) (qB 2 I I I (qB 4 I I I (qB 5 I I I (qC I I (fun W1 hp=>GO bC (Da l) (3*AS l) hz.dy hz.nz W1 (Bu hp 1 I) (h.hp hp).v (h.hp hp).t) ?_)))))))
   refine Il Tryz.hZ tH I I I I I I I I ?_
   refine Ck (wX (wZ ?_))
   refine Ag Tryz.hZ rfl rfl rfl rfl ?_;intro b
   refine Aa (Ab (wX (wZ (wS 9 I I I (Aa (Ab ?_))))))
   refine A8 I (by((repeat (first|refine AC.same ?_|refine AC.off I ?_));exact tO)) ?_
   exact Ar b ⟨I,I,I,tO⟩ [0,1,2,7,9] (by decide) I
  intro b12
  refine zE (zA (zA (zB (wB 2 I I I ?_))))
  refine AL I I I I ?_
  refine wP I (wB 1 I I I (wP I (Aa (zE (zS I (zI (zE (zA (zB (wB 4 I I I (wS 0 I I I (wP I (Aa ?_)))))))))))))
  refine zE (zO ?_)
  refine CN 3 I ?_
  exact AI tH I (.cell 0 I I I I I) (.tmp I) () I tO fun W _=>As.nil _ _
-- BOXES 3
-- CODE2
section
variable {P:Program} {W0:World} {N:Nat} {D:List Deferred} {ops:List Oper} {o:Oper} {rest:List Oper} {env:Env} {bxs:List Bx} {A2:World→Prop} {R:Act→World→Prop}
theorem Te {ρ:Operand→Value} {c:Call} {f:Operand} {g:Nat} {first vs:List Value} {W:World} (ho:o.op= .call c) (hc:c.callee= .value f) (hf:ρ f= .func (.func g) first.toArray #[]) (ha:c.args.map ρ=vs.toArray) (hE:Bg P g=true):
  (execOp ρ o).run P W= .ok (.enter g (first++vs).toArray) W:=by
 simp only[execOp,ho,resolve,hc,hf,ha,Sem.run_bind,Deferred.ofValue,Sem.run_pure,Result.andThen_ok,invoke,FL hE]
 simp
theorem Qd {c:Call} {f:Operand} {g d:Nat} {first vs:List Value} {v:Value}
  (hg:A7 ops N env o=some true) (hd:o.dst=some d) (ho:o.op= .call c) (hc:c.callee= .value f) (hf:evO N env f=some (.func (.func g) first.toArray #[])) (ha:Cq (evO N env) c.args.toList=some vs) (hE:Bg P g=true)
  (hC: ∀W,Hp W0 bxs W→Aj P g (first++vs).toArray W (fun _:Unit=>v) (fun _=>True) (fun _=>[]))
  (h:WQ P N D ops A2 R rest ((d,v)::env) (Hp W0 bxs)):WQ P N D ops A2 R (o::rest) env (Hp W0 bxs):=
 KS hd (fun a W h1 _ hp=>by
  unfold OpS
  rw[DI h1 hg,if_pos rfl]
  refine⟨fun c e=>(by rw[ho] at e;cases e), .inr ⟨g,_,Te ho hc (AE h1 _ _ hf) (Fb (AE h1) ha) hE,(hC W hp).out.mono ?_⟩⟩
  rintro e W' ⟨x,he,_,hb,_⟩
  exact⟨he,hp.grow hb,hb⟩) h
end
theorem Mt (x:Nat) (h:x≤18446744073709551615) (W:World):Aj Tryz.prog 134 #[.int .u64 (x:Nat)] W (fun _:Unit=> .int .i64 (Lib.bitLen x)) (fun _=>True) (fun _=>[]):=by
 refine Aj.of1 ((Go.Proofs.Any.bits_Len (P:=Tryz.prog) (ρ:=Tryz.lays125_ren) { Tryz.lays125 with } (x:Int) W (by omega) (by omega)).mono ?_)
 rintro e w' ⟨rfl,rfl⟩
 exact⟨I,Below.refl _ _⟩
def Ed (x y:Ah):List Ah:=if Ca y x=true then[y,x] else[x,y]
abbrev lsF (c:Nat):Value:= .func (.func 71) #[Ai c] #[]
abbrev Bs (g:Nat) (l:List Ah) (junk:List Value):Bx:=⟨g,35,ptC l++junk,true,none⟩
theorem T7 {W0 W:World} {bxs:List Bx} (hp:Hp W0 bxs W) (k:Nat) {g:Nat} {x y:Ah} {junk:List Value} (hk:nth bxs k=some (Bs g [x,y] junk)):Ak W g (0+0*2) [str (Ad x.1),str (Ad x.2)]:=
 Cz (a:=[str (Ad x.1),str (Ad x.2)]) (b:=[str (Ad y.1),str (Ad y.2)]++junk) (Ak.of_bx hp k hk rfl)
theorem Vb {W0 W:World} {bxs:List Bx} (hp:Hp W0 bxs W) (k:Nat) {g:Nat} {x y:Ah} {junk:List Value} (hk:nth bxs k=some (Bs g [x,y] junk)):Ak W g (0+1*2) [str (Ad y.1),str (Ad y.2)]:=
 Cz (a:=[str (Ad y.1),str (Ad y.2)]) (b:=junk) (HT (a:=[str (Ad x.1),str (Ad x.2)]) (b:=[str (Ad y.1),str (Ad y.2)]++junk) (Ak.of_bx hp k hk rfl))
structure SrN (c g:Nat) (x y:Ah) (W:World):Prop where
 k: ∀W',Gd W W' g→C9 W' c∧BU W'∧AO W'
 s1:Sz2 y.1 x.1
 s2:Sz2 y.2 x.2
theorem SrN.trans {c g:Nat} {x y:Ah} {W W':World} (h:SrN c g x y W) (hk:Gd W W' g):SrN c g x y W':=⟨fun W2 h2=>h.k W2 (hk.trans h2),h.s1,h.s2⟩
theorem Rs (c:Nat) (W:World) (g cap:Nat) (x y:Ah) (junk:List Value) (hg:W.heap[g]? =some (.cells (ptC [x,y]++junk).toArray 35 (0,0))) (h:SrN c g x y W):
  Calls Tryz.prog 181 #[.slice (some ⟨g,0,none⟩) 2 cap, .int .i64 0, .int .i64 2,lsF c] W fun e W'=> ∃x1:Unit,e= .returned ((fun _=> .tuple #[]) x1)∧True∧Jo W W' g ((fun _=>g) x1) ((fun _=> .cells (ptC (Ed x y)++junk).toArray 35 (0,0)) x1):=by
 have key:Calls Tryz.prog 181 [.slice (some ⟨g,0,none⟩) 2 cap, .int .i64 0, .int .i64 2,lsF c].toArray W fun e W'=> ∃x1:Unit,e= .returned ((fun _=> .tuple #[]) x1)∧(fun _=>True) x1∧Below (AY W).heap.size (AY W) W'∧As (AY W) W' ((fun _=>[AP (At W g),Bs g (Ed x y) junk]) x1):=by
  refine BR (X:=Unit) (val:=fun _=> .tuple #[]) (Φ:=fun _=>True) (nb:=fun _=>[AP (At W g),Bs g (Ed x y) junk]) (Hp.enterT (B:=Bs g [x,y] junk) I hg) Tryz.func181 I I I ?_
  refine zA (zB (wP I (wP I (wP I (Aa (zE (zH ?_)))))))
  refine AA (X:=Bool) (fun b=>[(0, .slice (some ⟨g,0,none⟩) 2 cap),(1, .int .i64 0),(2, .int .i64 2),(3,lsF c),(8, .int .i64 (if b then 2 else 1))]) (fun b=>[AP (At W g),Bs g (if b then Ed x y else[x,y]) junk]) (fun _=>True) (fun b=>if b then 0 else 1) false tO ⟨I,I,I,I,I,tO⟩ [] I ?_
  intro b _
  cases b with
  |true=>
   exact zA (zA (zB (wP I (wP I (wP I (Aa (zE (zS I (zJ (zK (zK (zL (KL (X:=Unit) (val:=fun _=> .tuple #[]) (Φ:=fun _=>True) (nb:=fun _=>[AP (At W g),Bs g (Ed x y) junk]) (fn:=Tryz.f181) tH I () I tO fun W1 hp=>(hp.pick (l:=[AP (At W g),Bs g (Ed x y) junk]) [0,1] (by decide) I).own)))))))))))))
  |false=>
   refine zA (zA (zB (wP I (wP I (wP I (Aa (zE (zR I (zI (zE (zA (zH (zA ?_)))))))))))))
   refine zB (wP I (wP I (Aa (zE (zH ?_)))))
   refine AA (X:=Bool) (fun b=>[(0, .slice (some ⟨g,0,none⟩) 2 cap),(1, .int .i64 0),(2, .int .i64 2),(3,lsF c),(8, .int .i64 1),(9, .int .i64 (if b then 0 else 1))]) (fun b=>[AP (At W g),Bs g (if b then[y,x] else[x,y]) junk]) (fun b=>b=true→Ca y x=true) (fun b=>if b then 0 else 1) false (fun h=>by cases h) ⟨rfl,rfl,rfl,rfl,rfl,rfl,trivial⟩ [] rfl ?_
   intro b hb
   cases b with
   |true=>
    have hlt:=hb rfl
    have e:Ed x y=[y,x]:=by unfold Ed;rw[if_pos hlt]
    refine zA (zA (zU (qP I (qP I (qP I (qP I ?_))))))
    iterate 12 refine Ib I I ?_
    refine qP I (AU (Aa (zE (zS I (zJ (zK (zK (zL (zN (zE (zB (wP I (wP I (wP I ?_))))))))))))))
    exact Aa (A6 true tO (by decide) ⟨I,I,I,I,I,tO⟩ [] (by show _=[AP (At W g),Bs g (Ed x y) junk];rw[e];rfl))
   |false=>
    refine zA (zA (zU ?_))
    iterate 7 refine qP I ?_
    refine qI I I (by decide) (by decide) (qL 0 I I (fun W1 hp=>Vb hp 1 I) I (qP I (qP I (qP I (qI I I (by decide) (by decide) (qL 0 I I (fun W1 hp=>T7 hp 1 I) I ?_))))))
    refine Qd (first:=[Ai c]) I I I I I I (by kernel_rfl) (fun W1 hp=>(by
     obtain⟨hc,hv,ht⟩:=h.k W1 (FM hg ⟨_,List.mem_cons_self ..⟩ hp)
     exact Kv c y x h.s1 h.s2 W1 hc hv ht)) ?_
    refine qP I (qU 33 (Ca y x) I (O9 y x) ?_)
    cases hlt:Ca y x with
    |false=>
     have e:Ed x y=[x,y]:=by unfold Ed;rw[hlt];rfl
     refine qP I (AU (Aa (zE (zS I (zJ (zK (zK (zL (zN (zE (zB (wP I (wP I (wP I ?_))))))))))))))
     exact Aa (A6 true tO (by decide) ⟨I,I,I,I,I,tO⟩ [] (by show _=[AP (At W g),Bs g (Ed x y) junk];rw[e];rfl))
    |true=>
     refine qP I (AU (Aa (zE (zR I (zI (zE (A0 (CF ?_))))))))
     repeat refine A0 ?_
     refine Bb (X:=Unit) [true,true,false,false,false,true,true,true,true,true,true,true,true,true,true,false,false,false] (fun _=>[(0, .slice (some ⟨g,0,none⟩) 2 cap),(1, .int .i64 0),(2, .int .i64 2),(3,lsF c),(8, .int .i64 1),(9, .int .i64 1)]) (fun _=>[AP (At W g),Bs g [y,x] junk])
      6 [AP (At W g),Bs g [x,y] junk] Tryz.mixed (by kernel_rfl) ?_ ?_
     ·refine qP I (qP I (qP I (qP I (qP I (qI I I (by decide) (by decide) (qL 0 I I (fun W1 hp=>T7 hp 1 I) I (qP I (qP I (qI I I (by decide) (by decide) (qL 0 I I (fun W1 hp=>Vb hp 1 I) I (qI I I (by decide) (by decide) (Ck (wX ?_)))))))))))))
      refine RS.cons ?_ (RS.cons ?_ (RS.cons ?_ (RS.nil)))
      ·refine wP I (Aa (Ab (wX ?_)))
       refine RS.cons ?_ (RS.cons ?_ (RS.nil))
       ·refine wP I (Aa (Ab (wX ?_)))
        refine RS.cons ?_ (RS.cons ?_ (RS.nil))
        ·refine wP I (Aa (Ab (wX (wZ ?_))))
         refine Aw 1 (ptC [x,x]++junk) tH I I I I I I I I I I (by show 0+1*2+2≤(ptC [x,y]++junk).length;rw[List.length_append,AQ];show 4≤4+_;omega) I ?_
         refine Aa (Ab (wY (wZ (wI I I (by decide) (by decide) (Aa (Ab (wY (wZ ?_))))))))
         refine Aw 1 (ptC [y,x]++junk) tH I I I I I I I I I I (by show 0+0*2+2≤(ptC [x,x]++junk).length;rw[List.length_append,AQ];show 2≤4+_;omega) I ?_
         refine Aa (Ab ?_)
         refine AN I (by kernel_rfl) ?_
         exact Ar () ⟨I,I,I,I,I,I,tO⟩ [0,1] (by decide) I
        ·refine Aw 1 (ptC [x,x]++junk) tH I I I I I I I I I I (by show 0+1*2+2≤(ptC [x,y]++junk).length;rw[List.length_append,AQ];show 4≤4+_;omega) I ?_
         refine Aa (Ab (wY (wZ (wP I (Aa (Ab (wY (wZ (wI I I (by decide) (by decide) (Aa (Ab (wY (wZ ?_)))))))))))))
         refine Aw 1 (ptC [y,x]++junk) tH I I I I I I I I I I (by show 0+0*2+2≤(ptC [x,x]++junk).length;rw[List.length_append,AQ];show 2≤4+_;omega) I ?_
         refine Aa (Ab ?_)
         refine AN I (by kernel_rfl) ?_
         exact Ar () ⟨I,I,I,I,I,I,tO⟩ [0,1] (by decide) I
       ·refine Aw 1 (ptC [x,x]++junk) tH I I I I I I I I I I (by show 0+1*2+2≤(ptC [x,y]++junk).length;rw[List.length_append,AQ];show 4≤4+_;omega) I ?_
        refine Aa (Ab (wY (wZ (wP I (Aa (Ab (wY (wZ (wP I (Aa (Ab (wY (wZ ?_)))))))))))))
        refine wI I I (by decide) (by decide) (Aa (Ab (wY (wZ ?_))))
        refine Aw 1 (ptC [y,x]++junk) tH I I I I I I I I I I (by show 0+0*2+2≤(ptC [x,x]++junk).length;rw[List.length_append,AQ];show 2≤4+_;omega) I ?_
        refine Aa (Ab ?_)
        refine AN I (by kernel_rfl) ?_
        exact Ar () ⟨I,I,I,I,I,I,tO⟩ [0,1] (by decide) I
      ·refine wP I (Aa (Ab (wX ?_)))
       refine RS.cons ?_ (RS.cons ?_ (RS.cons ?_ (RS.nil)))
       ·refine wP I (Aa (Ab (wX ?_)))
        refine RS.cons ?_ (RS.cons ?_ (RS.nil))
        ·refine wP I (Aa (Ab (wX (wZ ?_))))
         refine Aw 1 (ptC [x,x]++junk) tH I I I I I I I I I I (by show 0+1*2+2≤(ptC [x,y]++junk).length;rw[List.length_append,AQ];show 4≤4+_;omega) I ?_
         refine Aa (Ab (wY (wZ (wI I I (by decide) (by decide) (Aa (Ab (wY (wZ ?_))))))))
         refine Aw 1 (ptC [y,x]++junk) tH I I I I I I I I I I (by show 0+0*2+2≤(ptC [x,x]++junk).length;rw[List.length_append,AQ];show 2≤4+_;omega) I ?_
         refine Aa (Ab ?_)
         refine AN I (by kernel_rfl) ?_
         exact Ar () ⟨I,I,I,I,I,I,tO⟩ [0,1] (by decide) I
        ·refine Aw 1 (ptC [x,x]++junk) tH I I I I I I I I I I (by show 0+1*2+2≤(ptC [x,y]++junk).length;rw[List.length_append,AQ];show 4≤4+_;omega) I ?_
         refine Aa (Ab (wY (wZ (wP I (Aa (Ab (wY (wZ (wI I I (by decide) (by decide) (Aa (Ab (wY (wZ ?_)))))))))))))
         refine Aw 1 (ptC [y,x]++junk) tH I I I I I I I I I I (by show 0+0*2+2≤(ptC [x,x]++junk).length;rw[List.length_append,AQ];show 2≤4+_;omega) I ?_
         refine Aa (Ab ?_)
         refine AN I (by kernel_rfl) ?_
         exact Ar () ⟨I,I,I,I,I,I,tO⟩ [0,1] (by decide) I
       ·refine wP I (Aa (Ab (wX ?_)))
        refine RS.cons ?_ (RS.cons ?_ (RS.nil))
        ·refine wP I (Aa (Ab (wX (wZ ?_))))
         refine Aw 1 (ptC [x,x]++junk) tH I I I I I I I I I I (by show 0+1*2+2≤(ptC [x,y]++junk).length;rw[List.length_append,AQ];show 4≤4+_;omega) I ?_
         refine Aa (Ab (wY (wZ (wI I I (by decide) (by decide) (Aa (Ab (wY (wZ ?_))))))))
         refine Aw 1 (ptC [y,x]++junk) tH I I I I I I I I I I (by show 0+0*2+2≤(ptC [x,x]++junk).length;rw[List.length_append,AQ];show 2≤4+_;omega) I ?_
         refine Aa (Ab ?_)
         refine AN I (by kernel_rfl) ?_
         exact Ar () ⟨I,I,I,I,I,I,tO⟩ [0,1] (by decide) I
        ·refine Aw 1 (ptC [x,x]++junk) tH I I I I I I I I I I (by show 0+1*2+2≤(ptC [x,y]++junk).length;rw[List.length_append,AQ];show 4≤4+_;omega) I ?_
         refine Aa (Ab (wY (wZ (wP I (Aa (Ab (wY (wZ (wI I I (by decide) (by decide) (Aa (Ab (wY (wZ ?_)))))))))))))
         refine Aw 1 (ptC [y,x]++junk) tH I I I I I I I I I I (by show 0+0*2+2≤(ptC [x,x]++junk).length;rw[List.length_append,AQ];show 2≤4+_;omega) I ?_
         refine Aa (Ab ?_)
         refine AN I (by kernel_rfl) ?_
         exact Ar () ⟨I,I,I,I,I,I,tO⟩ [0,1] (by decide) I
       ·refine Aw 1 (ptC [x,x]++junk) tH I I I I I I I I I I (by show 0+1*2+2≤(ptC [x,y]++junk).length;rw[List.length_append,AQ];show 4≤4+_;omega) I ?_
        refine Aa (Ab (wY ?_))
        refine RS.cons ?_ (RS.cons ?_ (RS.nil))
        ·refine wP I (Aa (Ab (wY (wZ (wP I (Aa (Ab (wY (wZ (wI I I (by decide) (by decide) (Aa (Ab (wY ?_)))))))))))))
         refine wZ ?_
         refine Aw 1 (ptC [y,x]++junk) tH I I I I I I I I I I (by show 0+0*2+2≤(ptC [x,x]++junk).length;rw[List.length_append,AQ];show 2≤4+_;omega) I ?_
         refine Aa (Ab ?_)
         refine AN I (by kernel_rfl) ?_
         exact Ar () ⟨I,I,I,I,I,I,tO⟩ [0,1] (by decide) I
        ·refine wP I (Aa (Ab (wY (wZ (wP I (Aa (Ab (wY (wZ (wI I I (by decide) (by decide) (Aa (Ab (wY ?_)))))))))))))
         refine wZ ?_
         refine Aw 1 (ptC [y,x]++junk) tH I I I I I I I I I I (by show 0+0*2+2≤(ptC [x,x]++junk).length;rw[List.length_append,AQ];show 2≤4+_;omega) I ?_
         refine Aa (Ab ?_)
         refine AN I (by kernel_rfl) ?_
         exact Ar () ⟨I,I,I,I,I,I,tO⟩ [0,1] (by decide) I
      ·refine Aw 1 (ptC [x,x]++junk) tH I I I I I I I I I I (by show 0+1*2+2≤(ptC [x,y]++junk).length;rw[List.length_append,AQ];show 4≤4+_;omega) I ?_
       refine Aa (Ab (wY ?_))
       refine RS.cons ?_ (RS.cons ?_ (RS.nil))
       ·refine wP I (Aa (Ab (wY (wZ (wP I (Aa (Ab (wY (wZ (wP I (Aa (Ab (wY ?_)))))))))))))
        refine wZ (wI I I (by decide) (by decide) (Aa (Ab (wY (wZ ?_)))))
        refine Aw 1 (ptC [y,x]++junk) tH I I I I I I I I I I (by show 0+0*2+2≤(ptC [x,x]++junk).length;rw[List.length_append,AQ];show 2≤4+_;omega) I ?_
        refine Aa (Ab ?_)
        refine AN I (by kernel_rfl) ?_
        exact Ar () ⟨I,I,I,I,I,I,tO⟩ [0,1] (by decide) I
       ·refine wP I (Aa (Ab (wY ?_)))
        refine RS.cons ?_ (RS.cons ?_ (RS.nil))
        ·refine wP I (Aa (Ab (wY (wZ (wP I (Aa (Ab (wY (wZ (wI I I (by decide) (by decide) (Aa (Ab (wY ?_)))))))))))))
         refine wZ ?_
         refine Aw 1 (ptC [y,x]++junk) tH I I I I I I I I I I (by show 0+0*2+2≤(ptC [x,x]++junk).length;rw[List.length_append,AQ];show 2≤4+_;omega) I ?_
         refine Aa (Ab ?_)
         refine AN I (by kernel_rfl) ?_
         exact Ar () ⟨I,I,I,I,I,I,tO⟩ [0,1] (by decide) I
        ·refine wP I (Aa (Ab (wY (wZ (wP I (Aa (Ab (wY (wZ (wI I I (by decide) (by decide) (Aa (Ab (wY ?_)))))))))))))
         refine wZ ?_
         refine Aw 1 (ptC [y,x]++junk) tH I I I I I I I I I I (by show 0+0*2+2≤(ptC [x,x]++junk).length;rw[List.length_append,AQ];show 2≤4+_;omega) I ?_
         refine Aa (Ab ?_)
         refine AN I (by kernel_rfl) ?_
         exact Ar () ⟨I,I,I,I,I,I,tO⟩ [0,1] (by decide) I
     intro _
     exact zN (zE (zB (wP I (wP I (wP I (Aa (A6 true (fun _=>rfl) (by decide) ⟨I,I,I,I,I,I,tO⟩ [] I)))))))
 refine key.mono ?_
 rintro e W' ⟨x1,he,_,hb,hn'⟩
 exact⟨x1,he,tO,EB hg I hb hn'⟩
theorem QI (c:Nat) (W:World) (g cap:Nat) (x y:Ah) (junk:List Value) (z:Int) (hg:W.heap[g]? =some (.cells (ptC [x,y]++junk).toArray 35 (0,0))) (h:SrN c g x y W):
  Calls Tryz.prog 133 #[.slice (some ⟨g,0,none⟩) 2 cap, .int .i64 0, .int .i64 2, .int .i64 z,lsF c] W fun e W'=> ∃x1:Unit,e= .returned ((fun _=> .tuple #[]) x1)∧True∧Jo W W' g ((fun _=>g) x1) ((fun _=> .cells (ptC (Ed x y)++junk).toArray 35 (0,0)) x1):=by
 have key:Calls Tryz.prog 133 [.slice (some ⟨g,0,none⟩) 2 cap, .int .i64 0, .int .i64 2, .int .i64 z,lsF c].toArray W fun e W'=> ∃x1:Unit,e= .returned ((fun _=> .tuple #[]) x1)∧(fun _=>True) x1∧Below (AY W).heap.size (AY W) W'∧As (AY W) W' ((fun _=>[AP (At W g),Bs g (Ed x y) junk]) x1):=by
  refine BR (X:=Unit) (val:=fun _=> .tuple #[]) (Φ:=fun _=>True) (nb:=fun _=>[AP (At W g),Bs g (Ed x y) junk]) (Hp.enterT (B:=Bs g [x,y] junk) I hg) Tryz.func133 I I I ?_
  refine zA (zB (wP I (Aa (zE (zA (zB (wP I (Aa (zE (zH ?_))))))))))
  refine AA (X:=Unit) (fun _=>[(0, .slice (some ⟨g,0,none⟩) 2 cap),(1, .int .i64 0),(2, .int .i64 2),(3, .int .i64 z),(4,lsF c)]) (fun _=>[AP (At W g),Bs g [x,y] junk]) (fun _=>True) (fun _=>0) () tO ⟨I,I,I,I,I,tO⟩ [] I ?_
  intro _ _
  refine zH (zA (zB (wP I (wP I (wP I (wP I (Aa (zE (zA (zA (zB (wP I (wP I ?_)))))))))))))
  refine Aa (zE (zR I (zA (zB (wP I (wP I (wP I (wP I ?_))))))))
  refine D0 (X:=Unit) (val:=fun _=> .tuple #[]) (Φ:=fun _=>True) (capt:=[]) 1 (B:=Bs g [x,y] junk) (L1:=[]) (L2:=[]) (b:=g) (ob:= .cells (ptC [x,y]++junk).toArray 35 (0,0)) (fun _=>Bs g (Ed x y) junk) (g':=fun _=>g) (o':=fun _=> .cells (ptC (Ed x y)++junk).toArray 35 (0,0))
   rfl rfl rfl rfl rfl rfl (by kernel_rfl) rfl rfl (fun _ _=>rfl) (fun W1 hp=>Rs c W1 g cap x y junk (hp.own.cell 1 _ rfl (g, .cells (ptC [x,y]++junk).toArray 35 (0,0)) (List.mem_cons_self ..)).1 (h.trans (FM hg ⟨_,List.mem_cons_self ..⟩ hp))) (fun _ _=> ?_)
  refine Aa (zE (zO (zP (zQ (zP (zQ ?_))))))
  refine RV (X:=Unit) (val:=fun _=> .tuple #[]) (Φ:=fun _=>True) (nb:=fun _=>[AP (At W g),Bs g (Ed x y) junk]) (fn:=Tryz.f133) tH I () I tO fun W1 hp=> ?_
  exact(hp.pick (l:=[AP (At W g),Bs g (Ed x y) junk]) [0,1] (by decide) I).own
 refine key.mono ?_
 rintro e W' ⟨x1,he,_,hb,hn'⟩
 exact⟨x1,he,tO,EB hg I hb hn'⟩
theorem Pf (c:Nat) (W:World) (g cap:Nat) (x y:Ah) (junk:List Value) (hg:W.heap[g]? =some (.cells (ptC [x,y]++junk).toArray 35 (0,0))) (h:SrN c g x y W):
  Calls Tryz.prog 70 #[.slice (some ⟨g,0,none⟩) 2 cap,lsF c] W fun e W'=> ∃x1:Unit,e= .returned ((fun _=> .tuple #[]) x1)∧True∧Jo W W' g ((fun _=>g) x1) ((fun _=> .cells (ptC (Ed x y)++junk).toArray 35 (0,0)) x1):=by
 have key:Calls Tryz.prog 70 [.slice (some ⟨g,0,none⟩) 2 cap,lsF c].toArray W fun e W'=> ∃x1:Unit,e= .returned ((fun _=> .tuple #[]) x1)∧(fun _=>True) x1∧Below (AY W).heap.size (AY W) W'∧As (AY W) W' ((fun _=>[AP (At W g),Bs g (Ed x y) junk]) x1):=by
  refine BR (X:=Unit) (val:=fun _=> .tuple #[]) (Φ:=fun _=>True) (nb:=fun _=>[AP (At W g),Bs g (Ed x y) junk]) (Hp.enterT (B:=Bs g [x,y] junk) I hg) Tryz.func70 I I I ?_
  refine zA (zB (wP I (wP I (wP I (Aa (zE (zB (wP I (wP I (wP I ?_))))))))))
  refine IA (k:= .u64) (kt:= .i64) (by kernel_rfl) (by kernel_rfl) I I I I ?_
  refine Af 10 (.int .u64 ((2:Nat):Int)) I I ?_
  refine Br (capt:=[]) I I I I I I (by kernel_rfl) (fun W _=>Mt 2 (by decide) W) ?_
  refine wP I ?_
  refine D0 (X:=Unit) (val:=fun _=> .tuple #[]) (Φ:=fun _=>True) (capt:=[]) 1 (B:=Bs g [x,y] junk) (L1:=[]) (L2:=[]) (b:=g) (ob:= .cells (ptC [x,y]++junk).toArray 35 (0,0)) (fun _=>Bs g (Ed x y) junk) (g':=fun _=>g) (o':=fun _=> .cells (ptC (Ed x y)++junk).toArray 35 (0,0))
   rfl rfl rfl rfl rfl rfl (by kernel_rfl) rfl rfl (fun _ _=>rfl) (fun W1 hp=>QI c W1 g cap x y junk _ (hp.own.cell 1 _ rfl (g, .cells (ptC [x,y]++junk).toArray 35 (0,0)) (List.mem_cons_self ..)).1 (h.trans (FM hg ⟨_,List.mem_cons_self ..⟩ hp))) (fun _ _=> ?_)
  refine Aa ?_
  refine KL (X:=Unit) (val:=fun _=> .tuple #[]) (Φ:=fun _=>True) (nb:=fun _=>[AP (At W g),Bs g (Ed x y) junk]) (fn:=Tryz.f70) tH I () I tO fun W1 hp=> ?_
  exact(hp.pick (l:=[AP (At W g),Bs g (Ed x y) junk]) [0,1] (by decide) I).own
 refine key.mono ?_
 rintro e W' ⟨x1,he,_,hb,hn'⟩
 exact⟨x1,he,tO,EB hg I hb hn'⟩
-- BOXES 3
-- CODE2
def Hn (x:Ah):List Ah→List Ah
 |[]=>[x]
 |y::l=>if Ca x y=true then x::y::l else y::Hn x l
def C2 (l:List Ah):List Ah:=l.foldl (fun s x=>Hn x s) []
theorem Qx (x:Ah): ∀l,(Hn x l).length=l.length+1
 |[]=>rfl
 |y::l=>by
  unfold Hn
  split
  ·rfl
  ·rw[List.length_cons,Qx x l];rfl
theorem LR {x y:Ah}: ∀ {l:List Ah},y∈Hn x l↔y=x∨y∈l
 |[]=>by simp[Hn]
 |z::l=>by
  unfold Hn
  split
  ·simp
  ·rw[List.mem_cons,LR (l:=l),List.mem_cons]
   constructor
   ·rintro(h|h|h)
    ·exact .inr (.inl h)
    ·exact .inl h
    ·exact .inr (.inr h)
   ·rintro(h|h|h)
    ·exact .inr (.inl h)
    ·exact .inl h
    ·exact .inr (.inr h)
theorem Kz {a b c:Ah} (h1: ¬AJ b a) (h2: ¬AJ c b): ¬AJ c a:=fun h=>by
 rcases DT a b with d|d|d
 ·exact h2 (Kf h d)
 ·subst d;exact h2 h
 ·exact h1 d
abbrev SrC (l:List Ah):Prop:=l.Pairwise fun a b=> ¬AJ b a
theorem Po {x:Ah}: ∀ {l:List Ah},SrC l→SrC (Hn x l)
 |[],_=>List.pairwise_cons.2 ⟨fun _ h=>absurd h List.not_mem_nil,List.Pairwise.nil⟩
 |y::l,h=>by
  have⟨h1,h2⟩:=List.pairwise_cons.1 h
  unfold Hn
  split
  ·rename_i c
   have c:=CR.1 c
   refine List.pairwise_cons.2 ⟨fun z hz=> ?_,h⟩
   rcases List.mem_cons.1 hz with rfl|hz
   ·exact CY c
   ·exact Kz (CY c) (h1 z hz)
  ·rename_i c
   refine List.pairwise_cons.2 ⟨fun z hz=> ?_,Po h2⟩
   rcases LR.1 hz with rfl|hz
   ·exact fun d=>c (CR.2 d)
   ·exact h1 z hz
theorem Ik: ∀(l s:List Ah),SrC s→SrC (l.foldl (fun s x=>Hn x s) s)∧(l.foldl (fun s x=>Hn x s) s).length=s.length+l.length∧ ∀y,y∈l.foldl (fun s x=>Hn x s) s↔y∈s∨y∈l
 |[],s,h=>⟨h,rfl,fun y=>by simp⟩
 |x::l,s,h=>by
  obtain⟨a,b,c⟩:=Ik l (Hn x s) (Po h)
  refine⟨a,by rw[List.foldl_cons,b,Qx,List.length_cons];omega,fun y=> ?_⟩
  rw[List.foldl_cons,c,LR,List.mem_cons]
  constructor
  ·rintro((h|h)|h)
   ·exact .inr (.inl h)
   ·exact .inl h
   ·exact .inr (.inr h)
  ·rintro(h|h|h)
   ·exact .inl (.inr h)
   ·exact .inl (.inl h)
   ·exact .inr h
theorem Lz (l:List Ah):SrC (C2 l):=(Ik l [] List.Pairwise.nil).1
theorem Mh (l:List Ah):(C2 l).length=l.length:=by
 have:=(Ik l [] List.Pairwise.nil).2.1
 rw[List.length_nil,Nat.zero_add] at this;exact this
theorem OU {l:List Ah} {y:Ah}:y∈C2 l↔y∈l:=by
 have:=(Ik l [] List.Pairwise.nil).2.2 y
 exact this.trans (by simp)
theorem Tf (l:List Ah) {i:Nat} (hi:i<l.length):C2 (l.take (i+1))=Hn l[i] (C2 (l.take i)):=by
 rw[C2,List.take_add_one,List.getElem?_eq_getElem hi,List.foldl_append];rfl
theorem LX {x:Ah}: ∀(s:List Ah) (j:Nat),j≤s.length→(∀y∈s.take j, ¬AJ x y)→(∀y∈s.drop j,AJ x y)→Hn x s=s.take j++x::s.drop j
 |[],j,hj,_,_=>by
  obtain rfl:j=0:=by simpa using hj
  rfl
 |y::l,0,_,_,h2=>by
  unfold Hn
  rw[if_pos (CR.2 (h2 y (List.mem_cons_self ..)))];rfl
 |y::l,j+1,hj,h1,h2=>by
  unfold Hn
  rw[if_neg (fun c=>h1 y (by simp) (CR.1 c)),LX l j (by simpa using hj) (fun z hz=>h1 z (by simp[hz])) (fun z hz=>h2 z (by simpa using hz))]
  rfl
theorem Tq {x:Ah} {s:List Ah} {j:Nat} (hs:SrC s) (hj:j≤s.length) (h2: ∀y∈s.drop j,AJ x y) (h1: ∀(h:0<j), ¬AJ x s[j-1]):Hn x s=s.take j++x::s.drop j:=by
 refine LX s j hj (fun y hy=> ?_) h2
 obtain⟨k,hk,rfl⟩:=List.getElem_of_mem hy
 have hk':k<j:=by simp at hk;omega
 rw[List.getElem_take]
 have h3:=h1 (by omega)
 by_cases e:k=j-1
 ·subst e;exact h3
 ·exact Kz (List.pairwise_iff_getElem.1 hs k (j-1) (by omega) (by omega) (by omega)) h3
theorem QZ (l:List Ah):C2 (l.take 1)++l.drop 1=l:=by
 cases l with
 |nil=>rfl
 |cons x l=>rfl
abbrev JK (c:Nat) (x y:Ah) (W:World):Prop:=Aj Tryz.prog 71 #[Ai c,cvV x,cvV y] W (fun _:Unit=> .int .i64 (MG x y)) (fun _=>True) (fun _=>[])
theorem Rh (c:Nat) (W:World) (g cap:Nat) (l:List Ah) (junk:List Value) (hn:l.length<4611686018427387904) (hg:W.heap[g]? =some (.cells (ptC l++junk).toArray 35 (0,0)))
  (hf: ∀W',Gd W W' g→ ∀x∈l, ∀y∈l,JK c x y W'):
  Calls Tryz.prog 181 #[.slice (some ⟨g,0,none⟩) l.length cap, .int .i64 0, .int .i64 (l.length:Nat),lsF c] W fun e W'=> ∃x:Unit,e= .returned ((fun _=> .tuple #[]) x)∧True∧Jo W W' g ((fun _=>g) x) ((fun _=> .cells (ptC (C2 l)++junk).toArray 35 (0,0)) x):=by
 have key:Calls Tryz.prog 181 [.slice (some ⟨g,0,none⟩) l.length cap, .int .i64 0, .int .i64 (l.length:Nat),lsF c].toArray W fun e W'=> ∃x:Unit,e= .returned ((fun _=> .tuple #[]) x)∧(fun _=>True) x∧Below (AY W).heap.size (AY W) W'∧As (AY W) W' ((fun _=>[AP (At W g),Bs g (C2 l) junk]) x):=by
  refine BR (X:=Unit) (val:=fun _=> .tuple #[]) (Φ:=fun _=>True) (nb:=fun _=>[AP (At W g),Bs g (C2 l) junk]) (Hp.enterT (B:=Bs g l junk) I hg) Tryz.func181 I I I ?_
  refine zA (zB (wP I (wP I (wP I (Aa (zE (zH ?_)))))))
  refine AA (X:=Nat) (fun i=>[(0, .slice (some ⟨g,0,none⟩) l.length cap),(1, .int .i64 0),(2, .int .i64 (l.length:Nat)),(3,lsF c),(8, .int .i64 (i:Nat))]) (fun i=>[AP (At W g),Bs g (C2 (l.take i)++l.drop i) junk])
   (fun i=>1≤i∧(i≤l.length∨i=1)) (fun i=>l.length+1-i) 1 ⟨Nat.le_refl _, .inr rfl⟩ ⟨rfl,rfl,rfl,rfl,rfl,trivial⟩ [] (by rw[QZ];rfl) ?_
  rintro i ⟨hi1,hi2⟩
  refine zA (zA (zB (wP I (wP I (wP I ?_)))))
  by_cases hlt:i<l.length
  rotate_left
  ·refine wU 14 false I (dF (by omega)) (Aa (zE (zS I (zJ (zK (zK (zL ?_)))))))
   have e:C2 (l.take i)++l.drop i=C2 l:=by rw[List.take_of_length_le (by omega),List.drop_of_length_le (by omega),List.append_nil]
   refine KL (X:=Unit) (val:=fun _=> .tuple #[]) (Φ:=fun _=>True) (nb:=fun _=>[AP (At W g),Bs g (C2 l) junk]) (fn:=Tryz.f181) tH I () I tO fun W1 hp=> ?_
   rw[e] at hp
   exact(hp.pick (l:=[AP (At W g),Bs g (C2 l) junk]) [0,1] (by decide) I).own
  refine wU 14 true I (dT (by omega)) (Aa (zE (zR I (zI (zE (zA (zH (zA (zB (wP I (wP I (Aa (zE ?_)))))))))))))
  refine zH ?_
  obtain⟨s,hs⟩: ∃s,s=C2 (l.take i):=⟨_,rfl⟩
  obtain⟨x,hx⟩: ∃x,x=l[i]:=⟨_,rfl⟩
  obtain⟨rr,hr⟩: ∃rr,rr=l.drop (i+1):=⟨_,rfl⟩
  have hsl:s.length=i:=by rw[hs,Mh,List.length_take];omega
  have hsort:SrC s:=hs▸Lz _
  have hdrop:l.drop i=x::rr:=by rw[hx,hr];exact List.drop_eq_getElem_cons hlt
  have hrl:rr.length=l.length-(i+1):=by rw[hr,List.length_drop]
  have hxl:x∈l:=hx▸List.getElem_mem hlt
  have hsm: ∀y∈s,y∈l:=fun y hy=>by rw[hs] at hy;exact List.mem_of_mem_take (OU.1 hy)
  have hnext: ∀j,j≤s.length→(∀y∈s.drop j,AJ x y)→(∀(h:0<j), ¬AJ x s[j-1]!)→s.take j++x::s.drop j++rr=C2 (l.take (i+1))++l.drop (i+1):=fun j h1 h2 h3=>by
   rw[Tf l hlt, ←hs, ←hx, ←hr,Tq hsort h1 h2 fun h=>by have:=h3 h;rwa [getElem!_pos s (j-1) (by omega)] at this]
  refine AA (X:=Nat) (fun j=>[(0, .slice (some ⟨g,0,none⟩) l.length cap),(1, .int .i64 0),(2, .int .i64 (l.length:Nat)),(3,lsF c),(8, .int .i64 (i:Nat)),(9, .int .i64 (j:Nat))]) (fun j=>[AP (At W g),Bs g (s.take j++x::s.drop j++rr) junk])
   (fun j=>j≤s.length∧ ∀y∈s.drop j,AJ x y) (fun j=>j) i ⟨by omega,by rw[←hsl,List.drop_length];exact fun y hy=>absurd hy List.not_mem_nil⟩ ⟨rfl,rfl,rfl,rfl,rfl,rfl,trivial⟩ [] (by rw[←hs,hdrop, ←hsl,List.take_length,List.drop_length,List.append_assoc];rfl) ?_
  rintro j ⟨hj,hgt⟩
  have hj:j≤s.length:=hj
  have hgt: ∀y∈s.drop j,AJ x y:=hgt
  refine zA (zA (zU (qP I (qP I (qP I ?_)))))
  cases j with
  |zero=>
   refine D9 20 (.bool false) I I ?_
   refine qP I ?_
   iterate 12 refine Ib I I ?_
   refine qP I (AU (Aa (zE (zS I (zJ (zK (zK (zL (zN (zE (zB (wP I (wP I ?_)))))))))))))
   refine wV 16 ((i+1:Nat):Int) I (Az (by omega)) (wP I (Aa ?_))
   refine A6 (i+1) ⟨by show 1≤i+1;omega, .inl hlt⟩ (by show l.length+1-(i+1)<l.length+1-i;omega) ⟨I,I,I,I,I,tO⟩ [] ?_
   rw[hnext 0 hj hgt fun h=>absurd h (by decide)];rfl
  |succ m=>
   have hm:m<s.length:=hj
   obtain⟨y,hy⟩: ∃y,y=s[m]:=⟨_,rfl⟩
   have hyl:y∈l:=hsm y (hy▸List.getElem_mem hm)
   have e1:s.take (m+1)=s.take m++[y]:=by rw[List.take_add_one,List.getElem?_eq_getElem hm,hy];rfl
   have e2:s.drop m=y::s.drop (m+1):=by rw[hy];exact List.drop_eq_getElem_cons hm
   have e3:s[m+1-1]! =y:=by rw[Nat.add_sub_cancel,getElem!_pos s m hm,hy]
   have hA:(ptC (s.take m)).length=m*2:=by rw[AQ,List.length_take,Nat.min_eq_left (by omega)]
   obtain⟨C,hC⟩: ∃C,C=ptC (s.drop (m+1)++rr)++junk:=⟨_,rfl⟩
   have row1:ptC (s.take (m+1)++x::s.drop (m+1)++rr)++junk=ptC (s.take m)++([str (Ad y.1),str (Ad y.2),str (Ad x.1),str (Ad x.2)]++C):=by rw[e1,hC];simp[ptC,List.flatMap_append]
   have row2:ptC (s.take m++x::s.drop m++rr)++junk=ptC (s.take m)++([str (Ad x.1),str (Ad x.2),str (Ad y.1),str (Ad y.2)]++C):=by rw[e2,hC];simp[ptC,List.flatMap_append]
   refine qU 20 true I (dT (by omega)) (qP I (qP I (qP I (qP I ?_))))
   refine qJ ?_
   refine qL 0 I I (fun W1 hp=>show Ak W1 g (0+(m+1)*2) [str (Ad x.1),str (Ad x.2)] from JW hp 1 (A:=ptC (s.take m)++[str (Ad y.1),str (Ad y.2)]) (C:=C) I (by rw[row1];simp) (by rw[List.length_append,hA];simp only[List.length_cons,List.length_nil];omega)) I (qP I (qP I (qP I (qV 29 (m:Nat) I (show w64 (((m+1:Nat):Int)-1)=_ by rw[Ap (by omega) (by omega)];omega) ?_))))
   refine qJ ?_
   refine qL 0 I I (fun W1 hp=>show Ak W1 g (0+m*2) [str (Ad y.1),str (Ad y.2)] from JW hp 1 (A:=ptC (s.take m)) (C:=[str (Ad x.1),str (Ad x.2)]++C) I (by rw[row1];simp) (by rw[hA];simp)) I ?_
   refine Qd (first:=[Ai c]) I I I I I I (by kernel_rfl) (fun W1 hp=>hf W1 (FM hg ⟨_,List.mem_cons_self ..⟩ hp) x hxl y hyl) ?_
   refine qP I (qU 33 (Ca x y) I (O9 x y) (qP I (AU (Aa (zE ?_)))))
   refine Av I (fun h=> ?_) (fun h=> ?_)
   rotate_left
   ·have hc: ¬AJ x y:=fun d=>by rw[CR.2 d] at h;cases h
    refine zJ (zK (zK (zL (zN (zE (zB (wP I (wP I (wV 16 ((i+1:Nat):Int) I (Az (by omega)) (wP I (Aa ?_)))))))))))
    refine A6 (i+1) ⟨by show 1≤i+1;omega, .inl hlt⟩ (by show l.length+1-(i+1)<l.length+1-i;omega) ⟨I,I,I,I,I,tO⟩ [] ?_
    rw[hnext (m+1) hj hgt fun _=>by rw[e3];exact hc];rfl
   have hc:AJ x y:=CR.1 h
   clear h
   refine XE (bxs':=[AP (At W g),⟨g,35,ptC (s.take m)++([str (Ad y.1),str (Ad y.2),str (Ad x.1),str (Ad x.2)]++C),true,none⟩]) (by rw[←row1]) ?_
   refine zI (zE (A0 (CF ?_)))
   repeat refine A0 ?_
   refine Bb (X:=Unit) [true,true,false,false,false,true,true,true,true,true,true,true,true,true,true,false,false,false] (fun _=>[(0, .slice (some ⟨g,0,none⟩) l.length cap),(1, .int .i64 0),(2, .int .i64 (l.length:Nat)),(3,lsF c),(8, .int .i64 (i:Nat)),(9, .int .i64 ((m+1:Nat):Int))]) (fun _=>[AP (At W g),⟨g,35,ptC (s.take m)++([str (Ad x.1),str (Ad x.2),str (Ad y.1),str (Ad y.2)]++C),true,none⟩])
    6 [AP (At W g),⟨g,35,ptC (s.take m)++([str (Ad y.1),str (Ad y.2),str (Ad x.1),str (Ad x.2)]++C),true,none⟩] Tryz.mixed (by kernel_rfl) ?_ ?_
   ·refine qP I (qP I (qP I (qP I (qP I (qV 44 (m:Nat) I (show w64 (((m+1:Nat):Int)-1)=_ by rw[Ap (by omega) (by omega)];omega) ?_)))))
    refine qJ ?_
    refine qL 0 I I (fun W1 hp=>show Ak W1 g (0+m*2) [str (Ad y.1),str (Ad y.2)] from JW hp 1 (A:=ptC (s.take m)) (C:=[str (Ad x.1),str (Ad x.2)]++C) I (by simp) (by rw[hA];simp)) I (qP I (qP I ?_))
    refine qJ ?_
    refine qL 0 I I (fun W1 hp=>show Ak W1 g (0+(m+1)*2) [str (Ad x.1),str (Ad x.2)] from JW hp 1 (A:=ptC (s.take m)++[str (Ad y.1),str (Ad y.2)]) (C:=C) I (by simp) (by rw[List.length_append,hA];simp only[List.length_cons,List.length_nil];omega)) I ?_
    refine qJ ?_
    refine Ck ?_
    have h1:B7 (ptC (s.take m)++([str (Ad y.1),str (Ad y.2),str (Ad x.1),str (Ad x.2)]++C)) (0+(m+1)*2) (cvV y).cells.toList=ptC (s.take m)++([str (Ad y.1),str (Ad y.2),str (Ad y.1),str (Ad y.2)]++C):=by
     rw[show 0+(m+1)*2=(ptC (s.take m)).length+2 by rw[hA];omega,Ee];rfl
    have h2:B7 (ptC (s.take m)++([str (Ad y.1),str (Ad y.2),str (Ad y.1),str (Ad y.2)]++C)) (0+m*2) (cvV x).cells.toList=ptC (s.take m)++([str (Ad x.1),str (Ad x.2),str (Ad y.1),str (Ad y.2)]++C):=by
     rw[show 0+m*2=(ptC (s.take m)).length+0 by rw[hA];omega,Ee];rfl
    have h3:0+(m+1)*2+2≤(ptC (s.take m)++([str (Ad y.1),str (Ad y.2),str (Ad x.1),str (Ad x.2)]++C)).length:=by rw[List.length_append,hA,List.length_append];simp only[List.length_cons,List.length_nil];omega
    have h4:0+m*2+2≤(ptC (s.take m)++([str (Ad y.1),str (Ad y.2),str (Ad y.1),str (Ad y.2)]++C)).length:=by rw[List.length_append,hA,List.length_append];simp only[List.length_cons,List.length_nil];omega
    refine wX ?_
    refine RS.cons ?_ (RS.cons ?_ (RS.cons ?_ (RS.nil)))
    ·refine wP I (Aa (Ab (wX ?_)))
     refine RS.cons ?_ (RS.cons ?_ (RS.nil))
     ·refine wP I (Aa (Ab (wX ?_)))
      refine RS.cons ?_ (RS.cons ?_ (RS.nil))
      ·refine wP I (Aa (Ab (wX (wZ ?_))))
       refine Aw 1 _ tH I I I I I I I I I I h3 h1 ?_
       refine Aa (Ab (wY (wZ ?_)))
       refine wV 41 (m:Nat) I (show w64 (((m+1:Nat):Int)-1)=_ by rw[Ap (by omega) (by omega)];omega) ?_;(first|refine wJ ?_|refine qJ ?_)
       refine Aa (Ab (wY (wZ ?_)))
       refine Aw 1 _ tH I I I I I I I I I I h4 h2 ?_
       refine Aa (Ab ?_)
       refine AN I (by kernel_rfl) ?_
       exact Ar () ⟨I,I,I,I,I,I,tO⟩ [0,1] (by decide) I
      ·refine Aw 1 _ tH I I I I I I I I I I h3 h1 ?_
       refine Aa (Ab (wY (wZ (wP I (Aa (Ab (wY (wZ ?_))))))))
       refine wV 41 (m:Nat) I (show w64 (((m+1:Nat):Int)-1)=_ by rw[Ap (by omega) (by omega)];omega) ?_;(first|refine wJ ?_|refine qJ ?_)
       refine Aa (Ab (wY (wZ ?_)))
       refine Aw 1 _ tH I I I I I I I I I I h4 h2 ?_
       refine Aa (Ab ?_)
       refine AN I (by kernel_rfl) ?_
       exact Ar () ⟨I,I,I,I,I,I,tO⟩ [0,1] (by decide) I
     ·refine Aw 1 _ tH I I I I I I I I I I h3 h1 ?_
      refine Aa (Ab (wY (wZ (wP I (Aa (Ab (wY (wZ (wP I (Aa (Ab (wY (wZ ?_)))))))))))))
      refine wV 41 (m:Nat) I (show w64 (((m+1:Nat):Int)-1)=_ by rw[Ap (by omega) (by omega)];omega) ?_;(first|refine wJ ?_|refine qJ ?_)
      refine Aa (Ab (wY (wZ ?_)))
      refine Aw 1 _ tH I I I I I I I I I I h4 h2 ?_
      refine Aa (Ab ?_)
      refine AN I (by kernel_rfl) ?_
      exact Ar () ⟨I,I,I,I,I,I,tO⟩ [0,1] (by decide) I
    ·refine wP I (Aa (Ab (wX ?_)))
     refine RS.cons ?_ (RS.cons ?_ (RS.cons ?_ (RS.nil)))
     ·refine wP I (Aa (Ab (wX ?_)))
      refine RS.cons ?_ (RS.cons ?_ (RS.nil))
      ·refine wP I (Aa (Ab (wX (wZ ?_))))
       refine Aw 1 _ tH I I I I I I I I I I h3 h1 ?_
       refine Aa (Ab (wY (wZ ?_)))
       refine wV 41 (m:Nat) I (show w64 (((m+1:Nat):Int)-1)=_ by rw[Ap (by omega) (by omega)];omega) ?_;(first|refine wJ ?_|refine qJ ?_)
       refine Aa (Ab (wY (wZ ?_)))
       refine Aw 1 _ tH I I I I I I I I I I h4 h2 ?_
       refine Aa (Ab ?_)
       refine AN I (by kernel_rfl) ?_
       exact Ar () ⟨I,I,I,I,I,I,tO⟩ [0,1] (by decide) I
      ·refine Aw 1 _ tH I I I I I I I I I I h3 h1 ?_
       refine Aa (Ab (wY (wZ (wP I (Aa (Ab (wY (wZ ?_))))))))
       refine wV 41 (m:Nat) I (show w64 (((m+1:Nat):Int)-1)=_ by rw[Ap (by omega) (by omega)];omega) ?_;(first|refine wJ ?_|refine qJ ?_)
       refine Aa (Ab (wY (wZ ?_)))
       refine Aw 1 _ tH I I I I I I I I I I h4 h2 ?_
       refine Aa (Ab ?_)
       refine AN I (by kernel_rfl) ?_
       exact Ar () ⟨I,I,I,I,I,I,tO⟩ [0,1] (by decide) I
     ·refine wP I (Aa (Ab (wX ?_)))
      refine RS.cons ?_ (RS.cons ?_ (RS.nil))
      ·refine wP I (Aa (Ab (wX (wZ ?_))))
       refine Aw 1 _ tH I I I I I I I I I I h3 h1 ?_
       refine Aa (Ab (wY (wZ ?_)))
       refine wV 41 (m:Nat) I (show w64 (((m+1:Nat):Int)-1)=_ by rw[Ap (by omega) (by omega)];omega) ?_;(first|refine wJ ?_|refine qJ ?_)
       refine Aa (Ab (wY (wZ ?_)))
       refine Aw 1 _ tH I I I I I I I I I I h4 h2 ?_
       refine Aa (Ab ?_)
       refine AN I (by kernel_rfl) ?_
       exact Ar () ⟨I,I,I,I,I,I,tO⟩ [0,1] (by decide) I
      ·refine Aw 1 _ tH I I I I I I I I I I h3 h1 ?_
       refine Aa (Ab (wY (wZ (wP I (Aa (Ab (wY (wZ ?_))))))))
       refine wV 41 (m:Nat) I (show w64 (((m+1:Nat):Int)-1)=_ by rw[Ap (by omega) (by omega)];omega) ?_;(first|refine wJ ?_|refine qJ ?_)
       refine Aa (Ab (wY (wZ ?_)))
       refine Aw 1 _ tH I I I I I I I I I I h4 h2 ?_
       refine Aa (Ab ?_)
       refine AN I (by kernel_rfl) ?_
       exact Ar () ⟨I,I,I,I,I,I,tO⟩ [0,1] (by decide) I
     ·refine Aw 1 _ tH I I I I I I I I I I h3 h1 ?_
      refine Aa (Ab (wY ?_))
      refine RS.cons ?_ (RS.cons ?_ (RS.nil))
      ·refine wP I (Aa (Ab (wY (wZ (wP I (Aa (Ab (wY (wZ ?_)))))))))
       refine wV 41 (m:Nat) I (show w64 (((m+1:Nat):Int)-1)=_ by rw[Ap (by omega) (by omega)];omega) ?_;(first|refine wJ ?_|refine qJ ?_)
       refine Aa (Ab (wY (wZ ?_)))
       refine Aw 1 _ tH I I I I I I I I I I h4 h2 ?_
       refine Aa (Ab ?_)
       refine AN I (by kernel_rfl) ?_
       exact Ar () ⟨I,I,I,I,I,I,tO⟩ [0,1] (by decide) I
      ·refine wP I (Aa (Ab (wY (wZ (wP I (Aa (Ab (wY (wZ ?_)))))))))
       refine wV 41 (m:Nat) I (show w64 (((m+1:Nat):Int)-1)=_ by rw[Ap (by omega) (by omega)];omega) ?_;(first|refine wJ ?_|refine qJ ?_)
       refine Aa (Ab (wY (wZ ?_)))
       refine Aw 1 _ tH I I I I I I I I I I h4 h2 ?_
       refine Aa (Ab ?_)
       refine AN I (by kernel_rfl) ?_
       exact Ar () ⟨I,I,I,I,I,I,tO⟩ [0,1] (by decide) I
    ·refine Aw 1 _ tH I I I I I I I I I I h3 h1 ?_
     refine Aa (Ab (wY ?_))
     refine RS.cons ?_ (RS.cons ?_ (RS.nil))
     ·refine wP I (Aa (Ab (wY (wZ (wP I (Aa (Ab (wY (wZ (wP I (Aa (Ab (wY ?_)))))))))))))
      refine wZ ?_
      refine wV 41 (m:Nat) I (show w64 (((m+1:Nat):Int)-1)=_ by rw[Ap (by omega) (by omega)];omega) ?_;(first|refine wJ ?_|refine qJ ?_)
      refine Aa (Ab (wY (wZ ?_)))
      refine Aw 1 _ tH I I I I I I I I I I h4 h2 ?_
      refine Aa (Ab ?_)
      refine AN I (by kernel_rfl) ?_
      exact Ar () ⟨I,I,I,I,I,I,tO⟩ [0,1] (by decide) I
     ·refine wP I (Aa (Ab (wY ?_)))
      refine RS.cons ?_ (RS.cons ?_ (RS.nil))
      ·refine wP I (Aa (Ab (wY (wZ (wP I (Aa (Ab (wY (wZ ?_)))))))))
       refine wV 41 (m:Nat) I (show w64 (((m+1:Nat):Int)-1)=_ by rw[Ap (by omega) (by omega)];omega) ?_;(first|refine wJ ?_|refine qJ ?_)
       refine Aa (Ab (wY (wZ ?_)))
       refine Aw 1 _ tH I I I I I I I I I I h4 h2 ?_
       refine Aa (Ab ?_)
       refine AN I (by kernel_rfl) ?_
       exact Ar () ⟨I,I,I,I,I,I,tO⟩ [0,1] (by decide) I
      ·refine wP I (Aa (Ab (wY (wZ (wP I (Aa (Ab (wY (wZ ?_)))))))))
       refine wV 41 (m:Nat) I (show w64 (((m+1:Nat):Int)-1)=_ by rw[Ap (by omega) (by omega)];omega) ?_;(first|refine wJ ?_|refine qJ ?_)
       refine Aa (Ab (wY (wZ ?_)))
       refine Aw 1 _ tH I I I I I I I I I I h4 h2 ?_
       refine Aa (Ab ?_)
       refine AN I (by kernel_rfl) ?_
       exact Ar () ⟨I,I,I,I,I,I,tO⟩ [0,1] (by decide) I
   intro _
   refine zN (zE (zB (wP I (wP I (wV 36 (m:Nat) I (show w64 (((m+1:Nat):Int)-1)=_ by rw[Ap (by omega) (by omega)];omega) (wP I (Aa ?_)))))))
   refine A6 m ⟨by show m≤s.length;omega,fun z hz=> ?_⟩ (by show m<m+1;omega) ⟨I,I,I,I,I,I,tO⟩ [] (by rw[←row2];rfl)
   rw[e2] at hz
   rcases List.mem_cons.1 hz with rfl|hz
   ·exact hc
   ·exact hgt z hz
 refine key.mono ?_
 rintro e W' ⟨x,he,_,hb,hn'⟩
 exact⟨x,he,tO,EB hg I hb hn'⟩
theorem Q5 (c:Nat) (W:World) (g cap:Nat) (l:List Ah) (junk:List Value) (z:Int) (hn:l.length≤12) (hg:W.heap[g]? =some (.cells (ptC l++junk).toArray 35 (0,0)))
  (hf: ∀W',Gd W W' g→ ∀x∈l, ∀y∈l,JK c x y W'):
  Calls Tryz.prog 133 #[.slice (some ⟨g,0,none⟩) l.length cap, .int .i64 0, .int .i64 (l.length:Nat), .int .i64 z,lsF c] W fun e W'=> ∃x:Unit,e= .returned ((fun _=> .tuple #[]) x)∧True∧Jo W W' g ((fun _=>g) x) ((fun _=> .cells (ptC (C2 l)++junk).toArray 35 (0,0)) x):=by
 have key:Calls Tryz.prog 133 [.slice (some ⟨g,0,none⟩) l.length cap, .int .i64 0, .int .i64 (l.length:Nat), .int .i64 z,lsF c].toArray W fun e W'=> ∃x:Unit,e= .returned ((fun _=> .tuple #[]) x)∧(fun _=>True) x∧Below (AY W).heap.size (AY W) W'∧As (AY W) W' ((fun _=>[AP (At W g),Bs g (C2 l) junk]) x):=by
  refine BR (X:=Unit) (val:=fun _=> .tuple #[]) (Φ:=fun _=>True) (nb:=fun _=>[AP (At W g),Bs g (C2 l) junk]) (Hp.enterT (B:=Bs g l junk) I hg) Tryz.func133 I I I ?_
  refine zA (zB (wP I (Aa (zE (zA (zB (wP I (Aa (zE (zH ?_))))))))))
  refine AA (X:=Unit) (fun _=>[(0, .slice (some ⟨g,0,none⟩) l.length cap),(1, .int .i64 0),(2, .int .i64 (l.length:Nat)),(3, .int .i64 z),(4,lsF c)]) (fun _=>[AP (At W g),Bs g l junk]) (fun _=>True) (fun _=>0) () tO ⟨I,I,I,I,I,tO⟩ [] I ?_
  intro _ _
  refine zH (zA (zB (wP I (wP I (wP I (wV 23 (l.length:Nat) I (show w64 ((l.length:Nat)-0)=_ by rw[Ap (by omega) (by omega)];omega) (wP I (Aa (zE (zA (zA (zB (wP I (wP I ?_))))))))))))))
  refine wU 25 true I (dT (by omega)) (Aa (zE (zR I (zA (zB (wP I (wP I (wP I (wP I ?_)))))))))
  refine D0 (X:=Unit) (val:=fun _=> .tuple #[]) (Φ:=fun _=>True) (capt:=[]) 1 (B:=Bs g l junk) (L1:=[]) (L2:=[]) (b:=g) (ob:= .cells (ptC l++junk).toArray 35 (0,0)) (fun _=>Bs g (C2 l) junk) (g':=fun _=>g) (o':=fun _=> .cells (ptC (C2 l)++junk).toArray 35 (0,0))
   rfl rfl rfl rfl rfl rfl (by kernel_rfl) rfl rfl (fun _ _=>rfl) (fun W1 hp=>Rh c W1 g cap l junk (by omega) (hp.own.cell 1 _ rfl (g, .cells (ptC l++junk).toArray 35 (0,0)) (List.mem_cons_self ..)).1 (fun W2 hk=>hf W2 ((FM hg ⟨_,List.mem_cons_self ..⟩ hp).trans hk))) (fun _ _=> ?_)
  refine Aa (zE (zO (zP (zQ (zP (zQ ?_))))))
  refine RV (X:=Unit) (val:=fun _=> .tuple #[]) (Φ:=fun _=>True) (nb:=fun _=>[AP (At W g),Bs g (C2 l) junk]) (fn:=Tryz.f133) tH I () I tO fun W1 hp=> ?_
  exact(hp.pick (l:=[AP (At W g),Bs g (C2 l) junk]) [0,1] (by decide) I).own
 refine key.mono ?_
 rintro e W' ⟨x,he,_,hb,hn'⟩
 exact⟨x,he,tO,EB hg I hb hn'⟩
theorem WD {n:Nat} (h:n≤12):IntKind.u64.wrap (n:Nat)=(n:Int):=by
 simp only[IntKind.wrap,IntKind.signed,IntKind.bits]
 simp
 omega
theorem Py (c:Nat) (W:World) (g cap:Nat) (l:List Ah) (junk:List Value) (hn:l.length≤12) (hg:W.heap[g]? =some (.cells (ptC l++junk).toArray 35 (0,0)))
  (hf: ∀W',Gd W W' g→ ∀x∈l, ∀y∈l,JK c x y W'):
  Calls Tryz.prog 70 #[.slice (some ⟨g,0,none⟩) l.length cap,lsF c] W fun e W'=> ∃x:Unit,e= .returned ((fun _=> .tuple #[]) x)∧True∧Jo W W' g ((fun _=>g) x) ((fun _=> .cells (ptC (C2 l)++junk).toArray 35 (0,0)) x):=by
 have key:Calls Tryz.prog 70 [.slice (some ⟨g,0,none⟩) l.length cap,lsF c].toArray W fun e W'=> ∃x:Unit,e= .returned ((fun _=> .tuple #[]) x)∧(fun _=>True) x∧Below (AY W).heap.size (AY W) W'∧As (AY W) W' ((fun _=>[AP (At W g),Bs g (C2 l) junk]) x):=by
  refine BR (X:=Unit) (val:=fun _=> .tuple #[]) (Φ:=fun _=>True) (nb:=fun _=>[AP (At W g),Bs g (C2 l) junk]) (Hp.enterT (B:=Bs g l junk) I hg) Tryz.func70 I I I ?_
  refine zA (zB (wP I (wP I (wP I (Aa (zE (zB (wP I (wP I (wP I ?_))))))))))
  refine IA (k:= .u64) (kt:= .i64) (by kernel_rfl) (by kernel_rfl) I I I I ?_
  refine Af 10 (.int .u64 (l.length:Nat)) I (congrArg (Value.int .u64) (WD hn)) ?_
  refine Br (capt:=[]) I I I I I I (by kernel_rfl) (fun W _=>Mt l.length (by omega) W) ?_
  refine wP I ?_
  refine D0 (X:=Unit) (val:=fun _=> .tuple #[]) (Φ:=fun _=>True) (capt:=[]) 1 (B:=Bs g l junk) (L1:=[]) (L2:=[]) (b:=g) (ob:= .cells (ptC l++junk).toArray 35 (0,0)) (fun _=>Bs g (C2 l) junk) (g':=fun _=>g) (o':=fun _=> .cells (ptC (C2 l)++junk).toArray 35 (0,0))
   rfl rfl rfl rfl rfl rfl (by kernel_rfl) rfl rfl (fun _ _=>rfl) (fun W1 hp=>Q5 c W1 g cap l junk _ hn (hp.own.cell 1 _ rfl (g, .cells (ptC l++junk).toArray 35 (0,0)) (List.mem_cons_self ..)).1 (fun W2 hk=>hf W2 ((FM hg ⟨_,List.mem_cons_self ..⟩ hp).trans hk))) (fun _ _=> ?_)
  refine Aa ?_
  refine KL (X:=Unit) (val:=fun _=> .tuple #[]) (Φ:=fun _=>True) (nb:=fun _=>[AP (At W g),Bs g (C2 l) junk]) (fn:=Tryz.f70) tH I () I tO fun W1 hp=> ?_
  exact(hp.pick (l:=[AP (At W g),Bs g (C2 l) junk]) [0,1] (by decide) I).own
 refine key.mono ?_
 rintro e W' ⟨x,he,_,hb,hn'⟩
 exact⟨x,he,tO,EB hg I hb hn'⟩
-- BOXES 3
-- CODE2
section
variable {r:Option Nat} {n:Nat} {P:Program} {W0:World} {N:Nat} {D:List Deferred} {ops:List Oper} {Q:Exit→Act→World→Prop} {o:Oper} {rest:List Oper} {env:Env} {bxs:List Bx}
theorem UE (k:Nat) {t e:TypeId} {z:Value} (ht:P.underlying t=some (.slice e)) (hz: ∀W,(zeroValue e).run P W= .ok z W) {c:Call} {x:Operand} {B:Bx} {off m cp:Nat}
  (hg:A7 ops N env o=some true) (hd:o.dst=none) (ho:o.op= .call c) (hc:c.callee= .builtin .clear) (ha:c.args= #[x]) (hat:c.argTypes= #[t])
  (hk:nth bxs k=some B) (hon:B.row=true) (hx:evO N env x=some (.slice (some ⟨B.b,off,none⟩) m cp)) (h1:CM (BW z.cells.toList m)=true) (hfit:off+(BW z.cells.toList m).length≤B.cells.length)
  (h:WL r n P N D ops Q rest env (Hp W0 (bxs.set k { B with cells:=B7 B.cells off (BW z.cells.toList m) }))):WL r n P N D ops Q (o::rest) env (Hp W0 bxs):= .mk fun a W ha' hd' hp=>by
 rw[B2] at hk
 refine BN hg ha' (fun c e=>by rw[ho] at e;cases e) ?_
 have h3:=(hp.at_ _ _ hk (Bx.row_on hon).1).1
 rw[(Bx.row_on hon).2] at h3
 obtain⟨W',hr,hu⟩:=F9 (P:=P) (o:=off) (BW z.cells.toList m) 0 B.cells W h3 (by omega) h1
 have e1:c.args.map (ov env a).eval= #[.slice (some ⟨B.b,off,none⟩) m cp]:=by rw[ha];simp[AE ha' _ _ hx]
 have hrun:(Builtin.clear_ #[t] o.type #[.slice (some ⟨B.b,off,none⟩) m cp]).run P W= .ok (.tuple #[]) W':=by
  cases m with
  |zero=>
   have e0:BW z.cells.toList 0=[]:=rfl
   rw[e0] at hr
   simp[storeCells] at hr
   simp[Builtin.clear_,run_underlying ht,hr]
  |succ m=>simp[Builtin.clear_,run_underlying ht,hz,Gv,hr]
 have:(execOp (ov env a).eval o).run P W= .ok (.value (.tuple #[])) W':=by
  simp only[execOp,ho,resolve,hc,invoke,builtin,e1,hat,Sem.run_bind,Sem.run_pure,Result.andThen_ok,hrun]
 rw[this]
 simp only[Oper.uponIn,hd]
 rw[Nat.add_zero] at hu
 exact h.out a W' ha' hd' (hp.upd hk hon hu)
end
def En (l:List Ah):Nat→List Ah
 |0=>[]
 |n+1=>if 0<n∧l[n]? =l[n-1]? then En l n else En l n++(l[n]?).toList
abbrev Ho (l:List Ah):List Ah:=En l l.length
theorem P0 (l:List Ah): ∀n,(En l n).length≤n
 |0=>Nat.le_refl _
 |n+1=>by
  have ih:=P0 l n
  unfold En
  split
  ·omega
  ·rw[List.length_append]
   have:(l[n]?).toList.length≤1:=by cases l[n]? <;>simp
   omega
theorem JL {l:List Ah} {n:Nat} (h0:0<n) (h:l[n]? =l[n-1]?):En l (n+1)=En l n:=by
 show(if 0<n∧l[n]? =l[n-1]? then En l n else _)=_
 rw[if_pos ⟨h0,h⟩]
theorem LB {l:List Ah} {n:Nat} (hn:n<l.length) (h: ¬(0<n∧l[n]? =l[n-1]?)):En l (n+1)=En l n++[l[n]]:=by
 show(if 0<n∧l[n]? =l[n-1]? then _ else En l n++(l[n]?).toList)=_
 rw[if_neg h,List.getElem?_eq_getElem hn];rfl
theorem Pp (l:List Ah):En l 1=l.take 1:=by
 cases l with
 |nil=>rfl
 |cons x l=>rfl
theorem Nu {l:List Ah} (hs:SrC l): ∀n,n≤l.length→(En l n).Pairwise AJ∧(∀x,x∈En l n↔x∈l.take n)
 |0,_=>⟨List.Pairwise.nil,fun x=>by simp[En]⟩
 |n+1,hn=>by
  obtain⟨a,b⟩:=Nu hs n (by omega)
  have hn':n<l.length:=hn
  have et:l.take (n+1)=l.take n++[l[n]]:=by rw[List.take_add_one,List.getElem?_eq_getElem hn'];rfl
  by_cases h:0<n∧l[n]? =l[n-1]?
  ·rw[JL h.1 h.2]
   refine⟨a,fun x=> ?_⟩
   rw[b,et,List.mem_append,List.mem_singleton]
   refine⟨.inl,fun h2=> ?_⟩
   rcases h2 with h2|rfl
   ·exact h2
   ·have e:l[n]=l[n-1]'(by omega):=by
     have:=h.2
     rw[List.getElem?_eq_getElem hn',List.getElem?_eq_getElem (by omega)] at this
     exact Option.some.inj this
    rw[e]
    exact List.mem_iff_getElem.2 ⟨n-1,by rw[List.length_take];omega,by rw[List.getElem_take]⟩
  ·rw[LB hn' h]
   refine⟨List.pairwise_append.2 ⟨a,List.pairwise_cons.2 ⟨fun _ h=>absurd h List.not_mem_nil,List.Pairwise.nil⟩,fun x hx y hy=> ?_⟩,fun x=> ?_⟩
   ·obtain rfl:=List.mem_singleton.1 hy
    obtain⟨i,hi,rfl⟩:=List.mem_iff_getElem.1 ((b x).1 hx)
    rw[List.length_take] at hi
    rw[List.getElem_take]
    have hp:=List.pairwise_iff_getElem.1 hs
    have h1:=hp i n (by omega) hn' (by omega)
    rcases DT l[i] l[n] with d|d|d
    ·exact d
    ·exfalso
     refine h ⟨by omega, ?_⟩
     rw[List.getElem?_eq_getElem hn',List.getElem?_eq_getElem (show n-1<l.length by omega)]
     congr 1
     by_cases ei:i=n-1
     ·subst ei;exact d.symm
     ·have h2:=hp i (n-1) (by omega) (by omega) (by omega)
      have h3:=hp (n-1) n (by omega) hn' (by omega)
      rw[d] at h2
      rcases DT l[n] (l[n-1]'(by omega)) with d2|d2|d2
      ·exact absurd d2 h3
      ·exact d2
      ·exact absurd d2 h2
    ·exact absurd d h1
   ·rw[et,List.mem_append,List.mem_append,b]
theorem Nt {l:List Ah} (hs:SrC l):(Ho l).Pairwise AJ∧ ∀x,x∈Ho l↔x∈l:=by
 have:=Nu hs l.length (Nat.le_refl _)
 rw[List.take_length] at this
 exact this
theorem Sj {x y:Ah}:decide (Ad x.1=Ad y.1∧Ad x.2=Ad y.2)=decide (x=y):=decide_eq_decide.2 ⟨fun h=>Prod.ext (Hx.1 h.1) (Hx.1 h.2),fun h=>by rw[h];exact⟨rfl,rfl⟩⟩
theorem Oe {W0 W:World} {bxs:List Bx} (hp:Hp W0 bxs W) (k:Nat) {g:Nat} {l:List Ah} {junk:List Value} (hk:nth bxs k=some (Bs g l junk)) {i:Nat} (hi:i<l.length):Ak W g (0+i*2) [str (Ad l[i].1),str (Ad l[i].2)]:=by
 obtain⟨g',off',e,h⟩:=(Ch.of_row (Ak.of_bx hp k hk rfl)).at_ hi
 cases e
 exact h i hi
theorem S9: ∀m,CM (BW (Value.agg #[str [],str []]).cells.toList m)=true
 |0=>rfl
 |m+1=>by
  have ih:=S9 m
  show CM (str []::str []::BW _ m)=true
  exact ih
theorem SC (m:Nat):(BW (Value.agg #[str [],str []]).cells.toList m).length=m*2:=EF _ m
theorem Q2 (W:World) (g cap:Nat) (l:List Ah) (junk:List Value) (hn:l.length≤100000) (hcap:l.length≤cap) (hg:W.heap[g]? =some (.cells (ptC l++junk).toArray 35 (0,0))):
  Calls Tryz.prog 75 #[.slice (some ⟨g,0,none⟩) l.length cap] W fun e W'=> ∃x:List Value,e= .returned ((fun _=> .slice (some ⟨g,0,none⟩) (Ho l).length cap) x)∧True∧Jo W W' g ((fun _=>g) x) ((fun x=> .cells (ptC (Ho l)++x).toArray 35 (0,0)) x):=by
 have key:Calls Tryz.prog 75 [.slice (some ⟨g,0,none⟩) l.length cap].toArray W fun e W'=> ∃x:List Value,e= .returned ((fun _=> .slice (some ⟨g,0,none⟩) (Ho l).length cap) x)∧(fun _=>True) x∧Below (AY W).heap.size (AY W) W'∧As (AY W) W' ((fun x=>[AP (At W g),Bs g (Ho l) x]) x):=by
  refine BR (X:=List Value) (val:=fun _=> .slice (some ⟨g,0,none⟩) (Ho l).length cap) (Φ:=fun _=>True) (nb:=fun x=>[AP (At W g),Bs g (Ho l) x]) (Hp.enterT (B:=Bs g l junk) I hg) Tryz.func75 I I I ?_
  refine zA (zB (wP I (Aa (zE (zA (zA (zB (wP I (wP I (wP I ?_))))))))))
  by_cases hlt:l.length<2
  ·have e:Ho l=l:=by
    rcases(show l.length=0∨l.length=1 by omega) with e|e
    ·rw[Ho,e,List.length_eq_zero_iff.1 e];rfl
    ·rw[Ho,e,Pp,List.take_of_length_le (by omega)]
   refine wU 8 true I (dT (by omega)) (Aa (zE (zR I (zA (zB (wP I (wP I (Aa (zE (zO (zP ?_)))))))))))
   rw[e]
   exact Au tH I (.tmp I) junk I tO fun W1 hp=>(hp.pick (l:=[AP (At W g),Bs g l junk]) [0,1] (by decide) I).own
  refine wU 8 false I (dF (by omega)) (Aa (zE (zS I (zI (zE (zA (zA (zB (wP I (Aa (zE (zH ?_))))))))))))
  refine AA (X:=Nat) (fun i=>[(0, .slice (some ⟨g,0,none⟩) l.length cap),(3, .int .i64 (i:Nat))]) (fun _=>[AP (At W g),Bs g l junk]) (fun i=>1≤i∧i≤l.length∧En l i=l.take i) (fun i=>l.length-i) 1 ⟨Nat.le_refl _,by omega,Pp l⟩ ⟨I,I,tO⟩ [] I ?_
  rintro i ⟨hi1,hi2,hc⟩
  have hi1:1≤i:=hi1
  have hi2:i≤l.length:=hi2
  have hc:En l i=l.take i:=hc
  refine zA (zA (zB (wP I (wP I (wP I (wP I ?_))))))
  by_cases hi:i<l.length
  rotate_left
  ·obtain rfl:i=l.length:=by omega
   have e:Ho l=l:=by rw[Ho,hc,List.take_length]
   refine wU 13 false I (dF (by omega)) (Aa (zE (zS I (zJ (zK (zK (zL (zE (zA (zB (wP I (wP I (Aa ?_)))))))))))))
   refine zE (zO ?_)
   rw[e]
   exact Au tH I (.tmp I) junk I tO fun W1 hp=>(hp.pick (l:=[AP (At W g),Bs g l junk]) [0,1] (by decide) I).own
  refine wU 13 true I (dT (by omega)) (Aa (zE (zR I (zI (zE (zA (zH (zA (zU ?_)))))))))
  have hm:i-1<l.length:=by omega
  obtain⟨x,hx⟩: ∃x,x=l[i]:=⟨_,rfl⟩
  obtain⟨y,hy⟩: ∃y,y=l[i-1]:=⟨_,rfl⟩
  have ex:l[i]? =some x:=by rw[List.getElem?_eq_getElem hi,hx]
  have ey:l[i-1]? =some y:=by rw[List.getElem?_eq_getElem hm,hy]
  have rx: ∀ {W1:World},Hp (AY W) [AP (At W g),Bs g l junk] W1→Ak W1 g (0+i*2) [str (Ad x.1),str (Ad x.2)]:=fun hp=>by rw[hx];exact Oe hp 1 rfl hi
  have ry: ∀ {W1:World},Hp (AY W) [AP (At W g),Bs g l junk] W1→Ak W1 g (0+(i-1)*2) [str (Ad y.1),str (Ad y.2)]:=fun hp=>by rw[hy];exact Oe hp 1 rfl hm
  refine qP I (qP I ?_)
  refine qJ ?_
  refine qL 0 I I (fun W1 hp=>rx hp) I (qP I (qP I (qP I (qV 22 ((i-1:Nat):Int) I (show w64 ((i:Int)-1)=_ by rw[Ap (by omega) (by omega)];omega) ?_))))
  refine qJ ?_
  refine qL 0 I I (fun W1 hp=>ry hp) I ?_
  refine V9 (Ad x.1) (Ad x.2) (Ad y.1) (Ad y.2) I I I I I ?_
  refine qU 25 (decide (x=y)) I Sj (AU (Aa (zE ?_)))
  refine Av I (fun hxy=> ?_) (fun hxy=> ?_)
  rotate_left
  ·have hne:x≠y:=of_decide_eq_false hxy
   refine zI (zN (zE (zB (wP I (wP I (wV 15 ((i+1:Nat):Int) I (Az (by omega)) (wP I (Aa ?_))))))))
   exact A6 (i+1) ⟨by omega,hi,by
    rw[LB hi (fun h=>hne (by rw[ex,ey] at h;exact Option.some.inj h.2)),hc,List.take_add_one,List.getElem?_eq_getElem hi];rfl⟩ (by show l.length-(i+1)<l.length-i;omega) ⟨rfl,rfl,trivial⟩ [] rfl
  have hxe:x=y:=of_decide_eq_true hxy
  have hsame:En l (i+1)=l.take i:=by rw[JL (by omega) (by rw[ex,ey,hxe]),hc]
  refine zA (zB (wP I (wP I ?_)))
  refine DD i tH I I I I I I I I (by omega) hcap ?_
  refine Af 28 (.slice (some ⟨g,0+i*2,none⟩) (l.length-i) (cap-i)) I (by rw[if_neg (by omega)]) ?_
  refine wP I (Aa (zE (zA (zA (zB (wP I (Aa (zE (zH ?_)))))))))
  refine AA (X:=Nat) (fun k=>[(0, .slice (some ⟨g,0,none⟩) l.length cap),(3, .int .i64 ((En l (i+k)).length:Nat)),(4, .slice (some ⟨g,0+i*2,none⟩) (l.length-i) (cap-i)),(5, .int .i64 (k:Nat))]) (fun k=>[AP (At W g),Bs g (En l (i+k)++l.drop (En l (i+k)).length) junk])
   (fun k=>1≤k∧i+k≤l.length∧1≤(En l (i+k)).length∧(En l (i+k)).length+1≤i+k) (fun k=>l.length-i-k) 1 ⟨Nat.le_refl _,hi,by rw[hsame,List.length_take];omega,by rw[hsame,List.length_take];omega⟩ ⟨rfl,by rw[hsame,List.length_take,Nat.min_eq_left (by omega)];rfl,rfl,rfl,trivial⟩ [] (by rw[hsame,List.length_take,Nat.min_eq_left (by omega),List.take_append_drop];rfl) ?_
  rintro k ⟨hk1,hk2,hk3,hk4⟩
  have hk1:1≤k:=hk1
  have hk2:i+k≤l.length:=hk2
  have hk3:1≤(En l (i+k)).length:=hk3
  have hk4:(En l (i+k)).length+1≤i+k:=hk4
  obtain⟨C,hC⟩: ∃C,C=En l (i+k):=⟨_,rfl⟩
  rw[←hC] at hk3 hk4
  rw[←hC]
  have hlen:(C++l.drop C.length).length=l.length:=by rw[List.length_append,List.length_drop];omega
  refine zA (zA (zB (wP I (wP I (wP I (wP I ?_))))))
  by_cases hlk:k<l.length-i
  ·refine wU 32 true I (dT (by omega)) (Aa (zE (zR I (zI (zE (zA (zH (zA (zU ?_)))))))))
   have old: ∀j (hj:j<l.length),C.length≤j→(C++l.drop C.length)[j]'(by rw[hlen];exact hj)=l[j]:=fun j hj h=>by
    rw[List.getElem_append_right h,List.getElem_drop]
    congr 1;omega
   have h1:i+k<l.length:=by omega
   have h2:i+k-1<l.length:=by omega
   obtain⟨u,hu⟩: ∃u,u=l[i+k]:=⟨_,rfl⟩
   obtain⟨v,hv⟩: ∃v,v=l[i+k-1]:=⟨_,rfl⟩
   have eu:l[i+k]? =some u:=by rw[List.getElem?_eq_getElem h1,hu]
   have ev:l[i+k-1]? =some v:=by rw[List.getElem?_eq_getElem h2,hv]
   have ru: ∀ {W1:World},Hp (AY W) [AP (At W g),Bs g (C++l.drop C.length) junk] W1→Ak W1 g (0+i*2+k*2) [str (Ad u.1),str (Ad u.2)]:=fun hp=>by
    have:=Oe hp 1 rfl (i:=i+k) (by rw[hlen];exact h1)
    rw[old _ h1 (by omega), ←hu] at this
    rwa [show 0+i*2+k*2=0+(i+k)*2 by omega]
   have rv: ∀ {W1:World},Hp (AY W) [AP (At W g),Bs g (C++l.drop C.length) junk] W1→Ak W1 g (0+i*2+(k-1)*2) [str (Ad v.1),str (Ad v.2)]:=fun hp=>by
    have:=Oe hp 1 rfl (i:=i+k-1) (by rw[hlen];exact h2)
    rw[old _ h2 (by omega), ←hv] at this
    rwa [show 0+i*2+(k-1)*2=0+(i+k-1)*2 by omega]
   refine qP I (qP I ?_)
   refine qJ ?_
   refine qL 0 I I (fun W1 hp=>ru hp) I (qP I (qP I (qP I (qV 41 ((k-1:Nat):Int) I (show w64 ((k:Int)-1)=_ by rw[Ap (by omega) (by omega)];omega) ?_))))
   refine qJ ?_
   refine qL 0 I I (fun W1 hp=>rv hp) I ?_
   refine RX (Ad u.1) (Ad u.2) (Ad v.1) (Ad v.2) I I I I I ?_
   refine D9 44 (.bool (!decide (u=v))) I (congrArg (fun b=>Value.bool (!b)) Sj) ?_
   refine AU (Aa (zE ?_))
   refine Av I (fun huv=> ?_) (fun huv=> ?_)
   ·have hne:u≠v:=fun e=>by rw[e,dT rfl] at huv;cases huv
    have hnew:En l (i+(k+1))=C++[u]:=by
     rw[show i+(k+1)=i+k+1 by omega,LB h1 (fun h=>hne (by rw[eu,ev] at h;exact Option.some.inj h.2)), ←hC,hu]
    have hd:l.drop C.length=l[C.length]'(by omega)::l.drop (C.length+1):=List.drop_eq_getElem_cons (by omega)
    have hs1:B7 (ptC (C++l.drop C.length)++junk) (0+C.length*2) (cvV u).cells.toList=ptC (C++[u]++l.drop (C++[u]).length)++junk:=by
     rw[hd,BP,List.append_assoc,show 0+C.length*2=(ptC C).length+0 by rw[AQ];omega,Ee]
     simp only[List.length_append,List.length_cons,List.length_nil,Nat.zero_add,BP,List.append_assoc]
     rfl
    have hs2:0+C.length*2+2≤(ptC (C++l.drop C.length)++junk).length:=by rw[List.length_append,AQ,hlen];omega
    refine zA (zB (wP I (wP I (wP I (wP I ?_)))))
    refine wJ ?_
    refine wL 0 I I (fun W1 hp=>ru hp) I ?_
    refine wJ ?_
    refine Aw 1 _ tH I I I I I I I I I I hs2 hs1 ?_
    refine Aa (zE (zB (wP I (wP I (wV 53 ((C.length+1:Nat):Int) I (Az (by omega)) (wP I (Aa (zN (zE (zB (wP I (wP I (wV 34 ((k+1:Nat):Int) I (Az (by omega)) ?_)))))))))))))
    exact wP I (Aa (A6 (k+1) ⟨by omega,by omega,by rw[hnew,List.length_append];omega,by rw[hnew,List.length_append,List.length_singleton];omega⟩ (by show l.length-i-(k+1)<l.length-i-k;omega) ⟨I,by rw[hnew,List.length_append];rfl,I,I,tO⟩ [] (by rw[hnew];rfl)))
   ·have he:u=v:=by
     cases hd:decide (u=v) with
     |true=>exact of_decide_eq_true hd
     |false=>rw[hd] at huv;cases huv
    have hsm:En l (i+(k+1))=C:=by rw[show i+(k+1)=i+k+1 by omega,JL (by omega) (by rw[eu,ev,he]), ←hC]
    exact zI (zN (zE (zB (wP I (wP I (wV 34 ((k+1:Nat):Int) I (Az (by omega)) (wP I (Aa (A6 (k+1) ⟨by omega,by omega,by rw[hsm];exact hk3,by rw[hsm];omega⟩ (by show l.length-i-(k+1)<l.length-i-k;omega) ⟨I,by rw[hsm];rfl,I,I,tO⟩ [] (by rw[hsm];rfl))))))))))
  have ek:i+k=l.length:=by omega
  rw[ek] at hC
  have hCC:Ho l=C:=hC.symm
  refine wU 32 false I (dF (by omega)) (Aa (zE (zS I (zJ (zK (zK (zL (zE (zA (zB ?_))))))))))
  have hd1:(ptC (l.drop C.length)).length=(l.length-C.length)*2:=by rw[AQ,List.length_drop]
  refine wP I (wP I ?_)
  refine DD C.length tH I I I I I I I I (by omega) hcap ?_
  refine Af 56 (.slice (some ⟨g,0+C.length*2,none⟩) (l.length-C.length) (cap-C.length)) I (by rw[if_neg (by omega)]) ?_
  refine UE 1 (e:=35) (z:= .agg #[str [],str []]) Tryz.underlying22 Tryz.zeroValue35 I I I I I I I I I (S9 _) (by rw[SC];show 0+C.length*2+_≤(ptC (C++l.drop C.length)++junk).length;rw[List.length_append,AQ,hlen];omega) ?_
  refine Aa (zE (zA (zB (wP I (wP I ?_)))))
  refine C5 C.length tH I I I I I I I I (by omega) ?_
  refine wP I (Aa (zE (zO (zQ (zP (zP (zQ (zP ?_))))))))
  have hs3:B7 (ptC (C++l.drop C.length)++junk) (0+C.length*2) (BW (Value.agg #[str [],str []]).cells.toList (l.length-C.length))=ptC C++(BW (Value.agg #[str [],str []]).cells.toList (l.length-C.length)++junk):=by
   rw[BP,List.append_assoc,show 0+C.length*2=(ptC C).length by rw[AQ];omega]
   exact RI (ptC C) (ptC (l.drop C.length)) junk _ (by rw[hd1,SC])
  rw[hCC]
  exact Au tH I (.tmp I) (BW (Value.agg #[str [],str []]).cells.toList (l.length-C.length)++junk) I tO fun W1 hp=>by
   rw[show[AP (At W g),Bs g (C++l.drop C.length) junk].set 1 _=[AP (At W g),(⟨g,35,B7 (ptC (C++l.drop C.length)++junk) (0+C.length*2) (BW (Value.agg #[str [],str []]).cells.toList (l.length-C.length)),true,none⟩:Bx)] from rfl,hs3] at hp
   exact(hp.pick (l:=[AP (At W g),Bs g C (BW (Value.agg #[str [],str []]).cells.toList (l.length-C.length)++junk)]) [0,1] (by decide) I).own
 refine key.mono ?_
 rintro e W' ⟨x,he,_,hb,hn'⟩
 exact⟨x,he,tO,EB hg I hb hn'⟩
theorem Ch.cells {W:World} {p:Option Addr} {l:List Ah} (h:Ch W p l):Mn W p (ptC l):=by
 rcases h with rfl|⟨b,off,e,h⟩
 ·exact .inl I
 ·by_cases h0:l=[]
  ·exact .inl (by rw[h0];rfl)
  refine .inr ⟨b,off,e, ?_⟩
  have hpos:0<l.length:=List.length_pos_iff.2 h0
  refine⟨(h 0 hpos).lt,fun m u hu=> ?_⟩
  have hm:m<l.length*2:=by rw[←AQ];exact(List.getElem?_eq_some_iff.1 hu).1
  have hi:m/2<l.length:=by omega
  have hr:=h (m/2) hi
  have hd:=Vn hi
  rw[hd,List.getElem?_append_right (by rw[AQ,List.length_take];omega),AQ,List.length_take,Nat.min_eq_left (by omega),List.getElem?_append_left (by show _<2;omega)] at hu
  have:=hr.get (m-m/2*2) u hu
  rwa [show off+m/2*2+(m-m/2*2)=off+m by omega] at this
theorem FW (W:World) (p:Option Addr) (cap:Nat) (l:List Ah) (hn:l.length≤100000) (hA:Ch W p l) (hne:l≠[]):
  Aj Tryz.prog 27 #[slv p l.length cap] W (fun V:Vec=>V.val l.length) (fun V=>V.OK 2 l.length (ptC l)∧V.p≠none) (fun V=>[V.bx 35 (ptC l)]):=by
 have hc:=hA.cells
 obtain⟨b,off,rfl,hR⟩: ∃b off,p=some ⟨b,off,none⟩∧Ak W b off (ptC l):=by
  rcases hc with h|h
  ·exfalso
   have h2:l.length*2=0:=by rw[←AQ,h];rfl
   exact hne (List.length_eq_zero_iff.1 (by omega))
  ·exact h
 refine Ac (args:=[slv (some ⟨b,off,none⟩) l.length cap]) Tryz.func27 I I I ?_
 refine zA (zB (wP I (Aa (zE (zA (zA (zB (wP I ?_))))))))
 refine Un tH I I I I I I I ?_
 refine zC (zE (zS I (zI (zE (zA (zB ?_))))))
 refine E3 tH I I I I I ?_
 intro g
 refine wP I ?_
 refine G2 (len:=0) (V:=⟨some g,0,[]⟩) (xs:=[]) 0 Tryz.vec22 rfl rfl rfl rfl rfl rfl rfl rfl rfl ⟨rfl,(fun h=>by cases h),fun _=>⟨Nat.le_refl _,Nat.zero_le _,rfl⟩⟩ (AQ l) (fun W hp j u hj=> ?_) (GY _) (by simp only[maxLen];omega) (by omega) ?_
 ·rw[Addr.add_none]
  exact((hR.hp hp).get j u hj)
 intro V hV hp0
 refine wP I (Aa (zE (zO ?_)))
 have e0:0+l.length=l.length:=Nat.zero_add _
 rw[e0,List.nil_append] at hV
 exact Au tH I (.tmp I) V (by rw[e0]) ⟨hV,fun h=>hne (List.length_eq_zero_iff.1 (hp0 h))⟩ fun W hp=>As.of_hp1 hp 0 I
-- BOXES 3
-- CODE2
abbrev TG (ix:Nat→Nat) (P:Nat→Ah) (k:Nat):List Value:=[.int .i64 (ix k:Nat),cvV (P k)]
theorem Rq (p:Option Addr) (n cap:Nat) (W:World):Aj Tryz.prog 78 #[slv p n cap] W (fun b:Nat=> .func (.func 139) #[] #[Ai b]) (fun _=>True) (fun b=>[⟨b,22,[slv p n cap],true,none⟩]):=by
 refine Ac (args:=[slv p n cap]) Tryz.func78 I I I ?_
 refine zA (zB ?_)
 (refine A5 rfl rfl rfl rfl ?_;intro)
 refine wP I (Aa ?_)
 rename_i b
 exact zE (zA (zB (wP I (wP I (Aa (zE (zO (Au tH I (.tmp I) b I tO fun W1 hp=>As.of_hp hp))))))))
theorem Qm (p:Option Addr) (n cap:Nat) (W:World):Aj Tryz.prog 79 #[slv p n cap] W (fun b:Nat=> .func (.func 140) #[] #[Ai b]) (fun _=>True) (fun b=>[⟨b,22,[slv p n cap],true,none⟩]):=by
 refine Ac (args:=[slv p n cap]) Tryz.func79 I I I ?_
 refine zA (zB ?_)
 (refine A5 rfl rfl rfl rfl ?_;intro)
 refine wP I (Aa ?_)
 rename_i b
 exact zE (zA (zB (wP I (wP I (Aa (zE (zO (Au tH I (.tmp I) b I tO fun W1 hp=>As.of_hp hp))))))))
theorem Ti (l:List Ah) (b1:Nat) (p:Option Addr) (cap:Nat) (hn:l.length<1099511627776):Qi Tryz.prog 139 [Ai b1] l.length (TG (fun k=>k) (Ae l)) (fun _=>Uc b1 p cap l):=by
 refine⟨fun y J Jx hN hB hA hU hY W hJ=> ?_⟩
 have hp0:=(hN _ _ W hJ).1.pts
 refine Eu (args:=[.func (.yield y) #[] #[],Ai b1]) (J0:=J 0 []) (Jm:=fun W=> ∃L,J l.length L W) Tryz.func139 I I I hJ ?_
 refine zA (zB (wL 0 I I (fun W hp=>(hN _ _ W hp).1.var) I (wP I (wP I (Aa (zE (zH ?_)))))))
 refine Eb (X:=Nat×List (Nat×Obj)) (fun s=>[(0, .func (.yield y) #[] #[]),(1,Ai b1),(5,slv p l.length cap),(6, .int .i64 (l.length:Nat)),(7, .int .i64 (s.1:Nat))]) (fun s W=>J s.1 s.2 W)
  (fun s=>s.1≤l.length) (fun s=>l.length-s.1) (0,[]) (Nat.zero_le _) ⟨rfl,rfl,rfl,rfl,rfl,trivial⟩ (fun W hp=>hp) ?_
 rintro⟨i,L⟩ hi
 have hi:i≤l.length:=hi
 refine zA (zB (wP I ?_))
 by_cases hlt:i<l.length
 rotate_left
 ·refine wU 8 false I (dF (by omega)) (Aa (zE (zA (zS I (zJ (zK (zK (zL ?_))))))))
  exact Im I fun W hp=>⟨L,by
   have e:i=l.length:=by omega
   have hp:J i L W:=hp
   rw[e] at hp
   exact hp⟩
 refine wU 8 true I (dT (by omega)) (Aa (zE (zA (zR I (zI (zE (zA (zH (zA (zB ?_))))))))))
 obtain⟨g,off,hpe,hrow⟩: ∃g off,p=some ⟨g,off,none⟩∧ ∀W k L,J k L W→ ∀j,j<l.length→Ak W g (off+j*2) [str (Ad (Ae l j).1),str (Ad (Ae l j).2)]:=by
  obtain⟨g,off,e,_⟩:=hp0.at_ hlt
  refine⟨g,off,e,fun W1 k L1 h1 j hj=> ?_⟩
  obtain⟨g',off',e',h2⟩:=(hN _ _ W1 h1).1.pts.at_ hj
  rw[e] at e'
  cases e'
  rw[AG hj]
  exact h2 j hj
 subst hpe
 refine wP I ?_
 refine wJ ?_
 refine wL 0 I I (fun W hp=>hrow W _ _ hp i hlt) I ?_
 refine MX (fun b W=>J i [(b, .cells (Value.agg #[str [],str []]).cells 35 (0,0))] W) I I I (Tryz.hZ.get I) (fun W W' b hp hb hl ho=>hA _ _ W W' b _ hp hb hl ho) fun b=> ?_
 refine wP I ?_
 refine Ns (cs:=[str [],str []]) (ty:=35) (fun W=>J i (MB b (Ae l i)) W) tH I I I I I I (fun W hp=>(hN _ _ W hp).2 (b,_) (List.mem_cons_self ..)) I I I (fun W W' hp hu=>hU _ _ _ _ W W' hp hu) ?_
 refine Aa (zE (zA (zB (wP I (wP I (wL 0 I I (fun W hp=>show Ak W b 0 (cvV (Ae l i)).cells.toList from Ak.of_block ((hN _ _ W hp).2 (b,_) (List.mem_cons_self ..))) I ?_))))))
 have hYk: ∀W,J i (MB b (Ae l i)) W→YieldAt (Fw none) 0 Tryz.prog y (TG (fun k=>k) (Ae l) i).toArray W fun e W'=>(e= .returned (.bool true)∧J (i+1) (MB b (Ae l i)) W')∨(e= .returned (.bool false)∧Jx W'):=fun W h=>hY _ _ W hlt h
 refine G8 (A1:=fun W=>J (i+1) (MB b (Ae l i)) W) (A2:=Jx) I I I I I I hYk ?_ ?_
 rotate_left
 ·exact wP I (Aa (zE (zR I (zO (zQ (zP (zP (zQ (Dl I (fun W h=>h))))))))))
 exact wP I (Aa (zE (zS I (zI (zN (zE (zB (wP I (wV 17 ((i+1:Nat):Int) I (Az (by omega)) (wP I (Aa (Ej (i+1,MB b (Ae l i)) hlt (by show l.length-(i+1)<l.length-i;omega) ⟨I,I,I,I,I,tO⟩ (fun W hp=>hp)))))))))))))
theorem Rz (l:List Ah) (b1:Nat) (p:Option Addr) (cap:Nat) (hn:l.length<1099511627776):Qi Tryz.prog 140 [Ai b1] l.length (TG (fun k=>l.length-1-k) (fun k=>Ae l (l.length-1-k))) (fun _=>Uc b1 p cap l):=by
 refine⟨fun y J Jx hN hB hA hU hY W hJ=> ?_⟩
 have hp0:=(hN _ _ W hJ).1.pts
 refine Eu (args:=[.func (.yield y) #[] #[],Ai b1]) (J0:=J 0 []) (Jm:=fun W=> ∃L,J l.length L W) Tryz.func140 I I I hJ ?_
 refine zA (zB (wL 0 I I (fun W hp=>(hN _ _ W hp).1.var) I (wP I (wP I (wV 6 ((l.length:Int)-1-(0:Nat)) I (show w64 ((l.length:Int)-1)=_ by rw[Ap (by omega) (by omega)];omega) (wP I (Aa (zE (zH ?_)))))))))
 refine Eb (X:=Nat) (fun k=>[(0, .func (.yield y) #[] #[]),(1,Ai b1),(3, .int .i64 ((l.length:Int)-1-(k:Nat)))]) (fun k W=>J k [] W)
  (fun k=>k≤l.length) (fun k=>l.length-k) 0 (Nat.zero_le _) ⟨rfl,rfl,rfl,trivial⟩ (fun W hp=>hp) ?_
 intro k hk
 have hk:k≤l.length:=hk
 refine zA (zA (zB (wP I (wP I ?_))))
 by_cases hlt:k<l.length
 rotate_left
 ·refine wU 8 false I (dF (by omega)) (Aa (zE (zS I (zJ (zK (zK (zL ?_)))))))
  exact Im I fun W hp=>⟨[],by
   have e:k=l.length:=by omega
   have hp:J k [] W:=hp
   rw[e] at hp
   exact hp⟩
 refine wU 8 true I (dT (by omega)) (Aa (zE (zR I (zI (zE (zA (zH (zA (zB ?_)))))))))
 obtain⟨g,off,hpe,hrow⟩: ∃g off,p=some ⟨g,off,none⟩∧ ∀W k L,J k L W→ ∀j,j<l.length→Ak W g (off+j*2) [str (Ad (Ae l j).1),str (Ad (Ae l j).2)]:=by
  obtain⟨g,off,e,_⟩:=hp0.at_ hlt
  refine⟨g,off,e,fun W1 k L1 h1 j hj=> ?_⟩
  obtain⟨g',off',e',h2⟩:=(hN _ _ W1 h1).1.pts.at_ hj
  rw[e] at e'
  cases e'
  rw[AG hj]
  exact h2 j hj
 subst hpe
 have ej:(l.length:Int)-1-(k:Nat)=((l.length-1-k:Nat):Int):=by omega
 have hj:l.length-1-k<l.length:=by omega
 refine wP I (wP I (wV 12 ((l.length-1-k:Nat):Int) I ej (wL 0 I I (fun W hp=>(hN _ _ W hp).1.var) I (wP I (wV 14 ((l.length-1-k:Nat):Int) I ej ?_)))))
 refine wJ ?_
 refine wL 0 I I (fun W hp=>hrow W _ _ hp (l.length-1-k) hj) I ?_
 have hYk: ∀W,J k [] W→YieldAt (Fw none) 0 Tryz.prog y (TG (fun k=>l.length-1-k) (fun k=>Ae l (l.length-1-k)) k).toArray W fun e W'=>(e= .returned (.bool true)∧J (k+1) [] W')∨(e= .returned (.bool false)∧Jx W'):=fun W h=>hY _ _ W hlt h
 refine G8 (A1:=fun W=>J (k+1) [] W) (A2:=Jx) I I I I I I hYk ?_ ?_
 rotate_left
 ·exact wP I (Aa (zE (zR I (zO (zQ (zP (zP (zQ (Dl I (fun W h=>h))))))))))
 exact wP I (Aa (zE (zS I (zI (zN (zE (zB (wP I (wP I (wV 10 ((l.length:Int)-1-((k+1:Nat):Int)) I (show w64 ((l.length:Int)-1-(k:Nat)-1)=_ by rw[Ap (by omega) (by omega)];omega) (wP I (Aa (Ej (k+1) hlt (by show l.length-(k+1)<l.length-k;omega) ⟨I,I,I,tO⟩ (fun W hp=>hp))))))))))))))
-- BOXES 6
-- CODE2
def Db (P:Nat→Ah):Nat→List Ah
 |0=>[]
 |k+1=>P k::B1 (P k) (Db P k)
theorem IJ (p:Ah):B1 p []=[]:=by simp[B1]
theorem IK (p b:Ah):B1 p [b]=[b]:=by simp[B1]
theorem IC {p a b:Ah} {t:List Ah} (h:A9 a b p≤0):B1 p (b::a::t)=B1 p (a::t):=by rw[B1,if_pos h]
theorem Hz {p a b:Ah} {t:List Ah} (h: ¬A9 a b p≤0):B1 p (b::a::t)=b::a::t:=by rw[B1,if_neg h]
theorem I5 (p:Ah): ∀r,(B1 p r).length≤r.length
 |[]=>by rw[IJ];exact Nat.le_refl _
 |[b]=>by rw[IK];exact Nat.le_refl _
 |b::a::t=>by
  by_cases h:A9 a b p≤0
  ·rw[IC h]
   have:=I5 p (a::t)
   simp only[List.length_cons] at this⊢
   omega
  ·rw[Hz h];exact Nat.le_refl _
theorem L9 {p x:Ah}: ∀ {r:List Ah},x∈B1 p r→x∈r
 |[],h=>by rwa [IJ] at h
 |[b],h=>by rwa [IK] at h
 |b::a::t,h=>by
  by_cases c:A9 a b p≤0
  ·rw[IC c] at h
   exact List.mem_cons_of_mem _ (L9 h)
  ·rwa [Hz c] at h
theorem Hu (P:Nat→Ah): ∀k,(Db P k).length≤k
 |0=>Nat.le_refl _
 |k+1=>by
  have h1:=Hu P k
  have h2:=I5 (P k) (Db P k)
  show(B1 (P k) (Db P k)).length+1≤k+1
  omega
theorem Qu {P:Nat→Ah} {x:Ah}: ∀ {k:Nat},x∈Db P k→ ∃i,i<k∧x=P i
 |0,h=>absurd h List.not_mem_nil
 |k+1,h=>by
  rcases List.mem_cons.1 h with rfl|h
  ·exact⟨k,by omega,I⟩
  ·obtain⟨i,hi,e⟩:=Qu (L9 h)
   exact⟨i,by omega,e⟩
theorem Ny (l:List Ah): ∀(P:Nat→Ah),(∀i (h:i<l.length),P i=l[i])→Db P l.length=Ao l:=by
 have key: ∀(m:List Ah) (r:List Ah) (P:Nat→Ah) (j:Nat),Db P j=r→(∀i (h:i<m.length),P (j+i)=m[i])→Db P (j+m.length)=m.foldl (fun r p=>p::B1 p r) r:=by
  intro m
  induction m with
  |nil=>exact fun r P j h _=>h
  |cons x m ih=>
   intro r P j h hP
   have e0:P j=x:=hP 0 (by simp)
   rw[List.length_cons,show j+(m.length+1)=j+1+m.length by omega]
   rw[List.foldl_cons]
   refine ih _ P (j+1) ?_ fun i hi=> ?_
   ·show P j::B1 (P j) (Db P j)=_
    rw[e0,h]
   ·have:=hP (i+1) (by rw[List.length_cons];omega)
    rw[show j+1+i=j+(i+1) by omega,this];rfl
 intro P hP
 have:=key l [] P 0 rfl (fun i h=>by rw[Nat.zero_add];exact hP i h)
 rwa [Nat.zero_add] at this
theorem P9 (l:List Ah):Db (Ae l) l.length=Ao l:=Ny l _ fun _ h=>AG h
theorem Px (l:List Ah):Db (fun k=>Ae l (l.length-1-k)) l.length=Ao l.reverse:=by
 have:=Ny l.reverse (fun k=>Ae l (l.length-1-k)) fun i h=>by
  rw[List.length_reverse] at h
  show Ae l (l.length-1-i)=_
  rw[AG (by omega),List.getElem_reverse]
 rwa [List.length_reverse] at this
theorem VS (p q r:Ah):decide (RF p q r≤0)=decide (A9 p q r≤0):=by
 unfold RF
 rw[Ok]
 exact decide_eq_decide.2 (by unfold A9;constructor<;>intro h<;>grind)
abbrev JZ (c:Nat) (x y z:Ah) (W:World):Prop:=Aj Tryz.prog 55 #[Ai c,cvV x,cvV y,cvV z] W (fun _:Unit=> .int .i64 (RF x y z)) (fun _=>True) (fun _=>[])
theorem RU (a b:Ah) (t:List Ah) (j:List Value):ptC (b::a::t).reverse++j=ptC t.reverse++([str (Ad a.1),str (Ad a.2)]++([str (Ad b.1),str (Ad b.2)]++j)):=by
 rw[List.reverse_cons,List.reverse_cons,BP,BP,List.append_assoc,List.append_assoc];rfl
theorem RJ (b:Ah) (t:List Ah) (j:List Value):ptC t.reverse++(ptC [b]++j)=ptC (b::t).reverse++j:=by
 rw[List.reverse_cons,BP,List.append_assoc]
theorem SB {g cap:Nat} {j:List Value} {b:Ah} {t:List Ah} (h:(⟨some g,cap,j⟩:Vec).OK 2 (b::t).length (ptC (b::t).reverse)):(⟨some g,cap,ptC [b]++j⟩:Vec).OK 2 t.length (ptC t.reverse):=by
 obtain⟨h1,h2,h3⟩:=h.cap (by simp)
 refine⟨by rw[AQ,List.length_reverse],(fun e=>by cases e),fun _=>⟨?_,h2, ?_⟩⟩
 ·have h1:t.length+1≤cap:=h1
  show t.length≤cap
  omega
 ·rw[AQ,List.length_reverse] at h3
  show(ptC t.reverse).length+(ptC [b]++j).length=cap*2
  have h3:(t.length+1)*2+j.length=cap*2:=h3
  rw[AQ,List.length_reverse,List.length_append]
  show t.length*2+(2+j.length)=cap*2
  omega
theorem Ks (bk c gf:Nat) (lb:List Value) (hE:Bg Tryz.prog gf=true) (m:Nat) (ix:Nat→Nat) (P:Nat→Ah) (Need:Nat→World→Prop) (hI:Qi Tryz.prog gf lb m (TG ix P) Need) (h0:0<m) (hm:m≤4096) (W:World) (hk:Ak W bk 0 [Ai c])
  (hN: ∀k W1,Below W.heap.size W W1→Need k W1) (hL: ∀i j k,i<m→j<m→k<m→ ∀W1,Below W.heap.size W W1→JZ c (P i) (P j) (P k) W1):
  Aj Tryz.prog 76 #[.func (.func gf) #[] lb.toArray,Ai bk] W (fun V:Vec=>V.val ((Db P m).length-1)) (fun V=>V.OK 2 ((Db P m).length-1) (ptC (Db P m).tail.reverse)∧V.p≠none) (fun V=>[V.bx 35 (ptC (Db P m).tail.reverse)]):=by
 obtain⟨S,hS⟩: ∃S,S=Db P m:=⟨_,rfl⟩
 rw[←hS]
 refine Ac (args:=[.func (.func gf) #[] lb.toArray,Ai bk]) Tryz.func76 I I I ?_
 refine zA (zB (wP I (Aa (zE (zA (zB ?_))))))
 (refine Ag Tryz.hZ rfl rfl rfl rfl ?_;intro)
 refine Aa ?_
 rename_i b4
 refine zE (zA (zA (zB (wP I (Aa (zE (zH ?_)))))))
 refine Ey ?_
 refine Fp (X:=Nat×Vec) (fun x=>[lsB b4 (x.2.val (Db P x.1).length),x.2.bx 35 (ptC (Db P x.1).reverse)])
  (fun j x=>x.1=j∧x.2.OK 2 (Db P x.1).length (ptC (Db P x.1).reverse)) (fun _ _=>False) (0,Vec.empty) rfl hE hI (fun _=>rfl)
  ⟨rfl,Vec.OK.empty 2⟩ [] rfl (fun k x W1 _ hp=>hN k W1 hp.below) ?_ ?_ (fun _ _ _ _ _ h=>h.elim)
 ·rintro k ⟨k',O⟩ d l' rec L hk1 ⟨e1,hO⟩ hrec
  obtain rfl:k'=k:=e1
  have hk1:k'<m:=hk1
  have hO:O.OK 2 (Db P k').length (ptC (Db P k').reverse):=hO
  have hlen:=Hu P k'
  have hsu:Db P (k'+1)=P k'::B1 (P k') (Db P k'):=rfl
  have hmem: ∀x∈Db P k', ∃i,i<m∧x=P i:=fun x hx=>by
   obtain⟨i,hi,e⟩:=Qu hx
   exact⟨i,by omega,e⟩
  obtain⟨r1,hr1⟩: ∃r1,r1=B1 (P k') (Db P k'):=⟨_,rfl⟩
  have hlr:r1.length≤(Db P k').length:=by rw[hr1];exact I5 _ _
  rw[←hr1] at hsu
  refine zB ?_
  (refine Ag Tryz.hZ rfl rfl rfl rfl ?_;intro)
  refine wS 5 I I I (Aa ?_)
  rename_i b6
  refine Dc 4 hrec I ?_
  refine CF ?_
  refine NA (X:=Vec) (fun _=>[(1,Ai bk),(4,Ai b4),(6,Ai b6)]) (fun O=>[AP L,lsB b4 (O.val r1.length),O.bx 35 (ptC r1.reverse),BD d,Bm l' rec .busy none,ptB b6 (Ad (P k').1) (Ad (P k').2)]) (fun O=>O.OK 2 r1.length (ptC r1.reverse)) ?_ ?_
  ·refine zH ?_
   refine AA (X:=List Ah×Vec) (fun _=>[(1,Ai bk),(4,Ai b4),(6,Ai b6)]) (fun s=>[AP L,lsB b4 (s.2.val s.1.length),s.2.bx 35 (ptC s.1.reverse),BD d,Bm l' rec .busy none,ptB b6 (Ad (P k').1) (Ad (P k').2)])
    (fun s=>B1 (P k') s.1=r1∧(∀x∈s.1,x∈Db P k')∧s.1.length≤4096∧s.2.OK 2 s.1.length (ptC s.1.reverse)) (fun s=>s.1.length) (Db P k',O) ⟨hr1.symm,fun _ h=>h,by show(Db P k').length≤4096;omega,hO⟩ ⟨rfl,rfl,rfl,trivial⟩ [] rfl ?_
   rintro⟨r,⟨pO,cO,jO⟩⟩ ⟨i1,i2,i3,i4⟩
   have i1:B1 (P k') r=r1:=i1
   have i2: ∀x∈r,x∈Db P k':=i2
   have i3:r.length≤4096:=i3
   have i4:(⟨pO,cO,jO⟩:Vec).OK 2 r.length (ptC r.reverse):=i4
   rcases r with _|⟨b,_|⟨a,t⟩⟩
   ·obtain rfl:r1=[]:=by rw[←i1,IJ]
    cases pO with
    |none=>
     refine zA (zA (zU (qB 1 I I I (qP I (qP I ?_)))))
     refine D9 12 (.bool false) I I ?_
     refine qP I ?_
     iterate 16 refine Ib I I ?_
     exact qP I (AU (Aa (zE (zS I (zJ (zK (zK (zL (Al (⟨none,cO,jO⟩:Vec) i4 ⟨I,I,I,tO⟩ [] I)))))))))
    |some g=>
     refine zA (zA (zU (qB 1 I I I (qP I (qP I ?_)))))
     refine D9 12 (.bool false) I I ?_
     refine qP I ?_
     iterate 16 refine Ib I I ?_
     exact qP I (AU (Aa (zE (zS I (zJ (zK (zK (zL (Al (⟨some g,cO,jO⟩:Vec) i4 ⟨I,I,I,tO⟩ [] I)))))))))
   ·obtain rfl:r1=[b]:=by rw[←i1,IK]
    cases pO with
    |none=>exact absurd (i4.nil rfl) (by simp)
    |some g=>
    refine zA (zA (zU (qB 1 I I I (qP I (qP I ?_)))))
    refine D9 12 (.bool false) I I ?_
    refine qP I ?_
    iterate 16 refine Ib I I ?_
    exact qP I (AU (Aa (zE (zS I (zJ (zK (zK (zL (Al (⟨some g,cO,jO⟩:Vec) i4 ⟨I,I,I,tO⟩ [] I)))))))))
   ·cases pO with
    |none=>exact absurd (i4.nil rfl) (by simp)
    |some g=>
    have i3:t.length+1+1≤4096:=i3
    have el:(b::a::t).length=t.length+2:=rfl
    obtain⟨ia,ha,ea⟩:=hmem a (i2 a (by simp))
    obtain⟨ib,hb,eb⟩:=hmem b (i2 b (by simp))
    have hleft: ∀W1,Below W.heap.size W W1→JZ c a b (P k') W1:=fun W1 h=>by rw[ea,eb];exact hL ia ib k' ha hb hk1 W1 h
    have hA:(ptC t.reverse).length=t.length*2:=by rw[AQ,List.length_reverse]
    refine zA (zA (zU (qB 1 I I I (qP I (qP I (qU 12 true I (dT (by rw[el];omega)) (qP I (qL 0 I I (fun W1 hp=>hk.hp hp) I (qB 1 I I I (qB 1 I I I (qP I (qP I (qV 18 ((t.length:Nat):Int) I (show w64 (((b::a::t).length:Int)-2)=_ by rw[el,Ap (by omega) (by omega)];omega) ?_)))))))))))))
    refine qI I I (by omega) (by rw[el];omega) (qL 0 I I (fun W1 hp=>show Ak W1 g (0+t.length*2) [str (Ad a.1),str (Ad a.2)] from JW hp 2 (A:=ptC t.reverse) (C:=[str (Ad b.1),str (Ad b.2)]++jO) I (RU a b t jO) (by rw[hA];omega)) I (qB 1 I I I (qB 1 I I I (qP I (qP I (qV 24 ((t.length+1:Nat):Int) I (show w64 (((b::a::t).length:Int)-1)=_ by rw[el,Ap (by omega) (by omega)];omega) (qI I I (by omega) (by rw[el];omega) (qL 0 I I (fun W1 hp=>show Ak W1 g (0+(t.length+1)*2) [str (Ad b.1),str (Ad b.2)] from JW hp 2 (A:=ptC t.reverse++[str (Ad a.1),str (Ad a.2)]) (C:=jO) I ((RU a b t jO).trans (by rw[List.append_assoc])) (by rw[List.length_append,hA];show 0+(t.length+1)*2=t.length*2+2;omega)) I (qB 5 I I I (qC I I (fun W1 hp=>hleft W1 hp.below) (qP I (qU 29 (decide (A9 a b (P k')≤0)) I (VS a b (P k')) (qP I ?_)))))))))))))
    refine AU (Aa (zE ?_))
    refine Av I (fun hc=> ?_) (fun hc=> ?_)
    ·have hc':A9 a b (P k')≤0:=of_decide_eq_true hc
     refine zI (zE (zH (zB (wB 1 I I I (wB 1 I I I (wP I (wP I (wV 34 ((t.length+1:Nat):Int) I (show w64 (((b::a::t).length:Int)-1)=_ by rw[el,Ap (by omega) (by omega)];omega) ?_))))))))
     refine C5 (t.length+1) tH I I I I I I I I (by have h2:t.length+2≤cO:=(i4.cap (by simp)).1;show t.length+1≤cO;omega) ?_
     refine wS 1 I I I (Aa (zN ?_))
     exact A6 (a::t,(⟨some g,cO,ptC [b]++jO⟩:Vec)) ⟨by rw[←i1,IC hc'],fun x hx=>i2 x (List.mem_cons_of_mem _ hx),by show t.length+1≤4096;omega,SB i4⟩ (by show t.length+1<t.length+1+1;omega) ⟨I,I,I,tO⟩ []
      (by show _=[AP L,lsB b4 (.slice (some ⟨g,0,none⟩) (t.length+1) cO),(⟨g,35,ptC (a::t).reverse++(ptC [b]++jO),true,none⟩:Bx),BD d,Bm l' rec .busy none,ptB b6 (Ad (P k').1) (Ad (P k').2)];rw[RJ];rfl)
    ·have hc': ¬A9 a b (P k')≤0:=of_decide_eq_false hc
     obtain rfl:r1=b::a::t:=by rw[←i1,Hz hc']
     exact zJ (zK (zK (zL (Al (⟨some g,cO,jO⟩:Vec) i4 ⟨I,I,I,tO⟩ [] I))))
  ·intro O1 hO1
   have hO1:O1.OK 2 r1.length (ptC r1.reverse):=hO1
   refine zB (wB 1 I I I (wB 5 I I I ?_))
   refine AD Tryz.hZ tH I I I I I I I I I I I fun bS=> ?_
   refine Bo (V:=O1) (len:=r1.length) (xs:=ptC r1.reverse) 2 6 Tryz.vec22 (r1.length+1) (ptC (P k'::r1).reverse) I I I I I I I I I I I hO1 I I I (by rw[List.reverse_cons,BP];rfl) (by simp only[maxLen];omega) (by omega) I ?_
   intro gO cO jO hO2
   exact wS 1 I I I (Aa (zN (Ct 4 (k'+1,(⟨some gO,cO,jO⟩:Vec)) hrec I ⟨I,by show(⟨some gO,cO,jO⟩:Vec).OK 2 (Db P (k'+1)).length (ptC (Db P (k'+1)).reverse);rw[hsu];exact hO2⟩ [_,_] (by rw[hsu];rfl))))
 ·rintro⟨k',⟨pO,cO,jO⟩⟩ d l' rec ⟨e1,hO⟩
  obtain rfl:k'=m:=e1
  have hO:(⟨pO,cO,jO⟩:Vec).OK 2 (Db P k').length (ptC (Db P k').reverse):=hO
  have hlen:=Hu P k'
  have hne:S≠[]:=by
   obtain⟨j,rfl⟩: ∃j,k'=j+1:=⟨k'-1,by omega⟩
   rw[hS]
   exact List.cons_ne_nil _ _
  rw[←hS] at hO hlen
  rw[←hS]
  clear hS
  obtain⟨b,t,rfl⟩: ∃b t,S=b::t:=by
   cases S with
   |nil=>exact absurd rfl hne
   |cons b t=>exact⟨b,t,rfl⟩
  cases pO with
  |none=>exact absurd (hO.nil rfl) (by simp)
  |some g=>
  have hlen:t.length+1≤k':=hlen
  have el:(b::t).length=t.length+1:=rfl
  refine zN (zE (zA (zB (wB 0 I I I (wB 0 I I I (wP I (wP I (wV 43 (t.length:Nat) I (show w64 (((b::t).length:Int)-1)=_ by rw[el,Ap (by omega) (by omega)];omega) ?_))))))))
  refine C5 t.length tH I I I I I I I I (by have h2:t.length+1≤cO:=(hO.cap (by simp)).1;show t.length≤cO;omega) ?_
  refine wP I (Aa (zE (zO ?_)))
  refine CN 2 I ?_
  exact Au tH I (.tmp I) (⟨some g,cO,ptC [b]++jO⟩:Vec) I ⟨SB hO,by simp⟩ fun W1 hp=>by
   have h1:=hp.pick (l:=[(⟨g,35,ptC (b::t).reverse++jO,true,none⟩:Bx)]) [1] (by decide) rfl
   rw[←RJ] at h1
   exact As.of_hp h1
-- BOXES 5
theorem K8 (p q:Rat) (hkp:okQ p) (hkq:okQ q) (h:BB p q) (W0:World) (hv:BU W0) (ht:AO W0):
  Aj Tryz.prog 119 #[str (Ad p),str (Ad q)] W0 (fun _:Unit=> .tuple #[.int .i64 (Fg (p.num*(q.den:Nat)) (q.num*(p.den:Nat))), .int .i64 0]) (fun _=>True) (fun _=>[]):=by
 have hlp:=Bk hkp
 have hlq:=Bk hkq
 refine Ac (args:=[str (Ad p),str (Ad q)]) Tryz.func119 I I I ?_
 repeat (first|refine zA ?_|refine zB ?_|refine zC ?_|refine zD ?_|refine zE ?_|refine zF ?_|refine zG ?_|refine zH ?_|refine zI ?_|refine zJ ?_|refine zK ?_|refine zL ?_|refine zM rfl ?_|refine zN ?_|refine zO ?_|refine zP ?_|refine zQ ?_|refine zR rfl ?_|refine zS rfl ?_|refine zU ?_)
 refine wP I (wP I (Aa (AH (A0 ?_))))
 refine AF (X:=Unit) (fun _=>[(0,str (Ad p)),(1,str (Ad q)),(4, .int .i64 0),(5, .int .i64 0)]) (fun _=>[]) (fun _=>True) ?_ ?_
 ·repeat (first|refine zA ?_|refine zB ?_|refine zC ?_|refine zD ?_|refine zE ?_|refine zF ?_|refine zG ?_|refine zH ?_|refine zI ?_|refine zJ ?_|refine zK ?_|refine zL ?_|refine zM rfl ?_|refine zN ?_|refine zO ?_|refine zP ?_|refine zQ ?_|refine zR rfl ?_|refine zS rfl ?_|refine zU ?_)
  refine wP I ?_
  by_cases hp:smQ p
  ·refine wC I I (fun W _=>(AW (Ad p) (by omega) W).cast ((BM p).trans (if_pos hp))) (wP I (wP I (wP I ?_)))
   (refine Ag Tryz.hZ rfl rfl rfl rfl ?_;intro)
   (first|refine wS 0 rfl rfl rfl ?_|refine wS 1 rfl rfl rfl ?_|refine wS 2 rfl rfl rfl ?_|refine wS 3 rfl rfl rfl ?_|refine wS 4 rfl rfl rfl ?_)
   refine wP I (Aa ?_)
   rename_i b6
   repeat (first|refine zA ?_|refine zB ?_|refine zC ?_|refine zD ?_|refine zE ?_|refine zF ?_|refine zG ?_|refine zH ?_|refine zI ?_|refine zJ ?_|refine zK ?_|refine zL ?_|refine zM rfl ?_|refine zN ?_|refine zO ?_|refine zP ?_|refine zQ ?_|refine zR rfl ?_|refine zS rfl ?_|refine zU ?_)
   refine wP I (Aa ?_)
   repeat (first|refine zA ?_|refine zB ?_|refine zC ?_|refine zD ?_|refine zE ?_|refine zF ?_|refine zG ?_|refine zH ?_|refine zI ?_|refine zJ ?_|refine zK ?_|refine zL ?_|refine zM rfl ?_|refine zN ?_|refine zO ?_|refine zP ?_|refine zQ ?_|refine zR rfl ?_|refine zS rfl ?_|refine zU ?_)
   refine wP I ?_
   by_cases hq:smQ q
   ·refine wC I I (fun W _=>(AW (Ad q) (by omega) W).cast ((BM q).trans (if_pos hq))) (wP I (wP I (wP I ?_)))
    (refine Ag Tryz.hZ rfl rfl rfl rfl ?_;intro)
    (first|refine wS 0 rfl rfl rfl ?_|refine wS 1 rfl rfl rfl ?_|refine wS 2 rfl rfl rfl ?_|refine wS 3 rfl rfl rfl ?_|refine wS 4 rfl rfl rfl ?_)
    refine wP I (Aa ?_)
    rename_i b8
    repeat (first|refine zA ?_|refine zB ?_|refine zC ?_|refine zD ?_|refine zE ?_|refine zF ?_|refine zG ?_|refine zH ?_|refine zI ?_|refine zJ ?_|refine zK ?_|refine zL ?_|refine zM rfl ?_|refine zN ?_|refine zO ?_|refine zP ?_|refine zQ ?_|refine zR rfl ?_|refine zS rfl ?_|refine zU ?_)
    refine wP I (Aa ?_)
    repeat (first|refine zA ?_|refine zB ?_|refine zC ?_|refine zD ?_|refine zE ?_|refine zF ?_|refine zG ?_|refine zH ?_|refine zI ?_|refine zJ ?_|refine zK ?_|refine zL ?_|refine zM rfl ?_|refine zN ?_|refine zO ?_|refine zP ?_|refine zQ ?_|refine zR rfl ?_|refine zS rfl ?_|refine zU ?_)
    refine wP I ?_
    (first|refine wB 0 rfl rfl rfl ?_|refine wB 1 rfl rfl rfl ?_|refine wB 2 rfl rfl rfl ?_|refine wB 3 rfl rfl rfl ?_|refine wB 4 rfl rfl rfl ?_)
    refine wP I ?_
    (first|refine wB 0 rfl rfl rfl ?_|refine wB 1 rfl rfl rfl ?_|refine wB 2 rfl rfl rfl ?_|refine wB 3 rfl rfl rfl ?_|refine wB 4 rfl rfl rfl ?_)
    refine wP I (wV 31 (p.num*(q.den:Nat)) I (Cw hp.1 (CG q hq)) (wP I ?_))
    (first|refine wB 0 rfl rfl rfl ?_|refine wB 1 rfl rfl rfl ?_|refine wB 2 rfl rfl rfl ?_|refine wB 3 rfl rfl rfl ?_|refine wB 4 rfl rfl rfl ?_)
    refine wP I ?_
    (first|refine wB 0 rfl rfl rfl ?_|refine wB 1 rfl rfl rfl ?_|refine wB 2 rfl rfl rfl ?_|refine wB 3 rfl rfl rfl ?_|refine wB 4 rfl rfl rfl ?_)
    refine wP I (wV 36 (q.num*(p.den:Nat)) I (Cw hq.1 (CG p hp)) (wC I I (fun W _=>IB _ _ W) (wP I (wP I (Aa ?_)))))
    repeat (first|refine zA ?_|refine zB ?_|refine zC ?_|refine zD ?_|refine zE ?_|refine zF ?_|refine zG ?_|refine zH ?_|refine zI ?_|refine zJ ?_|refine zK ?_|refine zL ?_|refine zM rfl ?_|refine zN ?_|refine zO ?_|refine zP ?_|refine zQ ?_|refine zR rfl ?_|refine zS rfl ?_|refine zU ?_)
    exact wR2 I I I
   ·refine wC I I (fun W _=>(AW (Ad q) (by omega) W).cast ((BM q).trans (if_neg hq))) (wP I (wP I (wP I ?_)))
    (refine Ag Tryz.hZ rfl rfl rfl rfl ?_;intro)
    (first|refine wS 0 rfl rfl rfl ?_|refine wS 1 rfl rfl rfl ?_|refine wS 2 rfl rfl rfl ?_|refine wS 3 rfl rfl rfl ?_|refine wS 4 rfl rfl rfl ?_)
    refine wP I (Aa ?_)
    repeat (first|refine zA ?_|refine zB ?_|refine zC ?_|refine zD ?_|refine zE ?_|refine zF ?_|refine zG ?_|refine zH ?_|refine zI ?_|refine zJ ?_|refine zK ?_|refine zL ?_|refine zM rfl ?_|refine zN ?_|refine zO ?_|refine zP ?_|refine zQ ?_|refine zR rfl ?_|refine zS rfl ?_|refine zU ?_)
    refine wP I (Aa ?_)
    repeat (first|refine zA ?_|refine zB ?_|refine zC ?_|refine zD ?_|refine zE ?_|refine zF ?_|refine zG ?_|refine zH ?_|refine zI ?_|refine zJ ?_|refine zK ?_|refine zL ?_|refine zM rfl ?_|refine zN ?_|refine zO ?_|refine zP ?_|refine zQ ?_|refine zR rfl ?_|refine zS rfl ?_|refine zU ?_)
    exact Al () tO ⟨I,I,I,I,tO⟩ _ I
  ·refine wC I I (fun W _=>(AW (Ad p) (by omega) W).cast ((BM p).trans (if_neg hp))) (wP I (wP I (wP I ?_)))
   (refine Ag Tryz.hZ rfl rfl rfl rfl ?_;intro)
   (first|refine wS 0 rfl rfl rfl ?_|refine wS 1 rfl rfl rfl ?_|refine wS 2 rfl rfl rfl ?_|refine wS 3 rfl rfl rfl ?_|refine wS 4 rfl rfl rfl ?_)
   refine wP I (Aa ?_)
   repeat (first|refine zA ?_|refine zB ?_|refine zC ?_|refine zD ?_|refine zE ?_|refine zF ?_|refine zG ?_|refine zH ?_|refine zI ?_|refine zJ ?_|refine zK ?_|refine zL ?_|refine zM rfl ?_|refine zN ?_|refine zO ?_|refine zP ?_|refine zQ ?_|refine zR rfl ?_|refine zS rfl ?_|refine zU ?_)
   refine wP I (Aa ?_)
   repeat (first|refine zA ?_|refine zB ?_|refine zC ?_|refine zD ?_|refine zE ?_|refine zF ?_|refine zG ?_|refine zH ?_|refine zI ?_|refine zJ ?_|refine zK ?_|refine zL ?_|refine zM rfl ?_|refine zN ?_|refine zO ?_|refine zP ?_|refine zQ ?_|refine zR rfl ?_|refine zS rfl ?_|refine zU ?_)
   exact Al () tO ⟨I,I,I,I,tO⟩ _ I
 ·intro _ _
  repeat (first|refine zA ?_|refine zB ?_|refine zC ?_|refine zD ?_|refine zE ?_|refine zF ?_|refine zG ?_|refine zH ?_|refine zI ?_|refine zJ ?_|refine zK ?_|refine zL ?_|refine zM rfl ?_|refine zN ?_|refine zO ?_|refine zP ?_|refine zQ ?_|refine zR rfl ?_|refine zS rfl ?_|refine zU ?_)
  refine wP I (wC I I (fun W hp=>(Cu (Ad p) (by omega) W (hv.hp hp) (ht.hp hp)).cast (Hw hkp)) (wP I (wP I (wP I ?_))))
  (refine Ag Tryz.hZ rfl rfl rfl rfl ?_;intro)
  (first|refine wS 0 rfl rfl rfl ?_|refine wS 1 rfl rfl rfl ?_|refine wS 2 rfl rfl rfl ?_|refine wS 3 rfl rfl rfl ?_|refine wS 4 rfl rfl rfl ?_)
  refine wP I (Aa ?_)
  rename_i b10
  repeat (first|refine zA ?_|refine zB ?_|refine zC ?_|refine zD ?_|refine zE ?_|refine zF ?_|refine zG ?_|refine zH ?_|refine zI ?_|refine zJ ?_|refine zK ?_|refine zL ?_|refine zM rfl ?_|refine zN ?_|refine zO ?_|refine zP ?_|refine zQ ?_|refine zR rfl ?_|refine zS rfl ?_|refine zU ?_)
  refine wP I (wP I (Aa ?_))
  repeat (first|refine zA ?_|refine zB ?_|refine zC ?_|refine zD ?_|refine zE ?_|refine zF ?_|refine zG ?_|refine zH ?_|refine zI ?_|refine zJ ?_|refine zK ?_|refine zL ?_|refine zM rfl ?_|refine zN ?_|refine zO ?_|refine zP ?_|refine zQ ?_|refine zR rfl ?_|refine zS rfl ?_|refine zU ?_)
  refine wP I (wC I I (fun W hp=>(Cu (Ad q) (by omega) W (hv.hp hp) (ht.hp hp)).cast (Hw hkq)) (wP I (wP I (wP I ?_))))
  (refine Ag Tryz.hZ rfl rfl rfl rfl ?_;intro)
  (first|refine wS 0 rfl rfl rfl ?_|refine wS 1 rfl rfl rfl ?_|refine wS 2 rfl rfl rfl ?_|refine wS 3 rfl rfl rfl ?_|refine wS 4 rfl rfl rfl ?_)
  refine wP I (Aa ?_)
  rename_i b12
  repeat (first|refine zA ?_|refine zB ?_|refine zC ?_|refine zD ?_|refine zE ?_|refine zF ?_|refine zG ?_|refine zH ?_|refine zI ?_|refine zJ ?_|refine zK ?_|refine zL ?_|refine zM rfl ?_|refine zN ?_|refine zO ?_|refine zP ?_|refine zQ ?_|refine zR rfl ?_|refine zS rfl ?_|refine zU ?_)
  refine wP I (wP I (Aa ?_))
  repeat (first|refine zA ?_|refine zB ?_|refine zC ?_|refine zD ?_|refine zE ?_|refine zF ?_|refine zG ?_|refine zH ?_|refine zI ?_|refine zJ ?_|refine zK ?_|refine zL ?_|refine zM rfl ?_|refine zN ?_|refine zO ?_|refine zP ?_|refine zQ ?_|refine zR rfl ?_|refine zS rfl ?_|refine zU ?_)
  (first|refine wB 0 rfl rfl rfl ?_|refine wB 1 rfl rfl rfl ?_|refine wB 2 rfl rfl rfl ?_|refine wB 3 rfl rfl rfl ?_|refine wB 4 rfl rfl rfl ?_)
  (first|refine wB 0 rfl rfl rfl ?_|refine wB 1 rfl rfl rfl ?_|refine wB 2 rfl rfl rfl ?_|refine wB 3 rfl rfl rfl ?_|refine wB 4 rfl rfl rfl ?_)
  refine wC I I (fun W hp=>CK p q hkp hkq h.1 h.2 W (ht.hp hp)) ?_
  iterate 7 refine wP I ?_
  refine Aa ?_
  repeat (first|refine zA ?_|refine zB ?_|refine zC ?_|refine zD ?_|refine zE ?_|refine zF ?_|refine zG ?_|refine zH ?_|refine zI ?_|refine zJ ?_|refine zK ?_|refine zL ?_|refine zM rfl ?_|refine zN ?_|refine zO ?_|refine zP ?_|refine zQ ?_|refine zR rfl ?_|refine zS rfl ?_|refine zU ?_)
  refine wP I (wP I (Aa ?_))
  repeat (first|refine zA ?_|refine zB ?_|refine zC ?_|refine zD ?_|refine zE ?_|refine zF ?_|refine zG ?_|refine zH ?_|refine zI ?_|refine zJ ?_|refine zK ?_|refine zL ?_|refine zM rfl ?_|refine zN ?_|refine zO ?_|refine zP ?_|refine zQ ?_|refine zR rfl ?_|refine zS rfl ?_|refine zU ?_)
  refine wP I (wP I (wC I I (fun W _=>HE _ _ h.1 h.2 W) (wP I (wP I (wP I (wP I (Aa ?_)))))))
  repeat (first|refine zA ?_|refine zB ?_|refine zC ?_|refine zD ?_|refine zE ?_|refine zF ?_|refine zG ?_|refine zH ?_|refine zI ?_|refine zJ ?_|refine zK ?_|refine zL ?_|refine zM rfl ?_|refine zN ?_|refine zO ?_|refine zP ?_|refine zQ ?_|refine zR rfl ?_|refine zS rfl ?_|refine zU ?_)
  exact wR2 I I I
theorem K4 (p q:Rat) (hkp:okQ p) (hkq:okQ q) (hno: ¬BB p q) (W0:World) (hv:BU W0) (ht:AO W0):
  Aj Tryz.prog 119 #[str (Ad p),str (Ad q)] W0 (fun _:Unit=> .tuple #[.int .i64 0, .int .i64 4]) (fun _=>True) (fun _=>[]):=by
 obtain⟨s,hs⟩:=H1 p q hkp hkq hno
 have hlp:=Bk hkp
 have hlq:=Bk hkq
 refine Ac (args:=[str (Ad p),str (Ad q)]) Tryz.func119 I I I ?_
 repeat (first|refine zA ?_|refine zB ?_|refine zC ?_|refine zD ?_|refine zE ?_|refine zF ?_|refine zG ?_|refine zH ?_|refine zI ?_|refine zJ ?_|refine zK ?_|refine zL ?_|refine zM rfl ?_|refine zN ?_|refine zO ?_|refine zP ?_|refine zQ ?_|refine zR rfl ?_|refine zS rfl ?_|refine zU ?_)
 refine wP I (wP I (Aa (AH (A0 ?_))))
 refine AF (X:=Unit) (fun _=>[(0,str (Ad p)),(1,str (Ad q)),(4, .int .i64 0),(5, .int .i64 0)]) (fun _=>[]) (fun _=>True) ?_ ?_
 ·repeat (first|refine zA ?_|refine zB ?_|refine zC ?_|refine zD ?_|refine zE ?_|refine zF ?_|refine zG ?_|refine zH ?_|refine zI ?_|refine zJ ?_|refine zK ?_|refine zL ?_|refine zM rfl ?_|refine zN ?_|refine zO ?_|refine zP ?_|refine zQ ?_|refine zR rfl ?_|refine zS rfl ?_|refine zU ?_)
  refine wP I ?_
  by_cases hp:smQ p
  ·refine wC I I (fun W _=>(AW (Ad p) (by omega) W).cast ((BM p).trans (if_pos hp))) (wP I (wP I (wP I ?_)))
   (refine Ag Tryz.hZ rfl rfl rfl rfl ?_;intro)
   (first|refine wS 0 rfl rfl rfl ?_|refine wS 1 rfl rfl rfl ?_|refine wS 2 rfl rfl rfl ?_|refine wS 3 rfl rfl rfl ?_|refine wS 4 rfl rfl rfl ?_)
   refine wP I (Aa ?_)
   rename_i b6
   repeat (first|refine zA ?_|refine zB ?_|refine zC ?_|refine zD ?_|refine zE ?_|refine zF ?_|refine zG ?_|refine zH ?_|refine zI ?_|refine zJ ?_|refine zK ?_|refine zL ?_|refine zM rfl ?_|refine zN ?_|refine zO ?_|refine zP ?_|refine zQ ?_|refine zR rfl ?_|refine zS rfl ?_|refine zU ?_)
   refine wP I (Aa ?_)
   repeat (first|refine zA ?_|refine zB ?_|refine zC ?_|refine zD ?_|refine zE ?_|refine zF ?_|refine zG ?_|refine zH ?_|refine zI ?_|refine zJ ?_|refine zK ?_|refine zL ?_|refine zM rfl ?_|refine zN ?_|refine zO ?_|refine zP ?_|refine zQ ?_|refine zR rfl ?_|refine zS rfl ?_|refine zU ?_)
   refine wP I ?_
   by_cases hq:smQ q
   ·exact absurd (QG ⟨hp,hq⟩).2.2.2 hno
   ·refine wC I I (fun W _=>(AW (Ad q) (by omega) W).cast ((BM q).trans (if_neg hq))) (wP I (wP I (wP I ?_)))
    (refine Ag Tryz.hZ rfl rfl rfl rfl ?_;intro)
    (first|refine wS 0 rfl rfl rfl ?_|refine wS 1 rfl rfl rfl ?_|refine wS 2 rfl rfl rfl ?_|refine wS 3 rfl rfl rfl ?_|refine wS 4 rfl rfl rfl ?_)
    refine wP I (Aa ?_)
    repeat (first|refine zA ?_|refine zB ?_|refine zC ?_|refine zD ?_|refine zE ?_|refine zF ?_|refine zG ?_|refine zH ?_|refine zI ?_|refine zJ ?_|refine zK ?_|refine zL ?_|refine zM rfl ?_|refine zN ?_|refine zO ?_|refine zP ?_|refine zQ ?_|refine zR rfl ?_|refine zS rfl ?_|refine zU ?_)
    refine wP I (Aa ?_)
    repeat (first|refine zA ?_|refine zB ?_|refine zC ?_|refine zD ?_|refine zE ?_|refine zF ?_|refine zG ?_|refine zH ?_|refine zI ?_|refine zJ ?_|refine zK ?_|refine zL ?_|refine zM rfl ?_|refine zN ?_|refine zO ?_|refine zP ?_|refine zQ ?_|refine zR rfl ?_|refine zS rfl ?_|refine zU ?_)
    exact Al () tO ⟨I,I,I,I,tO⟩ _ I
  ·refine wC I I (fun W _=>(AW (Ad p) (by omega) W).cast ((BM p).trans (if_neg hp))) (wP I (wP I (wP I ?_)))
   (refine Ag Tryz.hZ rfl rfl rfl rfl ?_;intro)
   (first|refine wS 0 rfl rfl rfl ?_|refine wS 1 rfl rfl rfl ?_|refine wS 2 rfl rfl rfl ?_|refine wS 3 rfl rfl rfl ?_|refine wS 4 rfl rfl rfl ?_)
   refine wP I (Aa ?_)
   repeat (first|refine zA ?_|refine zB ?_|refine zC ?_|refine zD ?_|refine zE ?_|refine zF ?_|refine zG ?_|refine zH ?_|refine zI ?_|refine zJ ?_|refine zK ?_|refine zL ?_|refine zM rfl ?_|refine zN ?_|refine zO ?_|refine zP ?_|refine zQ ?_|refine zR rfl ?_|refine zS rfl ?_|refine zU ?_)
   refine wP I (Aa ?_)
   repeat (first|refine zA ?_|refine zB ?_|refine zC ?_|refine zD ?_|refine zE ?_|refine zF ?_|refine zG ?_|refine zH ?_|refine zI ?_|refine zJ ?_|refine zK ?_|refine zL ?_|refine zM rfl ?_|refine zN ?_|refine zO ?_|refine zP ?_|refine zQ ?_|refine zR rfl ?_|refine zS rfl ?_|refine zU ?_)
   exact Al () tO ⟨I,I,I,I,tO⟩ _ I
 ·intro _ _
  repeat (first|refine zA ?_|refine zB ?_|refine zC ?_|refine zD ?_|refine zE ?_|refine zF ?_|refine zG ?_|refine zH ?_|refine zI ?_|refine zJ ?_|refine zK ?_|refine zL ?_|refine zM rfl ?_|refine zN ?_|refine zO ?_|refine zP ?_|refine zQ ?_|refine zR rfl ?_|refine zS rfl ?_|refine zU ?_)
  refine wP I (wC I I (fun W hp=>(Cu (Ad p) (by omega) W (hv.hp hp) (ht.hp hp)).cast (Hw hkp)) (wP I (wP I (wP I ?_))))
  (refine Ag Tryz.hZ rfl rfl rfl rfl ?_;intro)
  (first|refine wS 0 rfl rfl rfl ?_|refine wS 1 rfl rfl rfl ?_|refine wS 2 rfl rfl rfl ?_|refine wS 3 rfl rfl rfl ?_|refine wS 4 rfl rfl rfl ?_)
  refine wP I (Aa ?_)
  rename_i b10
  repeat (first|refine zA ?_|refine zB ?_|refine zC ?_|refine zD ?_|refine zE ?_|refine zF ?_|refine zG ?_|refine zH ?_|refine zI ?_|refine zJ ?_|refine zK ?_|refine zL ?_|refine zM rfl ?_|refine zN ?_|refine zO ?_|refine zP ?_|refine zQ ?_|refine zR rfl ?_|refine zS rfl ?_|refine zU ?_)
  refine wP I (wP I (Aa ?_))
  repeat (first|refine zA ?_|refine zB ?_|refine zC ?_|refine zD ?_|refine zE ?_|refine zF ?_|refine zG ?_|refine zH ?_|refine zI ?_|refine zJ ?_|refine zK ?_|refine zL ?_|refine zM rfl ?_|refine zN ?_|refine zO ?_|refine zP ?_|refine zQ ?_|refine zR rfl ?_|refine zS rfl ?_|refine zU ?_)
  refine wP I (wC I I (fun W hp=>(Cu (Ad q) (by omega) W (hv.hp hp) (ht.hp hp)).cast (Hw hkq)) (wP I (wP I (wP I ?_))))
  (refine Ag Tryz.hZ rfl rfl rfl rfl ?_;intro)
  (first|refine wS 0 rfl rfl rfl ?_|refine wS 1 rfl rfl rfl ?_|refine wS 2 rfl rfl rfl ?_|refine wS 3 rfl rfl rfl ?_|refine wS 4 rfl rfl rfl ?_)
  refine wP I (Aa ?_)
  rename_i b12
  repeat (first|refine zA ?_|refine zB ?_|refine zC ?_|refine zD ?_|refine zE ?_|refine zF ?_|refine zG ?_|refine zH ?_|refine zI ?_|refine zJ ?_|refine zK ?_|refine zL ?_|refine zM rfl ?_|refine zN ?_|refine zO ?_|refine zP ?_|refine zQ ?_|refine zR rfl ?_|refine zS rfl ?_|refine zU ?_)
  refine wP I (wP I (Aa ?_))
  repeat (first|refine zA ?_|refine zB ?_|refine zC ?_|refine zD ?_|refine zE ?_|refine zF ?_|refine zG ?_|refine zH ?_|refine zI ?_|refine zJ ?_|refine zK ?_|refine zL ?_|refine zM rfl ?_|refine zN ?_|refine zO ?_|refine zP ?_|refine zQ ?_|refine zR rfl ?_|refine zS rfl ?_|refine zU ?_)
  (first|refine wB 0 rfl rfl rfl ?_|refine wB 1 rfl rfl rfl ?_|refine wB 2 rfl rfl rfl ?_|refine wB 3 rfl rfl rfl ?_|refine wB 4 rfl rfl rfl ?_)
  (first|refine wB 0 rfl rfl rfl ?_|refine wB 1 rfl rfl rfl ?_|refine wB 2 rfl rfl rfl ?_|refine wB 3 rfl rfl rfl ?_|refine wB 4 rfl rfl rfl ?_)
  refine wC I I (fun W hp=>hs W (ht.hp hp)) ?_
  iterate 7 refine wP I ?_
  refine Aa ?_
  repeat (first|refine zA ?_|refine zB ?_|refine zC ?_|refine zD ?_|refine zE ?_|refine zF ?_|refine zG ?_|refine zH ?_|refine zI ?_|refine zJ ?_|refine zK ?_|refine zL ?_|refine zM rfl ?_|refine zN ?_|refine zO ?_|refine zP ?_|refine zQ ?_|refine zR rfl ?_|refine zS rfl ?_|refine zU ?_)
  refine wP I (wP I (Aa ?_))
  repeat (first|refine zA ?_|refine zB ?_|refine zC ?_|refine zD ?_|refine zE ?_|refine zF ?_|refine zG ?_|refine zH ?_|refine zI ?_|refine zJ ?_|refine zK ?_|refine zL ?_|refine zM rfl ?_|refine zN ?_|refine zO ?_|refine zP ?_|refine zQ ?_|refine zR rfl ?_|refine zS rfl ?_|refine zU ?_)
  refine wP I (wP I (wP I (Aa ?_)))
  repeat (first|refine zA ?_|refine zB ?_|refine zC ?_|refine zD ?_|refine zE ?_|refine zF ?_|refine zG ?_|refine zH ?_|refine zI ?_|refine zJ ?_|refine zK ?_|refine zL ?_|refine zM rfl ?_|refine zN ?_|refine zO ?_|refine zP ?_|refine zQ ?_|refine zR rfl ?_|refine zS rfl ?_|refine zU ?_)
  exact wR2 I I I
theorem K1 (p q:Rat) (hkp:okQ p) (hkq:okQ q) (W0:World) (hv:BU W0) (ht:AO W0):
  Aj Tryz.prog 119 #[str (Ad p),str (Ad q)] W0 (fun _:Unit=>cmV p q) (fun _=>True) (fun _=>[]):=by
 by_cases h:BB p q
 ·exact(K8 p q hkp hkq h W0 hv ht).cast (by rw[cmV,if_pos h,NR])
 ·exact(K4 p q hkp hkq h W0 hv ht).cast (by rw[cmV,if_neg h])
-- BOXES 8
-- CODE2
def erI:Bool→Int
 |true=>4
 |false=>0
abbrev caE (c:Nat) (s:Bool):Bx:=⟨c,61,[.int .i64 (erI s)],true,none⟩
abbrev caO (s:Bool):Obj:= .cells #[.int .i64 (erI s)] 61 (0,0)
structure KcP (c:Nat) (s:Bool) (W:World):Prop where
 o:W.heap[c]? =some (caO s)
 k: ∀W',Gd W W' c→BU W'∧AO W'
theorem Gd.refl (W:World) (g:Nat):Gd W W g:=⟨rfl,rfl,rfl,Nat.le_refl _,fun _ _ _=>rfl⟩
theorem KcP.v {c:Nat} {s:Bool} {W:World} (h:KcP c s W):BU W:=(h.k W (Gd.refl W c)).1
theorem KcP.t {c:Nat} {s:Bool} {W:World} (h:KcP c s W):AO W:=(h.k W (Gd.refl W c)).2
theorem KcP.at_ {c:Nat} {s s1:Bool} {W W1:World} {bs:List Bx} (h:KcP c s W) (hp:Hp (AY W) (AP (At W c)::caE c s1::bs) W1):KcP c s1 W1:=
 ⟨(hp.own.cell 1 (caE c s1) rfl (c,caO s1) (List.mem_cons_self ..)).1,fun _ h2=>h.k _ ((FM h.o ⟨_,List.mem_cons_self ..⟩ (Hp.take (bxs:=[AP (At W c),caE c s1]) (nb:=bs) hp)).trans h2)⟩
theorem KcP.of {c:Nat} {s:Bool} {W0 W:World} {bxs:List Bx} (hp:Hp W0 bxs W) (k:Nat) (hk:nth bxs k=some (caE c s)) (hv:BU W0) (ht:AO W0):KcP c s W:=by
 rw[B2] at hk
 have hc:=hp.own.cell k _ hk (c,caO s) (List.mem_cons_self ..)
 exact⟨hc.1,fun W2 h2=>⟨hv.below (h2.below hp.below hc.2),ht.below (h2.below hp.below hc.2)⟩⟩
theorem Ge {c:Nat} {s1:Bool} {W W1:World} {bs:List Bx} (hp:Hp (AY W) (AP (At W c)::caE c s1::bs) W1):As (AY W) W1 [AP (At W c),caE c s1]:=
 (Hp.take (bxs:=[AP (At W c),caE c s1]) (nb:=bs) hp).own
structure Co (g:Nat) (vs:List Value) (c:Nat) {X:Type} (st:X→Bool) (val:X→Value) (Φ:X→Prop) (W:World):Prop where
 out:Calls Tryz.prog g vs.toArray W fun e W'=> ∃x,e= .returned (val x)∧Φ x∧Jo W W' c c (caO (st x))
theorem Co.enter {N c:Nat} {s:Bool} {f:Nat} {fn:Func} {cd:Code} {args:List Value} {X:Type} {st:X→Bool} {val:X→Value} {Φ:X→Prop} {W:World} (h:KcP c s W) (hf:Tryz.prog.funcs[f]? =some fn) (hb:fn.body=some cd) (hN:fn.ntmps=N) (hl:Nat.ble args.length N=true)
  (hw:WC none 0 Tryz.prog N [] cd (HF Tryz.prog fn (AY W) val Φ (fun x=>[AP (At W c),caE c (st x)])) (JI 0 args) (Hp (AY W) [AP (At W c),caE c s])):Co f args c st val Φ W:=by
 have key:=BR (X:=X) (val:=val) (Φ:=Φ) (nb:=fun x=>[AP (At W c),caE c (st x)]) (Hp.enterT (B:=caE c s) rfl h.o) hf hb hN hl hw
 refine⟨key.mono ?_⟩
 rintro e W' ⟨x,he,hx,hb,hn⟩
 exact⟨x,he,hx,EB h.o I hb hn⟩
theorem Co.same {g c:Nat} {vs:List Value} {s:Bool} {v:Value} {W:World} (h:Co g vs c (fun _:Unit=>s) (fun _=>v) (fun _=>True) W) (ho:W.heap[c]? =some (caO s)):Aj Tryz.prog g vs.toArray W (fun _:Unit=>v) (fun _=>True) (fun _=>[]):=by
 refine⟨h.out.mono ?_⟩
 rintro e W' ⟨x,he,_,hn⟩
 refine⟨x,he,tO,⟨hn.os,hn.tape,hn.output,hn.size,fun i hi=> ?_⟩,As.nil _ _⟩
 by_cases e:i=c
 ·subst e;exact hn.new.trans ho.symm
 ·exact hn.old i e hi
section
variable {r:Option Nat} {n:Nat} {W0:World} {N:Nat} {D:List Deferred} {ops:List Oper} {Q:Exit→Act→World→Prop} {o:Oper} {rest:List Oper} {env:Env} {bxs:List Bx}
theorem Pz (k c:Nat) {s:Bool} {cl:Call} {f:Operand} {g d:Nat} {vs:List Value} {X:Type} {st:X→Bool} {val:X→Value} {Φ:X→Prop} (hg:A7 ops N env o=some true) (hd:o.dst=some d) (ho:o.op= .call cl) (hc:cl.callee= .value f) (hf:evO N env f=some (.func (.func g) #[] #[])) (ha:Cq (evO N env) cl.args.toList=some vs) (hE:Bg Tryz.prog g=true)
  (hk:nth bxs k=some (caE c s)) (hC: ∀W,Hp W0 bxs W→Co g vs c st val Φ W)
  (h: ∀x,Φ x→WL r n Tryz.prog N D ops Q rest ((d,val x)::env) (Hp W0 (bxs.set k (caE c (st x))))):WL r n Tryz.prog N D ops Q (o::rest) env (Hp W0 bxs):=
 D0 (X:=X) (val:=val) (Φ:=Φ) (capt:=[]) k (B:=caE c s) (L1:=[]) (L2:=[]) (b:=c) (ob:=caO s) (fun x=>caE c (st x)) (g':=fun _=>c) (o':=fun x=>caO (st x))
  hg hd ho hc hf ha hE hk rfl (fun _ _=>rfl) (fun W hp=>by rw[List.append_nil];exact(hC W hp).out) h
theorem Cr (k c:Nat) {s s':Bool} {v:Value} {cl:Call} {f:Operand} {g d:Nat} {vs:List Value} (hg:A7 ops N env o=some true) (hd:o.dst=some d) (ho:o.op= .call cl) (hc:cl.callee= .value f) (hf:evO N env f=some (.func (.func g) #[] #[])) (ha:Cq (evO N env) cl.args.toList=some vs) (hE:Bg Tryz.prog g=true)
  (hk:nth bxs k=some (caE c s)) (hC: ∀W,Hp W0 bxs W→Co g vs c (fun _:Unit=>s') (fun _=>v) (fun _=>True) W)
  (h:WL r n Tryz.prog N D ops Q rest ((d,v)::env) (Hp W0 (bxs.set k (caE c s')))):WL r n Tryz.prog N D ops Q (o::rest) env (Hp W0 bxs):=
 Pz k c hg hd ho hc hf ha hE hk hC (fun _ _=>h)
end
@[irreducible] def opR (ok : Prop) [Decidable ok] (r : Rat) (s : Bool) : Rat × Bool := match s with
 |true=>(0,true)
 |false=>if ok then(r,false) else(0,true)
theorem Uz {ok:Prop} [Decidable ok] {r:Rat}:opR ok r true=(0,true):=by unfold opR;rfl
theorem Ft {ok:Prop} [Decidable ok] {r:Rat} (h:ok):opR ok r false=(r,false):=by unfold opR;exact if_pos h
theorem T9 {ok:Prop} [Decidable ok] {r:Rat} (h: ¬ok):opR ok r false=(0,true):=by unfold opR;exact if_neg h
theorem Wx:okQ 0:=by
 have h:szQ 0 1:=by unfold szQ;decide+kernel
 exact h.ok (by decide)
theorem UO {ok:Prop} [Decidable ok] {r:Rat} {s:Bool} (h:ok→okQ r):okQ (opR ok r s).1:=by
 cases s with
 |true=>rw[Uz];exact Wx
 |false=>
  by_cases c:ok
  ·rw[Ft c];exact h c
  ·rw[T9 c];exact Wx
def kSb (s:Bool) (p q:Rat):Rat×Bool:=opR (I2 p q) (p-q) s
def kMu (s:Bool) (p q:Rat):Rat×Bool:=opR (Ep p q) (p*q) s
theorem O5 (s:Bool) (p q:Rat):okQ (kSb s p q).1:=UO MS
theorem Vm (s:Bool) (p q:Rat):okQ (kMu s p q).1:=UO Nl
@[irreducible] def kOr (s : Bool) (p q : Rat) : Int × Bool := match s with
 |true=>(0,true)
 |false=>if BB p q then(Dv p q,false) else(0,true)
theorem Wy {p q:Rat}:kOr true p q=(0,true):=by unfold kOr;rfl
theorem SE {p q:Rat} (h:BB p q):kOr false p q=(Dv p q,false):=by unfold kOr;exact if_pos h
theorem WA {p q:Rat} (h: ¬BB p q):kOr false p q=(0,true):=by unfold kOr;exact if_neg h
theorem SV (c g:Nat) (a b:List UInt8) (W:World) (h:KcP c true W):
  Co 104 [Ai c, .func (.func g) #[] #[],str a,str b] c (fun _:Unit=>true) (fun _=>str [48]) (fun _=>True) W:=by
 refine Co.enter h Tryz.func104 I I I ?_
 refine zA (zB (wP I (Aa (zE (zA (zA (zB (wP I ?_))))))))
 refine AL I I I I ?_
 exact wP I (wB 1 I I I (wP I (Aa (zE (zR I (zA (zB (wP I (Aa (zE (zO (zP (Au tH I (.tmp I) () I tO fun W1 hp=>Ge hp)))))))))))))
theorem Pr (c g:Nat) (a b v:List UInt8) (z:Bool) (W:World) (h:KcP c false W) (hE:Bg Tryz.prog g=true)
  (hg: ∀W1,BU W1→AO W1→Aj Tryz.prog g #[str a,str b] W1 (fun _:Unit=> .tuple #[str v, .int .i64 (erI z)]) (fun _=>True) (fun _=>[])):
  Co 104 [Ai c, .func (.func g) #[] #[],str a,str b] c (fun _:Unit=>z) (fun _=>if z=true then str [48] else str v) (fun _=>True) W:=by
 refine Co.enter h Tryz.func104 I I I ?_
 refine zA (zB (wP I (Aa (zE (zA (zA (zB (wP I ?_))))))))
 refine AL I I I I ?_
 refine wP I (wB 1 I I I (wP I (Aa (zE (zS I (zI (zE (zA (zB (wP I (wP I (wP I ?_))))))))))))
 refine Br (capt:=[]) I I I I I I hE (fun W1 hp=>hg W1 (h.at_ (bs:=[]) hp).v (h.at_ (bs:=[]) hp).t) ?_
 iterate 5 refine wP I ?_
 refine Aa (zE (zA (zA (zB (wP I (wP I ?_))))))
 refine AL I I I I ?_
 refine wP I (wS 1 I I I (Aa (zE (zA (zB ?_)))))
 cases z with
 |true=>
  exact wP I (wP I (Aa (zE (zR I (zA (zB (wP I (Aa (zE (zO (zP (Au tH I (.tmp I) () I tO fun W1 hp=>Ge hp))))))))))))
 |false=>
  exact wP I (wP I (Aa (zE (zS I (zI (zE (zA (zB (wP I (wP I (Aa (zE (zO (Au tH I (.tmp I) () I tO fun W1 hp=>Ge hp))))))))))))))
theorem Lk (c g:Nat) (a b:List UInt8) (ok:Prop) [Decidable ok] (r:Rat) (s:Bool) (W:World) (h:KcP c s W) (hE:Bg Tryz.prog g=true)
  (hg: ∀W1,BU W1→AO W1→Aj Tryz.prog g #[str a,str b] W1 (fun _:Unit=>opV ok r) (fun _=>True) (fun _=>[])):
  Co 104 [Ai c, .func (.func g) #[] #[],str a,str b] c (fun _:Unit=>(opR ok r s).2) (fun _=>str (Ad (opR ok r s).1)) (fun _=>True) W:=by
 cases s with
 |true=>
  rw[Uz]
  show Co _ _ c _ (fun _=>str (Ad 0)) _ W
  rw[CJ]
  exact SV c g a b W h
 |false=>
  by_cases k:ok
  ·rw[Ft k]
   exact Pr c g a b (Ad r) false W h hE fun W1 hv ht=>(hg W1 hv ht).cast (HJ k)
  ·rw[T9 k]
   show Co _ _ c _ (fun _=>str (Ad 0)) _ W
   rw[CJ]
   exact Pr c g a b [] true W h hE fun W1 hv ht=>(hg W1 hv ht).cast (H3 k)
abbrev HI (g:Nat) (vs:List Value) (c:Nat) (x:Rat×Bool) (W:World):Prop:=Co g vs c (fun _:Unit=>x.2) (fun _=>str (Ad x.1)) (fun _=>True) W
theorem FN (c:Nat) (s:Bool) (p q:Rat) (hp:okQ p) (hq:okQ q) (W:World) (h:KcP c s W):HI 59 [Ai c,str (Ad p),str (Ad q)] c (kSb s p q) W:=by
 refine Co.enter h Tryz.func59 I I I ?_
 refine zA (zB (wP I (Aa (zE (zA (zB (wP I (wP I (wP I ?_)))))))))
 refine Cr 1 c I I I I I I (by kernel_rfl) I (fun W1 hp1=>Lk c 126 (Ad p) (Ad q) (I2 p q) (p-q) s W1 (h.at_ (bs:=[]) hp1) (by kernel_rfl) (fun W2 hv ht=>Qa p q hp hq W2 hv ht)) ?_
 exact wP I (Aa (zE (zO (Au tH I (.tmp I) () I tO fun W1 hp=>Ge hp))))
theorem Km (c:Nat) (s:Bool) (p q:Rat) (hp:okQ p) (hq:okQ q) (W:World) (h:KcP c s W):HI 60 [Ai c,str (Ad p),str (Ad q)] c (kMu s p q) W:=by
 refine Co.enter h Tryz.func60 I I I ?_
 refine zA (zB (wP I (Aa (zE (zA (zB (wP I (wP I (wP I ?_)))))))))
 refine Cr 1 c I I I I I I (by kernel_rfl) I (fun W1 hp1=>Lk c 72 (Ad p) (Ad q) (Ep p q) (p*q) s W1 (h.at_ (bs:=[]) hp1) (by kernel_rfl) (fun W2 hv ht=>Pa p q hp hq W2 hv ht)) ?_
 exact wP I (Aa (zE (zO (Au tH I (.tmp I) () I tO fun W1 hp=>Ge hp))))
abbrev I7 (g:Nat) (vs:List Value) (c:Nat) (x:Int×Bool) (W:World):Prop:=Co g vs c (fun _:Unit=>x.2) (fun _=> .int .i64 x.1) (fun _=>True) W
theorem E5 (c:Nat) (s:Bool) (p q:Rat) (hp:okQ p) (hq:okQ q) (W:World) (h:KcP c s W):I7 53 [Ai c,str (Ad p),str (Ad q)] c (kOr s p q) W:=by
 cases s with
 |true=>
  rw[Wy]
  refine Co.enter h Tryz.func53 I I I ?_
  refine zA (zB (wP I (Aa (zE (zA (zA (zB (wP I ?_))))))))
  refine AL I I I I ?_
  exact wP I (wB 1 I I I (wP I (Aa (zE (zR I (zA (zB (wP I (Aa (zE (zO (zP (Au tH I (.tmp I) () I tO fun W1 hp=>Ge hp)))))))))))))
 |false=>
  have one: ∀(v:Int) (z:Bool),cmV p q= .tuple #[.int .i64 v, .int .i64 (erI z)]→I7 53 [Ai c,str (Ad p),str (Ad q)] c (v,z) W:=fun v z hvz=>by
   refine Co.enter h Tryz.func53 I I I ?_
   refine zA (zB (wP I (Aa (zE (zA (zA (zB (wP I ?_))))))))
   refine AL I I I I ?_
   refine wP I (wB 1 I I I (wP I (Aa (zE (zS I (zI (zE (zA (zB (wP I (wP I (wC I I (fun W1 hp1=>(K1 p q hp hq W1 (h.at_ (bs:=[]) hp1).v (h.at_ (bs:=[]) hp1).t).cast hvz) ?_))))))))))))
   iterate 5 refine wP I ?_
   refine Aa (zE (zA (zB (wP I (wP I ?_)))))
   refine AL I I I I ?_
   exact wP I (wS 1 I I I (Aa (zE (zA (zB (wP I (wP I (Aa (zE (zO (Au tH I (.tmp I) () I tO fun W1 hp=>Ge hp)))))))))))
  by_cases k:BB p q
  ·rw[SE k]
   exact one (Dv p q) false (if_pos k)
  ·rw[WA k]
   exact one 0 true (if_neg k)
-- BOXES 5
-- CODE2
def tnR (p q r:Ah):Int×Int:=match tA p q r,tB p q r with
 |some x,some y=>if BB x y then(Dv x y,0) else(0,4)
 |_,_=>(0,4)
theorem WO (p q r:Ah):tnV p q r= .tuple #[.int .i64 (tnR p q r).1, .int .i64 (tnR p q r).2]:=by
 unfold tnV tnR
 cases tA p q r with
 |none=>rfl
 |some x=>cases tB p q r with
  |none=>rfl
  |some y=>
   show cmV x y=_
   unfold cmV
   by_cases c:BB x y
   ·rw[if_pos c];simp only[if_pos c]
   ·rw[if_neg c];simp only[if_neg c]
def Mw (l:List Ah) (i k:Nat):Int×Int:=tnR (Ae l i) (Ae l (i+1)) (Ae l k)
def Ox (l:List Ah) (i k:Nat):Prop:=k≠i∧k≠(i+1)%l.length
structure HP (l:List Ah) (i j:Nat) (c:Bool):Prop where
 e0: ∀a k,(a<i∨a=i∧k<j)→k<l.length→Ox l a k→(Mw l a k).2=0
 c0:c=true↔ ∀a k,(a<i∨a=i∧k<j)→k<l.length→Ox l a k→0<(Mw l a k).1
theorem HP.zero (l:List Ah):HP l 0 0 true:=⟨fun a k h=>by omega,⟨fun _ a k h=>by omega,fun _=>rfl⟩⟩
theorem HP.skip {l:List Ah} {i j:Nat} {c:Bool} (h:HP l i j c) (hn: ¬Ox l i j):HP l i (j+1) c:=by
 have w: ∀a k,(a<i∨a=i∧k<j+1)→Ox l a k→a<i∨a=i∧k<j:=by
  intro a k h1 h2
  rcases h1 with h1|⟨rfl,h1⟩
  ·exact Or.inl h1
  ·rcases Nat.lt_or_ge k j with q|q
   ·exact Or.inr ⟨I,q⟩
   ·obtain rfl:k=j:=by omega
    exact absurd h2 hn
 exact⟨fun a k h1 h2 h3=>h.e0 a k (w a k h1 h3) h2 h3,h.c0.trans ⟨fun f a k h1 h2 h3=>f a k (w a k h1 h3) h2 h3,fun f a k h1 h2 h3=>f a k (by omega) h2 h3⟩⟩
theorem HP.step {l:List Ah} {i j:Nat} {c:Bool} (h:HP l i j c) (he:(Mw l i j).2=0) (hj:j<l.length) (ha:Ox l i j):HP l i (j+1) (c&&decide (0<(Mw l i j).1)):=by
 have w: ∀a k,(a<i∨a=i∧k<j+1)→(a<i∨a=i∧k<j)∨a=i∧k=j:=by
  intro a k h1;omega
 refine⟨fun a k h1 h2 h3=> ?_, ?_⟩
 ·rcases w a k h1 with q|⟨rfl,rfl⟩
  ·exact h.e0 a k q h2 h3
  ·exact he
 ·rw[Bool.and_eq_true,decide_eq_true_iff,h.c0]
  constructor
  ·rintro⟨f,g⟩ a k h1 h2 h3
   rcases w a k h1 with q|⟨rfl,rfl⟩
   ·exact f a k q h2 h3
   ·exact g
  ·intro f
   exact⟨fun a k h1 h2 h3=>f a k (by omega) h2 h3,f i j (by omega) hj ha⟩
theorem HP.next {l:List Ah} {i j:Nat} {c:Bool} (h:HP l i j c) (hj:l.length≤j):HP l (i+1) 0 c:=by
 have w: ∀a k,(a<i+1∨a=i+1∧k<0)→k<l.length→a<i∨a=i∧k<j:=by intro a k h1 h2;omega
 exact⟨fun a k h1 h2 h3=>h.e0 a k (w a k h1 h2) h2 h3,h.c0.trans ⟨fun f a k h1 h2 h3=>f a k (w a k h1 h2) h2 h3,fun f a k h1 h2 h3=>f a k (by omega) h2 h3⟩⟩
-- BOXES 5
-- CODE2
def cvS (p:Ah):PtS:=(Ad p.1,Ad p.2)
theorem MO: ∀ {l:List Ah},(∀x∈l,okP x)→Gc (l.map cvS)=0
 |[],_=>rfl
 |x::l,h=>by
  have hx:=h x List.mem_cons_self
  show(if (rdR (Ad x.1)).2≠0 then(rdR (Ad x.1)).2 else if (rdR (Ad x.2)).2≠0 then(rdR (Ad x.2)).2 else Gc (l.map cvS))=0
  rw[JT hx.1,JT hx.2,if_neg (by simp),if_neg (by simp)]
  exact MO fun y hy=>h y (List.mem_cons_of_mem _ hy)
def Vo (l:List Ah):Prop:= ∀i k,i<l.length→k<l.length→Ox l i k→(Mw l i k).2=0∧0<(Mw l i k).1
theorem MF (W:World) (p:Option Addr) (cap:Nat) (l:List Ah) (hA:GL W p (l.map cvS)) (h3:3≤l.length) (h4:l.length≤4096) (hk: ∀x∈l,okP x) (ht:AO W):
  Aj Tryz.prog 39 #[slv p l.length cap] W (fun e:Int=> .int .i64 e) (fun e=>e=0↔Vo l) (fun _=>[]):=by
 have hml:(l.map cvS).length=l.length:=by simp
 obtain⟨b,off,rfl,hrow0⟩: ∃b off,p=some ⟨b,off,none⟩∧ ∀i (hi:i<(l.map cvS).length),Ak W b (off+i*2) [str (l.map cvS)[i].1,str (l.map cvS)[i].2]:=by
  rcases hA with h|h
  ·have:=congrArg List.length h;simp at this;rw[this] at h3;exact absurd h3 (by decide)
  ·exact h
 have hrow: ∀i,i<l.length→Ak W b (off+i*2) [str (Ad (Ae l i).1),str (Ad (Ae l i).2)]:=fun i hi=>by
  have h:=hrow0 i (by rw[hml];exact hi)
  rw[AG hi]
  simpa[cvS] using h
 have hok: ∀i,i<l.length→okP (Ae l i):=fun i hi=>hk _ (AX (by omega) i)
 have hnum: ∀W1,AO W1→GL W1 (some ⟨b,off,none⟩) (l.map cvS)→Aj Tryz.prog 92 #[slv (some ⟨b,off,none⟩) l.length cap] W1 (fun _:Unit=> .int .i64 0) (fun _=>True) (fun _=>[]):=fun W1 t1 a1=>by
  have h:=Hg W1 (some ⟨b,off,none⟩) cap (l.map cvS) a1 (by rw[hml];omega) (fun x hx=>by
   obtain⟨q,hq,rfl⟩:=List.mem_map.1 hx
   have a:=Bk (hk q hq).1
   have b:=Bk (hk q hq).2
   show(Ad q.1).length<_∧(Ad q.2).length<_
   omega) t1
  rw[MO hk,hml] at h
  exact h
 refine Ac (args:=[slv (some ⟨b,off,none⟩) l.length cap]) Tryz.func39 I I I ?_
 refine zA (zB (wP I (Aa (zE (zA (zA (zB (wP I (wP I (wP I (wU 12 false I (dF (by omega)) (Aa (zE ?_)))))))))))))
 refine zS I (zI (zE (zA (zA (zB (wP I (wP I (wP I (wU 15 false I (dF (by omega)) (Aa (zE (zS I (zI ?_)))))))))))))
 refine zE (zA (zA (zB (wP I (wC I I (fun W1 hp=>hnum W1 (ht.hp hp) (hA.hp hp)) (wP I (Aa (zE (zA (zB (wP I (wP I (Aa ?_)))))))))))))
 refine zE (zS I (zI (zE (zA (zB (wP I (Aa (zE (zA (zA (zB (wP I (Aa ?_)))))))))))))
 refine zE (zH ?_)
 refine AA (X:=Nat×Bool) (fun s=>[(0,slv (some ⟨b,off,none⟩) l.length cap),(4, .bool s.2),(5, .int .i64 (s.1:Nat))]) (fun _=>[]) (fun s=>s.1≤l.length∧HP l s.1 0 s.2) (fun s=>l.length-s.1) (0,true) ⟨Nat.zero_le _,HP.zero l⟩ ⟨I,I,I,tO⟩ [] I ?_
 rintro⟨i,c⟩ ⟨hi,hU⟩
 have hi:i≤l.length:=hi
 have hU:HP l i 0 c:=hU
 refine zA (zA (zB (wP I (wP I (wP I (wP I ?_))))))
 by_cases hlt:i<l.length
 ·refine wU 24 true I (dT (by omega)) (Aa (zE (zR I (zI (zE (zA (zH (zA (zB (wP I (wP I (wV 28 ((i+1:Nat):Int) I (Az (by omega)) (wP I (wP I ?_))))))))))))))
  refine Fx I I I I I (by omega) ?_
  obtain⟨m,hm⟩: ∃m,m=(i+1)%l.length:=⟨_,rfl⟩
  have hml2:m<l.length:=by rw[hm];exact Nat.mod_lt _ (by omega)
  refine wV 31 (m:Nat) I (by rw[Int.tmod_eq_emod_of_nonneg (by omega)];omega) (wP I (Aa (zE (zA (zB (wP I (Aa (zE (zH ?_)))))))))
  refine AA (X:=Nat×Bool) (fun s=>[(0,slv (some ⟨b,off,none⟩) l.length cap),(4, .bool s.2),(5, .int .i64 (i:Nat)),(6, .int .i64 (m:Nat)),(7, .int .i64 (s.1:Nat))]) (fun _=>[]) (fun s=>s.1≤l.length∧HP l i s.1 s.2) (fun s=>l.length-s.1) (0,c) ⟨Nat.zero_le _,hU⟩ ⟨I,I,I,I,I,tO⟩ [] I ?_
  rintro⟨j,d⟩ ⟨hj,hV⟩
  have hj:j≤l.length:=hj
  have hV:HP l i j d:=hV
  refine zA (zA (zB (wP I (wP I (wP I (wP I ?_))))))
  by_cases hjt:j<l.length
  ·refine wU 35 true I (dT (by omega)) (Aa (zE (zR I (zI (zE (zA (zH (zA (zA (zB ?_))))))))))
   have skip: ¬Ox l i j→HP l i (j+1) d:=fun h=>hV.skip h
   by_cases hji:j=i
   ·skip
    refine wP I (wP I (wP I (wU 40 true I (by rw[beq_iff_eq];omega) (wP I ?_))))
    iterate 3 refine An I I ?_
    exact wP I (Aa (zE (zR I (zJ (zK (zL (zE (zB (wP I (wP I (wV 37 ((j+1:Nat):Int) I (Az (by omega)) (wP I (Aa (A6 (j+1,d) ⟨hjt,skip fun h=>h.1 hji⟩ (by show l.length-(j+1)<l.length-j;omega) ⟨I,I,I,I,I,tO⟩ [] I))))))))))))))
   refine wP I (wP I (wP I (wU 40 false I (by rw[beq_eq_false_iff_ne];omega) (wP I (wP I (wP I (wP I ?_)))))))
   by_cases hjm:j=m
   ·refine wU 44 true I (by rw[beq_iff_eq];omega) (wP I (Aa (zE (zR I (zJ (zK (zL (zE (zB (wP I (wP I (wV 37 ((j+1:Nat):Int) I (Az (by omega)) (wP I ?_)))))))))))))
    exact Aa (A6 (j+1,d) ⟨hjt,skip fun h=>h.2 (by rw[←hm];exact hjm)⟩ (by show l.length-(j+1)<l.length-j;omega) ⟨I,I,I,I,I,tO⟩ [] I)
   refine wU 44 false I (by rw[beq_eq_false_iff_ne];omega) (wP I (Aa (zE (zS I (zI (zE (zA (zU ?_))))))))
   have hap:Ox l i j:=⟨hji,by rw[←hm];exact hjm⟩
   have em:Ae l m=Ae l (i+1):=by rw[hm,BH]
   have hrm:Ak W b (off+m*2) [str (Ad (Ae l (i+1)).1),str (Ad (Ae l (i+1)).2)]:=by rw[←em];exact hrow m hml2
   have hri:=hrow i hlt
   have hrj:=hrow j hjt
   have ki:=hok i hlt
   have kj:=hok j hjt
   have km:okP (Ae l (i+1)):=by rw[←em];exact hok m hml2
   have hst:=fun he=>hV.step he hjt hap
   have htn:tnV (Ae l i) (Ae l (i+1)) (Ae l j)= .tuple #[.int .i64 (Mw l i j).1, .int .i64 (Mw l i j).2]:=WO _ _ _
   generalize hs0:(Mw l i j).1=s0 at*
   generalize he0:(Mw l i j).2=e0 at*
   refine qP I (qP I ?_)
   refine qJ ?_
   refine qL 0 I I (fun W1 hp=>hri.hp hp) I (qP I (qP I ?_))
   refine qJ ?_
   refine qL 0 I I (fun W1 hp=>hrm.hp hp) I (qP I (qP I ?_))
   refine qJ ?_
   refine qL 0 I I (fun W1 hp=>hrj.hp hp) I (qC I I (fun W1 hp=>(PG (Ae l i) (Ae l (i+1)) (Ae l j) ki km kj W1 (ht.hp hp)).cast htn) ?_)
   iterate 5 refine qP I ?_
   refine AU (Aa (zE (zA (zA (zB (wP I (wP I ?_)))))))
   by_cases hz:e0=0
   ·subst hz
    refine Af 63 (.bool false) I I ?_
    refine Aa (zE (zS I (zI (zE (zB ?_)))))
    cases d with
    |true=>
     refine wP I (wP I (wP I (wP I (wU 68 (decide (0<s0)) I (decide_eq_decide.2 (by omega)) (wP I (wP I (Aa (zN (zE (zB (wP I (wP I (wV 37 ((j+1:Nat):Int) I (Az (by omega)) ?_)))))))))))))
     exact wP I (Aa (A6 (j+1,decide (0<s0)) ⟨hjt,by have h:=hst I;rw[Bool.true_and] at h;exact h⟩ (by show l.length-(j+1)<l.length-j;omega) ⟨I,I,I,I,I,tO⟩ [] I))
    |false=>
     refine wP I (wP I ?_)
     iterate 2 refine An I I ?_
     exact wP I (wP I (Aa (zN (zE (zB (wP I (wP I (wV 37 ((j+1:Nat):Int) I (Az (by omega)) (wP I (Aa (A6 (j+1,false) ⟨hjt,hst I⟩ (by show l.length-(j+1)<l.length-j;omega) ⟨I,I,I,I,I,tO⟩ [] I)))))))))))
   ·refine wU 63 true I (by show(!decide (e0=0))=true;rw[dF hz];rfl) (Aa (zE (zR I (zA (zB (wP I (wP I (Aa (zE (zO (zP (zQ (zP (zP ?_))))))))))))))
    exact zQ (zQ (zP (zP (zQ (zP (Au tH I (.tmp I) e0 I ⟨fun h=>absurd h hz,fun h=>absurd (he0▸(h i j hlt hjt hap).1) hz⟩ fun W _=>As.nil _ _))))))
  ·refine wU 35 false I (dF (by omega)) (Aa (zE (zS I (zJ (zK (zK (zL (zN (zE (zB (wP I (wP I (wV 26 ((i+1:Nat):Int) I (Az (by omega)) ?_)))))))))))))
   exact wP I (Aa (A6 (i+1,d) ⟨hlt,hV.next (by omega)⟩ (by show l.length-(i+1)<l.length-i;omega) ⟨I,I,I,tO⟩ [] I))
 ·refine wU 24 false I (dF (by omega)) (Aa (zE (zS I (zJ (zK (zK (zL (zE (zA (zA (zB ?_)))))))))))
  have hi':i=l.length:=by omega
  cases c with
  |true=>
   exact wP I (wP I (Aa (zE (zS I (zI (zE (zA (zB (wP I (Aa (zE (zO (Au tH I (.tmp I) (0:Int) I ⟨fun _ a k h1 h2 h3=>⟨hU.e0 a k (by omega) h2 h3,hU.c0.1 I a k (by omega) h2 h3⟩,fun _=>rfl⟩ fun W _=>As.nil _ _)))))))))))))
  |false=>
   exact wP I (wP I (Aa (zE (zR I (zA (zB (wP I (Aa (zE (zO (zP (Au tH I (.tmp I) (15:Int) I ⟨fun h=>absurd h (by decide),fun h=>absurd (hU.c0.2 fun a k h1 h2 h3=>(h a k (by omega) h2 h3).2) (by decide)⟩ fun W _=>As.nil _ _))))))))))))
theorem OA {ok:Prop} [Decidable ok] {r x:Rat} (h:opO ok r=some x):x=r:=by
 unfold opO at h
 by_cases c:ok
 ·rw[if_pos c] at h;exact(Option.some.inj h).symm
 ·rw[if_neg c] at h;exact absurd h (by simp)
theorem LT {a b c d x:Rat} (h:EO (BZ (some a) (some b)) (BZ (some c) (some d))=some x):x=(a-b)*(c-d):=by
 cases h1:BZ (some a) (some b) with
 |none=>rw[h1] at h;exact absurd h (by rw[EO];simp;intro p q;simp)
 |some u=>
  cases h2:BZ (some c) (some d) with
  |none=>rw[h1,h2] at h;exact absurd h (by rw[EO];simp;intro p q;simp)
  |some v=>
   rw[h1,h2,EO] at h
   rw[BZ] at h1 h2
   rw[OA h,OA h1,OA h2]
theorem Vw {p q r:Ah} (h:(tnR p q r).2=0) (h':0<(tnR p q r).1):0<A9 p q r:=by
 unfold tnR at h h'
 cases ha:tA p q r with
 |none=>rw[ha] at h;exact absurd h (by simp)
 |some x=>
  cases hb:tB p q r with
  |none=>rw[ha,hb] at h;exact absurd h (by simp)
  |some y=>
   rw[ha,hb] at h'
   have ex:=LT ha
   have ey:=LT hb
   by_cases c:BB x y
   ·simp only[if_pos c] at h'
    have hd:decide (Dv x y>0)=true:=dT h'
    rw[HN,decide_eq_true_iff] at hd
    rw[ex,ey] at hd
    unfold A9
    grind
   ·simp only[if_neg c] at h'
    exact absurd h' (by decide)
theorem Vo.poly {l:List Ah} (h3:3≤l.length) (h:Vo l):Bh l:=by
 refine Cp.of_chk h3 E2 fun i k hi hk h1 h2 h4=> ?_
 have ha:Ox l i k:=by
  refine⟨h1,fun e=> ?_⟩
  by_cases c:i+1<l.length
  ·rw[Nat.mod_eq_of_lt c] at e;exact h2 e
  ·have e2:i+1=l.length:=by omega
   rw[e2,Nat.mod_self] at e
   exact h4 ⟨e,e2⟩
 have:=h i k hi hk ha
 exact Vw this.1 this.2
-- BOXES 4
-- CODE2
theorem Jt {a:List UInt8} (h:(rdR a).2=0): ∃q,okQ q∧a=Ad q:=by
 unfold rdR at h
 cases hf:frm a with
 |none=>rw[hf] at h;exact absurd h (by decide)
 |some x=>
  obtain⟨z,d⟩:=x
  rw[hf] at h
  simp only at h
  by_cases h1:z.natAbs<Bp∧d<Bp
  ·rw[if_pos h1] at h
   by_cases h2:Nat.gcd z.natAbs d=1
   ·obtain⟨h3,h4⟩:=KZ hf
    exact⟨⟨z,d,by omega,h2⟩,⟨h1.1,by unfold okN;rw[Int.natAbs_natCast];exact h1.2⟩,h4⟩
   ·rw[if_neg h2] at h;exact absurd h (by decide)
  ·rw[if_neg h1] at h;exact absurd h (by decide)
-- BOXES 4
-- CODE2
theorem Nz: ∀ {l:List PtS},Gc l=0→ ∃m:List Ah,l=m.map cvS∧ ∀x∈m,okP x
 |[],_=>⟨[],rfl,fun _ h=>absurd h (by simp)⟩
 |x::l,h=>by
  have h:(if (rdR x.1).2≠0 then(rdR x.1).2 else if (rdR x.2).2≠0 then(rdR x.2).2 else Gc l)=0:=h
  by_cases h1:(rdR x.1).2=0
  ·rw[if_neg (by simp[h1])] at h
   by_cases h2:(rdR x.2).2=0
   ·rw[if_neg (by simp[h2])] at h
    obtain⟨m,rfl,hm⟩:=Nz h
    obtain⟨q1,o1,e1⟩:=Jt h1
    obtain⟨q2,o2,e2⟩:=Jt h2
    refine⟨(q1,q2)::m, ?_,fun y hy=> ?_⟩
    ·rw[List.map_cons,cvS, ←e1, ←e2]
    ·rcases List.mem_cons.1 hy with rfl|hy
     ·exact⟨o1,o2⟩
     ·exact hm y hy
   ·rw[if_pos h2] at h
    exact absurd h h2
  ·rw[if_pos h1] at h
   exact absurd h h1
def TT (l:List PtS):Prop:= ∃m:List Ah,l=m.map cvS∧3≤m.length∧(∀x∈m,okP x)∧Bh m
theorem ON (W:World) (p:Option Addr) (cap:Nat) (l:List PtS) (hA:GL W p l) (h4:l.length≤4096) (hs: ∀x∈l,x.1.length<4611686018427387904∧x.2.length<4611686018427387904) (ht:AO W):
  Aj Tryz.prog 39 #[slv p l.length cap] W (fun e:Int=> .int .i64 e) (fun e=>e=0→TT l) (fun _=>[]):=by
 by_cases h3:3≤l.length
 rotate_left
 ·refine Ac (args:=[slv p l.length cap]) Tryz.func39 I I I ?_
  refine zA (zB (wP I (Aa (zE (zA (zA (zB (wP I (wP I (wP I (wU 12 true I (dT (by omega)) (Aa (zE ?_)))))))))))))
  exact zR I (zA (zB (wP I (Aa (zE (zO (zP (Au tH I (.tmp I) (5:Int) I (fun h=>absurd h (by decide)) fun W _=>As.nil _ _))))))))
 by_cases h0:Gc l=0
 ·obtain⟨m,rfl,hm⟩:=Nz h0
  rw[List.length_map] at h3 h4
  have h:=MF W p cap m hA h3 h4 hm ht
  rw[List.length_map]
  refine⟨h.out.mono ?_⟩
  rintro e W' ⟨x,he,hx,hb⟩
  exact⟨x,he,fun h0=>⟨m,I,h3,hm,(hx.1 h0).poly h3⟩,hb⟩
 ·refine Ac (args:=[slv p l.length cap]) Tryz.func39 I I I ?_
  refine zA (zB (wP I (Aa (zE (zA (zA (zB (wP I (wP I (wP I (wU 12 false I (dF (by omega)) (Aa (zE ?_)))))))))))))
  refine zS I (zI (zE (zA (zA (zB (wP I (wP I (wP I (wU 15 false I (dF (by omega)) (Aa (zE (zS I (zI ?_)))))))))))))
  refine zE (zA (zA (zB (wP I (wC I I (fun W1 hp=>Hg W1 p cap l (hA.hp hp) (by omega) hs (ht.hp hp)) (wP I (Aa (zE (zA (zB (wP I (wP I (wU 19 true I (bne_iff_ne.2 h0) ?_)))))))))))))
  exact Aa (zE (zR I (zA (zB (wP I (wP I (Aa (zE (zO (zP (Au tH I (.tmp I) (Gc l) I (fun h=>absurd h h0) fun W _=>As.nil _ _)))))))))))
abbrev Ls:=Option Addr×Nat×List PtS
abbrev lsV (x:Ls):Value:=slv x.1 x.2.2.length x.2.1
structure LsP (W:World) (g off:Nat) (xs:List Ls):Prop where
 r:Ak W g off (xs.map lsV)
 p: ∀x∈xs,GL W x.1 x.2.2
theorem LsP.hp {W0 W:World} {bxs:List Bx} {g off:Nat} {xs:List Ls} (h:LsP W0 g off xs) (hp:Hp W0 bxs W):LsP W g off xs:=⟨h.r.hp hp,fun x hx=>(h.p x hx).hp hp⟩
theorem LsP.row {W:World} {g off:Nat} {xs:List Ls} (h:LsP W g off xs) {i:Nat} (hi:i<xs.length):Ak W g (off+i*1) [lsV xs[i]]:=by
 refine⟨h.r.lt,fun j u hu=> ?_⟩
 have hj:j=0:=by have:=(List.getElem?_eq_some_iff.1 hu).1;simpa using this
 subst hj
 have:=h.r.get i (lsV xs[i]) (by rw[List.getElem?_map,List.getElem?_eq_getElem hi];rfl)
 rw[Nat.mul_one,Nat.add_zero,this]
 simpa using hu
theorem Ng {α:Type} {F:α→Bool} {l:List α} {i:Nat} (h:i<l.length):(l.drop i).any F=(F l[i]||(l.drop (i+1)).any F):=by
 rw[List.drop_eq_getElem_cons h,List.any_cons]
def IQ (x:Ls):Bool:=Kj x.2.2
theorem M1 (xs:List Ls) (hn:xs.length≤100000) (hl: ∀x∈xs,x.2.2.length<4611686018427387904) (g off cap:Nat) (W:World) (hS:LsP W g off xs):
  Aj Tryz.prog 124 #[slv (some ⟨g,off,none⟩) xs.length cap, .func (.func 58) #[] #[]] W (fun z:Int=> .int .i64 z) (fun z=>0≤z↔xs.any IQ=true) (fun _=>[]):=by
 refine Ac (args:=[slv (some ⟨g,off,none⟩) xs.length cap, .func (.func 58) #[] #[]]) Tryz.func124 I I I ?_
 refine zA (zB (wP I (Aa (zE (zA (zA (zB (wP I (wP I (wP I (Aa (zE (zH ?_)))))))))))))
 refine AA (X:=Nat) (fun i=>[(0,slv (some ⟨g,off,none⟩) xs.length cap),(1, .func (.func 58) #[] #[]),(6,slv (some ⟨g,off,none⟩) xs.length cap),(7, .int .i64 (xs.length:Nat)),(8, .int .i64 (i:Nat))]) (fun _=>[]) (fun i=>i≤xs.length∧xs.any IQ=(xs.drop i).any IQ) (fun i=>xs.length-i) 0 ⟨Nat.zero_le _,by rw[List.drop_zero]⟩ ⟨I,I,I,I,I,tO⟩ [] I ?_
 intro i hi
 obtain⟨hi,hA⟩:i≤xs.length∧xs.any IQ=(xs.drop i).any IQ:=hi
 refine zA (zB (wP I ?_))
 by_cases hlt:i<xs.length
 rotate_left
 ·refine wU 9 false I (dF (by omega)) (Aa (zE (zA (zS I (zJ (zK (zK (zL (zE (zA (zB (wP I (Aa ?_)))))))))))))
  refine zE (zO ?_)
  rw[List.drop_of_length_le (by omega)] at hA
  exact Au tH I (.tmp I) (-1:Int) I (by rw[hA];exact⟨fun h=>absurd h (by decide),fun h=>absurd (show false=true from h) (by decide)⟩) fun W _=>As.nil _ _
 refine wU 9 true I (dT (by omega)) (Aa (zE (zA (zR I (zI (zE (zA (zH (zA (zB ?_))))))))))
 have hr:=hS.row hlt
 rw[Ng hlt] at hA
 have hx:xs[i]∈xs:=List.getElem_mem _
 obtain⟨x,hq⟩: ∃x,x=xs[i]:=⟨_,rfl⟩
 rw[←hq] at hr hA hx
 refine wP I (wP I (Aa (zE (zA (zB (wP I (wP I (wP I ?_))))))))
 refine wJ ?_
 refine wL 0 I I (fun W1 hp=>hr.hp hp) I ?_
 refine Br (capt:=[]) I I I I I I (by kernel_rfl) (fun W1 hp=>M5 W1 x.1 x.2.1 x.2.2 ((hS.p x hx).hp hp) (hl x hx)) ?_
 refine Aa (zE ?_)
 refine Av I (fun hc=> ?_) (fun hc=> ?_)
 ·have hc:IQ x=true:=hc
  exact zA (zB (wP I (wP I (Aa (zE (zO (zQ (zP (zP (zQ (zP (Au tH I (.tmp I) ((i:Nat):Int) I ⟨fun _=>by rw[hA,hc];rfl,fun _=>by omega⟩ fun W _=>As.nil _ _))))))))))))
 ·have hc:IQ x=false:=hc
  rw[hc,Bool.false_or] at hA
  exact zI (zN (zE (zB (wP I (wV 18 ((i+1:Nat):Int) I (Az (by omega)) (wP I (Aa (A6 (i+1) ⟨hlt,hA⟩ (by show xs.length-(i+1)<xs.length-i;omega) ⟨I,I,I,I,I,tO⟩ [] I))))))))
theorem JU (xs:List Ls) (hn:xs.length≤100000) (hl: ∀x∈xs,x.2.2.length<4611686018427387904) (g off cap:Nat) (W:World) (hS:LsP W g off xs):
  Aj Tryz.prog 57 #[slv (some ⟨g,off,none⟩) xs.length cap, .func (.func 58) #[] #[]] W (fun _:Unit=> .bool (xs.any IQ)) (fun _=>True) (fun _=>[]):=by
 refine Ac (args:=[slv (some ⟨g,off,none⟩) xs.length cap, .func (.func 58) #[] #[]]) Tryz.func57 I I I ?_
 refine zA (zB (wP I (Aa (zE (zA (zB (wP I (wP I ?_))))))))
 refine wD (X:=Int) I I (fun W1 hp=>M1 xs hn hl g off cap W1 (hS.hp hp)) ?_
 intro z hz
 have hz:0≤z↔xs.any IQ=true:=hz
 refine wP I ?_
 refine Af 8 (.bool (xs.any IQ)) I (congrArg Value.bool (by
  cases h:xs.any IQ with
  |true=>exact dT (hz.2 h)
  |false=>exact dF fun h2=>by rw[hz.1 h2] at h;cases h)) ?_
 exact wP I (Aa (zE (zO (wR1 I I I))))
theorem Oi (xs:List Ls) (hn:xs.length≤100000) (hl: ∀x∈xs,x.2.2.length<4611686018427387904) (g off cap:Nat) (W:World) (hS:LsP W g off xs):
  Aj Tryz.prog 20 #[slv (some ⟨g,off,none⟩) xs.length cap] W (fun _:Unit=> .bool (xs.any IQ)) (fun _=>True) (fun _=>[]):=by
 refine Ac (args:=[slv (some ⟨g,off,none⟩) xs.length cap]) Tryz.func20 I I I ?_
 refine zA (zB (wP I (Aa (zE (zA (zB (wP I ?_)))))))
 refine Br (capt:=[]) I I I I I I (by kernel_rfl) (fun W1 hp=>JU xs hn hl g off cap W1 (hS.hp hp)) ?_
 exact wP I (Aa (zE (zO (wR1 I I I))))
def Ud (x:PtS):Bool:=decide (5<max x.1.length x.2.length)
theorem Qt (x:PtS) (W:World):Aj Tryz.prog 40 #[.agg #[str x.1,str x.2]] W (fun _:Unit=> .bool (Ud x)) (fun _=>True) (fun _=>[]):=by
 refine Ac (args:=[.agg #[str x.1,str x.2]]) Tryz.func40 I I I ?_
 refine zA (zB ?_)
 (refine A5 rfl rfl rfl rfl ?_;intro)
 refine wP I (Aa (zE (zA (zB (wP I (wB 0 I I I (wP I ?_)))))))
 refine Af 5 (.int .i64 (x.1.length:Nat)) I (congrArg (fun n:Nat=>Value.int .i64 (n:Int)) (A4 _)) ?_
 refine wP I (wB 0 I I I (wP I ?_))
 refine Af 8 (.int .i64 (x.2.length:Nat)) I (congrArg (fun n:Nat=>Value.int .i64 (n:Int)) (A4 _)) ?_
 exact wP I (wV 9 (max x.1.length x.2.length:Nat) I (by split<;>omega) (wP I (wU 10 (Ud x) I (decide_eq_decide.2 (by omega)) (wP I (Aa (zE (zO (wR1 I I I))))))))
theorem M0 (g:Nat) (hE:Bg Tryz.prog g=true) (F:PtS→Bool) (hg: ∀x W,Aj Tryz.prog g #[.agg #[str x.1,str x.2]] W (fun _:Unit=> .bool (F x)) (fun _=>True) (fun _=>[])) (xs:List PtS) (hn:xs.length≤100000) (p:Option Addr) (cap:Nat) (W:World) (hS:GL W p xs):
  Aj Tryz.prog 81 #[slv p xs.length cap, .func (.func g) #[] #[]] W (fun z:Int=> .int .i64 z) (fun z=>0≤z↔xs.any F=true) (fun _=>[]):=by
 refine Ac (args:=[slv p xs.length cap, .func (.func g) #[] #[]]) Tryz.func81 I I I ?_
 refine zA (zB (wP I (Aa (zE (zA (zA (zB (wP I (wP I (wP I (Aa (zE (zH ?_)))))))))))))
 refine AA (X:=Nat) (fun i=>[(0,slv p xs.length cap),(1, .func (.func g) #[] #[]),(6,slv p xs.length cap),(7, .int .i64 (xs.length:Nat)),(8, .int .i64 (i:Nat))]) (fun _=>[]) (fun i=>i≤xs.length∧xs.any F=(xs.drop i).any F) (fun i=>xs.length-i) 0 ⟨Nat.zero_le _,by rw[List.drop_zero]⟩ ⟨I,I,I,I,I,tO⟩ [] I ?_
 intro i hi
 obtain⟨hi,hA⟩:i≤xs.length∧xs.any F=(xs.drop i).any F:=hi
 refine zA (zB (wP I ?_))
 by_cases hlt:i<xs.length
 rotate_left
 ·refine wU 9 false I (dF (by omega)) (Aa (zE (zA (zS I (zJ (zK (zK (zL (zE (zA (zB (wP I (Aa ?_)))))))))))))
  refine zE (zO ?_)
  rw[List.drop_of_length_le (by omega)] at hA
  exact Au tH I (.tmp I) (-1:Int) I (by rw[hA];exact⟨fun h=>absurd h (by decide),fun h=>absurd (show false=true from h) (by decide)⟩) fun W _=>As.nil _ _
 refine wU 9 true I (dT (by omega)) (Aa (zE (zA (zR I (zI (zE (zA (zH (zA (zB ?_))))))))))
 obtain⟨b,off,rfl,hrow⟩: ∃b off,p=some ⟨b,off,none⟩∧ ∀i (hi:i<xs.length),Ak W b (off+i*2) [str xs[i].1,str xs[i].2]:=by
  rcases hS with h|h
  ·rw[h] at hlt;exact absurd hlt (by simp)
  ·exact h
 have hr:=hrow i hlt
 rw[Ng hlt] at hA
 obtain⟨x,hq⟩: ∃x,x=xs[i]:=⟨_,rfl⟩
 rw[←hq] at hr hA
 refine wP I (wP I (Aa (zE (zA (zB (wP I (wP I (wP I ?_))))))))
 refine wJ ?_
 refine wL 0 I I (fun W1 hp=>hr.hp hp) I ?_
 refine Br (capt:=[]) I I I I I I hE (fun W1 _=>hg x W1) ?_
 refine Aa (zE ?_)
 refine Av I (fun hc=> ?_) (fun hc=> ?_)
 ·have hc:F x=true:=hc
  exact zA (zB (wP I (wP I (Aa (zE (zO (zQ (zP (zP (zQ (zP (Au tH I (.tmp I) ((i:Nat):Int) I ⟨fun _=>by rw[hA,hc];rfl,fun _=>by omega⟩ fun W _=>As.nil _ _))))))))))))
 ·have hc:F x=false:=hc
  rw[hc,Bool.false_or] at hA
  exact zI (zN (zE (zB (wP I (wV 18 ((i+1:Nat):Int) I (Az (by omega)) (wP I (Aa (A6 (i+1) ⟨hlt,hA⟩ (by show xs.length-(i+1)<xs.length-i;omega) ⟨I,I,I,I,I,tO⟩ [] I))))))))
theorem G7 (g:Nat) (hE:Bg Tryz.prog g=true) (F:PtS→Bool) (hg: ∀x W,Aj Tryz.prog g #[.agg #[str x.1,str x.2]] W (fun _:Unit=> .bool (F x)) (fun _=>True) (fun _=>[])) (xs:List PtS) (hn:xs.length≤100000) (p:Option Addr) (cap:Nat) (W:World) (hS:GL W p xs):
  Aj Tryz.prog 29 #[slv p xs.length cap, .func (.func g) #[] #[]] W (fun _:Unit=> .bool (xs.any F)) (fun _=>True) (fun _=>[]):=by
 refine Ac (args:=[slv p xs.length cap, .func (.func g) #[] #[]]) Tryz.func29 I I I ?_
 refine zA (zB (wP I (Aa (zE (zA (zB (wP I (wP I ?_))))))))
 refine wD (X:=Int) I I (fun W1 hp=>M0 g hE F hg xs hn p cap W1 (hS.hp hp)) ?_
 intro z hz
 have hz:0≤z↔xs.any F=true:=hz
 refine wP I ?_
 refine Af 8 (.bool (xs.any F)) I (congrArg Value.bool (by
  cases h:xs.any F with
  |true=>exact dT (hz.2 h)
  |false=>exact dF fun h2=>by rw[hz.1 h2] at h;cases h)) ?_
 exact wP I (Aa (zE (zO (wR1 I I I))))
def Nx (l:List PtS):Prop:= ∃m:List Ah,l=m.map cvS∧3≤m.length∧m.length≤8∧(∀x∈m,okP x∧(Ad x.1).length≤5∧(Ad x.2).length≤5)∧Bh m
theorem Qe {l:List PtS} (h:Kj l=false):l.length≤8∧ ∀x∈l,x.1.length≤604∧x.2.length≤604:=by
 unfold Kj at h
 rw[Bool.or_eq_false_iff] at h
 refine⟨by have:=of_decide_eq_false h.2;omega,fun x hx=> ?_⟩
 have h1:=List.any_eq_false.1 h.1 x hx
 have h2:K5 x=false:=by cases e:K5 x with
  |true=>exact absurd e h1
  |false=>rfl
 unfold K5 at h2
 rw[Bool.or_eq_false_iff] at h2
 have one: ∀a:List UInt8,Hf a=false→a.length≤604:=fun a ha=>by
  unfold Hf at ha
  rw[Bool.or_eq_false_iff] at ha
  have:=of_decide_eq_false ha.2
  omega
 exact⟨one _ h2.1,one _ h2.2⟩
theorem Uu {l:List PtS} (h1:Kj l=false) (h2:TT l) (h3:l.any Ud=false):Nx l:=by
 obtain⟨m,rfl,a,b,c⟩:=h2
 have h8:=(Qe h1).1
 rw[List.length_map] at h8
 refine⟨m,I,a,h8,fun x hx=>⟨b x hx, ?_⟩,c⟩
 have:=List.any_eq_false.1 h3 (cvS x) (List.mem_map_of_mem hx)
 have h5: ¬5<max (Ad x.1).length (Ad x.2).length:=fun h=>this (dT h)
 omega
theorem QH (xs:List Ls) (hn:xs.length≤100000) (hl: ∀x∈xs,x.2.2.length<4611686018427387904) (g off cap:Nat) (W:World) (hS:LsP W g off xs) (ht:AO W):
  Aj Tryz.prog 9 #[slv (some ⟨g,off,none⟩) xs.length cap] W (fun b:Bool=> .bool b) (fun b=>b=true→ ∀x∈xs,Nx x.2.2) (fun _=>[]):=by
 refine Ac (args:=[slv (some ⟨g,off,none⟩) xs.length cap]) Tryz.func9 I I I ?_
 refine zA (zB (wP I (Aa (zE (zA (zA (zB (wP I (wP I (wP I (Aa (zE (zH ?_)))))))))))))
 refine AA (X:=Nat) (fun i=>[(0,slv (some ⟨g,off,none⟩) xs.length cap),(5,slv (some ⟨g,off,none⟩) xs.length cap),(6, .int .i64 (xs.length:Nat)),(7, .int .i64 (i:Nat))]) (fun _=>[]) (fun i=>i≤xs.length∧ ∀x∈xs.take i,Nx x.2.2) (fun i=>xs.length-i) 0 ⟨Nat.zero_le _,fun x hx=>absurd hx (by simp)⟩ ⟨I,I,I,I,tO⟩ [] I ?_
 intro i hi
 obtain⟨hi,hA⟩:i≤xs.length∧ ∀x∈xs.take i,Nx x.2.2:=hi
 refine zA (zB (wP I ?_))
 by_cases hlt:i<xs.length
 rotate_left
 ·refine wU 8 false I (dF (by omega)) (Aa (zE (zA (zS I (zJ (zK (zK (zL (zE (zA (zB (wP I (Aa ?_)))))))))))))
  refine zE (zO ?_)
  rw[List.take_of_length_le (by omega)] at hA
  exact Au tH I (.tmp I) true I (fun _=>hA) fun W _=>As.nil _ _
 refine wU 8 true I (dT (by omega)) (Aa (zE (zA (zR I (zI (zE (zA (zH (zA (zB ?_))))))))))
 have hr:=hS.row hlt
 have hx:xs[i]∈xs:=List.getElem_mem _
 have htk:xs.take (i+1)=xs.take i++[xs[i]]:=by rw[List.take_add_one,List.getElem?_eq_getElem hlt];rfl
 obtain⟨x,hq⟩: ∃x,x=xs[i]:=⟨_,rfl⟩
 rw[←hq] at hr htk hx
 have hX:=hS.p x hx
 have hlx:=hl x hx
 refine wJ ?_
 refine wL 0 I I (fun W1 hp=>hr.hp hp) I (wP I (Aa (zE (zA (zB (wP I ?_))))))
 refine AD Tryz.hZ tH I I I I I I I I I I I fun bS=> ?_
 refine Br (capt:=[]) I I I I I I (by kernel_rfl) (fun W1 hp=>Oi [x] (by show 1≤100000;decide) (fun y hy=>by rw[List.mem_singleton.1 hy];exact hlx) bS 0 1 W1 ⟨Ak.of_bx hp 0 I I,fun y hy=>by rw[List.mem_singleton.1 hy];exact hX.hp hp⟩) ?_
 have e1:[x].any IQ=IQ x:=by simp
 rw[e1]
 cases h1:IQ x with
 |true=>
  refine wP I ?_
  iterate 3 refine An I I ?_
  refine wP I (wP I ?_)
  iterate 2 refine An I I ?_
  refine wP I (Aa (zE (zR I (zA (zB (wP I (Aa (zE (zO (zQ (zP (zP (zQ ?_)))))))))))))
  exact zP (Au tH rfl (.tmp rfl) false rfl (fun h=>by cases h) fun W _=>As.nil _ _)
 |false=>
  have hno:=Qe h1
  refine wP I (wP I ?_)
  refine wD (X:=Int) (capt:=[]) I I (fun W1 hp=>ON W1 x.1 x.2.1 x.2.2 (hX.hp hp) (by have:=hno.1;omega) (fun y hy=>by have:=hno.2 y hy;omega) (ht.hp hp)) ?_
  intro e he
  have he:e=0→TT x.2.2:=he
  refine wP I ?_
  by_cases h2:e=0
  ·refine wU 17 false I (bne_eq_false_iff_eq.2 h2) (wP I (wP I (wP I ?_)))
   refine Br (capt:=[]) I I I I I I (by kernel_rfl) (fun W1 hp=>G7 40 (by kernel_rfl) Ud Qt x.2.2 (by have:=hno.1;omega) x.1 x.2.1 W1 (hX.hp hp)) ?_
   cases h3:x.2.2.any Ud with
   |true=>
    refine wP I (Aa (zE (zR I (zA (zB (wP I (Aa (zE (zO (zQ (zP (zP (zQ ?_)))))))))))))
    exact zP (Au tH rfl (.tmp rfl) false rfl (fun h=>by cases h) fun W _=>As.nil _ _)
   |false=>
    refine wP I (Aa (zE (zS I (zI (zN (zE (zB (wP I (wV 23 ((i+1:Nat):Int) I (Az (by omega)) (wP I (Aa ?_)))))))))))
    exact A6 (i+1) ⟨hlt,fun y hy=>by
     rw[htk,List.mem_append] at hy
     rcases hy with hy|hy
     ·exact hA y hy
     ·rw[List.mem_singleton.1 hy];exact Uu h1 (he h2) h3⟩ (by show xs.length-(i+1)<xs.length-i;omega) ⟨rfl,rfl,rfl,rfl,trivial⟩ [_] rfl
  ·refine wU 17 true I (bne_iff_ne.2 h2) (wP I (wP I ?_))
   iterate 2 refine An I I ?_
   refine wP I (Aa (zE (zR I (zA (zB (wP I (Aa (zE (zO (zQ (zP (zP (zQ ?_)))))))))))))
   exact zP (Au tH rfl (.tmp rfl) false rfl (fun h=>by cases h) fun W _=>As.nil _ _)
def W4 (a b c:List UInt8):Prop:= ∃A B C:Rat,a=Ad A∧b=Ad B∧c=Ad C∧okQ A∧okQ B∧okQ C∧a.length≤5∧b.length≤5∧c.length≤5∧(A≠0∨B≠0)
theorem RA (a b c:List UInt8) (W:World) (ht:AO W):
  Aj Tryz.prog 10 #[str a,str b,str c] W (fun x:Bool=> .bool x) (fun x=>x=true→W4 a b c) (fun _=>[]):=by
 refine Ac (args:=[str a,str b,str c]) Tryz.func10 I I I ?_
 have no: ∀ {P:Prop},false=true→P:=fun h=>by cases h
 refine zA (zB (wP I (Aa (zE (zA (zB (wP I (wP I ?_))))))))
 refine Af 8 (.int .i64 (a.length:Nat)) I (congrArg (fun n:Nat=>Value.int .i64 (n:Int)) (A4 _)) ?_
 refine wP I (wP I ?_)
 refine Af 10 (.int .i64 (b.length:Nat)) I (congrArg (fun n:Nat=>Value.int .i64 (n:Int)) (A4 _)) ?_
 refine wP I (wP I ?_)
 refine Af 12 (.int .i64 (c.length:Nat)) I (congrArg (fun n:Nat=>Value.int .i64 (n:Int)) (A4 _)) ?_
 refine wP I (wV 13 (max (max a.length b.length) c.length:Nat) I (by split<;>split<;>omega) (wP I ?_))
 by_cases h5:max (max a.length b.length) c.length≤5
 rotate_left
 ·refine wU 14 false I (dF (by omega)) (wP I ?_)
  iterate 3 refine An I I ?_
  refine wP I (wP I ?_)
  iterate 3 refine An I I ?_
  refine wP I (wP I ?_)
  iterate 3 refine An I I ?_
  refine wP I (wP I ?_)
  iterate 6 refine An I I ?_
  exact wP I (wP I (Aa (zE (zO (Au tH I (.tmp I) false I no fun W _=>As.nil _ _)))))
 refine wU 14 true I (dT (by omega)) (wP I (wP I (wC I I (fun W1 hp=>Dr a (by omega) W1 (ht.hp hp)) (wP I ?_))))
 by_cases ha:(rdR a).2=0
 rotate_left
 ·refine wU 18 false I (beq_eq_false_iff_ne.2 ha) (wP I (wP I ?_))
  iterate 3 refine An I I ?_
  refine wP I (wP I ?_)
  iterate 3 refine An I I ?_
  refine wP I (wP I ?_)
  iterate 6 refine An I I ?_
  exact wP I (wP I (Aa (zE (zO (Au tH I (.tmp I) false I no fun W _=>As.nil _ _)))))
 refine wU 18 true I (beq_iff_eq.2 ha) (wP I (wP I (wP I (wC I I (fun W1 hp=>Dr b (by omega) W1 (ht.hp hp)) (wP I ?_)))))
 by_cases hb:(rdR b).2=0
 rotate_left
 ·refine wU 23 false I (beq_eq_false_iff_ne.2 hb) (wP I (wP I ?_))
  iterate 3 refine An I I ?_
  refine wP I (wP I ?_)
  iterate 6 refine An I I ?_
  exact wP I (wP I (Aa (zE (zO (Au tH I (.tmp I) false I no fun W _=>As.nil _ _)))))
 refine wU 23 true I (beq_iff_eq.2 hb) (wP I (wP I (wP I (wC I I (fun W1 hp=>Dr c (by omega) W1 (ht.hp hp)) (wP I ?_)))))
 by_cases hc:(rdR c).2=0
 rotate_left
 ·refine wU 28 false I (beq_eq_false_iff_ne.2 hc) (wP I (wP I ?_))
  iterate 6 refine An I I ?_
  exact wP I (wP I (Aa (zE (zO (Au tH I (.tmp I) false I no fun W _=>As.nil _ _)))))
 refine wU 28 true I (beq_iff_eq.2 hc) ?_
 obtain⟨A,oA,rfl⟩:=Jt ha
 obtain⟨B,oB,rfl⟩:=Jt hb
 obtain⟨C,oC,rfl⟩:=Jt hc
 refine wP I (wP I (wP I (wP I ?_)))
 by_cases hA:A=0
 ·refine wU 32 false I (by show(!_)=false;rw[Be,dT (by rw[hA,CJ])];rfl) (wP I (wP I (wP I ?_)))
  by_cases hB:B=0
  ·exact wU 35 false I (by show(!_)=false;rw[Be,dT (by rw[hB,CJ])];rfl) (wP I (wP I (wP I (Aa (zE (zO (Au tH I (.tmp I) false I no fun W _=>As.nil _ _)))))))
  ·exact wU 35 true I (by show(!_)=true;rw[Be,dF (fun e=>hB (Hx.1 (e.trans CJ.symm)))];rfl) (wP I (wP I (wP I (Aa (zE (zO (Au tH I (.tmp I) true I (fun _=>⟨A,B,C,I,I,I,oA,oB,oC,by omega,by omega,by omega, .inr hB⟩) fun W _=>As.nil _ _)))))))
 ·refine wU 32 true I (by show(!_)=true;rw[Be,dF (fun e=>hA (Hx.1 (e.trans CJ.symm)))];rfl) (wP I ?_)
  iterate 2 refine An I I ?_
  exact wP I (wP I (wP I (Aa (zE (zO (Au tH I (.tmp I) true I (fun _=>⟨A,B,C,I,I,I,oA,oB,oC,by omega,by omega,by omega, .inl hA⟩) fun W _=>As.nil _ _))))))
-- BOXES 8
-- CODE2
abbrev caF (c:Nat) (s:Bool):Bx:=⟨c,61,[.int .i64 (erI s)],false,none⟩
def kLf (s:Bool) (p q r:Ah):Int×Bool:=
 kOr (kMu (kMu (kSb (kSb (kSb (kSb s q.1 p.1).2 r.2 p.2).2 q.2 p.2).2 r.1 p.1).2 (kSb s q.1 p.1).1 (kSb (kSb s q.1 p.1).2 r.2 p.2).1).2 (kSb (kSb (kSb s q.1 p.1).2 r.2 p.2).2 q.2 p.2).1 (kSb (kSb (kSb (kSb s q.1 p.1).2 r.2 p.2).2 q.2 p.2).2 r.1 p.1).1).2
  (kMu (kSb (kSb (kSb (kSb s q.1 p.1).2 r.2 p.2).2 q.2 p.2).2 r.1 p.1).2 (kSb s q.1 p.1).1 (kSb (kSb s q.1 p.1).2 r.2 p.2).1).1
  (kMu (kMu (kSb (kSb (kSb (kSb s q.1 p.1).2 r.2 p.2).2 q.2 p.2).2 r.1 p.1).2 (kSb s q.1 p.1).1 (kSb (kSb s q.1 p.1).2 r.2 p.2).1).2 (kSb (kSb (kSb s q.1 p.1).2 r.2 p.2).2 q.2 p.2).1 (kSb (kSb (kSb (kSb s q.1 p.1).2 r.2 p.2).2 q.2 p.2).2 r.1 p.1).1).1
structure K3 (p q r:Ah):Prop where
 a:I2 q.1 p.1
 b:I2 r.2 p.2
 c:I2 q.2 p.2
 d:I2 r.1 p.1
 m:Ep (q.1-p.1) (r.2-p.2)
 n:Ep (q.2-p.2) (r.1-p.1)
 o:BB ((q.1-p.1)*(r.2-p.2)) ((q.2-p.2)*(r.1-p.1))
theorem ML {ok:Prop} [Decidable ok] {r:Rat} {s:Bool}:(opR ok r s).2=false↔s=false∧ok:=by
 cases s with
 |true=>rw[Uz];simp
 |false=>
  by_cases c:ok
  ·rw[Ft c];simp[c]
  ·rw[T9 c];simp[c]
theorem Vi {s:Bool} {p q:Rat}:(kOr s p q).2=false↔s=false∧BB p q:=by
 cases s with
 |true=>rw[Wy];simp
 |false=>
  by_cases c:BB p q
  ·rw[SE c];simp[c]
  ·rw[WA c];simp[c]
theorem Wz {p q r:Ah} (h:K3 p q r):kLf false p q r=(RF p q r,false):=by
 have a:kSb false q.1 p.1=(q.1-p.1,false):=Ft h.a
 have b:kSb false r.2 p.2=(r.2-p.2,false):=Ft h.b
 have c:kSb false q.2 p.2=(q.2-p.2,false):=Ft h.c
 have d:kSb false r.1 p.1=(r.1-p.1,false):=Ft h.d
 unfold kLf
 simp only[a,b,c,d]
 have m:kMu false (q.1-p.1) (r.2-p.2)=((q.1-p.1)*(r.2-p.2),false):=Ft h.m
 have n:kMu false (q.2-p.2) (r.1-p.1)=((q.2-p.2)*(r.1-p.1),false):=Ft h.n
 simp only[m,n]
 rw[SE h.o];rfl
theorem X2 {s:Bool} {p q r:Ah}:(kLf s p q r).2=false↔s=false∧K3 p q r:=by
 constructor
 ·intro h
  unfold kLf at h
  have h7:=Vi.1 h
  have h6:=ML.1 h7.1
  have h5:=ML.1 h6.1
  have h4:=ML.1 h5.1
  have h3:=ML.1 h4.1
  have h2:=ML.1 h3.1
  have h1:=ML.1 h2.1
  obtain⟨rfl,a⟩:=h1
  have ea:kSb false q.1 p.1=(q.1-p.1,false):=Ft a
  have b:=h2.2
  have c:=h3.2
  have d:=h4.2
  have eb:kSb false r.2 p.2=(r.2-p.2,false):=Ft b
  have ec:kSb false q.2 p.2=(q.2-p.2,false):=Ft c
  have ed:kSb false r.1 p.1=(r.1-p.1,false):=Ft d
  have m:=h5.2
  have n:=h6.2
  have o:=h7.2
  simp only[ea,eb,ec,ed] at m n o
  have em:kMu false (q.1-p.1) (r.2-p.2)=((q.1-p.1)*(r.2-p.2),false):=Ft m
  have en:kMu false (q.2-p.2) (r.1-p.1)=((q.2-p.2)*(r.1-p.1),false):=Ft n
  simp only[em,en] at o
  exact⟨I,a,b,c,d,m,n,o⟩
 ·rintro⟨rfl,h⟩
  rw[Wz h]
theorem Jv (c:Nat) (s:Bool) (p q r:Ah) (hp:okP p) (hq:okP q) (hr:okP r) (W:World) (h:KcP c s W):I7 55 [Ai c,cvV p,cvV q,cvV r] c (kLf s p q r) W:=by
 obtain⟨x1,e1⟩: ∃x,x=kSb s q.1 p.1:=⟨_,rfl⟩
 obtain⟨x2,e2⟩: ∃x,x=kSb x1.2 r.2 p.2:=⟨_,rfl⟩
 obtain⟨x3,e3⟩: ∃x,x=kSb x2.2 q.2 p.2:=⟨_,rfl⟩
 obtain⟨x4,e4⟩: ∃x,x=kSb x3.2 r.1 p.1:=⟨_,rfl⟩
 obtain⟨x5,e5⟩: ∃x,x=kMu x4.2 x1.1 x2.1:=⟨_,rfl⟩
 obtain⟨x6,e6⟩: ∃x,x=kMu x5.2 x3.1 x4.1:=⟨_,rfl⟩
 obtain⟨x7,e7⟩: ∃x,x=kOr x6.2 x5.1 x6.1:=⟨_,rfl⟩
 have eL:kLf s p q r=x7:=by rw[e7,e6,e5,e4,e3,e2,e1];rfl
 have o1:okQ x1.1:=by rw[e1];exact O5 _ _ _
 have o2:okQ x2.1:=by rw[e2];exact O5 _ _ _
 have o3:okQ x3.1:=by rw[e3];exact O5 _ _ _
 have o4:okQ x4.1:=by rw[e4];exact O5 _ _ _
 have o5:okQ x5.1:=by rw[e5];exact Vm _ _ _
 have o6:okQ x6.1:=by rw[e6];exact Vm _ _ _
 have c1: ∀W1,KcP c s W1→HI 59 [Ai c,str (Ad q.1),str (Ad p.1)] c x1 W1:=fun W1 h=>by rw[e1];exact FN c s _ _ hq.1 hp.1 W1 h
 have c2: ∀W1,KcP c x1.2 W1→HI 59 [Ai c,str (Ad r.2),str (Ad p.2)] c x2 W1:=fun W1 h=>by rw[e2];exact FN c _ _ _ hr.2 hp.2 W1 h
 have c3: ∀W1,KcP c x2.2 W1→HI 59 [Ai c,str (Ad q.2),str (Ad p.2)] c x3 W1:=fun W1 h=>by rw[e3];exact FN c _ _ _ hq.2 hp.2 W1 h
 have c4: ∀W1,KcP c x3.2 W1→HI 59 [Ai c,str (Ad r.1),str (Ad p.1)] c x4 W1:=fun W1 h=>by rw[e4];exact FN c _ _ _ hr.1 hp.1 W1 h
 have c5: ∀W1,KcP c x4.2 W1→HI 60 [Ai c,str (Ad x1.1),str (Ad x2.1)] c x5 W1:=fun W1 h=>by rw[e5];exact Km c _ _ _ o1 o2 W1 h
 have c6: ∀W1,KcP c x5.2 W1→HI 60 [Ai c,str (Ad x3.1),str (Ad x4.1)] c x6 W1:=fun W1 h=>by rw[e6];exact Km c _ _ _ o3 o4 W1 h
 have c7: ∀W1,KcP c x6.2 W1→I7 53 [Ai c,str (Ad x5.1),str (Ad x6.1)] c x7 W1:=fun W1 h=>by rw[e7];exact E5 c _ _ _ o5 o6 W1 h
 rw[eL]
 clear eL e1 e2 e3 e4 e5 e6 e7
 refine Co.enter h Tryz.func55 I I I ?_
 refine zA (zB ?_)
 (refine A5 rfl rfl rfl rfl ?_;intro)
 (refine A5 rfl rfl rfl rfl ?_;intro)
 (refine A5 rfl rfl rfl rfl ?_;intro)
 refine wP I (Aa ?_)
 rename_i b5 b6 b7
 refine zE (A0 ?_)
 refine Bb (X:=Unit) [true,true,true,true,true,false,true,true,true,true,true,false,false,false] (fun _=>[(0,Ai c),(5,Ai b5),(6,Ai b6),(7,Ai b7),(9,str (Ad x1.1)),(10,str (Ad x2.1))]) (fun _=>[AP (At W c),caE c x2.2,ptB b5 (Ad p.1) (Ad p.2),ptB b6 (Ad q.1) (Ad q.2),ptB b7 (Ad r.1) (Ad r.2)])
  4 [AP (At W c),caF c s,ptB b5 (Ad p.1) (Ad p.2),ptB b6 (Ad q.1) (Ad q.2),ptB b7 (Ad r.1) (Ad r.2)] Tryz.mixed (by kernel_rfl) ?_ ?_
 ·refine qP I (qP I (qB 3 I I I (qP I (qB 2 I I I (qP I (qP I (qB 4 I I I (qP I (qB 2 I I I (Ck (wX (wZ ?_))))))))))))
  refine Cr 1 c I I I I I I (by kernel_rfl) I (fun W1 hp1=>c1 W1 (h.at_ (bs:=[ptB b5 (Ad p.1) (Ad p.2),ptB b6 (Ad q.1) (Ad q.2),ptB b7 (Ad r.1) (Ad r.2)]) hp1)) ?_
  refine Aa (Ab (wX (wZ ?_)))
  refine Cr 1 c I I I I I I (by kernel_rfl) I (fun W1 hp1=>c2 W1 (h.at_ (bs:=[ptB b5 (Ad p.1) (Ad p.2),ptB b6 (Ad q.1) (Ad q.2),ptB b7 (Ad r.1) (Ad r.2)]) hp1)) ?_
  refine Aa (Ab (wX (wZ (wP I (Aa (Ab (wX (wZ (wP I (Aa (Ab ?_)))))))))))
  refine A8 I (by((repeat (first|refine AC.same ?_|refine AC.off I ?_));exact tO)) ?_
  exact Ar () ⟨I,I,I,I,I,I,tO⟩ [0,1,2,3,4] (by decide) I
 intro _
 refine zE (A0 ?_)
 refine Bb (X:=Unit) [true,true,true,true,true,false,true,true,true,true,true,false,false,false] (fun _=>[(0,Ai c),(9,str (Ad x1.1)),(10,str (Ad x2.1)),(11,str (Ad x3.1)),(12,str (Ad x4.1))]) (fun _=>[AP (At W c),caE c x4.2])
  4 [AP (At W c),caF c x2.2,ptB b5 (Ad p.1) (Ad p.2),ptB b6 (Ad q.1) (Ad q.2),ptB b7 (Ad r.1) (Ad r.2)] Tryz.mixed (by kernel_rfl) ?_ ?_
 ·refine qP I (qP I (qB 3 I I I (qP I (qB 2 I I I (qP I (qP I (qB 4 I I I (qP I (qB 2 I I I (Ck (wX (wZ ?_))))))))))))
  refine Cr 1 c I I I I I I (by kernel_rfl) I (fun W1 hp1=>c3 W1 (h.at_ (bs:=[ptB b5 (Ad p.1) (Ad p.2),ptB b6 (Ad q.1) (Ad q.2),ptB b7 (Ad r.1) (Ad r.2)]) hp1)) ?_
  refine Aa (Ab (wX (wZ ?_)))
  refine Cr 1 c I I I I I I (by kernel_rfl) I (fun W1 hp1=>c4 W1 (h.at_ (bs:=[ptB b5 (Ad p.1) (Ad p.2),ptB b6 (Ad q.1) (Ad q.2),ptB b7 (Ad r.1) (Ad r.2)]) hp1)) ?_
  refine Aa (Ab (wX (wZ (wP I (Aa (Ab (wX (wZ (wP I (Aa (Ab ?_)))))))))))
  refine A8 I (by((repeat (first|refine AC.same ?_|refine AC.off I ?_));exact tO)) ?_
  exact Ar () ⟨I,I,I,I,I,tO⟩ [0,1] (by decide) I
 intro _
 refine zE (zA (zB (wP I (wP I (wP I (wP I ?_))))))
 refine Cr 1 c I I I I I I (by kernel_rfl) I (fun W1 hp1=>c5 W1 (h.at_ (bs:=[]) hp1)) ?_
 refine wP I (wP I (wP I ?_))
 refine Cr 1 c I I I I I I (by kernel_rfl) I (fun W1 hp1=>c6 W1 (h.at_ (bs:=[]) hp1)) ?_
 refine Cr 1 c I I I I I I (by kernel_rfl) I (fun W1 hp1=>c7 W1 (h.at_ (bs:=[]) hp1)) ?_
 exact wP I (Aa (zE (zO (Au tH I (.tmp I) () I tO fun W1 hp=>Ge hp))))
theorem JZ.of {c:Nat} {p q r:Ah} (hp:okP p) (hq:okP q) (hr:okP r) (h:K3 p q r) {W:World} (hk:KcP c false W):JZ c p q r W:=by
 have:=Jv c false p q r hp hq hr W hk
 rw[Wz h] at this
 exact this.same hk.o
theorem GP {c:Nat} {p q:Rat} (hp:okQ p) (hq:okQ q) (h:BB p q) {W:World} (hk:KcP c false W):Aj Tryz.prog 53 #[Ai c,str (Ad p),str (Ad q)] W (fun _:Unit=> .int .i64 (Dv p q)) (fun _=>True) (fun _=>[]):=by
 have:=E5 c false p q hp hq W hk
 rw[SE h] at this
 exact this.same hk.o
theorem KcP.below {c:Nat} {s:Bool} {W W':World} (h:KcP c s W) (hb:Below W.heap.size W W'):KcP c s W':=
 ⟨(hb.block c (Array.getElem?_eq_some_iff.1 h.o).1).trans h.o,fun _ h2=>h.k _ (Gd.trans ⟨hb.os,hb.tape,hb.output,hb.size,fun x _ hx=>hb.block x hx⟩ h2)⟩
theorem KcP.hp {c:Nat} {s:Bool} {W0 W:World} {bxs:List Bx} (h:KcP c s W0) (hp:Hp W0 bxs W):KcP c s W:=h.below hp.below
theorem JK.of {c:Nat} {p q:Ah} (hp:okP p) (hq:okP q) (h1:BB p.1 q.1) (h2:BB p.2 q.2) {W:World} (hk:KcP c false W):JK c p q W:=by
 refine Ac (args:=[Ai c,cvV p,cvV q]) Tryz.func71 I I I ?_
 refine zA (zB ?_)
 (refine A5 rfl rfl rfl rfl ?_;intro)
 (refine A5 rfl rfl rfl rfl ?_;intro)
 refine wP I (Aa (zE (zA (zA (zB (wP I (wP I (wB 0 I I I (wP I (wB 1 I I I ?_))))))))))
 rcases GW p.1 q.1 with e|e|e
 ·refine wC I I (fun W hp1=>(GP hp.1 hq.1 h1 (hk.hp hp1)).cast (congrArg (Value.int .i64) e)) (wP I (Aa (zE (zA (zB (wP I (wP I (Aa (zE (zR I (zA (zB (wP I (wP I ?_))))))))))))))
  exact Aa (zE (zO (zP (wR1 I I (by rw[MG,e,if_neg (by decide)])))))
 ·refine wC I I (fun W hp1=>(GP hp.1 hq.1 h1 (hk.hp hp1)).cast (congrArg (Value.int .i64) e)) (wP I (Aa (zE (zA (zB (wP I (wP I (Aa (zE (zS I (zI (zE (zA ?_)))))))))))))
  exact zB (wP I (wP I (wB 0 I I I (wP I (wB 1 I I I (wC I I (fun W hp1=>GP hp.2 hq.2 h2 (hk.hp hp1)) (wP I (Aa (zE (zO (wR1 I I (by rw[MG,if_pos e]))))))))))))
 ·refine wC I I (fun W hp1=>(GP hp.1 hq.1 h1 (hk.hp hp1)).cast (congrArg (Value.int .i64) e)) (wP I (Aa (zE (zA (zB (wP I (wP I (Aa (zE (zR I (zA (zB (wP I (wP I ?_))))))))))))))
  exact Aa (zE (zO (zP (wR1 I I (by rw[MG,e,if_neg (by decide)])))))
-- BOXES 8
-- CODE2
theorem Ch.keep {W W1:World} {p:Option Addr} {l:List Ah} {c:Nat} {s:Bool} (h:Ch W p l) (ho:W.heap[c]? =some (caO s)) (hK:Gd W W1 c):Ch W1 p l:=by
 rcases h with h|⟨b,off,e,h⟩
 ·exact .inl h
 refine .inr ⟨b,off,e,fun i hi=> ?_⟩
 have hr:=h i hi
 have hne:b≠c:=fun e=>by
  subst e
  have h0:=hr.get 0 (str (Ad l[i].1)) rfl
  simp only[World.cell?,ho] at h0
  generalize off+i*2+0=k at h0
  cases k with
  |zero=>simp at h0
  |succ k=>simp at h0
 refine⟨Nat.lt_of_lt_of_le hr.lt hK.size,fun j u hu=> ?_⟩
 have h1:=hr.get j u hu
 have h2:=hK.at_ b hne hr.lt
 simp only[World.cell?] at h1⊢
 rw[h2]
 exact h1
theorem Ch.kc {W W1:World} {p:Option Addr} {l:List Ah} {c:Nat} {s s1:Bool} {bs:List Bx} (h:Ch W p l) (ho:W.heap[c]? =some (caO s)) (hp:Hp (AY W) (AP (At W c)::caE c s1::bs) W1):Ch W1 p l:=
 h.keep ho (FM ho ⟨_,List.mem_cons_self ..⟩ (Hp.take (bxs:=[AP (At W c),caE c s1]) (nb:=bs) hp))
structure TY (l:List Ah) (a b:Nat):Prop where
 x:BB (Ae l a).1 (Ae l b).1
 y:BB (Ae l a).2 (Ae l b).2
 t: ∀d,d<l.length→K3 (Ae l a) (Ae l b) (Ae l d)
def DK (l:List Ah):Prop:= ∀a,a<l.length→ ∀b,b<l.length→TY l a b
theorem MC (c:Nat) (l:List Ah) (h0:0<l.length) (hn:l.length≤4096) (hq: ∀p∈l,okP p) (p:Option Addr) (cap:Nat) (W:World) (hA:Ch W p l) (h:KcP c false W):
  Co 74 [Ai c,slv p l.length cap] c (fun s:Bool=>s) (fun s=> .int .i64 (erI s)) (fun s=>s=false↔DK l) W:=by
 obtain⟨g,off,hpe,_⟩:=hA.at_ h0
 have hrow: ∀ {W1:World} {s1:Bool} {bs:List Bx},Hp (AY W) (AP (At W c)::caE c s1::bs) W1→ ∀j,j<l.length→Ak W1 g (off+j*2) [str (Ad (Ae l j).1),str (Ad (Ae l j).2)]:=fun hp j hj=>by
  obtain⟨g',off',e',h2⟩:=(hA.kc h.o hp).at_ hj
  rw[hpe] at e'
  cases e'
  rw[AG hj]
  exact h2 j hj
 have ok: ∀j,okP (Ae l j):=fun j=>hq _ (AX h0 j)
 subst hpe
 refine Co.enter h Tryz.func74 I I I ?_
 refine zA (zB (wP I (Aa (zE (zA (zA (zB (wP I (wP I (wP I (Aa (zE (zH ?_)))))))))))))
 refine AA (X:=Nat) (fun i=>[(0,Ai c),(1,slv (some ⟨g,off,none⟩) l.length cap),(11,slv (some ⟨g,off,none⟩) l.length cap),(12, .int .i64 (l.length:Nat)),(13, .int .i64 (i:Nat))]) (fun _=>[AP (At W c),caE c false]) (fun i=>i≤l.length∧ ∀a,a<i→ ∀b,b<l.length→TY l a b) (fun i=>l.length-i) 0 ⟨Nat.zero_le _,fun _ h=>absurd h (Nat.not_lt_zero _)⟩ ⟨I,I,I,I,I,tO⟩ [] I ?_
 rintro i ⟨hi1,hi2⟩
 have hi1:i≤l.length:=hi1
 have hi2: ∀a,a<i→ ∀b,b<l.length→TY l a b:=hi2
 refine zA (zB (wP I ?_))
 by_cases hi:i<l.length
 rotate_left
 ·obtain rfl:i=l.length:=by omega
  refine wU 14 false I (dF (by omega)) (Aa (zE (zA (zS I (zJ (zK (zK (zL (zE (zA (zB (wP I (Aa ?_)))))))))))))
  exact zE (zO (Au tH I (.tmp I) false I ⟨fun _=>hi2,fun _=>rfl⟩ fun W1 hp=>Ge hp))
 refine wU 14 true I (dT (by omega)) (Aa (zE (zA (zR I (zI (zE (zA (zH (zA (zB ?_))))))))))
 obtain⟨P,hP⟩: ∃P,P=Ae l i:=⟨_,rfl⟩
 have okPP:okP P:=hP▸ok i
 have rP: ∀ {W1:World} {s1:Bool} {bs:List Bx},Hp (AY W) (AP (At W c)::caE c s1::bs) W1→Ak W1 g (off+i*2) [str (Ad P.1),str (Ad P.2)]:=fun hp=>by rw[hP];exact hrow hp i hi
 refine wJ ?_
 refine wL 0 I I (fun W1 hp=>rP (s1:=false) (bs:=[]) hp) I ?_
 (refine Ag Tryz.hZ rfl rfl rfl rfl ?_;intro)
 refine wS 2 I I I (Aa ?_)
 rename_i b6
 refine zE (zA (zB (wP I (wP I (wP I (Aa (zE (zH ?_))))))))
 refine AA (X:=Nat) (fun k=>[(0,Ai c),(1,slv (some ⟨g,off,none⟩) l.length cap),(6,Ai b6),(11,slv (some ⟨g,off,none⟩) l.length cap),(12, .int .i64 (l.length:Nat)),(13, .int .i64 (i:Nat)),(17,slv (some ⟨g,off,none⟩) l.length cap),(18, .int .i64 (l.length:Nat)),(19, .int .i64 (k:Nat))]) (fun _=>[AP (At W c),caE c false,ptB b6 (Ad P.1) (Ad P.2)]) (fun k=>k≤l.length∧ ∀b,b<k→TY l i b) (fun k=>l.length-k) 0 ⟨Nat.zero_le _,fun _ h=>absurd h (Nat.not_lt_zero _)⟩ ⟨I,I,I,I,I,I,I,I,I,tO⟩ [] I ?_
 rintro k ⟨hk1,hk2⟩
 have hk1:k≤l.length:=hk1
 have hk2: ∀b,b<k→TY l i b:=hk2
 refine zA (zB (wP I ?_))
 by_cases hk:k<l.length
 rotate_left
 ·obtain rfl:k=l.length:=by omega
  refine wU 20 false I (dF (by omega)) (Aa (zE (zA (zS I (zJ (zK (zK (zL (zN (zE (zB (wP I (wV 57 ((i+1:Nat):Int) I (Az (by omega)) ?_)))))))))))))
  refine wP I (Aa ?_)
  exact A6 (i+1) ⟨hi,fun a ha=>by
   by_cases e:a=i
   ·subst e;exact hk2
   ·exact hi2 a (by omega)⟩ (by show l.length-(i+1)<l.length-i;omega) ⟨I,I,I,I,I,tO⟩ [_] I
 refine wU 20 true I (dT (by omega)) (Aa (zE (zA (zR I (zI (zE (zA (zH (zA (zB ?_))))))))))
 obtain⟨Q,hQ⟩: ∃Q,Q=Ae l k:=⟨_,rfl⟩
 have okQQ:okP Q:=hQ▸ok k
 have rQ: ∀ {W1:World} {s1:Bool} {bs:List Bx},Hp (AY W) (AP (At W c)::caE c s1::bs) W1→Ak W1 g (off+k*2) [str (Ad Q.1),str (Ad Q.2)]:=fun hp=>by rw[hQ];exact hrow hp k hk
 refine wJ ?_
 refine wL 0 I I (fun W1 hp=>rQ (s1:=false) (bs:=[ptB b6 (Ad P.1) (Ad P.2)]) hp) I ?_
 (refine Ag Tryz.hZ rfl rfl rfl rfl ?_;intro)
 refine wS 3 I I I (Aa ?_)
 rename_i b8
 obtain⟨x1,e1⟩: ∃x,x=kOr false P.1 Q.1:=⟨_,rfl⟩
 obtain⟨x2,e2⟩: ∃x,x=kOr x1.2 P.2 Q.2:=⟨_,rfl⟩
 have c1: ∀W1,KcP c false W1→I7 53 [Ai c,str (Ad P.1),str (Ad Q.1)] c x1 W1:=fun W1 h=>by rw[e1];exact E5 c _ _ _ okPP.1 okQQ.1 W1 h
 have c2: ∀W1,KcP c x1.2 W1→I7 53 [Ai c,str (Ad P.2),str (Ad Q.2)] c x2 W1:=fun W1 h=>by rw[e2];exact E5 c _ _ _ okPP.2 okQQ.2 W1 h
 have hx:x2.2=false↔BB P.1 Q.1∧BB P.2 Q.2:=by
  rw[e2,Vi,e1,Vi]
  exact⟨fun h=>⟨h.1.2,h.2⟩,fun h=>⟨⟨I,h.1⟩,h.2⟩⟩
 refine zE (zA (zB (wP I (wP I (wB 2 I I I (wP I (wB 3 I I I ?_)))))))
 refine Cr 1 c I I I I I I (by kernel_rfl) I (fun W1 hp1=>c1 W1 (h.at_ (bs:=[ptB b6 (Ad P.1) (Ad P.2),ptB b8 (Ad Q.1) (Ad Q.2)]) hp1)) ?_
 refine Aa (zE (zA (zB (wP I (wP I (wB 2 I I I (wP I (wB 3 I I I ?_))))))))
 refine Cr 1 c I I I I I I (by kernel_rfl) I (fun W1 hp1=>c2 W1 (h.at_ (bs:=[ptB b6 (Ad P.1) (Ad P.2),ptB b8 (Ad Q.1) (Ad Q.2)]) hp1)) ?_
 refine Aa (zE (zA (zB (wP I (wP I (wP I (Aa (zE (zH ?_)))))))))
 refine AA (X:=Nat×Bool) (fun s=>[(0,Ai c),(1,slv (some ⟨g,off,none⟩) l.length cap),(6,Ai b6),(8,Ai b8),(11,slv (some ⟨g,off,none⟩) l.length cap),(12, .int .i64 (l.length:Nat)),(13, .int .i64 (i:Nat)),(17,slv (some ⟨g,off,none⟩) l.length cap),(18, .int .i64 (l.length:Nat)),(19, .int .i64 (k:Nat)),(35,slv (some ⟨g,off,none⟩) l.length cap),(36, .int .i64 (l.length:Nat)),(37, .int .i64 (s.1:Nat))]) (fun s=>[AP (At W c),caE c s.2,ptB b6 (Ad P.1) (Ad P.2),ptB b8 (Ad Q.1) (Ad Q.2)])
  (fun s=>s.1≤l.length∧(0<s.1→s.2=false)∧(s.2=false↔BB P.1 Q.1∧BB P.2 Q.2∧ ∀d,d<s.1→K3 P Q (Ae l d))) (fun s=>l.length-s.1) (0,x2.2) ⟨Nat.zero_le _,fun h=>absurd h (Nat.not_lt_zero _),hx.trans ⟨fun h=>⟨h.1,h.2,fun _ hd=>absurd hd (Nat.not_lt_zero _)⟩,fun h=>⟨h.1,h.2.1⟩⟩⟩ ⟨rfl,rfl,rfl,rfl,rfl,rfl,rfl,rfl,rfl,rfl,rfl,rfl,rfl,trivial⟩ [] rfl ?_
 rintro⟨j,s⟩ ⟨hj1,hj2,hj3⟩
 have hj1:j≤l.length:=hj1
 have hj2:0<j→s=false:=hj2
 have hj3:s=false↔BB P.1 Q.1∧BB P.2 Q.2∧ ∀d,d<j→K3 P Q (Ae l d):=hj3
 refine zA (zB (wP I ?_))
 by_cases hj:j<l.length
 rotate_left
 ·obtain rfl:j=l.length:=by omega
  obtain rfl:s=false:=hj2 h0
  have hall:=hj3.1 rfl
  refine wU 38 false I (dF (by omega)) (Aa (zE (zA (zS I (zJ (zK (zK (zL (zN (zE (zB (wP I (wV 56 ((k+1:Nat):Int) I (Az (by omega)) ?_)))))))))))))
  refine wP I (Aa ?_)
  exact A6 (k+1) ⟨hk,fun b hb=>by
   by_cases e:b=k
   ·subst e;exact⟨by rw[←hP, ←hQ];exact hall.1,by rw[←hP, ←hQ];exact hall.2.1,by rw[←hP, ←hQ];exact hall.2.2⟩
   ·exact hk2 b (by omega)⟩ (by show l.length-(k+1)<l.length-k;omega) ⟨I,I,I,I,I,I,I,I,I,tO⟩ [_] I
 refine wU 38 true I (dT (by omega)) (Aa (zE (zA (zR I (zI (zE (zA (zH (zA (zB ?_))))))))))
 obtain⟨Z,hZ⟩: ∃Z,Z=Ae l j:=⟨_,rfl⟩
 have okZZ:okP Z:=hZ▸ok j
 have rZ: ∀ {W1:World} {s1:Bool} {bs:List Bx},Hp (AY W) (AP (At W c)::caE c s1::bs) W1→Ak W1 g (off+j*2) [str (Ad Z.1),str (Ad Z.2)]:=fun hp=>by rw[hZ];exact hrow hp j hj
 refine wJ ?_
 refine wL 0 I I (fun W1 hp=>rZ (s1:=s) (bs:=[ptB b6 (Ad P.1) (Ad P.2),ptB b8 (Ad Q.1) (Ad Q.2)]) hp) I ?_
 (refine Ag Tryz.hZ rfl rfl rfl rfl ?_;intro)
 refine wS 4 I I I (Aa ?_)
 rename_i b10
 obtain⟨⟨v,s2⟩,e3⟩: ∃x,x=kLf s P Q Z:=⟨_,rfl⟩
 have hs2:s2=false↔s=false∧K3 P Q Z:=by
  have:=X2 (s:=s) (p:=P) (q:=Q) (r:=Z)
  rw[←e3] at this
  exact this
 have c3: ∀W1,KcP c s W1→I7 55 [Ai c,cvV P,cvV Q,cvV Z] c (v,s2) W1:=fun W1 h=>by rw[e3];exact Jv c _ _ _ _ okPP okQQ okZZ W1 h
 refine zE (zA (zB (wP I (wB 2 I I I (wB 3 I I I (wB 4 I I I ?_))))))
 refine Cr 1 c I I I I I I (by kernel_rfl) I (fun W1 hp1=>c3 W1 (h.at_ (bs:=[ptB b6 (Ad P.1) (Ad P.2),ptB b8 (Ad Q.1) (Ad Q.2),ptB b10 (Ad Z.1) (Ad Z.2)]) hp1)) ?_
 refine Aa ?_
 cases s2 with
 |true=>
  have hno: ¬DK l:=fun ha=>by
   have hb:=ha i hi k hk
   have h1:K3 P Q Z:=by rw[hP,hQ,hZ];exact hb.t j hj
   have h2:s=false:=hj3.2 ⟨by rw[hP,hQ];exact hb.x,by rw[hP,hQ];exact hb.y,fun d hd=>by rw[hP,hQ];exact hb.t d (by omega)⟩
   exact absurd (hs2.2 ⟨h2,h1⟩) (by decide)
  refine zE (zA (zB (wP I ?_)))
  refine AL I I I I ?_
  refine wP I (wB 1 I I I (wP I (Aa (zE (zR I (zA (zB (wP I ?_))))))))
  refine AL I I I I ?_
  refine wP I (wB 1 I I I (wP I (Aa (zE (zO (zQ (zP (zP (zQ (zQ (zP (zP (zQ (zQ ?_))))))))))))))
  exact zP (zP (zQ (zP (Au tH I (.tmp I) true I ⟨fun h=>absurd h (by decide),fun h=>absurd h hno⟩ fun W1 hp=>Ge hp))))
 |false=>
  obtain⟨rfl,htn⟩:=hs2.1 rfl
  have hall:=hj3.1 rfl
  refine zE (zA (zB (wP I ?_)))
  refine AL I I I I ?_
  refine wP I (wB 1 I I I (wP I (Aa (zE (zS I (zI (zN (zE (zB (wP I (wV 55 ((j+1:Nat):Int) I (Az (by omega)) (wP I (Aa ?_)))))))))))))
  exact A6 (j+1,false) ⟨hj,fun _=>rfl,⟨fun _=>⟨hall.1,hall.2.1,fun d hd=>by
   by_cases e:d=j
   ·subst e;rw[←hZ];exact htn
   ·exact hall.2.2 d (by have hd:d<j+1:=hd;omega)⟩,fun _=>rfl⟩⟩ (by show l.length-(j+1)<l.length-j;omega) ⟨I,I,I,I,I,I,I,I,I,I,I,I,I,tO⟩ [_] I
def Hd (x:PtS):Bool:=decide (30<x.1.length)||decide (30<x.2.length)
theorem OB (x:PtS) (W:World):Aj Tryz.prog 137 #[.agg #[str x.1,str x.2]] W (fun _:Unit=> .bool (Hd x)) (fun _=>True) (fun _=>[]):=by
 have e1: ∀a:List UInt8,decide (((⟨a.toArray⟩:ByteArray).size:Int)>30)=decide (30<a.length):=fun a=>decide_eq_decide.2 (by show((a.toArray.size:Nat):Int)>30↔_;rw[List.size_toArray];omega)
 refine Ac (args:=[.agg #[str x.1,str x.2]]) Tryz.func137 I I I ?_
 refine zA (zB ?_)
 (refine A5 rfl rfl rfl rfl ?_;intro)
 refine wP I (Aa (zE (zA (zB (wP I (wB 0 I I I (wP I (wP I (wU 6 (decide (30<x.1.length)) I (e1 x.1) ?_)))))))))
 cases hx:decide (30<x.1.length) with
 |true=>
  refine wP I ?_
  iterate 4 refine An I I ?_
  exact wP I (wP I (Aa (zE (zO (wR1 I I (by rw[Hd,hx];rfl))))))
 |false=>
  exact wP I (wP I (wB 0 I I I (wP I (wP I (wU 11 (decide (30<x.2.length)) I (e1 x.2) (wP I (wP I (Aa (zE (zO (wR1 I I (by rw[Hd,hx];rfl))))))))))))
theorem OF (xs:List PtS) (hn:xs.length≤100000) (p:Option Addr) (cap:Nat) (W:World) (hS:GL W p xs):
  Aj Tryz.prog 73 #[slv p xs.length cap] W (fun _:Unit=> .bool (xs.any Hd)) (fun _=>True) (fun _=>[]):=by
 refine Ac (args:=[slv p xs.length cap]) Tryz.func73 I I I ?_
 exact zA (zB (wP I (Aa (zE (zA (zB (wP I (wC I I (fun W1 hp=>G7 137 (by kernel_rfl) Hd OB xs hn p cap W1 (hS.hp hp)) (wP I (Aa (zE (zO (wR1 I I I)))))))))))))
-- BOXES 9
-- CODE2
theorem KcP.beside {c g:Nat} {s:Bool} {W0 W1 W2:World} {bxs:List Bx} {B:Bx} {o:Obj} (hp:Hp W0 bxs W1) (k j:Nat) (hk:nth bxs k=some (caE c s)) (hj:nth bxs j=some B) (hB:(g,o)∈B.blk) (hne:k≠j) (hv:BU W0) (ht:AO W0) (h2:Gd W1 W2 g):KcP c s W2:=by
 rw[B2] at hk hj
 have hc:=hp.own.cell k _ hk (c,caO s) (List.mem_cons_self ..)
 have hg:=hp.own.cell j _ hj (g,o) hB
 have ne:c≠g:=hp.own.apart k j _ _ hk hj hne (c,_) (List.mem_cons_self ..) (g,o) hB
 exact⟨(h2.at_ c ne (Array.getElem?_eq_some_iff.1 hc.1).1).trans hc.1,fun W3 h3=>⟨hv.below (h3.below (h2.below hp.below hg.2) hc.2),ht.below (h3.below (h2.below hp.below hg.2) hc.2)⟩⟩
def JQ (l:List Ah):List Ah:=BK (Ho (C2 l))
def Pi (l L:List Ah) (e:Int):Prop:=DK l∧3≤(JQ l).length∧L=JQ l∧e=0∨DK l∧(JQ l).length<3∧L=[]∧e=12∨ ¬DK l∧L=[]∧e=4
theorem DK.tn {l:List Ah} (h:DK l) {x y z:Ah} (hx:x∈l) (hy:y∈l) (hz:z∈l):K3 x y z:=by
 obtain⟨i,hi,rfl⟩:=Cs hx
 obtain⟨j,hj,rfl⟩:=Cs hy
 obtain⟨k,hk,rfl⟩:=Cs hz
 exact(h i hi j hj).t k hk
theorem DK.dv {l:List Ah} (h:DK l) {x y:Ah} (hx:x∈l) (hy:y∈l):BB x.1 y.1∧BB x.2 y.2:=by
 obtain⟨i,hi,rfl⟩:=Cs hx
 obtain⟨j,hj,rfl⟩:=Cs hy
 exact⟨(h i hi j hj).x,(h i hi j hj).y⟩
theorem Lf (l:List Ah) (x:Ah):x∈Ho (C2 l)↔x∈l:=((Nt (Lz l)).2 x).trans OU
theorem TU (l:List Ah):(Ho (C2 l)).length≤l.length:=by
 exact Nat.le_trans (P0 (C2 l) (C2 l).length) (Nat.le_of_eq (Mh l))
theorem Ht (l L:List Ah) (e:Int) (hr:Pi l L e) (hlong:DK l∨(l.map ptS).any Hd=true) (h0:0<l.length) (h12:l.length≤12) (hq: ∀p∈l,okP p) (p:Option Addr) (cap:Nat) (W:World) (hA:Ch W p l) (hv:BU W) (ht:AO W):
  Aj Tryz.prog 26 #[slv p l.length cap] W (fun V:Vec=> .tuple #[V.val L.length, .int .i64 e]) (fun V=>V.OK 2 L.length (ptC L)) (fun V=>[V.bx 35 (ptC L)]):=by
 have hne:l≠[]:=fun h=>by rw[h] at h0;exact absurd h0 (by decide)
 have nilR: ∀ {W1:World} {bs:List Bx},Hp W bs W1→As W W1 [Vec.empty.bx 35 (ptC [])]:=fun _=>Own.one (fun p hp=>by cases hp) List.nodup_nil
 refine Ac (args:=[slv p l.length cap]) Tryz.func26 I I I ?_
 refine zA (zB (wP I (wP I (Aa (zE (zA (zH (zA (zB (wP I (wP I (wP I (wU 13 false I (beq_eq_false_iff_ne.2 (by omega)) ?_)))))))))))))
 refine wP I (Aa (zE (zS I (zA (zB (wP I (wP I (wP I (wU 17 false I (dF (by omega)) (wP I (Aa (zE (zS I ?_)))))))))))))
 refine zI (zN (zE (zA (zA (zB (wP I (wC I I (fun W1 hp=>He W1 p cap l (hA.hp hp) (by omega) hq (hv.hp hp) (ht.hp hp)) (wP I (Aa (zE (zA (zB (wP I (wP I ?_))))))))))))))
 refine Aa (zE (zS I (zI (zE (zA (zB ?_))))))
 refine Ay Tryz.hZ tH I I I I I I I I ?_
 (refine A5 rfl rfl rfl rfl ?_;intro)
 (refine Ag Tryz.hZ rfl rfl rfl rfl ?_;intro)
 refine wS 1 I I I (Aa ?_)
 rename_i bC b5
 refine zE (zA (zA (zB (wP I (wC I I (fun W1 hp=>(by have:=OF (l.map ptS) (by rw[List.length_map];omega) p cap W1 (hA.hp hp).b;rwa [List.length_map] at this)) (Aa (AH ?_)))))))
 try refine A0 ?_
 refine AF (X:=Unit) (fun _=>[(0,slv p l.length cap),(5,Ai b5)]) (fun _=>[caE bC false,ckB b5 bC]) (fun _=>DK l) ?_ ?_
 ·cases hln:(l.map ptS).any Hd with
  |false=>
   have hok:DK l:=by
    rcases hlong with h|h
    ·exact h
    ·rw[hln] at h;cases h
   exact zS I (zI (Al () hok ⟨I,I,tO⟩ [] I))
  |true=>
   refine zR I (zA (zB (wB 1 I I I (wP I ?_))))
   refine Pz 0 bC (s:=false) (X:=Bool) I I I I I I (by kernel_rfl) I (fun W1 hp=>MC bC l h0 (by omega) hq p cap W1 (hA.hp hp) (KcP.of hp 0 I hv ht)) ?_
   intro s hs
   have hs:s=false↔DK l:=hs
   cases s with
   |true=>
    have hno: ¬DK l:=fun h=>absurd (hs.2 h) (by decide)
    obtain⟨rfl,rfl⟩:L=[]∧e=4:=by
     rcases hr with h|h|h
     ·exact absurd h.1 hno
     ·exact absurd h.1 hno
     ·exact h.2
    refine wP I (Aa (zE (zA (zB (wP I (wP I (Aa (zE (zR I (zA (zB (wP I (wP I (wP I ?_))))))))))))))
    exact Aa (zE (zO (zP (AI tH I (.tmp I) (.tmp I) Vec.empty I (Vec.OK.empty 2) fun W1 hp=>nilR hp))))
   |false=>
    exact wP I (Aa (zE (zA (zB (wP I (wP I (Aa (zE (zS I (zI (Al () (hs.1 I) ⟨I,I,tO⟩ [] I)))))))))))
 intro _ hok
 have hok:DK l:=hok
 refine zA (zB (wP I ?_))
 refine wD (X:=Vec) I I (fun W1 hp=>FW W1 p cap l (by omega) (hA.hp hp) hne) ?_
 rintro⟨pS,cS,jS⟩ ⟨hVS,hpS⟩
 obtain⟨gS,rfl⟩: ∃g,pS=some g:=Option.ne_none_iff_exists'.1 hpS
 have hcS:l.length≤cS:=(hVS.cap (by simp)).1
 refine wP I (Aa (zE (zA (zB (wP I (wB 1 I I I (wP I ?_)))))))
 refine D0 (X:=Unit) (val:=fun _=> .tuple #[]) (Φ:=fun _=>True) (capt:=[]) 2 (B:=Bs gS l jS) (L1:=[]) (L2:=[]) (b:=gS) (ob:= .cells (ptC l++jS).toArray 35 (0,0)) (fun _=>Bs gS (C2 l) jS) (g':=fun _=>gS) (o':=fun _=> .cells (ptC (C2 l)++jS).toArray 35 (0,0))
  rfl rfl rfl rfl rfl rfl (by kernel_rfl) rfl rfl (fun _ _=>rfl) (fun W1 hp=> ?_) (fun _ _=> ?_)
 ·exact Py bC W1 gS cS l jS h12 (hp.own.cell 2 _ I (gS, .cells (ptC l++jS).toArray 35 (0,0)) (List.mem_cons_self ..)).1 fun W2 h2 x hx y hy=>JK.of (hq x hx) (hq y hy) (hok.dv hx hy).1 (hok.dv hx hy).2 (KcP.beside hp 0 2 I I (List.mem_cons_self ..) (by decide) hv ht h2)
 refine Aa ?_
 have hsl:=Mh l
 obtain⟨S,hS⟩: ∃S,S=Ho (C2 l):=⟨_,rfl⟩
 have hSm: ∀x,x∈S↔x∈l:=fun x=>by rw[hS];exact Lf l x
 have hSl:S.length≤l.length:=by rw[hS];exact TU l
 have hS0:0<S.length:=by
  have:Ae l 0∈S:=(hSm _).2 (AX h0 0)
  exact List.length_pos_of_mem this
 have hSP: ∀i,Ae S i∈l:=fun i=>(hSm _).1 (AX hS0 i)
 have hH:JQ l=BK S:=by rw[hS];rfl
 refine zE (zA (zB (wP I ?_)))
 refine D0 (X:=List Value) (val:=fun _=> .slice (some ⟨gS,0,none⟩) S.length cS) (Φ:=fun _=>True) (capt:=[]) 2 (B:=Bs gS (C2 l) jS) (L1:=[]) (L2:=[]) (b:=gS) (ob:= .cells (ptC (C2 l)++jS).toArray 35 (0,0)) (fun x=>Bs gS S x) (g':=fun _=>gS) (o':=fun x=> .cells (ptC S++x).toArray 35 (0,0))
  rfl rfl rfl rfl rfl rfl (by kernel_rfl) rfl rfl (fun _ _=>rfl) (fun W1 hp=> ?_) ?_
 ·have:=Q2 W1 gS cS (C2 l) jS (by omega) (by omega) (hp.own.cell 2 _ rfl (gS, .cells (ptC (C2 l)++jS).toArray 35 (0,0)) (List.mem_cons_self ..)).1
  rw[←hS,hsl] at this
  exact this
 intro jT _
 refine wP I (Aa (zE (zA (zB (wP I (wP I (Aa ?_)))))))
 have hleft: ∀ {c:Nat} (P:Nat→Ah),(∀i,P i∈l)→ ∀(i j k:Nat) {W1 W2:World},KcP c false W1→Below W1.heap.size W1 W2→JZ c (P i) (P j) (P k) W2:=fun {c} P hP i j k {W1 W2} hk hb=>JZ.of (hq _ (hP i)) (hq _ (hP j)) (hq _ (hP k)) (hok.tn (hP i) (hP j) (hP k)) (hk.below hb)
 refine zE (zA (zB (wP I (wP I ?_))))
 refine wD (X:=Nat) I I (fun W1 _=>Rq (some ⟨gS,0,none⟩) S.length cS W1) ?_
 intro b1 _
 refine wD (X:=Vec) (capt:=[Ai b5]) I I (fun W1 hp=>Ks b5 bC 139 [Ai b1] (by kernel_rfl) S.length (fun k=>k) (Ae S) (fun _=>Uc b1 (some ⟨gS,0,none⟩) cS S) (Ti S b1 (some ⟨gS,0,none⟩) cS (by omega)) hS0 (by omega) W1 (Ak.of_bx hp 1 I I)
  (fun _ W2 hb=>⟨(Ak.of_bx hp 3 rfl rfl).below (Nat.le_refl _) hb,(Ch.of_row (Ak.of_bx hp 2 rfl rfl)).below (Nat.le_refl _) hb⟩) (fun i j k _ _ _ W2 hb=>hleft (Ae S) hSP i j k (KcP.of hp 0 rfl hv ht) hb)) ?_
 rintro⟨p1,c1,j1⟩ ⟨hV1,hp1⟩
 obtain⟨g1,rfl⟩: ∃g,p1=some g:=Option.ne_none_iff_exists'.1 hp1
 rw[P9] at hV1
 refine wP I (wP I ?_)
 refine wD (X:=Nat) I I (fun W1 _=>Qm (some ⟨gS,0,none⟩) S.length cS W1) ?_
 intro b2 _
 refine wD (X:=Vec) (capt:=[Ai b5]) I I (fun W1 hp=>Ks b5 bC 140 [Ai b2] (by kernel_rfl) S.length (fun k=>S.length-1-k) (fun k=>Ae S (S.length-1-k)) (fun _=>Uc b2 (some ⟨gS,0,none⟩) cS S) (Rz S b2 (some ⟨gS,0,none⟩) cS (by omega)) hS0 (by omega) W1 (Ak.of_bx hp 1 I I)
  (fun _ W2 hb=>⟨(Ak.of_bx hp 5 rfl rfl).below (Nat.le_refl _) hb,(Ch.of_row (Ak.of_bx hp 2 rfl rfl)).below (Nat.le_refl _) hb⟩) (fun i j k _ _ _ W2 hb=>hleft (fun k=>Ae S (S.length-1-k)) (fun i=>hSP _) i j k (KcP.of hp 0 rfl hv ht) hb)) ?_
 rintro⟨p2,c2,j2⟩ ⟨hV2,hp2⟩
 obtain⟨g2,rfl⟩: ∃g,p2=some g:=Option.ne_none_iff_exists'.1 hp2
 rw[Px] at hV2
 have sl1:=Hu (Ae S) S.length
 have sl2:=Hu (fun k=>Ae S (S.length-1-k)) S.length
 have q1:=P9 S
 have q2:=Px S
 refine AD Tryz.hZ tH I I I I I I I I I I I fun bR=> ?_
 rw[q1] at sl1
 rw[q2] at sl2
 rw[q1,q2]
 obtain⟨A,eA⟩: ∃A,A=(Ao S).tail.reverse:=⟨_,rfl⟩
 obtain⟨B,eB⟩: ∃B,B=(Ao S.reverse).tail.reverse:=⟨_,rfl⟩
 have lA:(Ao S).length-1=A.length:=by rw[eA,List.length_reverse,List.length_tail]
 have lB:(Ao S.reverse).length-1=B.length:=by rw[eB,List.length_reverse,List.length_tail]
 have hHC:JQ l=A++B:=by rw[hH,eA,eB];rfl
 rw[lA] at hV1
 rw[lB] at hV2
 rw[←eA] at hV1
 rw[←eB] at hV2
 rw[←eA, ←eB,lA,lB]
 refine wD (X:=Vec) I I (fun W1 hp=>FA W1 bR 2 (some ⟨g1,0,none⟩) (some ⟨g2,0,none⟩) A.length B.length c1 c2 (ptC A) (ptC B) (Ak.of_bx hp 7 I I) (.inr ⟨g1,0,I,Cz (Ak.of_bx hp 4 I I:Ak W1 g1 0 (ptC A++j1))⟩) (.inr ⟨g2,0,I,Cz (Ak.of_bx hp 6 I I:Ak W1 g2 0 (ptC B++j2))⟩) (AQ A) (AQ B) (GY _) (GY _) (by omega) (by omega)) ?_
 intro V hV
 have lAB:A.length+B.length=(JQ l).length:=by rw[hHC,List.length_append]
 have hV:V.OK 2 (JQ l).length (ptC (JQ l)):=by
  have h1:V.OK 2 (A.length+B.length) (ptC A++ptC B):=hV
  rw[←BP, ←hHC,lAB] at h1
  exact h1
 have hAB:ptC A++ptC B=ptC (JQ l):=by rw[hHC,BP]
 rw[hAB,lAB]
 refine wP I (Aa (zE (zA (zA (zB (wB 1 I I I ?_))))))
 refine AL I I I I ?_
 refine wP I (wB 0 I I I (wP I (Aa (zE (zS I (zI (zE (zA (zA (zB (wP I ?_)))))))))))
 obtain⟨pV,cV,jV⟩:=V
 by_cases hl3:(JQ l).length<3
 ·obtain⟨rfl,rfl⟩:L=[]∧e=12:=by
   rcases hr with h|h|h
   ·exact absurd hl3 (by omega)
   ·exact h.2.2
   ·exact absurd hok h.1
  cases pV with
  |none=>
   have hz:=hV.nil rfl
   rw[hz]
   exact wP I (wP I (Aa (zE (zR I (zA (zB (wP I (wP I (Aa (zE (zO (zP (AI tH I (.tmp I) (.tmp I) Vec.empty I (Vec.OK.empty 2) fun W1 hp=>nilR hp)))))))))))))
  |some gV=>
   exact wP I (wP I (wU 63 true I (dT (by omega)) (Aa (zE (zR I (zA (zB (wP I (wP I (Aa (zE (zO (zP (AI tH I (.tmp I) (.tmp I) Vec.empty I (Vec.OK.empty 2) fun W1 hp=>nilR hp))))))))))))))
 ·obtain⟨rfl,rfl⟩:L=JQ l∧e=0:=by
   rcases hr with h|h|h
   ·exact h.2.2
   ·exact absurd h.2.1 hl3
   ·exact absurd hok h.1
  cases pV with
  |none=>exact absurd (hV.nil rfl) (by omega)
  |some gV=>
   refine wP I (wP I (wU 63 false I (dF (by omega)) (Aa (zE (zS I (zI (zE (zA (zB (wP I (wP I (wP I (Aa ?_)))))))))))))
   exact zE (zO (AI tH I (.tmp I) (.tmp I) (⟨some gV,cV,jV⟩:Vec) I hV fun W1 hp=>As.of_hp (hp.pick (l:=[(⟨some gV,cV,jV⟩:Vec).bx 35 (ptC (JQ l))]) [8] (by decide) I)))
end
section
open Go Go.RowKit Go.Am Go.Lib
theorem FZ {q:Rat} {X W:Int} {k:Nat} (hW:W≠0) (h:q*(W:Rat)=X) (h1:X.natAbs<10^k) (h2:W.natAbs<10^k):szQ q k:=by
 have hw:(W:Rat)≠0:=fun e=>hW (by have h:=congrArg Rat.num e;rwa [Rat.num_intCast] at h)
 have e:q=(X:Rat)/(W:Rat):=by rw[←h,Rat.mul_div_cancel hw]
 have h:=HV X hW h1 h2
 rw[J2 X hW,Rat.divInt_eq_div] at h
 rw[e]
 exact h
def Hm (e:Nat) (p:Ah):Prop:= ∃X Y W:Int,W≠0∧X.natAbs<10^e∧Y.natAbs<10^e∧W.natAbs<10^e∧p.1*(W:Rat)=X∧p.2*(W:Rat)=Y
theorem Hm.sz {e:Nat} {p:Ah} (h:Hm e p):szQ p.1 e∧szQ p.2 e:=by
 obtain⟨X,Y,W,h0,hX,hY,hW,e1,e2⟩:=h
 exact⟨FZ h0 e1 hX hW,FZ h0 e2 hY hW⟩
theorem Hm.mono {e e':Nat} {p:Ah} (h:Hm e p) (he:e≤e'):Hm e' p:=by
 obtain⟨X,Y,W,h0,hX,hY,hW,e1,e2⟩:=h
 have:=Nat.pow_le_pow_right (show 0<10 by decide) he
 exact⟨X,Y,W,h0,by omega,by omega,by omega,e1,e2⟩
def LnH (f:Bn):Prop:= ∃A B C D:Int,D≠0∧A.natAbs<10^11∧B.natAbs<10^11∧C.natAbs<10^11∧D.natAbs<10^9∧f.a*(D:Rat)=A∧f.b*(D:Rat)=B∧f.c*(D:Rat)=C
theorem Uj {u v D Wp Wq p1 q1 Xp Xq U V t:Rat} (hp:p1*Wp=Xp) (hq:q1*Wq=Xq) (hU:u*(D*Wp)=U) (hV:v*(D*Wq)=V) (ht:t*(u-v)=u):(p1+t*(q1-p1))*(U*Wq-V*Wp)=U*Xq-V*Xp:=by
 subst hp hq hU hV
 have e:(p1+t*(q1-p1))*(u-v)=u*q1-v*p1:=by
  have:(p1+t*(q1-p1))*(u-v)=p1*(u-v)+t*(u-v)*(q1-p1):=by grind
  rw[this,ht];grind
 have:(p1+t*(q1-p1))*(u*(D*Wp)*Wq-v*(D*Wq)*Wp)=(p1+t*(q1-p1))*(u-v)*(D*Wp*Wq):=by grind
 rw[this,e];grind
theorem T3 {a b c x y A B C D W X Y:Rat} (h1:a*D=A) (h2:b*D=B) (h3:c*D=C) (h4:x*W=X) (h5:y*W=Y):(a*x+b*y-c)*(D*W)=A*X+B*Y-C*W:=by
 subst h1 h2 h3 h4 h5;grind
theorem X9 {u v D Wp Wq U V t:Rat} (hU:u*(D*Wp)=U) (hV:v*(D*Wq)=V) (ht:t*(u-v)=u):t*(U*Wq-V*Wp)=U*Wq:=by
 subst hU hV
 have:t*(u*(D*Wp)*Wq-v*(D*Wq)*Wp)=t*(u-v)*(D*Wp*Wq):=by grind
 rw[this,ht];grind
theorem W6 {u v:Rat} (h:u*v<0):u-v≠0:=fun e=>by
 have e2:u=v:=by grind
 subst e2
 rcases I0.1 h with⟨a,b⟩|⟨a,b⟩<;>first|exact Rat.not_lt.2 (Rat.le_of_lt a) b|exact Rat.not_lt.2 (Rat.le_of_lt b) a
theorem Hm.at_ {e:Nat} {p:Ah} {f:Bn} (hp:Hm e p) (hf:LnH f):szQ (f.at p) (e+13):=by
 obtain⟨X,Y,W,h0,hX,hY,hW,e1,e2⟩:=hp
 obtain⟨A,B,C,D,hD0,hA,hB,hC,hD,f1,f2,f3⟩:=hf
 have hU:=T3 f1 f2 f3 e1 e2
 have b1:=F6 (AM hA hX) (AM hB hY)
 have b2:(C*W).natAbs<10^(11+e+1):=Nat.lt_of_lt_of_le (AM hC hW) (Nat.pow_le_pow_right (by decide) (by omega))
 have b3:=DY b1 b2
 refine FZ (W:=D*W) (X:=A*X+B*Y-C*W) (Int.mul_ne_zero hD0 h0) ?_ (by rw[show e+13=11+e+1+1 by omega];exact b3) ?_
 ·unfold Bn.at
  rw[Rat.intCast_mul,Rat.intCast_sub,Rat.intCast_add,Rat.intCast_mul,Rat.intCast_mul,Rat.intCast_mul]
  exact hU
 ·exact Nat.lt_of_lt_of_le (AM hD hW) (Nat.pow_le_pow_right (by decide) (by omega))
theorem Hm.cut {e:Nat} {p q:Ah} {f:Bn} (hp:Hm e p) (hq:Hm e q) (hf:LnH f) (h:f.at p*f.at q<0):
  Hm (2*e+14) (Lr (f.at p/(f.at p-f.at q)) p q)∧szQ (f.at p/(f.at p-f.at q)) (2*e+14):=by
 have hn:=W6 h
 obtain⟨X,Y,W,h0,hX,hY,hW,e1,e2⟩:=hp
 obtain⟨X',Y',W',h0',hX',hY',hW',e1',e2'⟩:=hq
 obtain⟨A,B,C,D,hD0,hA,hB,hC,hD,f1,f2,f3⟩:=hf
 have hU:f.at p*((D:Rat)*W)=((A*X+B*Y-C*W:Int):Rat):=by
  rw[Rat.intCast_sub,Rat.intCast_add,Rat.intCast_mul,Rat.intCast_mul,Rat.intCast_mul]
  exact T3 f1 f2 f3 e1 e2
 have hV:f.at q*((D:Rat)*W')=((A*X'+B*Y'-C*W':Int):Rat):=by
  rw[Rat.intCast_sub,Rat.intCast_add,Rat.intCast_mul,Rat.intCast_mul,Rat.intCast_mul]
  exact T3 f1 f2 f3 e1' e2'
 have bU:(A*X+B*Y-C*W).natAbs<10^(11+e+1+1):=DY (F6 (AM hA hX) (AM hB hY)) (Nat.lt_of_lt_of_le (AM hC hW) (Nat.pow_le_pow_right (by decide) (by omega)))
 have bV:(A*X'+B*Y'-C*W').natAbs<10^(11+e+1+1):=DY (F6 (AM hA hX') (AM hB hY')) (Nat.lt_of_lt_of_le (AM hC hW') (Nat.pow_le_pow_right (by decide) (by omega)))
 generalize A*X+B*Y-C*W=U at hU bU
 generalize A*X'+B*Y'-C*W'=V at hV bV
 have ht:f.at p/(f.at p-f.at q)*(f.at p-f.at q)=f.at p:=Rat.div_mul_cancel hn
 generalize f.at p/(f.at p-f.at q)=t at ht
 have hwn:U*W'-V*W≠0:=fun e0=>by
  have c0:((U*W'-V*W:Int):Rat)=0:=by rw[e0];rfl
  rw[Rat.intCast_sub,Rat.intCast_mul,Rat.intCast_mul, ←hU, ←hV] at c0
  have c1:f.at p*((D:Rat)*W)*W'-f.at q*((D:Rat)*W')*W=(f.at p-f.at q)*((D:Rat)*W*W'):=by grind
  rw[c1] at c0
  have nz: ∀ {z:Int},z≠0→(z:Rat)≠0:=fun hz e=>hz (by have h:=congrArg Rat.num e;rwa [Rat.num_intCast] at h)
  rcases Rat.mul_eq_zero.1 c0 with c|c
  ·exact hn c
  ·rcases Rat.mul_eq_zero.1 c with c|c
   ·rcases Rat.mul_eq_zero.1 c with c|c
    ·exact nz hD0 c
    ·exact nz h0 c
   ·exact nz h0' c
 have pw: ∀ {a b:Int},a.natAbs<10^(11+e+1+1)→b.natAbs<10^e→(a*b).natAbs<10^(2*e+13):=fun ha hb=>by
  rw[show 2*e+13=11+e+1+1+e by omega];exact AM ha hb
 refine⟨⟨U*X'-V*X,U*Y'-V*Y,U*W'-V*W,hwn,DY (pw bU hX') (pw bV hX),DY (pw bU hY') (pw bV hY),DY (pw bU hW') (pw bV hW), ?_, ?_⟩, ?_⟩
 ·rw[Rat.intCast_sub,Rat.intCast_sub,Rat.intCast_mul,Rat.intCast_mul,Rat.intCast_mul,Rat.intCast_mul]
  exact Uj e1 e1' hU hV ht
 ·rw[Rat.intCast_sub,Rat.intCast_sub,Rat.intCast_mul,Rat.intCast_mul,Rat.intCast_mul,Rat.intCast_mul]
  exact Uj e2 e2' hU hV ht
 ·refine FZ hwn (X:=U*W') ?_ (Nat.lt_of_lt_of_le (pw bU hW') (Nat.pow_le_pow_right (by decide) (by omega))) (DY (pw bU hW') (pw bV hW))
  rw[Rat.intCast_sub,Rat.intCast_mul,Rat.intCast_mul]
  exact X9 hU hV ht
theorem LnH.sz {f:Bn} (hf:LnH f):szQ f.a 11∧szQ f.b 11∧szQ f.c 11:=by
 obtain⟨A,B,C,D,hD0,hA,hB,hC,hD,f1,f2,f3⟩:=hf
 have hD':D.natAbs<10^11:=Nat.lt_of_lt_of_le hD (Nat.pow_le_pow_right (by decide) (by decide))
 exact⟨FZ hD0 f1 hA hD',FZ hD0 f2 hB hD',FZ hD0 f3 hC hD'⟩
theorem Hm.kept {e:Nat} {f:Bn} {l:List Ah} (hf:LnH f) (hl: ∀p∈l,Hm e p): ∀k,k≤l.length→ ∀p∈Eo f l k,Hm (2*e+14) p
 |0,_,p,hp=>absurd hp (by simp[Eo,Dj])
 |k+1,hk,p,hp=>by
  have h0:0<l.length:=by omega
  rw[JG,Gf,List.mem_append,List.mem_append] at hp
  rcases hp with(hp|hp)|hp
  ·exact Hm.kept hf hl k (by omega) p hp
  ·split at hp
   ·rw[List.mem_singleton.1 hp];exact(hl _ (AX h0 k)).mono (by omega)
   ·exact absurd hp (by simp)
  ·split at hp
   ·rename_i c
    rw[List.mem_singleton.1 hp];exact((hl _ (AX h0 k)).cut (hl _ (AX h0 (k+1))) hf c).1
   ·exact absurd hp (by simp)
theorem ClZ.of {e:Nat} {f:Bn} {l:List Ah} (hf:LnH f) (he:e≤50) (hl: ∀p∈l,Hm e p):ClZ f l:=by
 obtain⟨sa,sb,sc⟩:=hf.sz
 refine⟨fun q hq=> ?_,fun i hi hc=> ?_,fun p hp=> ?_⟩
 ·obtain⟨q1,q2⟩:=(hl q hq).sz
  exact⟨sz2 sa q1 (by omega),sz2 sb q2 (by omega),sz2 (sa.mul q1) (sb.mul q2) (by omega),sz2 ((sa.mul q1).add (sb.mul q2)) sc (by omega)⟩
 ·have h0:0<l.length:=by omega
  have hp:=hl _ (AX h0 i)
  have hq:=hl _ (AX h0 (i+1))
  have hu:=hp.at_ hf
  have hv:=hq.at_ hf
  have ht:=(hp.cut hq hf hc).2
  obtain⟨p1,p2⟩:=hp.sz
  obtain⟨q1,q2⟩:=hq.sz
  exact⟨sz2 hu hv (by omega),sz2 hu (hu.sub hv) (by omega),Rk (W6 hc),sz2 q1 p1 (by omega),sz2 ht (q1.sub p1) (by omega),sz2 p1 (ht.mul (q1.sub p1)) (by omega),sz2 q2 p2 (by omega),sz2 ht (q2.sub p2) (by omega),sz2 p2 (ht.mul (q2.sub p2)) (by omega)⟩
 ·have h:=(Hm.kept hf hl l.length (Nat.le_refl _) p hp).sz
  exact⟨h.1.mono (by omega),h.2.mono (by omega)⟩
theorem To {q:Rat} (h:(Ad q).length≤5):q.num.natAbs<10^5∧q.den<10^3:=by
 have hi:(itoa q.num).length≤5∧(decDigits q.den).length≤3:=by
  unfold Ad EP at h
  split at h
  ·rename_i e
   exact⟨h,by rw[e];exact Nat.le_trans (Dd 1 1 (by decide) (by decide)) (by decide)⟩
  ·rw[List.length_append,List.length_cons] at h
   have h1:0<(itoa q.num).length:=by
    rw[BL,List.length_append]
    have:0<(decDigits q.num.natAbs).length:=by rw[U6];exact nDigits_pos _
    omega
   omega
 have h2:(decDigits q.num.natAbs).length≤5:=by
  have h1:=hi.1
  rw[BL,List.length_append] at h1
  omega
 exact⟨Nat.lt_of_lt_of_le (CP _) (Nat.pow_le_pow_right (by decide) h2),Nat.lt_of_lt_of_le (CP _) (Nat.pow_le_pow_right (by decide) hi.2)⟩
theorem HW (q:Rat):q*((q.den:Int):Rat)=(q.num:Rat):=by
 have hd:((q.den:Int):Rat)≠0:=fun e=>by
  have h:=congrArg Rat.num e
  rw[Rat.num_intCast] at h
  have:=q.den_pos
  have h:(q.den:Int)=0:=h
  omega
 have e:q=(q.num:Rat)/((q.den:Int):Rat):=by
  rw[←Rat.divInt_eq_div]
  exact(Rat.num_divInt_den q).symm
 conv=>lhs;lhs;rw[e]
 exact Rat.div_mul_cancel hd
theorem hm5 {p:Ah} (h1:(Ad p.1).length≤5) (h2:(Ad p.2).length≤5):Hm 8 p:=by
 obtain⟨a,b⟩:=To h1
 obtain⟨c,d⟩:=To h2
 have b':((p.1.den:Nat):Int).natAbs<10^3:=by rw[Int.natAbs_natCast];exact b
 have d':((p.2.den:Nat):Int).natAbs<10^3:=by rw[Int.natAbs_natCast];exact d
 refine⟨p.1.num*(p.2.den:Nat),p.2.num*(p.1.den:Nat),(p.1.den:Nat)*(p.2.den:Nat), ?_,AM a d',AM c b',Nat.lt_of_lt_of_le (AM b' d') (by decide), ?_, ?_⟩
 ·have:=p.1.den_pos;have:=p.2.den_pos
  exact Int.mul_ne_zero (by omega) (by omega)
 ·have:=HW p.1
  rw[Rat.intCast_mul,Rat.intCast_mul, ←this];grind
 ·have:=HW p.2
  rw[Rat.intCast_mul,Rat.intCast_mul, ←this];grind
end
end Go.Proofs.YthndmdimmgkpgaaGreatDoor
