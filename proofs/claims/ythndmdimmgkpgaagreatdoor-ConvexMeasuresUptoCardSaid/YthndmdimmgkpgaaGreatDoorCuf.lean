/-
  Lemmas that the theorem convexMeasures_upto_card needs (part 6 of 8).
-/
import Derived.Test.YthndmdimmgkpgaaGreatDoorCue
import Derived.Laws.StructEq
set_option maxHeartbeats 64000000
namespace Go.Proofs.YthndmdimmgkpgaaGreatDoor
section
open Go Go.RowKit Go.Am Go.Lib
set_option maxRecDepth 10000
-- BOXES 12
-- CODE2
structure VX (f:Bg):Prop where
 a:okQ f.a
 b:okQ f.b
 c:okQ f.c
 n:f.a≠0∨f.b≠0
theorem Rr (f:Bg) (hf:VX f) (l:List Ag) (hz:ClZ f l) (p:Option Addr) (cap:Nat) (W:World) (h:Ih W p l):
  Ai Tryz.prog 12 #[slv p l.length cap,str (Ad f.a),str (Ad f.b),str (Ad f.c)] W (fun V:Vec=> .tuple #[V.val (DN f l).length, .int .i64 0]) (fun V=>V.OK 2 (DN f l).length (ptC (DN f l))) (fun V=>[V.bx 35 (ptC (DN f l))]):=by
 refine Ae (args:=[slv p l.length cap,str (Ad f.a),str (Ad f.b),str (Ad f.c)]) Tryz.func12 I I I ?_
 refine zA (zB (wP I (wP I (Aa (zE (zA (zA (zB (wP I (wP I (wP I (wP I ?_))))))))))))
 refine AN Tryz.hZ tH I I I I I I I I I I I fun bS=> ?_
 refine wC I I (fun W1 hp=>IR l p cap f.a f.b f.c hf.a hf.b hf.c hf.n bS 3 W1 (h.hp hp) (Ak.of_bx hp 0 I I)) (wP I (Aa (zE (zA (zB (wP I (wP I (Aa (zE (zS I (zI (zE (zA ?_)))))))))))))
 refine zB ?_
 refine Av Tryz.hZ tH I I I I I I I I ?_
 (refine Ax rfl rfl rfl rfl ?_;intro)
 refine wP I (Aa ?_)
 rename_i bC
 refine zE (zA (zB ?_))
 iterate 5 refine wP I ?_
 refine wD (X:=Vec) I I (fun W1 hp=>Qg bC f l hz h.poly h.n3 h.n p cap W1 (h.hp hp).m (BQ hp 1 I) (h.hp hp).v (h.hp hp).t) ?_
 intro V hV
 have hV:V.OK 2 (DN f l).length (ptC (DN f l)):=hV
 refine wP I (Aa (zE (zA (zA (zB (wP I ?_))))))
 refine AH I I I I ?_
 refine wP I (wB 1 I I I (wP I (Aa (zE (zS I (zI (zE (zA (zB (wP I (wP I (wP I (Aa ?_)))))))))))))
 exact zE (zO (A7 tH I (.tmp I) (.tmp I) V I hV fun W1 hp=>Ar.of_hp (hp.pick (l:=[V.bx 35 (ptC (DN f l))]) [2] (by decide) I)))
theorem OF : ∃ f1 f2 : Field, (Tryz.prog.fieldsOf 35).toList = [f1, f2] ∧ (f1.name ≠ "_" ∧ f1.type = 23 ∧ f1.offset = 0) ∧ (f2.name ≠ "_" ∧ f2.type = 23 ∧ f2.offset = 1) := by
 unfold Program.fieldsOf;rw[Tryz.underlying35]
 exact⟨_,_,I,⟨by decide,I,I⟩,⟨by decide,I,I⟩⟩
theorem Xf (W:World) (a b c d:List UInt8):(binOp .eql 35 (.agg #[str a,str b]) (.agg #[str c,str d])).run Tryz.prog W= .ok (.bool (decide (a=c∧b=d))) W:=by
 rw[run_eql_struct,run_equalIn_agg W 9999 35 _ _ (by kernel_rfl) (by kernel_rfl)]
 obtain⟨f1,f2,hf,⟨n1,t1,o1⟩,⟨n2,t2,o2⟩⟩:=OF
 rw[hf]
 have e: ∀(x y:List UInt8) W,(Op.equalIn 9999 23 (str x) (str y)).run Tryz.prog W= .ok (decide (x=y)) W:=fun x y W=>by
  rw[run_equalIn_string W 9998 23 _ _ Tryz.underlying23,Bj]
 by_cases h1:a=c<;>by_cases h2:b=d<;>simp[Op.eqFields,part,Tryz.isAgg23,e,h1,h2,n1,n2,t1,t2,o1,o2]
theorem Zj (W:World) (a b c d:List UInt8):(binOp .neq 35 (.agg #[str a,str b]) (.agg #[str c,str d])).run Tryz.prog W= .ok (.bool (!decide (a=c∧b=d))) W:=by
 rw[run_neq_struct,run_equalIn_agg W 9999 35 _ _ (by kernel_rfl) (by kernel_rfl)]
 obtain⟨f1,f2,hf,⟨n1,t1,o1⟩,⟨n2,t2,o2⟩⟩:=OF
 rw[hf]
 have e: ∀(x y:List UInt8) W,(Op.equalIn 9999 23 (str x) (str y)).run Tryz.prog W= .ok (decide (x=y)) W:=fun x y W=>by
  rw[run_equalIn_string W 9998 23 _ _ Tryz.underlying23,Bj]
 by_cases h1:a=c<;>by_cases h2:b=d<;>simp[Op.eqFields,part,Tryz.isAgg23,e,h1,h2,n1,n2,t1,t2,o1,o2]
section
variable {r:Option Nat} {n:Nat} {N:Nat} {D:List Deferred} {ops:List Oper} {Q:Exit→Act→World→Prop} {o:Oper} {rest:List Oper} {env:Env} {A A2:World→Prop} {R:Act→World→Prop}
theorem AU (a b c d:List UInt8) {t:Nat} {u:TypeId} {x y:Operand} (hg:AC ops N env o=some true) (hd:o.dst=some t) (ho:o.op= .binOp .eql 35 x y u)
  (hx:evO N env x=some (.agg #[str a,str b])) (hy:evO N env y=some (.agg #[str c,str d]))
  (h:WL r n Tryz.prog N D ops Q rest ((t, .bool (decide (a=c∧b=d)))::env) A):WL r n Tryz.prog N D ops Q (o::rest) env A:=
 D0 hg hd (fun c e=>by rw[ho] at e;cases e) (fun _ W hρ _=>by
  have hm:Tryz.prog.eqGuardType Tryz.prog.depth 35=false:=by kernel_rfl
  simp[execOp,ho,hρ _ _ hx,hρ _ _ hy,run_eqGuard_agg W .eql 35 x y _ _ hm,Xf]) h
theorem Pq (a b c d:List UInt8) {t:Nat} {u:TypeId} {x y:Operand} (hg:AC ops N env o=some true) (hd:o.dst=some t) (ho:o.op= .binOp .eql 35 x y u)
  (hx:evO N env x=some (.agg #[str a,str b])) (hy:evO N env y=some (.agg #[str c,str d]))
  (h:WQ Tryz.prog N D ops A2 R rest ((t, .bool (decide (a=c∧b=d)))::env) A):WQ Tryz.prog N D ops A2 R (o::rest) env A:=
 Ec hg hd (fun c e=>by rw[ho] at e;cases e) (fun _ W hρ _=>by
  have hm:Tryz.prog.eqGuardType Tryz.prog.depth 35=false:=by kernel_rfl
  simp[execOp,ho,hρ _ _ hx,hρ _ _ hy,run_eqGuard_agg W .eql 35 x y _ _ hm,Xf]) h
theorem P0 (a b c d:List UInt8) {t:Nat} {u:TypeId} {x y:Operand} (hg:AC ops N env o=some true) (hd:o.dst=some t) (ho:o.op= .binOp .neq 35 x y u)
  (hx:evO N env x=some (.agg #[str a,str b])) (hy:evO N env y=some (.agg #[str c,str d]))
  (h:WQ Tryz.prog N D ops A2 R rest ((t, .bool (!decide (a=c∧b=d)))::env) A):WQ Tryz.prog N D ops A2 R (o::rest) env A:=
 Ec hg hd (fun c e=>by rw[ho] at e;cases e) (fun _ W hρ _=>by
  have hm:Tryz.prog.eqGuardType Tryz.prog.depth 35=false:=by kernel_rfl
  simp[execOp,ho,hρ _ _ hx,hρ _ _ hy,run_eqGuard_agg W .neq 35 x y _ _ hm,Zj]) h
end
theorem JJ (l:List Ag) (hn:l.length≤100000) (p q:Option Addr) (cap cap2:Nat) (W:World) (hA:Cs W p l) (hB:Cs W q l):
  Ai Tryz.prog 23 #[slv p l.length cap,slv q l.length cap2] W (fun _:Unit=> .bool true) (fun _=>True) (fun _=>[]):=by
 refine Ae (args:=[slv p l.length cap,slv q l.length cap2]) Tryz.func23 I I I ?_
 refine zA (zB (wP I (Aa (zE (zA (zA (zB ?_)))))))
 iterate 5 refine wP I ?_
 refine wU 10 false I (bne_eq_false_iff_eq.2 I) (Aa (zE (zS I (zI (zE (zA (zA (zB (wP I (wP I (wP I (Aa (zE ?_)))))))))))))
 refine zH ?_
 refine A8 (X:=Nat) (fun i=>[(0,slv p l.length cap),(1,slv q l.length cap2),(12, .int .i64 (l.length:Nat)),(13, .int .i64 (i:Nat))]) (fun _=>[]) (fun i=>i≤l.length) (fun i=>l.length-i) 0 (Nat.zero_le _) ⟨I,I,I,I,tO⟩ [] I ?_
 intro i hi
 have hi:i≤l.length:=hi
 refine zA (zB (wP I ?_))
 by_cases hlt:i<l.length
 ·refine wU 14 true I (dT (by omega)) (Aa (zE (zA (zR I (zI (zE (zA (zH (zA (zB ?_))))))))))
  obtain⟨g,off,e1,h1⟩:=hA.at_ hlt
  obtain⟨g2,off2,e2,h2⟩:=hB.at_ hlt
  have h1:=h1 i hlt
  have h2:=h2 i hlt
  obtain⟨x,hx⟩: ∃x,x=l[i]:=⟨_,rfl⟩
  rw[←hx] at h1 h2
  subst e1 e2
  refine wP I (wP I (Aa (zE (zA (zU (qP I (qP I ?_)))))))
  refine qJ ?_
  refine qL 0 I I (fun W1 hp=>h1.hp hp) I (qP I (qP I ?_))
  refine qJ ?_
  refine qL 0 I I (fun W1 hp=>h2.hp hp) I ?_
  refine P0 (Ad x.1) (Ad x.2) (Ad x.1) (Ad x.2) I I I I I ?_
  exact qU 24 false I (by rw[dT ⟨I,I⟩];rfl) (AQ (Aa (zE (zS I (zI (zN (zE (zB (wP I (wV 25 ((i+1:Nat):Int) I (As (by omega)) (wP I (Aa (Ay (i+1) hlt (by show l.length-(i+1)<l.length-i;omega) ⟨I,I,I,I,tO⟩ [] I)))))))))))))
 refine wU 14 false I (dF (by omega)) (Aa (zE (zA (zS I (zJ (zK (zK (zL (zE (zA (zB (wP I (Aa ?_)))))))))))))
 exact zE (zO (wR1 I I I))
-- BOXES 12
-- CODE2
theorem Iu {N:Nat} {D:List Deferred} {Q:Exit→Act→World→Prop} {ex:Exit} {env:Env} {W0:World} {bxs bxs':List Bx} (e:bxs=bxs') (h:NE N D Q ex env (Hp W0 bxs')):NE N D Q ex env (Hp W0 bxs):=e▸h
theorem PF:Ad 2=[50]:=(congrArg Ad (show(2:Rat)=q2 2 1 by decide+kernel)).trans ns2
theorem Pe:Ad 3=[51]:=(congrArg Ad (show(3:Rat)=q2 3 1 by decide+kernel)).trans ns3
structure Ti (p q:Ag):Prop where
 x:Sz2 p.1 q.2
 y:Sz2 q.1 p.2
 s:Sz2 (p.1*q.2) (q.1*p.2)
theorem Ld (c:Nat) (p q:Ag) (hz:Ti p q) (W:World) (hc:CY W c) (hv:BT W) (ht:AM W):
  Ai Tryz.prog 46 #[Ah c,sdV p q] W (fun _:Unit=>str (Ad (Cx p q))) (fun _=>True) (fun _=>[]):=by
 refine Ae (args:=[Ah c,sdV p q]) Tryz.func46 I I I ?_
 refine zA (zB ?_)
 (refine Ax rfl rfl rfl rfl ?_;intro)
 refine wP I (Aa (zE (zA (zU (qP I ?_)))))
 refine AZ Tryz.underlying66 Tryz.sizeOf35 I I I I I ⟨by decide,by decide⟩ ?_
 refine qP I (qB 0 I I I ?_)
 refine AZ Tryz.underlying66 Tryz.sizeOf35 I I I I I ⟨by decide,by decide⟩ ?_
 refine qP I (qB 0 I I I (qC I I (fun W hp=>CC c p.1 q.2 hz.x W (hc.hp hp) (hv.hp hp) (ht.hp hp)) (qP I ?_)))
 refine AZ Tryz.underlying66 Tryz.sizeOf35 I I I I I ⟨by decide,by decide⟩ ?_
 refine qP I (qB 0 I I I ?_)
 refine AZ Tryz.underlying66 Tryz.sizeOf35 I I I I I ⟨by decide,by decide⟩ ?_
 refine qP I (qB 0 I I I (qC I I (fun W hp=>CC c q.1 p.2 hz.y W (hc.hp hp) (hv.hp hp) (ht.hp hp)) (qP I (qP I (AQ (Aa (zE (zA (zB (wP I (wP I (wP I (wC I I (fun W hp=>De c (p.1*q.2) (q.1*p.2) hz.s W (hc.hp hp) (hv.hp hp) (ht.hp hp)) ?_)))))))))))))
 exact wP I (Aa (zE (zO (wR1 I I I))))
def crK (l:List Ag) (k:Nat):Rat:=DR (fun i=>Cx (Ab l i) (Ab l (i+1))) k
theorem GJ (l:List Ag) (k:Nat):crK l (k+1)=crK l k+Cx (Ab l k) (Ab l (k+1)):=rfl
structure ArZ (l:List Ag):Prop where
 d: ∀i,i<l.length→Ti (Ab l i) (Ab l (i+1))
 s: ∀i,i<l.length→Sz2 (crK l i) (Cx (Ab l i) (Ab l (i+1)))
 h:Sz2 (AY l) 2
abbrev caB (c:Nat):Bx:=⟨c,61,[.int .i64 0],true,none⟩
abbrev nuB (b:Nat) (q:Rat):Bx:=⟨b,23,[str (Ad q)],true,none⟩
theorem Qs (l:List Ag) (hz:ArZ l) (p:Option Addr) (cap:Nat) (W:World) (h:Ih W p l):
  Ai Tryz.prog 15 #[slv p l.length cap] W (fun _:Unit=> .tuple #[str (Ad (AY l/2)), .int .i64 0]) (fun _=>True) (fun _=>[]):=by
 have hn:=h.n
 refine Ae (args:=[slv p l.length cap]) Tryz.func15 I I I ?_
 refine zA (zB (wP I (wP I (Aa (zE (zA (zA (zB (wP I (wC I I (fun W1 hp=>Jc l p cap W1 (h.hp hp)) (wP I (Aa (zE ?_)))))))))))))
 refine zA (zB (wP I (wP I (Aa (zE (zS I (zI (zE (zA (zB ?_))))))))))
 refine Av Tryz.hZ tH I I I I I I I I ?_
 (refine Ax rfl rfl rfl rfl ?_;intro)
 (refine Af Tryz.hZ rfl rfl rfl rfl ?_;intro)
 (refine Af Tryz.hZ rfl rfl rfl rfl ?_;intro)
 refine wS 1 I I I (wS 2 I I I (Aa ?_))
 rename_i bC b5 b6
 refine Iu (bxs':=[caB bC,ckB b5 bC,nuB b6 (crK l 0)]) (by show _=[caB bC,ckB b5 bC,nuB b6 0];rw[nuB,CW];rfl) ?_
 refine zE (zA (zA (zB (wP I ?_))))
 refine wD (X:=Nat) I I (fun W1 _=>CJ p l.length cap W1) ?_
 intro bp _
 refine Aa (zE (zH ?_))
 refine DH (X:=Nat) (fun k=>[caB bC,ckB b5 bC,nuB b6 (crK l k),lsB bp (slv p l.length cap)])
  (fun j x=>x=j) (fun _ _=>False) 0 rfl (by kernel_rfl) (Da l bp p cap (by omega)) (fun _=>rfl)
  rfl [] rfl (fun k x W1 _ hp=>⟨Ak.of_bx hp 3 rfl rfl,(h.hp hp).m⟩) ?_ ?_ (fun _ _ _ _ _ h=>h.elim)
 ·rintro k k' d l' rec L hk e1 hrec
  obtain rfl:k'=k:=e1
  have hk:k'<l.length:=hk
  have hsu:=GJ l k'
  refine zB ?_
  (refine Af Tryz.hZ rfl rfl rfl rfl ?_;intro)
  refine wS 7 I I I (Aa ?_)
  rename_i b8
  refine CK 6 hrec I ?_
  refine B8 ?_
  refine AL (X:=Unit) [true,true,true,true,true,true,false] (fun _=>[(5,Ah b5)]) (fun _=>[AT L,caB bC,ckB b5 bC,nuB b6 (crK l (k'+1)),lsB bp (slv p l.length cap),B6 d,Bi l' rec .busy none])
   1 [AT L,caB bC,ckB b5 bC,nuB b6 (crK l k'),lsB bp (slv p l.length cap),B6 d,Bi l' rec .busy none,⟨b8,66,(sdV (Ab l k') (Ab l (k'+1))).cells.toList,true,none⟩] Tryz.mixed (by kernel_rfl) ?_ ?_
  ·refine qB 2 I I I (qB 3 I I I (qB 2 I I I (qB 7 I I I (qC I I (fun W1 hp=>Ld bC (Ab l k') (Ab l (k'+1)) (hz.d k' hk) W1 (BQ hp 1 I) (h.hp hp).v (h.hp hp).t) (qC I I (fun W1 hp=>Di bC (crK l k') (Cx (Ab l k') (Ab l (k'+1))) (hz.s k' hk) W1 (BQ hp 1 I) (h.hp hp).v (h.hp hp).t) (Bu ?_))))))
   rw[←hsu]
   refine wX (wZ (wS 3 I I I (Aa (Ac ?_))))
   refine AF I (by kernel_rfl) ?_
   exact Al () ⟨I,tO⟩ [0,1,2,3,4,5,6] (by decide) I
  intro _
  exact zN (Co 6 (k'+1) hrec I I [] I)
 ·rintro k' d l' rec e1
  obtain rfl:k'=l.length:=e1
  refine zN (zE (zA (zA (zB (wB 1 I I I (wB 2 I I I (wC I I (fun W1 hp=>(by have:=Hk bC (AY l) 2 hz.h (by decide) W1 (BQ hp 0 I) (h.hp hp).v (h.hp hp).t;rwa [PF] at this)) (wP I (Aa (zE (zA (zB (wB 1 I I I ?_)))))))))))))
  refine AH I I I I ?_
  refine wP I (wB 0 I I I (wP I (Aa (zE (zR I (zA (zB (wP I (wP I (wP I (Aa (zE (zO ?_)))))))))))))
  refine zP ?_
  refine Cl 4 I ?_
  exact wR2 I I I
-- BOXES 12
-- CODE2
def moX (l:List Ag) (k:Nat):Rat:=DR (fun i=>((Ab l i).1+(Ab l (i+1)).1)*Cx (Ab l i) (Ab l (i+1))) k
def moY (l:List Ag) (k:Nat):Rat:=DR (fun i=>((Ab l i).2+(Ab l (i+1)).2)*Cx (Ab l i) (Ab l (i+1))) k
theorem MQ (l:List Ag) (k:Nat):moX l (k+1)=moX l k+((Ab l k).1+(Ab l (k+1)).1)*Cx (Ab l k) (Ab l (k+1)):=rfl
theorem QJ (l:List Ag) (k:Nat):moY l (k+1)=moY l k+((Ab l k).2+(Ab l (k+1)).2)*Cx (Ab l k) (Ab l (k+1)):=rfl
structure CeZ (l:List Ag):Prop where
 d: ∀i,i<l.length→Ti (Ab l i) (Ab l (i+1))
 s: ∀i,i<l.length→Sz2 (crK l i) (Cx (Ab l i) (Ab l (i+1)))
 x1: ∀i,i<l.length→Sz2 (Ab l i).1 (Ab l (i+1)).1
 x2: ∀i,i<l.length→Sz2 ((Ab l i).1+(Ab l (i+1)).1) (Cx (Ab l i) (Ab l (i+1)))
 x3: ∀i,i<l.length→Sz2 (moX l i) (((Ab l i).1+(Ab l (i+1)).1)*Cx (Ab l i) (Ab l (i+1)))
 y1: ∀i,i<l.length→Sz2 (Ab l i).2 (Ab l (i+1)).2
 y2: ∀i,i<l.length→Sz2 ((Ab l i).2+(Ab l (i+1)).2) (Cx (Ab l i) (Ab l (i+1)))
 y3: ∀i,i<l.length→Sz2 (moY l i) (((Ab l i).2+(Ab l (i+1)).2)*Cx (Ab l i) (Ab l (i+1)))
 m:Sz2 3 (AY l)
 nz:(3*AY l).num≠0
 dx:Sz2 (Fx l) (3*AY l)
 dy:Sz2 (Fo l) (3*AY l)
abbrev ptB (b:Nat) (a c:List UInt8):Bx:=⟨b,35,[str a,str c],true,none⟩
theorem NL (l:List Ag) (hz:CeZ l) (p:Option Addr) (cap:Nat) (W:World) (h:Ih W p l):
  Ai Tryz.prog 35 #[slv p l.length cap] W (fun _:Unit=> .tuple #[.agg #[str (Ad (Fx l/(3*AY l))),str (Ad (Fo l/(3*AY l)))], .int .i64 0]) (fun _=>True) (fun _=>[]):=by
 have hn:=h.n
 refine Ae (args:=[slv p l.length cap]) Tryz.func35 I I I ?_
 refine zA (zB ?_)
 (refine Af Tryz.hZ rfl rfl rfl rfl ?_;intro)
 refine wP I (Aa ?_)
 rename_i b2
 refine zE (zA (zA (zB (wP I (wC I I (fun W1 hp=>Jc l p cap W1 (h.hp hp)) (wP I (Aa (zE (zA (zB (wP I (wP I (Aa ?_)))))))))))))
 refine zE (zS I (zI (zE (zA (zB ?_)))))
 refine Av Tryz.hZ tH I I I I I I I I ?_
 (refine Ax rfl rfl rfl rfl ?_;intro)
 (refine Af Tryz.hZ rfl rfl rfl rfl ?_;intro)
 refine wS 2 I I I (Aa ?_)
 rename_i bC b5
 refine zE (zA (zB ?_))
 (refine Af Tryz.hZ rfl rfl rfl rfl ?_;intro)
 (refine Af Tryz.hZ rfl rfl rfl rfl ?_;intro)
 (refine Af Tryz.hZ rfl rfl rfl rfl ?_;intro)
 refine wS 3 I I I (wS 4 I I I (wS 5 I I I (Aa ?_)))
 rename_i b6 b7 b8
 refine Iu (bxs':=[ptB b2 [] [],caB bC,ckB b5 bC,nuB b6 (moX l 0),nuB b7 (moY l 0),nuB b8 (crK l 0)]) (by show _=[ptB b2 [] [],caB bC,ckB b5 bC,nuB b6 0,nuB b7 0,nuB b8 0];rw[nuB,nuB,nuB,CW];rfl) ?_
 refine zE (zA (zA (zB (wP I ?_))))
 refine wD (X:=Nat) I I (fun W1 _=>CJ p l.length cap W1) ?_
 intro bp _
 refine Aa (zE (zH ?_))
 refine DH (X:=Nat) (fun k=>[ptB b2 [] [],caB bC,ckB b5 bC,nuB b6 (moX l k),nuB b7 (moY l k),nuB b8 (crK l k),lsB bp (slv p l.length cap)])
  (fun j x=>x=j) (fun _ _=>False) 0 rfl (by kernel_rfl) (Da l bp p cap (by omega)) (fun _=>rfl)
  rfl [] rfl (fun k x W1 _ hp=>⟨Ak.of_bx hp 6 rfl rfl,(h.hp hp).m⟩) ?_ ?_ (fun _ _ _ _ _ h=>h.elim)
 ·rintro k k' d l' rec L hk e1 hrec
  obtain rfl:k'=k:=e1
  have hk:k'<l.length:=hk
  have hsu:=GJ l k'
  have hsx:=MQ l k'
  have hsy:=QJ l k'
  refine zB ?_
  (refine Af Tryz.hZ rfl rfl rfl rfl ?_;intro)
  refine wS 10 I I I (Aa ?_)
  rename_i b10
  refine CK 9 hrec I ?_
  refine B8 (zA (zB (wB 3 I I I (wB 10 I I I (wC I I (fun W1 hp=>Ld bC (Ab l k') (Ab l (k'+1)) (hz.d k' hk) W1 (BQ hp 2 I) (h.hp hp).v (h.hp hp).t) (wP I (Aa (zE (Ao ?_)))))))))
  refine AL (X:=Unit) [true,true,true,true,true,true,true,true,true,true,true,true,true,true,false] (fun _=>[(5,Ah b5),(6,Ah b6),(7,Ah b7),(8,Ah b8),(10,Ah b10),(11,str (Ad (Cx (Ab l k') (Ab l (k'+1)))))]) (fun _=>[AT L,ptB b2 [] [],caB bC,ckB b5 bC,nuB b6 (moX l (k'+1)),nuB b7 (moY l k'),nuB b8 (crK l k'),lsB bp (slv p l.length cap),B6 d,Bi l' rec .busy none,⟨b10,66,(sdV (Ab l k') (Ab l (k'+1))).cells.toList,true,none⟩])
   1 [AT L,ptB b2 [] [],caB bC,ckB b5 bC,nuB b6 (moX l k'),nuB b7 (moY l k'),nuB b8 (crK l k'),lsB bp (slv p l.length cap),B6 d,Bi l' rec .busy none,⟨b10,66,(sdV (Ab l k') (Ab l (k'+1))).cells.toList,true,none⟩] Tryz.mixed (by kernel_rfl) ?_ ?_
  ·refine qB 3 I I I (qB 4 I I I (qB 3 I I I (qB 3 I I I ?_)))
   refine AZ Tryz.underlying66 Tryz.sizeOf35 I I I I I ⟨by decide,by decide⟩ ?_
   refine qP I (qB 10 I I I ?_)
   refine AZ Tryz.underlying66 Tryz.sizeOf35 I I I I I ⟨by decide,by decide⟩ ?_
   refine qP I (qB 10 I I I (qC I I (fun W1 hp=>Di bC (Ab l k').1 (Ab l (k'+1)).1 (hz.x1 k' hk) W1 (BQ hp 2 I) (h.hp hp).v (h.hp hp).t) (qP I (qC I I (fun W1 hp=>CC bC ((Ab l k').1+(Ab l (k'+1)).1) (Cx (Ab l k') (Ab l (k'+1))) (hz.x2 k' hk) W1 (BQ hp 2 I) (h.hp hp).v (h.hp hp).t) (qC I I (fun W1 hp=>Di bC (moX l k') _ (hz.x3 k' hk) W1 (BQ hp 2 I) (h.hp hp).v (h.hp hp).t) (Bu ?_))))))
   rw[←hsx]
   refine wX (wZ (wS 4 I I I (Aa (Ac ?_))))
   refine AF I (by kernel_rfl) ?_
   exact Al () ⟨I,I,I,I,I,I,tO⟩ [0,1,2,3,4,5,6,7,8,9,10] (by decide) I
  intro _
  refine zE (Ao ?_)
  refine AL (X:=Unit) [true,true,true,true,true,true,true,true,true,true,true,true,true,true,false] (fun _=>[(5,Ah b5),(8,Ah b8),(11,str (Ad (Cx (Ab l k') (Ab l (k'+1)))))]) (fun _=>[AT L,ptB b2 [] [],caB bC,ckB b5 bC,nuB b6 (moX l (k'+1)),nuB b7 (moY l (k'+1)),nuB b8 (crK l k'),lsB bp (slv p l.length cap),B6 d,Bi l' rec .busy none])
   1 [AT L,ptB b2 [] [],caB bC,ckB b5 bC,nuB b6 (moX l (k'+1)),nuB b7 (moY l k'),nuB b8 (crK l k'),lsB bp (slv p l.length cap),B6 d,Bi l' rec .busy none,⟨b10,66,(sdV (Ab l k') (Ab l (k'+1))).cells.toList,true,none⟩] Tryz.mixed (by kernel_rfl) ?_ ?_
  ·refine qB 3 I I I (qB 5 I I I (qB 3 I I I (qB 3 I I I ?_)))
   refine AZ Tryz.underlying66 Tryz.sizeOf35 I I I I I ⟨by decide,by decide⟩ ?_
   refine qP I (qB 10 I I I ?_)
   refine AZ Tryz.underlying66 Tryz.sizeOf35 I I I I I ⟨by decide,by decide⟩ ?_
   refine qP I (qB 10 I I I (qC I I (fun W1 hp=>Di bC (Ab l k').2 (Ab l (k'+1)).2 (hz.y1 k' hk) W1 (BQ hp 2 I) (h.hp hp).v (h.hp hp).t) (qP I (qC I I (fun W1 hp=>CC bC ((Ab l k').2+(Ab l (k'+1)).2) (Cx (Ab l k') (Ab l (k'+1))) (hz.y2 k' hk) W1 (BQ hp 2 I) (h.hp hp).v (h.hp hp).t) (qC I I (fun W1 hp=>Di bC (moY l k') _ (hz.y3 k' hk) W1 (BQ hp 2 I) (h.hp hp).v (h.hp hp).t) (Bu ?_))))))
   rw[←hsy]
   refine wX (wZ (wS 5 I I I (Aa (Ac ?_))))
   refine AF I (by kernel_rfl) ?_
   exact Al () ⟨I,I,I,tO⟩ [0,1,2,3,4,5,6,7,8,9] (by decide) I
  intro _
  refine zE (zB (wB 3 I I I (wB 6 I I I (wP I (wC I I (fun W1 hp=>Di bC (crK l k') (Cx (Ab l k') (Ab l (k'+1))) (hz.s k' hk) W1 (BQ hp 2 I) (h.hp hp).v (h.hp hp).t) ?_)))))
  rw[←hsu]
  exact wS 6 I I I (Aa (zN (Co 9 (k'+1) hrec I I [] I)))
 ·rintro k' d l' rec e1
  obtain rfl:k'=l.length:=e1
  have ec:crK l l.length=AY l:=rfl
  have ex:moX l l.length=Fx l:=rfl
  have ey:moY l l.length=Fo l:=rfl
  rw[ec,ex,ey]
  refine zN (zE (zA (zB (wB 2 I I I (wB 5 I I I (wC I I (fun W1 hp=>(by have:=CC bC 3 (AY l) hz.m W1 (BQ hp 1 I) (h.hp hp).v (h.hp hp).t;rwa [Pe] at this)) (wS 5 I I I (Aa (zE (Ao ?_))))))))))
  refine AL (X:=Nat) [true,true,true,true,true,true,true,true,true,false,false] (fun b=>[(2,Ah b2),(5,Ah b5),(12,Ah b)]) (fun b=>[ptB b2 [] [],caB bC,ckB b5 bC,B6 d,ptB b (Ad (Fx l/(3*AY l))) (Ad (Fo l/(3*AY l)))])
   2 [ptB b2 [] [],caB bC,ckB b5 bC,nuB b6 (Fx l),nuB b7 (Fo l),nuB b8 (3*AY l),lsB bp (slv p l.length cap),B6 d,Bi l' rec .exhausted none] Tryz.mixed (by kernel_rfl) ?_ ?_
  ·refine qB 2 I I I (qB 3 I I I (qB 5 I I I (qC I I (fun W1 hp=>Hk bC (Fx l) (3*AY l) hz.dx hz.nz W1 (BQ hp 1 I) (h.hp hp).v (h.hp hp).t) (qB 2 I I I (qB 4 I I I (qB 5 I I I (qC I I (fun W1 hp=>Hk bC (Fo l) (3*AY l) hz.dy hz.nz W1 (BQ hp 1 I) (h.hp hp).v (h.hp hp).t) ?_)))))))
   refine DE Tryz.hZ tH I I I I I I I I ?_
   refine Bu (wX (wZ ?_))
   refine Af Tryz.hZ rfl rfl rfl rfl ?_;intro b
   refine Aa (Ac (wX (wZ (wS 9 I I I (Aa (Ac ?_))))))
   refine A5 I (by((repeat (first|refine A9.same ?_|refine A9.off I ?_));exact tO)) ?_
   exact Al b ⟨I,I,I,tO⟩ [0,1,2,7,9] (by decide) I
  intro b12
  refine zE (zA (zA (zB (wB 2 I I I ?_))))
  refine AH I I I I ?_
  refine wP I (wB 1 I I I (wP I (Aa (zE (zS I (zI (zE (zA (zB (wB 4 I I I (wS 0 I I I (wP I (Aa ?_)))))))))))))
  refine zE (zO ?_)
  refine Cl 3 I ?_
  exact A7 tH I (.cell 0 I I I I I) (.tmp I) () I tO fun W _=>Ar.nil _ _
-- BOXES 3
-- CODE2
section
variable {P:Program} {W0:World} {N:Nat} {D:List Deferred} {ops:List Oper} {o:Oper} {rest:List Oper} {env:Env} {bxs:List Bx} {A2:World→Prop} {R:Act→World→Prop}
theorem Ut {ρ:Operand→Value} {c:Call} {f:Operand} {g:Nat} {first vs:List Value} {W:World} (ho:o.op= .call c) (hc:c.callee= .value f) (hf:ρ f= .func (.func g) first.toArray #[]) (ha:c.args.map ρ=vs.toArray) (hE:Bl P g=true):
  (execOp ρ o).run P W= .ok (.enter g (first++vs).toArray) W:=by
 simp only[execOp,ho,resolve,hc,hf,ha,Sem.run_bind,Deferred.ofValue,Sem.run_pure,Result.andThen_ok,invoke,Gx hE]
 simp
theorem Qq {c:Call} {f:Operand} {g d:Nat} {first vs:List Value} {v:Value}
  (hg:AC ops N env o=some true) (hd:o.dst=some d) (ho:o.op= .call c) (hc:c.callee= .value f) (hf:evO N env f=some (.func (.func g) first.toArray #[])) (ha:CH (evO N env) c.args.toList=some vs) (hE:Bl P g=true)
  (hC: ∀W,Hp W0 bxs W→Ai P g (first++vs).toArray W (fun _:Unit=>v) (fun _=>True) (fun _=>[]))
  (h:WQ P N D ops A2 R rest ((d,v)::env) (Hp W0 bxs)):WQ P N D ops A2 R (o::rest) env (Hp W0 bxs):=
 LY hd (fun a W h1 _ hp=>by
  unfold OpS
  rw[Ev h1 hg,if_pos rfl]
  refine⟨fun c e=>(by rw[ho] at e;cases e), .inr ⟨g,_,Ut ho hc (AK h1 _ _ hf) (F0 (AK h1) ha) hE,(hC W hp).out.mono ?_⟩⟩
  rintro e W' ⟨x,he,_,hb,_⟩
  exact⟨he,hp.grow hb,hb⟩) h
end
theorem Mm (x:Nat) (h:x≤18446744073709551615) (W:World):Ai Tryz.prog 134 #[.int .u64 (x:Nat)] W (fun _:Unit=> .int .i64 (Lib.bitLen x)) (fun _=>True) (fun _=>[]):=by
 refine Ai.of1 ((Go.Proofs.Any.bits_Len (P:=Tryz.prog) (ρ:=Tryz.lays125_ren) { Tryz.lays125 with } (x:Int) W (by omega) (by omega)).mono ?_)
 rintro e w' ⟨rfl,rfl⟩
 exact⟨I,Below.refl _ _⟩
def EH (x y:Ag):List Ag:=if Bc y x=true then[y,x] else[x,y]
abbrev lsF (c:Nat):Value:= .func (.func 71) #[Ah c] #[]
abbrev Br (g:Nat) (l:List Ag) (junk:List Value):Bx:=⟨g,35,ptC l++junk,true,none⟩
theorem WO {W0 W:World} {bxs:List Bx} (hp:Hp W0 bxs W) (k:Nat) {g:Nat} {x y:Ag} {junk:List Value} (hk:nth bxs k=some (Br g [x,y] junk)):Ak W g (0+0*2) [str (Ad x.1),str (Ad x.2)]:=
 CD (a:=[str (Ad x.1),str (Ad x.2)]) (b:=[str (Ad y.1),str (Ad y.2)]++junk) (Ak.of_bx hp k hk rfl)
theorem Vo {W0 W:World} {bxs:List Bx} (hp:Hp W0 bxs W) (k:Nat) {g:Nat} {x y:Ag} {junk:List Value} (hk:nth bxs k=some (Br g [x,y] junk)):Ak W g (0+1*2) [str (Ad y.1),str (Ad y.2)]:=
 CD (a:=[str (Ad y.1),str (Ad y.2)]) (b:=junk) (GG (a:=[str (Ad x.1),str (Ad x.2)]) (b:=[str (Ad y.1),str (Ad y.2)]++junk) (Ak.of_bx hp k hk rfl))
structure SrN (c g:Nat) (x y:Ag) (W:World):Prop where
 k: ∀W',GB W W' g→CY W' c∧BT W'∧AM W'
 s1:Sz2 y.1 x.1
 s2:Sz2 y.2 x.2
theorem SrN.trans {c g:Nat} {x y:Ag} {W W':World} (h:SrN c g x y W) (hk:GB W W' g):SrN c g x y W':=⟨fun W2 h2=>h.k W2 (hk.trans h2),h.s1,h.s2⟩
theorem Sh (c:Nat) (W:World) (g cap:Nat) (x y:Ag) (junk:List Value) (hg:W.heap[g]? =some (.cells (ptC [x,y]++junk).toArray 35 (0,0))) (h:SrN c g x y W):
  Calls Tryz.prog 181 #[.slice (some ⟨g,0,none⟩) 2 cap, .int .i64 0, .int .i64 2,lsF c] W fun e W'=> ∃x1:Unit,e= .returned ((fun _=> .tuple #[]) x1)∧True∧JP W W' g ((fun _=>g) x1) ((fun _=> .cells (ptC (EH x y)++junk).toArray 35 (0,0)) x1):=by
 have key:Calls Tryz.prog 181 [.slice (some ⟨g,0,none⟩) 2 cap, .int .i64 0, .int .i64 2,lsF c].toArray W fun e W'=> ∃x1:Unit,e= .returned ((fun _=> .tuple #[]) x1)∧(fun _=>True) x1∧Below (Bb W).heap.size (Bb W) W'∧Ar (Bb W) W' ((fun _=>[AT (Aw W g),Br g (EH x y) junk]) x1):=by
  refine Ck (X:=Unit) (val:=fun _=> .tuple #[]) (Φ:=fun _=>True) (nb:=fun _=>[AT (Aw W g),Br g (EH x y) junk]) (Hp.enterT (B:=Br g [x,y] junk) I hg) Tryz.func181 I I I ?_
  refine zA (zB (wP I (wP I (wP I (Aa (zE (zH ?_)))))))
  refine A8 (X:=Bool) (fun b=>[(0, .slice (some ⟨g,0,none⟩) 2 cap),(1, .int .i64 0),(2, .int .i64 2),(3,lsF c),(8, .int .i64 (if b then 2 else 1))]) (fun b=>[AT (Aw W g),Br g (if b then EH x y else[x,y]) junk]) (fun _=>True) (fun b=>if b then 0 else 1) false tO ⟨I,I,I,I,I,tO⟩ [] I ?_
  intro b _
  cases b with
  |true=>
   exact zA (zA (zB (wP I (wP I (wP I (Aa (zE (zS I (zJ (zK (zK (zL (LR (X:=Unit) (val:=fun _=> .tuple #[]) (Φ:=fun _=>True) (nb:=fun _=>[AT (Aw W g),Br g (EH x y) junk]) (fn:=Tryz.f181) tH I () I tO fun W1 hp=>(hp.pick (l:=[AT (Aw W g),Br g (EH x y) junk]) [0,1] (by decide) I).own)))))))))))))
  |false=>
   refine zA (zA (zB (wP I (wP I (wP I (Aa (zE (zR I (zI (zE (zA (zH (zA ?_)))))))))))))
   refine zB (wP I (wP I (Aa (zE (zH ?_)))))
   refine A8 (X:=Bool) (fun b=>[(0, .slice (some ⟨g,0,none⟩) 2 cap),(1, .int .i64 0),(2, .int .i64 2),(3,lsF c),(8, .int .i64 1),(9, .int .i64 (if b then 0 else 1))]) (fun b=>[AT (Aw W g),Br g (if b then[y,x] else[x,y]) junk]) (fun b=>b=true→Bc y x=true) (fun b=>if b then 0 else 1) false (fun h=>by cases h) ⟨rfl,rfl,rfl,rfl,rfl,rfl,trivial⟩ [] rfl ?_
   intro b hb
   cases b with
   |true=>
    have hlt:=hb rfl
    have e:EH x y=[y,x]:=by unfold EH;rw[if_pos hlt]
    refine zA (zA (zU (qP I (qP I (qP I (qP I ?_))))))
    iterate 12 refine F7 I I ?_
    refine qP I (AQ (Aa (zE (zS I (zJ (zK (zK (zL (zN (zE (zB (wP I (wP I (wP I ?_))))))))))))))
    exact Aa (Ay true tO (by decide) ⟨I,I,I,I,I,tO⟩ [] (by show _=[AT (Aw W g),Br g (EH x y) junk];rw[e];rfl))
   |false=>
    refine zA (zA (zU ?_))
    iterate 7 refine qP I ?_
    refine qI I I (by decide) (by decide) (qL 0 I I (fun W1 hp=>Vo hp 1 I) I (qP I (qP I (qP I (qI I I (by decide) (by decide) (qL 0 I I (fun W1 hp=>WO hp 1 I) I ?_))))))
    refine Qq (first:=[Ah c]) I I I I I I (by kernel_rfl) (fun W1 hp=>(by
     obtain⟨hc,hv,ht⟩:=h.k W1 (Gt hg ⟨_,List.mem_cons_self ..⟩ hp)
     exact KX c y x h.s1 h.s2 W1 hc hv ht)) ?_
    refine qP I (qU 33 (Bc y x) I (LL y x) ?_)
    cases hlt:Bc y x with
    |false=>
     have e:EH x y=[x,y]:=by unfold EH;rw[hlt];rfl
     refine qP I (AQ (Aa (zE (zS I (zJ (zK (zK (zL (zN (zE (zB (wP I (wP I (wP I ?_))))))))))))))
     exact Aa (Ay true tO (by decide) ⟨I,I,I,I,I,tO⟩ [] (by show _=[AT (Aw W g),Br g (EH x y) junk];rw[e];rfl))
    |true=>
     refine qP I (AQ (Aa (zE (zR I (zI (zE (Ao (B8 ?_))))))))
     repeat refine Ao ?_
     refine AL (X:=Unit) [true,true,false,false,false,true,true,true,true,true,true,true,true,true,true,false,false,false] (fun _=>[(0, .slice (some ⟨g,0,none⟩) 2 cap),(1, .int .i64 0),(2, .int .i64 2),(3,lsF c),(8, .int .i64 1),(9, .int .i64 1)]) (fun _=>[AT (Aw W g),Br g [y,x] junk])
      6 [AT (Aw W g),Br g [x,y] junk] Tryz.mixed (by kernel_rfl) ?_ ?_
     ·refine qP I (qP I (qP I (qP I (qP I (qI I I (by decide) (by decide) (qL 0 I I (fun W1 hp=>WO hp 1 I) I (qP I (qP I (qI I I (by decide) (by decide) (qL 0 I I (fun W1 hp=>Vo hp 1 I) I (qI I I (by decide) (by decide) (Bu (wX ?_)))))))))))))
      refine RS.cons ?_ (RS.cons ?_ (RS.cons ?_ (RS.nil)))
      ·refine wP I (Aa (Ac (wX ?_)))
       refine RS.cons ?_ (RS.cons ?_ (RS.nil))
       ·refine wP I (Aa (Ac (wX ?_)))
        refine RS.cons ?_ (RS.cons ?_ (RS.nil))
        ·refine wP I (Aa (Ac (wX (wZ ?_))))
         refine A4 1 (ptC [x,x]++junk) tH I I I I I I I I I I (by show 0+1*2+2≤(ptC [x,y]++junk).length;rw[List.length_append,AI];show 4≤4+_;omega) I ?_
         refine Aa (Ac (wY (wZ (wI I I (by decide) (by decide) (Aa (Ac (wY (wZ ?_))))))))
         refine A4 1 (ptC [y,x]++junk) tH I I I I I I I I I I (by show 0+0*2+2≤(ptC [x,x]++junk).length;rw[List.length_append,AI];show 2≤4+_;omega) I ?_
         refine Aa (Ac ?_)
         refine AF I (by kernel_rfl) ?_
         exact Al () ⟨I,I,I,I,I,I,tO⟩ [0,1] (by decide) I
        ·refine A4 1 (ptC [x,x]++junk) tH I I I I I I I I I I (by show 0+1*2+2≤(ptC [x,y]++junk).length;rw[List.length_append,AI];show 4≤4+_;omega) I ?_
         refine Aa (Ac (wY (wZ (wP I (Aa (Ac (wY (wZ (wI I I (by decide) (by decide) (Aa (Ac (wY (wZ ?_)))))))))))))
         refine A4 1 (ptC [y,x]++junk) tH I I I I I I I I I I (by show 0+0*2+2≤(ptC [x,x]++junk).length;rw[List.length_append,AI];show 2≤4+_;omega) I ?_
         refine Aa (Ac ?_)
         refine AF I (by kernel_rfl) ?_
         exact Al () ⟨I,I,I,I,I,I,tO⟩ [0,1] (by decide) I
       ·refine A4 1 (ptC [x,x]++junk) tH I I I I I I I I I I (by show 0+1*2+2≤(ptC [x,y]++junk).length;rw[List.length_append,AI];show 4≤4+_;omega) I ?_
        refine Aa (Ac (wY (wZ (wP I (Aa (Ac (wY (wZ (wP I (Aa (Ac (wY (wZ ?_)))))))))))))
        refine wI I I (by decide) (by decide) (Aa (Ac (wY (wZ ?_))))
        refine A4 1 (ptC [y,x]++junk) tH I I I I I I I I I I (by show 0+0*2+2≤(ptC [x,x]++junk).length;rw[List.length_append,AI];show 2≤4+_;omega) I ?_
        refine Aa (Ac ?_)
        refine AF I (by kernel_rfl) ?_
        exact Al () ⟨I,I,I,I,I,I,tO⟩ [0,1] (by decide) I
      ·refine wP I (Aa (Ac (wX ?_)))
       refine RS.cons ?_ (RS.cons ?_ (RS.cons ?_ (RS.nil)))
       ·refine wP I (Aa (Ac (wX ?_)))
        refine RS.cons ?_ (RS.cons ?_ (RS.nil))
        ·refine wP I (Aa (Ac (wX (wZ ?_))))
         refine A4 1 (ptC [x,x]++junk) tH I I I I I I I I I I (by show 0+1*2+2≤(ptC [x,y]++junk).length;rw[List.length_append,AI];show 4≤4+_;omega) I ?_
         refine Aa (Ac (wY (wZ (wI I I (by decide) (by decide) (Aa (Ac (wY (wZ ?_))))))))
         refine A4 1 (ptC [y,x]++junk) tH I I I I I I I I I I (by show 0+0*2+2≤(ptC [x,x]++junk).length;rw[List.length_append,AI];show 2≤4+_;omega) I ?_
         refine Aa (Ac ?_)
         refine AF I (by kernel_rfl) ?_
         exact Al () ⟨I,I,I,I,I,I,tO⟩ [0,1] (by decide) I
        ·refine A4 1 (ptC [x,x]++junk) tH I I I I I I I I I I (by show 0+1*2+2≤(ptC [x,y]++junk).length;rw[List.length_append,AI];show 4≤4+_;omega) I ?_
         refine Aa (Ac (wY (wZ (wP I (Aa (Ac (wY (wZ (wI I I (by decide) (by decide) (Aa (Ac (wY (wZ ?_)))))))))))))
         refine A4 1 (ptC [y,x]++junk) tH I I I I I I I I I I (by show 0+0*2+2≤(ptC [x,x]++junk).length;rw[List.length_append,AI];show 2≤4+_;omega) I ?_
         refine Aa (Ac ?_)
         refine AF I (by kernel_rfl) ?_
         exact Al () ⟨I,I,I,I,I,I,tO⟩ [0,1] (by decide) I
       ·refine wP I (Aa (Ac (wX ?_)))
        refine RS.cons ?_ (RS.cons ?_ (RS.nil))
        ·refine wP I (Aa (Ac (wX (wZ ?_))))
         refine A4 1 (ptC [x,x]++junk) tH I I I I I I I I I I (by show 0+1*2+2≤(ptC [x,y]++junk).length;rw[List.length_append,AI];show 4≤4+_;omega) I ?_
         refine Aa (Ac (wY (wZ (wI I I (by decide) (by decide) (Aa (Ac (wY (wZ ?_))))))))
         refine A4 1 (ptC [y,x]++junk) tH I I I I I I I I I I (by show 0+0*2+2≤(ptC [x,x]++junk).length;rw[List.length_append,AI];show 2≤4+_;omega) I ?_
         refine Aa (Ac ?_)
         refine AF I (by kernel_rfl) ?_
         exact Al () ⟨I,I,I,I,I,I,tO⟩ [0,1] (by decide) I
        ·refine A4 1 (ptC [x,x]++junk) tH I I I I I I I I I I (by show 0+1*2+2≤(ptC [x,y]++junk).length;rw[List.length_append,AI];show 4≤4+_;omega) I ?_
         refine Aa (Ac (wY (wZ (wP I (Aa (Ac (wY (wZ (wI I I (by decide) (by decide) (Aa (Ac (wY (wZ ?_)))))))))))))
         refine A4 1 (ptC [y,x]++junk) tH I I I I I I I I I I (by show 0+0*2+2≤(ptC [x,x]++junk).length;rw[List.length_append,AI];show 2≤4+_;omega) I ?_
         refine Aa (Ac ?_)
         refine AF I (by kernel_rfl) ?_
         exact Al () ⟨I,I,I,I,I,I,tO⟩ [0,1] (by decide) I
       ·refine A4 1 (ptC [x,x]++junk) tH I I I I I I I I I I (by show 0+1*2+2≤(ptC [x,y]++junk).length;rw[List.length_append,AI];show 4≤4+_;omega) I ?_
        refine Aa (Ac (wY ?_))
        refine RS.cons ?_ (RS.cons ?_ (RS.nil))
        ·refine wP I (Aa (Ac (wY (wZ (wP I (Aa (Ac (wY (wZ (wI I I (by decide) (by decide) (Aa (Ac (wY ?_)))))))))))))
         refine wZ ?_
         refine A4 1 (ptC [y,x]++junk) tH I I I I I I I I I I (by show 0+0*2+2≤(ptC [x,x]++junk).length;rw[List.length_append,AI];show 2≤4+_;omega) I ?_
         refine Aa (Ac ?_)
         refine AF I (by kernel_rfl) ?_
         exact Al () ⟨I,I,I,I,I,I,tO⟩ [0,1] (by decide) I
        ·refine wP I (Aa (Ac (wY (wZ (wP I (Aa (Ac (wY (wZ (wI I I (by decide) (by decide) (Aa (Ac (wY ?_)))))))))))))
         refine wZ ?_
         refine A4 1 (ptC [y,x]++junk) tH I I I I I I I I I I (by show 0+0*2+2≤(ptC [x,x]++junk).length;rw[List.length_append,AI];show 2≤4+_;omega) I ?_
         refine Aa (Ac ?_)
         refine AF I (by kernel_rfl) ?_
         exact Al () ⟨I,I,I,I,I,I,tO⟩ [0,1] (by decide) I
      ·refine A4 1 (ptC [x,x]++junk) tH I I I I I I I I I I (by show 0+1*2+2≤(ptC [x,y]++junk).length;rw[List.length_append,AI];show 4≤4+_;omega) I ?_
       refine Aa (Ac (wY ?_))
       refine RS.cons ?_ (RS.cons ?_ (RS.nil))
       ·refine wP I (Aa (Ac (wY (wZ (wP I (Aa (Ac (wY (wZ (wP I (Aa (Ac (wY ?_)))))))))))))
        refine wZ (wI I I (by decide) (by decide) (Aa (Ac (wY (wZ ?_)))))
        refine A4 1 (ptC [y,x]++junk) tH I I I I I I I I I I (by show 0+0*2+2≤(ptC [x,x]++junk).length;rw[List.length_append,AI];show 2≤4+_;omega) I ?_
        refine Aa (Ac ?_)
        refine AF I (by kernel_rfl) ?_
        exact Al () ⟨I,I,I,I,I,I,tO⟩ [0,1] (by decide) I
       ·refine wP I (Aa (Ac (wY ?_)))
        refine RS.cons ?_ (RS.cons ?_ (RS.nil))
        ·refine wP I (Aa (Ac (wY (wZ (wP I (Aa (Ac (wY (wZ (wI I I (by decide) (by decide) (Aa (Ac (wY ?_)))))))))))))
         refine wZ ?_
         refine A4 1 (ptC [y,x]++junk) tH I I I I I I I I I I (by show 0+0*2+2≤(ptC [x,x]++junk).length;rw[List.length_append,AI];show 2≤4+_;omega) I ?_
         refine Aa (Ac ?_)
         refine AF I (by kernel_rfl) ?_
         exact Al () ⟨I,I,I,I,I,I,tO⟩ [0,1] (by decide) I
        ·refine wP I (Aa (Ac (wY (wZ (wP I (Aa (Ac (wY (wZ (wI I I (by decide) (by decide) (Aa (Ac (wY ?_)))))))))))))
         refine wZ ?_
         refine A4 1 (ptC [y,x]++junk) tH I I I I I I I I I I (by show 0+0*2+2≤(ptC [x,x]++junk).length;rw[List.length_append,AI];show 2≤4+_;omega) I ?_
         refine Aa (Ac ?_)
         refine AF I (by kernel_rfl) ?_
         exact Al () ⟨I,I,I,I,I,I,tO⟩ [0,1] (by decide) I
     intro _
     exact zN (zE (zB (wP I (wP I (wP I (Aa (Ay true (fun _=>rfl) (by decide) ⟨I,I,I,I,I,I,tO⟩ [] I)))))))
 refine key.mono ?_
 rintro e W' ⟨x1,he,_,hb,hn'⟩
 exact⟨x1,he,tO,EX hg I hb hn'⟩
theorem SB (c:Nat) (W:World) (g cap:Nat) (x y:Ag) (junk:List Value) (z:Int) (hg:W.heap[g]? =some (.cells (ptC [x,y]++junk).toArray 35 (0,0))) (h:SrN c g x y W):
  Calls Tryz.prog 133 #[.slice (some ⟨g,0,none⟩) 2 cap, .int .i64 0, .int .i64 2, .int .i64 z,lsF c] W fun e W'=> ∃x1:Unit,e= .returned ((fun _=> .tuple #[]) x1)∧True∧JP W W' g ((fun _=>g) x1) ((fun _=> .cells (ptC (EH x y)++junk).toArray 35 (0,0)) x1):=by
 have key:Calls Tryz.prog 133 [.slice (some ⟨g,0,none⟩) 2 cap, .int .i64 0, .int .i64 2, .int .i64 z,lsF c].toArray W fun e W'=> ∃x1:Unit,e= .returned ((fun _=> .tuple #[]) x1)∧(fun _=>True) x1∧Below (Bb W).heap.size (Bb W) W'∧Ar (Bb W) W' ((fun _=>[AT (Aw W g),Br g (EH x y) junk]) x1):=by
  refine Ck (X:=Unit) (val:=fun _=> .tuple #[]) (Φ:=fun _=>True) (nb:=fun _=>[AT (Aw W g),Br g (EH x y) junk]) (Hp.enterT (B:=Br g [x,y] junk) I hg) Tryz.func133 I I I ?_
  refine zA (zB (wP I (Aa (zE (zA (zB (wP I (Aa (zE (zH ?_))))))))))
  refine A8 (X:=Unit) (fun _=>[(0, .slice (some ⟨g,0,none⟩) 2 cap),(1, .int .i64 0),(2, .int .i64 2),(3, .int .i64 z),(4,lsF c)]) (fun _=>[AT (Aw W g),Br g [x,y] junk]) (fun _=>True) (fun _=>0) () tO ⟨I,I,I,I,I,tO⟩ [] I ?_
  intro _ _
  refine zH (zA (zB (wP I (wP I (wP I (wP I (Aa (zE (zA (zA (zB (wP I (wP I ?_)))))))))))))
  refine Aa (zE (zR I (zA (zB (wP I (wP I (wP I (wP I ?_))))))))
  refine DV (X:=Unit) (val:=fun _=> .tuple #[]) (Φ:=fun _=>True) (capt:=[]) 1 (B:=Br g [x,y] junk) (L1:=[]) (L2:=[]) (b:=g) (ob:= .cells (ptC [x,y]++junk).toArray 35 (0,0)) (fun _=>Br g (EH x y) junk) (g':=fun _=>g) (o':=fun _=> .cells (ptC (EH x y)++junk).toArray 35 (0,0))
   rfl rfl rfl rfl rfl rfl (by kernel_rfl) rfl rfl (fun _ _=>rfl) (fun W1 hp=>Sh c W1 g cap x y junk (hp.own.cell 1 _ rfl (g, .cells (ptC [x,y]++junk).toArray 35 (0,0)) (List.mem_cons_self ..)).1 (h.trans (Gt hg ⟨_,List.mem_cons_self ..⟩ hp))) (fun _ _=> ?_)
  refine Aa (zE (zO (zP (zQ (zP (zQ ?_))))))
  refine TG (X:=Unit) (val:=fun _=> .tuple #[]) (Φ:=fun _=>True) (nb:=fun _=>[AT (Aw W g),Br g (EH x y) junk]) (fn:=Tryz.f133) tH I () I tO fun W1 hp=> ?_
  exact(hp.pick (l:=[AT (Aw W g),Br g (EH x y) junk]) [0,1] (by decide) I).own
 refine key.mono ?_
 rintro e W' ⟨x1,he,_,hb,hn'⟩
 exact⟨x1,he,tO,EX hg I hb hn'⟩
theorem Qo (c:Nat) (W:World) (g cap:Nat) (x y:Ag) (junk:List Value) (hg:W.heap[g]? =some (.cells (ptC [x,y]++junk).toArray 35 (0,0))) (h:SrN c g x y W):
  Calls Tryz.prog 70 #[.slice (some ⟨g,0,none⟩) 2 cap,lsF c] W fun e W'=> ∃x1:Unit,e= .returned ((fun _=> .tuple #[]) x1)∧True∧JP W W' g ((fun _=>g) x1) ((fun _=> .cells (ptC (EH x y)++junk).toArray 35 (0,0)) x1):=by
 have key:Calls Tryz.prog 70 [.slice (some ⟨g,0,none⟩) 2 cap,lsF c].toArray W fun e W'=> ∃x1:Unit,e= .returned ((fun _=> .tuple #[]) x1)∧(fun _=>True) x1∧Below (Bb W).heap.size (Bb W) W'∧Ar (Bb W) W' ((fun _=>[AT (Aw W g),Br g (EH x y) junk]) x1):=by
  refine Ck (X:=Unit) (val:=fun _=> .tuple #[]) (Φ:=fun _=>True) (nb:=fun _=>[AT (Aw W g),Br g (EH x y) junk]) (Hp.enterT (B:=Br g [x,y] junk) I hg) Tryz.func70 I I I ?_
  refine zA (zB (wP I (wP I (wP I (Aa (zE (zB (wP I (wP I (wP I ?_))))))))))
  refine Jk (k:= .u64) (kt:= .i64) (by kernel_rfl) (by kernel_rfl) I I I I ?_
  refine Aj 10 (.int .u64 ((2:Nat):Int)) I I ?_
  refine BB (capt:=[]) I I I I I I (by kernel_rfl) (fun W _=>Mm 2 (by decide) W) ?_
  refine wP I ?_
  refine DV (X:=Unit) (val:=fun _=> .tuple #[]) (Φ:=fun _=>True) (capt:=[]) 1 (B:=Br g [x,y] junk) (L1:=[]) (L2:=[]) (b:=g) (ob:= .cells (ptC [x,y]++junk).toArray 35 (0,0)) (fun _=>Br g (EH x y) junk) (g':=fun _=>g) (o':=fun _=> .cells (ptC (EH x y)++junk).toArray 35 (0,0))
   rfl rfl rfl rfl rfl rfl (by kernel_rfl) rfl rfl (fun _ _=>rfl) (fun W1 hp=>SB c W1 g cap x y junk _ (hp.own.cell 1 _ rfl (g, .cells (ptC [x,y]++junk).toArray 35 (0,0)) (List.mem_cons_self ..)).1 (h.trans (Gt hg ⟨_,List.mem_cons_self ..⟩ hp))) (fun _ _=> ?_)
  refine Aa ?_
  refine LR (X:=Unit) (val:=fun _=> .tuple #[]) (Φ:=fun _=>True) (nb:=fun _=>[AT (Aw W g),Br g (EH x y) junk]) (fn:=Tryz.f70) tH I () I tO fun W1 hp=> ?_
  exact(hp.pick (l:=[AT (Aw W g),Br g (EH x y) junk]) [0,1] (by decide) I).own
 refine key.mono ?_
 rintro e W' ⟨x1,he,_,hb,hn'⟩
 exact⟨x1,he,tO,EX hg I hb hn'⟩
-- BOXES 3
-- CODE2
def HK (x:Ag):List Ag→List Ag
 |[]=>[x]
 |y::l=>if Bc x y=true then x::y::l else y::HK x l
def CI (l:List Ag):List Ag:=l.foldl (fun s x=>HK x s) []
theorem QD (x:Ag): ∀l,(HK x l).length=l.length+1
 |[]=>rfl
 |y::l=>by
  unfold HK
  split
  ·rfl
  ·rw[List.length_cons,QD x l];rfl
theorem ML {x y:Ag}: ∀ {l:List Ag},y∈HK x l↔y=x∨y∈l
 |[]=>by simp[HK]
 |z::l=>by
  unfold HK
  split
  ·simp
  ·rw[List.mem_cons,ML (l:=l),List.mem_cons]
   constructor
   ·rintro(h|h|h)
    ·exact .inr (.inl h)
    ·exact .inl h
    ·exact .inr (.inr h)
   ·rintro(h|h|h)
    ·exact .inr (.inl h)
    ·exact .inl h
    ·exact .inr (.inr h)
theorem Lx {a b c:Ag} (h1: ¬AG b a) (h2: ¬AG c b): ¬AG c a:=fun h=>by
 rcases Dq a b with d|d|d
 ·exact h2 (Lz h d)
 ·subst d;exact h2 h
 ·exact h1 d
abbrev SrC (l:List Ag):Prop:=l.Pairwise fun a b=> ¬AG b a
theorem RW {x:Ag}: ∀ {l:List Ag},SrC l→SrC (HK x l)
 |[],_=>List.pairwise_cons.2 ⟨fun _ h=>absurd h List.not_mem_nil,List.Pairwise.nil⟩
 |y::l,h=>by
  have⟨h1,h2⟩:=List.pairwise_cons.1 h
  unfold HK
  split
  ·rename_i c
   have c:=Cv.1 c
   refine List.pairwise_cons.2 ⟨fun z hz=> ?_,h⟩
   rcases List.mem_cons.1 hz with rfl|hz
   ·exact CS c
   ·exact Lx (CS c) (h1 z hz)
  ·rename_i c
   refine List.pairwise_cons.2 ⟨fun z hz=> ?_,RW h2⟩
   rcases ML.1 hz with rfl|hz
   ·exact fun d=>c (Cv.2 d)
   ·exact h1 z hz
theorem IH: ∀(l s:List Ag),SrC s→SrC (l.foldl (fun s x=>HK x s) s)∧(l.foldl (fun s x=>HK x s) s).length=s.length+l.length∧ ∀y,y∈l.foldl (fun s x=>HK x s) s↔y∈s∨y∈l
 |[],s,h=>⟨h,rfl,fun y=>by simp⟩
 |x::l,s,h=>by
  obtain⟨a,b,c⟩:=IH l (HK x s) (RW h)
  refine⟨a,by rw[List.foldl_cons,b,QD,List.length_cons];omega,fun y=> ?_⟩
  rw[List.foldl_cons,c,ML,List.mem_cons]
  constructor
  ·rintro((h|h)|h)
   ·exact .inr (.inl h)
   ·exact .inl h
   ·exact .inr (.inr h)
  ·rintro(h|h|h)
   ·exact .inl (.inr h)
   ·exact .inl (.inl h)
   ·exact .inr h
theorem N0 (l:List Ag):SrC (CI l):=(IH l [] List.Pairwise.nil).1
theorem Mz (l:List Ag):(CI l).length=l.length:=by
 have:=(IH l [] List.Pairwise.nil).2.1
 rw[List.length_nil,Nat.zero_add] at this;exact this
theorem QY {l:List Ag} {y:Ag}:y∈CI l↔y∈l:=by
 have:=(IH l [] List.Pairwise.nil).2.2 y
 exact this.trans (by simp)
theorem UM (l:List Ag) {i:Nat} (hi:i<l.length):CI (l.take (i+1))=HK l[i] (CI (l.take i)):=by
 rw[CI,List.take_add_one,List.getElem?_eq_getElem hi,List.foldl_append];rfl
theorem Mb {x:Ag}: ∀(s:List Ag) (j:Nat),j≤s.length→(∀y∈s.take j, ¬AG x y)→(∀y∈s.drop j,AG x y)→HK x s=s.take j++x::s.drop j
 |[],j,hj,_,_=>by
  obtain rfl:j=0:=by simpa using hj
  rfl
 |y::l,0,_,_,h2=>by
  unfold HK
  rw[if_pos (Cv.2 (h2 y (List.mem_cons_self ..)))];rfl
 |y::l,j+1,hj,h1,h2=>by
  unfold HK
  rw[if_neg (fun c=>h1 y (by simp) (Cv.1 c)),Mb l j (by simpa using hj) (fun z hz=>h1 z (by simp[hz])) (fun z hz=>h2 z (by simpa using hz))]
  rfl
theorem UU {x:Ag} {s:List Ag} {j:Nat} (hs:SrC s) (hj:j≤s.length) (h2: ∀y∈s.drop j,AG x y) (h1: ∀(h:0<j), ¬AG x s[j-1]):HK x s=s.take j++x::s.drop j:=by
 refine Mb s j hj (fun y hy=> ?_) h2
 obtain⟨k,hk,rfl⟩:=List.getElem_of_mem hy
 have hk':k<j:=by simp at hk;omega
 rw[List.getElem_take]
 have h3:=h1 (by omega)
 by_cases e:k=j-1
 ·subst e;exact h3
 ·exact Lx (List.pairwise_iff_getElem.1 hs k (j-1) (by omega) (by omega) (by omega)) h3
theorem Td (l:List Ag):CI (l.take 1)++l.drop 1=l:=by
 cases l with
 |nil=>rfl
 |cons x l=>rfl
abbrev KK (c:Nat) (x y:Ag) (W:World):Prop:=Ai Tryz.prog 71 #[Ah c,cvV x,cvV y] W (fun _:Unit=> .int .i64 (GZ x y)) (fun _=>True) (fun _=>[])
theorem SS (c:Nat) (W:World) (g cap:Nat) (l:List Ag) (junk:List Value) (hn:l.length<4611686018427387904) (hg:W.heap[g]? =some (.cells (ptC l++junk).toArray 35 (0,0)))
  (hf: ∀W',GB W W' g→ ∀x∈l, ∀y∈l,KK c x y W'):
  Calls Tryz.prog 181 #[.slice (some ⟨g,0,none⟩) l.length cap, .int .i64 0, .int .i64 (l.length:Nat),lsF c] W fun e W'=> ∃x:Unit,e= .returned ((fun _=> .tuple #[]) x)∧True∧JP W W' g ((fun _=>g) x) ((fun _=> .cells (ptC (CI l)++junk).toArray 35 (0,0)) x):=by
 have key:Calls Tryz.prog 181 [.slice (some ⟨g,0,none⟩) l.length cap, .int .i64 0, .int .i64 (l.length:Nat),lsF c].toArray W fun e W'=> ∃x:Unit,e= .returned ((fun _=> .tuple #[]) x)∧(fun _=>True) x∧Below (Bb W).heap.size (Bb W) W'∧Ar (Bb W) W' ((fun _=>[AT (Aw W g),Br g (CI l) junk]) x):=by
  refine Ck (X:=Unit) (val:=fun _=> .tuple #[]) (Φ:=fun _=>True) (nb:=fun _=>[AT (Aw W g),Br g (CI l) junk]) (Hp.enterT (B:=Br g l junk) I hg) Tryz.func181 I I I ?_
  refine zA (zB (wP I (wP I (wP I (Aa (zE (zH ?_)))))))
  refine A8 (X:=Nat) (fun i=>[(0, .slice (some ⟨g,0,none⟩) l.length cap),(1, .int .i64 0),(2, .int .i64 (l.length:Nat)),(3,lsF c),(8, .int .i64 (i:Nat))]) (fun i=>[AT (Aw W g),Br g (CI (l.take i)++l.drop i) junk])
   (fun i=>1≤i∧(i≤l.length∨i=1)) (fun i=>l.length+1-i) 1 ⟨Nat.le_refl _, .inr rfl⟩ ⟨rfl,rfl,rfl,rfl,rfl,trivial⟩ [] (by rw[Td];rfl) ?_
  rintro i ⟨hi1,hi2⟩
  refine zA (zA (zB (wP I (wP I (wP I ?_)))))
  by_cases hlt:i<l.length
  rotate_left
  ·refine wU 14 false I (dF (by omega)) (Aa (zE (zS I (zJ (zK (zK (zL ?_)))))))
   have e:CI (l.take i)++l.drop i=CI l:=by rw[List.take_of_length_le (by omega),List.drop_of_length_le (by omega),List.append_nil]
   refine LR (X:=Unit) (val:=fun _=> .tuple #[]) (Φ:=fun _=>True) (nb:=fun _=>[AT (Aw W g),Br g (CI l) junk]) (fn:=Tryz.f181) tH I () I tO fun W1 hp=> ?_
   rw[e] at hp
   exact(hp.pick (l:=[AT (Aw W g),Br g (CI l) junk]) [0,1] (by decide) I).own
  refine wU 14 true I (dT (by omega)) (Aa (zE (zR I (zI (zE (zA (zH (zA (zB (wP I (wP I (Aa (zE ?_)))))))))))))
  refine zH ?_
  obtain⟨s,hs⟩: ∃s,s=CI (l.take i):=⟨_,rfl⟩
  obtain⟨x,hx⟩: ∃x,x=l[i]:=⟨_,rfl⟩
  obtain⟨rr,hr⟩: ∃rr,rr=l.drop (i+1):=⟨_,rfl⟩
  have hsl:s.length=i:=by rw[hs,Mz,List.length_take];omega
  have hsort:SrC s:=hs▸N0 _
  have hdrop:l.drop i=x::rr:=by rw[hx,hr];exact List.drop_eq_getElem_cons hlt
  have hrl:rr.length=l.length-(i+1):=by rw[hr,List.length_drop]
  have hxl:x∈l:=hx▸List.getElem_mem hlt
  have hsm: ∀y∈s,y∈l:=fun y hy=>by rw[hs] at hy;exact List.mem_of_mem_take (QY.1 hy)
  have hnext: ∀j,j≤s.length→(∀y∈s.drop j,AG x y)→(∀(h:0<j), ¬AG x s[j-1]!)→s.take j++x::s.drop j++rr=CI (l.take (i+1))++l.drop (i+1):=fun j h1 h2 h3=>by
   rw[UM l hlt, ←hs, ←hx, ←hr,UU hsort h1 h2 fun h=>by have:=h3 h;rwa [getElem!_pos s (j-1) (by omega)] at this]
  refine A8 (X:=Nat) (fun j=>[(0, .slice (some ⟨g,0,none⟩) l.length cap),(1, .int .i64 0),(2, .int .i64 (l.length:Nat)),(3,lsF c),(8, .int .i64 (i:Nat)),(9, .int .i64 (j:Nat))]) (fun j=>[AT (Aw W g),Br g (s.take j++x::s.drop j++rr) junk])
   (fun j=>j≤s.length∧ ∀y∈s.drop j,AG x y) (fun j=>j) i ⟨by omega,by rw[←hsl,List.drop_length];exact fun y hy=>absurd hy List.not_mem_nil⟩ ⟨rfl,rfl,rfl,rfl,rfl,rfl,trivial⟩ [] (by rw[←hs,hdrop, ←hsl,List.take_length,List.drop_length,List.append_assoc];rfl) ?_
  rintro j ⟨hj,hgt⟩
  have hj:j≤s.length:=hj
  have hgt: ∀y∈s.drop j,AG x y:=hgt
  refine zA (zA (zU (qP I (qP I (qP I ?_)))))
  cases j with
  |zero=>
   refine CU 20 (.bool false) I I ?_
   refine qP I ?_
   iterate 12 refine F7 I I ?_
   refine qP I (AQ (Aa (zE (zS I (zJ (zK (zK (zL (zN (zE (zB (wP I (wP I ?_)))))))))))))
   refine wV 16 ((i+1:Nat):Int) I (As (by omega)) (wP I (Aa ?_))
   refine Ay (i+1) ⟨by show 1≤i+1;omega, .inl hlt⟩ (by show l.length+1-(i+1)<l.length+1-i;omega) ⟨I,I,I,I,I,tO⟩ [] ?_
   rw[hnext 0 hj hgt fun h=>absurd h (by decide)];rfl
  |succ m=>
   have hm:m<s.length:=hj
   obtain⟨y,hy⟩: ∃y,y=s[m]:=⟨_,rfl⟩
   have hyl:y∈l:=hsm y (hy▸List.getElem_mem hm)
   have e1:s.take (m+1)=s.take m++[y]:=by rw[List.take_add_one,List.getElem?_eq_getElem hm,hy];rfl
   have e2:s.drop m=y::s.drop (m+1):=by rw[hy];exact List.drop_eq_getElem_cons hm
   have e3:s[m+1-1]! =y:=by rw[Nat.add_sub_cancel,getElem!_pos s m hm,hy]
   have hA:(ptC (s.take m)).length=m*2:=by rw[AI,List.length_take,Nat.min_eq_left (by omega)]
   obtain⟨C,hC⟩: ∃C,C=ptC (s.drop (m+1)++rr)++junk:=⟨_,rfl⟩
   have row1:ptC (s.take (m+1)++x::s.drop (m+1)++rr)++junk=ptC (s.take m)++([str (Ad y.1),str (Ad y.2),str (Ad x.1),str (Ad x.2)]++C):=by rw[e1,hC];simp[ptC,List.flatMap_append]
   have row2:ptC (s.take m++x::s.drop m++rr)++junk=ptC (s.take m)++([str (Ad x.1),str (Ad x.2),str (Ad y.1),str (Ad y.2)]++C):=by rw[e2,hC];simp[ptC,List.flatMap_append]
   refine qU 20 true I (dT (by omega)) (qP I (qP I (qP I (qP I ?_))))
   refine qJ ?_
   refine qL 0 I I (fun W1 hp=>show Ak W1 g (0+(m+1)*2) [str (Ad x.1),str (Ad x.2)] from KC hp 1 (A:=ptC (s.take m)++[str (Ad y.1),str (Ad y.2)]) (C:=C) I (by rw[row1];simp) (by rw[List.length_append,hA];simp only[List.length_cons,List.length_nil];omega)) I (qP I (qP I (qP I (qV 29 (m:Nat) I (show w64 (((m+1:Nat):Int)-1)=_ by rw[Au (by omega) (by omega)];omega) ?_))))
   refine qJ ?_
   refine qL 0 I I (fun W1 hp=>show Ak W1 g (0+m*2) [str (Ad y.1),str (Ad y.2)] from KC hp 1 (A:=ptC (s.take m)) (C:=[str (Ad x.1),str (Ad x.2)]++C) I (by rw[row1];simp) (by rw[hA];simp)) I ?_
   refine Qq (first:=[Ah c]) I I I I I I (by kernel_rfl) (fun W1 hp=>hf W1 (Gt hg ⟨_,List.mem_cons_self ..⟩ hp) x hxl y hyl) ?_
   refine qP I (qU 33 (Bc x y) I (LL x y) (qP I (AQ (Aa (zE ?_)))))
   refine A0 I (fun h=> ?_) (fun h=> ?_)
   rotate_left
   ·have hc: ¬AG x y:=fun d=>by rw[Cv.2 d] at h;cases h
    refine zJ (zK (zK (zL (zN (zE (zB (wP I (wP I (wV 16 ((i+1:Nat):Int) I (As (by omega)) (wP I (Aa ?_)))))))))))
    refine Ay (i+1) ⟨by show 1≤i+1;omega, .inl hlt⟩ (by show l.length+1-(i+1)<l.length+1-i;omega) ⟨I,I,I,I,I,tO⟩ [] ?_
    rw[hnext (m+1) hj hgt fun _=>by rw[e3];exact hc];rfl
   have hc:AG x y:=Cv.1 h
   clear h
   refine Zq (bxs':=[AT (Aw W g),⟨g,35,ptC (s.take m)++([str (Ad y.1),str (Ad y.2),str (Ad x.1),str (Ad x.2)]++C),true,none⟩]) (by rw[←row1]) ?_
   refine zI (zE (Ao (B8 ?_)))
   repeat refine Ao ?_
   refine AL (X:=Unit) [true,true,false,false,false,true,true,true,true,true,true,true,true,true,true,false,false,false] (fun _=>[(0, .slice (some ⟨g,0,none⟩) l.length cap),(1, .int .i64 0),(2, .int .i64 (l.length:Nat)),(3,lsF c),(8, .int .i64 (i:Nat)),(9, .int .i64 ((m+1:Nat):Int))]) (fun _=>[AT (Aw W g),⟨g,35,ptC (s.take m)++([str (Ad x.1),str (Ad x.2),str (Ad y.1),str (Ad y.2)]++C),true,none⟩])
    6 [AT (Aw W g),⟨g,35,ptC (s.take m)++([str (Ad y.1),str (Ad y.2),str (Ad x.1),str (Ad x.2)]++C),true,none⟩] Tryz.mixed (by kernel_rfl) ?_ ?_
   ·refine qP I (qP I (qP I (qP I (qP I (qV 44 (m:Nat) I (show w64 (((m+1:Nat):Int)-1)=_ by rw[Au (by omega) (by omega)];omega) ?_)))))
    refine qJ ?_
    refine qL 0 I I (fun W1 hp=>show Ak W1 g (0+m*2) [str (Ad y.1),str (Ad y.2)] from KC hp 1 (A:=ptC (s.take m)) (C:=[str (Ad x.1),str (Ad x.2)]++C) I (by simp) (by rw[hA];simp)) I (qP I (qP I ?_))
    refine qJ ?_
    refine qL 0 I I (fun W1 hp=>show Ak W1 g (0+(m+1)*2) [str (Ad x.1),str (Ad x.2)] from KC hp 1 (A:=ptC (s.take m)++[str (Ad y.1),str (Ad y.2)]) (C:=C) I (by simp) (by rw[List.length_append,hA];simp only[List.length_cons,List.length_nil];omega)) I ?_
    refine qJ ?_
    refine Bu ?_
    have h1:BK (ptC (s.take m)++([str (Ad y.1),str (Ad y.2),str (Ad x.1),str (Ad x.2)]++C)) (0+(m+1)*2) (cvV y).cells.toList=ptC (s.take m)++([str (Ad y.1),str (Ad y.2),str (Ad y.1),str (Ad y.2)]++C):=by
     rw[show 0+(m+1)*2=(ptC (s.take m)).length+2 by rw[hA];omega,Ey];rfl
    have h2:BK (ptC (s.take m)++([str (Ad y.1),str (Ad y.2),str (Ad y.1),str (Ad y.2)]++C)) (0+m*2) (cvV x).cells.toList=ptC (s.take m)++([str (Ad x.1),str (Ad x.2),str (Ad y.1),str (Ad y.2)]++C):=by
     rw[show 0+m*2=(ptC (s.take m)).length+0 by rw[hA];omega,Ey];rfl
    have h3:0+(m+1)*2+2≤(ptC (s.take m)++([str (Ad y.1),str (Ad y.2),str (Ad x.1),str (Ad x.2)]++C)).length:=by rw[List.length_append,hA,List.length_append];simp only[List.length_cons,List.length_nil];omega
    have h4:0+m*2+2≤(ptC (s.take m)++([str (Ad y.1),str (Ad y.2),str (Ad y.1),str (Ad y.2)]++C)).length:=by rw[List.length_append,hA,List.length_append];simp only[List.length_cons,List.length_nil];omega
    refine wX ?_
    refine RS.cons ?_ (RS.cons ?_ (RS.cons ?_ (RS.nil)))
    ·refine wP I (Aa (Ac (wX ?_)))
     refine RS.cons ?_ (RS.cons ?_ (RS.nil))
     ·refine wP I (Aa (Ac (wX ?_)))
      refine RS.cons ?_ (RS.cons ?_ (RS.nil))
      ·refine wP I (Aa (Ac (wX (wZ ?_))))
       refine A4 1 _ tH I I I I I I I I I I h3 h1 ?_
       refine Aa (Ac (wY (wZ ?_)))
       refine wV 41 (m:Nat) I (show w64 (((m+1:Nat):Int)-1)=_ by rw[Au (by omega) (by omega)];omega) ?_;(first|refine wJ ?_|refine qJ ?_)
       refine Aa (Ac (wY (wZ ?_)))
       refine A4 1 _ tH I I I I I I I I I I h4 h2 ?_
       refine Aa (Ac ?_)
       refine AF I (by kernel_rfl) ?_
       exact Al () ⟨I,I,I,I,I,I,tO⟩ [0,1] (by decide) I
      ·refine A4 1 _ tH I I I I I I I I I I h3 h1 ?_
       refine Aa (Ac (wY (wZ (wP I (Aa (Ac (wY (wZ ?_))))))))
       refine wV 41 (m:Nat) I (show w64 (((m+1:Nat):Int)-1)=_ by rw[Au (by omega) (by omega)];omega) ?_;(first|refine wJ ?_|refine qJ ?_)
       refine Aa (Ac (wY (wZ ?_)))
       refine A4 1 _ tH I I I I I I I I I I h4 h2 ?_
       refine Aa (Ac ?_)
       refine AF I (by kernel_rfl) ?_
       exact Al () ⟨I,I,I,I,I,I,tO⟩ [0,1] (by decide) I
     ·refine A4 1 _ tH I I I I I I I I I I h3 h1 ?_
      refine Aa (Ac (wY (wZ (wP I (Aa (Ac (wY (wZ (wP I (Aa (Ac (wY (wZ ?_)))))))))))))
      refine wV 41 (m:Nat) I (show w64 (((m+1:Nat):Int)-1)=_ by rw[Au (by omega) (by omega)];omega) ?_;(first|refine wJ ?_|refine qJ ?_)
      refine Aa (Ac (wY (wZ ?_)))
      refine A4 1 _ tH I I I I I I I I I I h4 h2 ?_
      refine Aa (Ac ?_)
      refine AF I (by kernel_rfl) ?_
      exact Al () ⟨I,I,I,I,I,I,tO⟩ [0,1] (by decide) I
    ·refine wP I (Aa (Ac (wX ?_)))
     refine RS.cons ?_ (RS.cons ?_ (RS.cons ?_ (RS.nil)))
     ·refine wP I (Aa (Ac (wX ?_)))
      refine RS.cons ?_ (RS.cons ?_ (RS.nil))
      ·refine wP I (Aa (Ac (wX (wZ ?_))))
       refine A4 1 _ tH I I I I I I I I I I h3 h1 ?_
       refine Aa (Ac (wY (wZ ?_)))
       refine wV 41 (m:Nat) I (show w64 (((m+1:Nat):Int)-1)=_ by rw[Au (by omega) (by omega)];omega) ?_;(first|refine wJ ?_|refine qJ ?_)
       refine Aa (Ac (wY (wZ ?_)))
       refine A4 1 _ tH I I I I I I I I I I h4 h2 ?_
       refine Aa (Ac ?_)
       refine AF I (by kernel_rfl) ?_
       exact Al () ⟨I,I,I,I,I,I,tO⟩ [0,1] (by decide) I
      ·refine A4 1 _ tH I I I I I I I I I I h3 h1 ?_
       refine Aa (Ac (wY (wZ (wP I (Aa (Ac (wY (wZ ?_))))))))
       refine wV 41 (m:Nat) I (show w64 (((m+1:Nat):Int)-1)=_ by rw[Au (by omega) (by omega)];omega) ?_;(first|refine wJ ?_|refine qJ ?_)
       refine Aa (Ac (wY (wZ ?_)))
       refine A4 1 _ tH I I I I I I I I I I h4 h2 ?_
       refine Aa (Ac ?_)
       refine AF I (by kernel_rfl) ?_
       exact Al () ⟨I,I,I,I,I,I,tO⟩ [0,1] (by decide) I
     ·refine wP I (Aa (Ac (wX ?_)))
      refine RS.cons ?_ (RS.cons ?_ (RS.nil))
      ·refine wP I (Aa (Ac (wX (wZ ?_))))
       refine A4 1 _ tH I I I I I I I I I I h3 h1 ?_
       refine Aa (Ac (wY (wZ ?_)))
       refine wV 41 (m:Nat) I (show w64 (((m+1:Nat):Int)-1)=_ by rw[Au (by omega) (by omega)];omega) ?_;(first|refine wJ ?_|refine qJ ?_)
       refine Aa (Ac (wY (wZ ?_)))
       refine A4 1 _ tH I I I I I I I I I I h4 h2 ?_
       refine Aa (Ac ?_)
       refine AF I (by kernel_rfl) ?_
       exact Al () ⟨I,I,I,I,I,I,tO⟩ [0,1] (by decide) I
      ·refine A4 1 _ tH I I I I I I I I I I h3 h1 ?_
       refine Aa (Ac (wY (wZ (wP I (Aa (Ac (wY (wZ ?_))))))))
       refine wV 41 (m:Nat) I (show w64 (((m+1:Nat):Int)-1)=_ by rw[Au (by omega) (by omega)];omega) ?_;(first|refine wJ ?_|refine qJ ?_)
       refine Aa (Ac (wY (wZ ?_)))
       refine A4 1 _ tH I I I I I I I I I I h4 h2 ?_
       refine Aa (Ac ?_)
       refine AF I (by kernel_rfl) ?_
       exact Al () ⟨I,I,I,I,I,I,tO⟩ [0,1] (by decide) I
     ·refine A4 1 _ tH I I I I I I I I I I h3 h1 ?_
      refine Aa (Ac (wY ?_))
      refine RS.cons ?_ (RS.cons ?_ (RS.nil))
      ·refine wP I (Aa (Ac (wY (wZ (wP I (Aa (Ac (wY (wZ ?_)))))))))
       refine wV 41 (m:Nat) I (show w64 (((m+1:Nat):Int)-1)=_ by rw[Au (by omega) (by omega)];omega) ?_;(first|refine wJ ?_|refine qJ ?_)
       refine Aa (Ac (wY (wZ ?_)))
       refine A4 1 _ tH I I I I I I I I I I h4 h2 ?_
       refine Aa (Ac ?_)
       refine AF I (by kernel_rfl) ?_
       exact Al () ⟨I,I,I,I,I,I,tO⟩ [0,1] (by decide) I
      ·refine wP I (Aa (Ac (wY (wZ (wP I (Aa (Ac (wY (wZ ?_)))))))))
       refine wV 41 (m:Nat) I (show w64 (((m+1:Nat):Int)-1)=_ by rw[Au (by omega) (by omega)];omega) ?_;(first|refine wJ ?_|refine qJ ?_)
       refine Aa (Ac (wY (wZ ?_)))
       refine A4 1 _ tH I I I I I I I I I I h4 h2 ?_
       refine Aa (Ac ?_)
       refine AF I (by kernel_rfl) ?_
       exact Al () ⟨I,I,I,I,I,I,tO⟩ [0,1] (by decide) I
    ·refine A4 1 _ tH I I I I I I I I I I h3 h1 ?_
     refine Aa (Ac (wY ?_))
     refine RS.cons ?_ (RS.cons ?_ (RS.nil))
     ·refine wP I (Aa (Ac (wY (wZ (wP I (Aa (Ac (wY (wZ (wP I (Aa (Ac (wY ?_)))))))))))))
      refine wZ ?_
      refine wV 41 (m:Nat) I (show w64 (((m+1:Nat):Int)-1)=_ by rw[Au (by omega) (by omega)];omega) ?_;(first|refine wJ ?_|refine qJ ?_)
      refine Aa (Ac (wY (wZ ?_)))
      refine A4 1 _ tH I I I I I I I I I I h4 h2 ?_
      refine Aa (Ac ?_)
      refine AF I (by kernel_rfl) ?_
      exact Al () ⟨I,I,I,I,I,I,tO⟩ [0,1] (by decide) I
     ·refine wP I (Aa (Ac (wY ?_)))
      refine RS.cons ?_ (RS.cons ?_ (RS.nil))
      ·refine wP I (Aa (Ac (wY (wZ (wP I (Aa (Ac (wY (wZ ?_)))))))))
       refine wV 41 (m:Nat) I (show w64 (((m+1:Nat):Int)-1)=_ by rw[Au (by omega) (by omega)];omega) ?_;(first|refine wJ ?_|refine qJ ?_)
       refine Aa (Ac (wY (wZ ?_)))
       refine A4 1 _ tH I I I I I I I I I I h4 h2 ?_
       refine Aa (Ac ?_)
       refine AF I (by kernel_rfl) ?_
       exact Al () ⟨I,I,I,I,I,I,tO⟩ [0,1] (by decide) I
      ·refine wP I (Aa (Ac (wY (wZ (wP I (Aa (Ac (wY (wZ ?_)))))))))
       refine wV 41 (m:Nat) I (show w64 (((m+1:Nat):Int)-1)=_ by rw[Au (by omega) (by omega)];omega) ?_;(first|refine wJ ?_|refine qJ ?_)
       refine Aa (Ac (wY (wZ ?_)))
       refine A4 1 _ tH I I I I I I I I I I h4 h2 ?_
       refine Aa (Ac ?_)
       refine AF I (by kernel_rfl) ?_
       exact Al () ⟨I,I,I,I,I,I,tO⟩ [0,1] (by decide) I
   intro _
   refine zN (zE (zB (wP I (wP I (wV 36 (m:Nat) I (show w64 (((m+1:Nat):Int)-1)=_ by rw[Au (by omega) (by omega)];omega) (wP I (Aa ?_)))))))
   refine Ay m ⟨by show m≤s.length;omega,fun z hz=> ?_⟩ (by show m<m+1;omega) ⟨I,I,I,I,I,I,tO⟩ [] (by rw[←row2];rfl)
   rw[e2] at hz
   rcases List.mem_cons.1 hz with rfl|hz
   ·exact hc
   ·exact hgt z hz
 refine key.mono ?_
 rintro e W' ⟨x,he,_,hb,hn'⟩
 exact⟨x,he,tO,EX hg I hb hn'⟩
theorem SR (c:Nat) (W:World) (g cap:Nat) (l:List Ag) (junk:List Value) (z:Int) (hn:l.length≤12) (hg:W.heap[g]? =some (.cells (ptC l++junk).toArray 35 (0,0)))
  (hf: ∀W',GB W W' g→ ∀x∈l, ∀y∈l,KK c x y W'):
  Calls Tryz.prog 133 #[.slice (some ⟨g,0,none⟩) l.length cap, .int .i64 0, .int .i64 (l.length:Nat), .int .i64 z,lsF c] W fun e W'=> ∃x:Unit,e= .returned ((fun _=> .tuple #[]) x)∧True∧JP W W' g ((fun _=>g) x) ((fun _=> .cells (ptC (CI l)++junk).toArray 35 (0,0)) x):=by
 have key:Calls Tryz.prog 133 [.slice (some ⟨g,0,none⟩) l.length cap, .int .i64 0, .int .i64 (l.length:Nat), .int .i64 z,lsF c].toArray W fun e W'=> ∃x:Unit,e= .returned ((fun _=> .tuple #[]) x)∧(fun _=>True) x∧Below (Bb W).heap.size (Bb W) W'∧Ar (Bb W) W' ((fun _=>[AT (Aw W g),Br g (CI l) junk]) x):=by
  refine Ck (X:=Unit) (val:=fun _=> .tuple #[]) (Φ:=fun _=>True) (nb:=fun _=>[AT (Aw W g),Br g (CI l) junk]) (Hp.enterT (B:=Br g l junk) I hg) Tryz.func133 I I I ?_
  refine zA (zB (wP I (Aa (zE (zA (zB (wP I (Aa (zE (zH ?_))))))))))
  refine A8 (X:=Unit) (fun _=>[(0, .slice (some ⟨g,0,none⟩) l.length cap),(1, .int .i64 0),(2, .int .i64 (l.length:Nat)),(3, .int .i64 z),(4,lsF c)]) (fun _=>[AT (Aw W g),Br g l junk]) (fun _=>True) (fun _=>0) () tO ⟨I,I,I,I,I,tO⟩ [] I ?_
  intro _ _
  refine zH (zA (zB (wP I (wP I (wP I (wV 23 (l.length:Nat) I (show w64 ((l.length:Nat)-0)=_ by rw[Au (by omega) (by omega)];omega) (wP I (Aa (zE (zA (zA (zB (wP I (wP I ?_))))))))))))))
  refine wU 25 true I (dT (by omega)) (Aa (zE (zR I (zA (zB (wP I (wP I (wP I (wP I ?_)))))))))
  refine DV (X:=Unit) (val:=fun _=> .tuple #[]) (Φ:=fun _=>True) (capt:=[]) 1 (B:=Br g l junk) (L1:=[]) (L2:=[]) (b:=g) (ob:= .cells (ptC l++junk).toArray 35 (0,0)) (fun _=>Br g (CI l) junk) (g':=fun _=>g) (o':=fun _=> .cells (ptC (CI l)++junk).toArray 35 (0,0))
   rfl rfl rfl rfl rfl rfl (by kernel_rfl) rfl rfl (fun _ _=>rfl) (fun W1 hp=>SS c W1 g cap l junk (by omega) (hp.own.cell 1 _ rfl (g, .cells (ptC l++junk).toArray 35 (0,0)) (List.mem_cons_self ..)).1 (fun W2 hk=>hf W2 ((Gt hg ⟨_,List.mem_cons_self ..⟩ hp).trans hk))) (fun _ _=> ?_)
  refine Aa (zE (zO (zP (zQ (zP (zQ ?_))))))
  refine TG (X:=Unit) (val:=fun _=> .tuple #[]) (Φ:=fun _=>True) (nb:=fun _=>[AT (Aw W g),Br g (CI l) junk]) (fn:=Tryz.f133) tH I () I tO fun W1 hp=> ?_
  exact(hp.pick (l:=[AT (Aw W g),Br g (CI l) junk]) [0,1] (by decide) I).own
 refine key.mono ?_
 rintro e W' ⟨x,he,_,hb,hn'⟩
 exact⟨x,he,tO,EX hg I hb hn'⟩
theorem Zd {n:Nat} (h:n≤12):IntKind.u64.wrap (n:Nat)=(n:Int):=by
 simp only[IntKind.wrap,IntKind.signed,IntKind.bits]
 simp
 omega
theorem Qv (c:Nat) (W:World) (g cap:Nat) (l:List Ag) (junk:List Value) (hn:l.length≤12) (hg:W.heap[g]? =some (.cells (ptC l++junk).toArray 35 (0,0)))
  (hf: ∀W',GB W W' g→ ∀x∈l, ∀y∈l,KK c x y W'):
  Calls Tryz.prog 70 #[.slice (some ⟨g,0,none⟩) l.length cap,lsF c] W fun e W'=> ∃x:Unit,e= .returned ((fun _=> .tuple #[]) x)∧True∧JP W W' g ((fun _=>g) x) ((fun _=> .cells (ptC (CI l)++junk).toArray 35 (0,0)) x):=by
 have key:Calls Tryz.prog 70 [.slice (some ⟨g,0,none⟩) l.length cap,lsF c].toArray W fun e W'=> ∃x:Unit,e= .returned ((fun _=> .tuple #[]) x)∧(fun _=>True) x∧Below (Bb W).heap.size (Bb W) W'∧Ar (Bb W) W' ((fun _=>[AT (Aw W g),Br g (CI l) junk]) x):=by
  refine Ck (X:=Unit) (val:=fun _=> .tuple #[]) (Φ:=fun _=>True) (nb:=fun _=>[AT (Aw W g),Br g (CI l) junk]) (Hp.enterT (B:=Br g l junk) I hg) Tryz.func70 I I I ?_
  refine zA (zB (wP I (wP I (wP I (Aa (zE (zB (wP I (wP I (wP I ?_))))))))))
  refine Jk (k:= .u64) (kt:= .i64) (by kernel_rfl) (by kernel_rfl) I I I I ?_
  refine Aj 10 (.int .u64 (l.length:Nat)) I (congrArg (Value.int .u64) (Zd hn)) ?_
  refine BB (capt:=[]) I I I I I I (by kernel_rfl) (fun W _=>Mm l.length (by omega) W) ?_
  refine wP I ?_
  refine DV (X:=Unit) (val:=fun _=> .tuple #[]) (Φ:=fun _=>True) (capt:=[]) 1 (B:=Br g l junk) (L1:=[]) (L2:=[]) (b:=g) (ob:= .cells (ptC l++junk).toArray 35 (0,0)) (fun _=>Br g (CI l) junk) (g':=fun _=>g) (o':=fun _=> .cells (ptC (CI l)++junk).toArray 35 (0,0))
   rfl rfl rfl rfl rfl rfl (by kernel_rfl) rfl rfl (fun _ _=>rfl) (fun W1 hp=>SR c W1 g cap l junk _ hn (hp.own.cell 1 _ rfl (g, .cells (ptC l++junk).toArray 35 (0,0)) (List.mem_cons_self ..)).1 (fun W2 hk=>hf W2 ((Gt hg ⟨_,List.mem_cons_self ..⟩ hp).trans hk))) (fun _ _=> ?_)
  refine Aa ?_
  refine LR (X:=Unit) (val:=fun _=> .tuple #[]) (Φ:=fun _=>True) (nb:=fun _=>[AT (Aw W g),Br g (CI l) junk]) (fn:=Tryz.f70) tH I () I tO fun W1 hp=> ?_
  exact(hp.pick (l:=[AT (Aw W g),Br g (CI l) junk]) [0,1] (by decide) I).own
 refine key.mono ?_
 rintro e W' ⟨x,he,_,hb,hn'⟩
 exact⟨x,he,tO,EX hg I hb hn'⟩
-- BOXES 3
-- CODE2
section
variable {r:Option Nat} {n:Nat} {P:Program} {W0:World} {N:Nat} {D:List Deferred} {ops:List Oper} {Q:Exit→Act→World→Prop} {o:Oper} {rest:List Oper} {env:Env} {bxs:List Bx}
theorem VA (k:Nat) {t e:TypeId} {z:Value} (ht:P.underlying t=some (.slice e)) (hz: ∀W,(zeroValue e).run P W= .ok z W) {c:Call} {x:Operand} {B:Bx} {off m cp:Nat}
  (hg:AC ops N env o=some true) (hd:o.dst=none) (ho:o.op= .call c) (hc:c.callee= .builtin .clear) (ha:c.args= #[x]) (hat:c.argTypes= #[t])
  (hk:nth bxs k=some B) (hon:B.row=true) (hx:evO N env x=some (.slice (some ⟨B.b,off,none⟩) m cp)) (h1:Dr (Cw z.cells.toList m)=true) (hfit:off+(Cw z.cells.toList m).length≤B.cells.length)
  (h:WL r n P N D ops Q rest env (Hp W0 (bxs.set k { B with cells:=BK B.cells off (Cw z.cells.toList m) }))):WL r n P N D ops Q (o::rest) env (Hp W0 bxs):= .mk fun a W ha' hd' hp=>by
 rw[BI] at hk
 refine Ci hg ha' (fun c e=>by rw[ho] at e;cases e) ?_
 have h3:=(hp.at_ _ _ hk (Bx.row_on hon).1).1
 rw[(Bx.row_on hon).2] at h3
 obtain⟨W',hr,hu⟩:=Ge (P:=P) (o:=off) (Cw z.cells.toList m) 0 B.cells W h3 (by omega) h1
 have e1:c.args.map (ov env a).eval= #[.slice (some ⟨B.b,off,none⟩) m cp]:=by rw[ha];simp[AK ha' _ _ hx]
 have hrun:(Builtin.clear_ #[t] o.type #[.slice (some ⟨B.b,off,none⟩) m cp]).run P W= .ok (.tuple #[]) W':=by
  cases m with
  |zero=>
   have e0:Cw z.cells.toList 0=[]:=rfl
   rw[e0] at hr
   simp[storeCells] at hr
   simp[Builtin.clear_,run_underlying ht,hr]
  |succ m=>simp[Builtin.clear_,run_underlying ht,hz,GO,hr]
 have:(execOp (ov env a).eval o).run P W= .ok (.value (.tuple #[])) W':=by
  simp only[execOp,ho,resolve,hc,invoke,builtin,e1,hat,Sem.run_bind,Sem.run_pure,Result.andThen_ok,hrun]
 rw[this]
 simp only[Oper.uponIn,hd]
 rw[Nat.add_zero] at hu
 exact h.out a W' ha' hd' (hp.upd hk hon hu)
end
def EJ (l:List Ag):Nat→List Ag
 |0=>[]
 |n+1=>if 0<n∧l[n]? =l[n-1]? then EJ l n else EJ l n++(l[n]?).toList
abbrev GP (l:List Ag):List Ag:=EJ l l.length
theorem Qf (l:List Ag): ∀n,(EJ l n).length≤n
 |0=>Nat.le_refl _
 |n+1=>by
  have ih:=Qf l n
  unfold EJ
  split
  ·omega
  ·rw[List.length_append]
   have:(l[n]?).toList.length≤1:=by cases l[n]? <;>simp
   omega
theorem KL {l:List Ag} {n:Nat} (h0:0<n) (h:l[n]? =l[n-1]?):EJ l (n+1)=EJ l n:=by
 show(if 0<n∧l[n]? =l[n-1]? then EJ l n else _)=_
 rw[if_pos ⟨h0,h⟩]
theorem MP {l:List Ag} {n:Nat} (hn:n<l.length) (h: ¬(0<n∧l[n]? =l[n-1]?)):EJ l (n+1)=EJ l n++[l[n]]:=by
 show(if 0<n∧l[n]? =l[n-1]? then _ else EJ l n++(l[n]?).toList)=_
 rw[if_neg h,List.getElem?_eq_getElem hn];rfl
theorem QE (l:List Ag):EJ l 1=l.take 1:=by
 cases l with
 |nil=>rfl
 |cons x l=>rfl
theorem Ox {l:List Ag} (hs:SrC l): ∀n,n≤l.length→(EJ l n).Pairwise AG∧(∀x,x∈EJ l n↔x∈l.take n)
 |0,_=>⟨List.Pairwise.nil,fun x=>by simp[EJ]⟩
 |n+1,hn=>by
  obtain⟨a,b⟩:=Ox hs n (by omega)
  have hn':n<l.length:=hn
  have et:l.take (n+1)=l.take n++[l[n]]:=by rw[List.take_add_one,List.getElem?_eq_getElem hn'];rfl
  by_cases h:0<n∧l[n]? =l[n-1]?
  ·rw[KL h.1 h.2]
   refine⟨a,fun x=> ?_⟩
   rw[b,et,List.mem_append,List.mem_singleton]
   refine⟨.inl,fun h2=> ?_⟩
   rcases h2 with h2|rfl
   ·exact h2
   ·have e:l[n]=l[n-1]'(by omega):=by
     have:=h.2
     rw[List.getElem?_eq_getElem hn',List.getElem?_eq_getElem (by omega)] at this
     exact Option.some.inj this
    rw[e]
    exact List.mem_iff_getElem.2 ⟨n-1,by rw[List.length_take];omega,by rw[List.getElem_take]⟩
  ·rw[MP hn' h]
   refine⟨List.pairwise_append.2 ⟨a,List.pairwise_cons.2 ⟨fun _ h=>absurd h List.not_mem_nil,List.Pairwise.nil⟩,fun x hx y hy=> ?_⟩,fun x=> ?_⟩
   ·obtain rfl:=List.mem_singleton.1 hy
    obtain⟨i,hi,rfl⟩:=List.mem_iff_getElem.1 ((b x).1 hx)
    rw[List.length_take] at hi
    rw[List.getElem_take]
    have hp:=List.pairwise_iff_getElem.1 hs
    have h1:=hp i n (by omega) hn' (by omega)
    rcases Dq l[i] l[n] with d|d|d
    ·exact d
    ·exfalso
     refine h ⟨by omega, ?_⟩
     rw[List.getElem?_eq_getElem hn',List.getElem?_eq_getElem (show n-1<l.length by omega)]
     congr 1
     by_cases ei:i=n-1
     ·subst ei;exact d.symm
     ·have h2:=hp i (n-1) (by omega) (by omega) (by omega)
      have h3:=hp (n-1) n (by omega) hn' (by omega)
      rw[d] at h2
      rcases Dq l[n] (l[n-1]'(by omega)) with d2|d2|d2
      ·exact absurd d2 h3
      ·exact d2
      ·exact absurd d2 h2
    ·exact absurd d h1
   ·rw[et,List.mem_append,List.mem_append,b]
theorem OE {l:List Ag} (hs:SrC l):(GP l).Pairwise AG∧ ∀x,x∈GP l↔x∈l:=by
 have:=Ox hs l.length (Nat.le_refl _)
 rw[List.take_length] at this
 exact this
theorem JW {x y:Ag}:decide (Ad x.1=Ad y.1∧Ad x.2=Ad y.2)=decide (x=y):=decide_eq_decide.2 ⟨fun h=>Prod.ext (Ij.1 h.1) (Ij.1 h.2),fun h=>by rw[h];exact⟨rfl,rfl⟩⟩
theorem Nt {W0 W:World} {bxs:List Bx} (hp:Hp W0 bxs W) (k:Nat) {g:Nat} {l:List Ag} {junk:List Value} (hk:nth bxs k=some (Br g l junk)) {i:Nat} (hi:i<l.length):Ak W g (0+i*2) [str (Ad l[i].1),str (Ad l[i].2)]:=by
 obtain⟨g',off',e,h⟩:=(Cs.of_row (Ak.of_bx hp k hk rfl)).at_ hi
 cases e
 exact h i hi
theorem Tv: ∀m,Dr (Cw (Value.agg #[str [],str []]).cells.toList m)=true
 |0=>rfl
 |m+1=>by
  have ih:=Tv m
  show Dr (str []::str []::Cw _ m)=true
  exact ih
theorem TH (m:Nat):(Cw (Value.agg #[str [],str []]).cells.toList m).length=m*2:=Fg _ m
theorem QZ (W:World) (g cap:Nat) (l:List Ag) (junk:List Value) (hn:l.length≤100000) (hcap:l.length≤cap) (hg:W.heap[g]? =some (.cells (ptC l++junk).toArray 35 (0,0))):
  Calls Tryz.prog 75 #[.slice (some ⟨g,0,none⟩) l.length cap] W fun e W'=> ∃x:List Value,e= .returned ((fun _=> .slice (some ⟨g,0,none⟩) (GP l).length cap) x)∧True∧JP W W' g ((fun _=>g) x) ((fun x=> .cells (ptC (GP l)++x).toArray 35 (0,0)) x):=by
 have key:Calls Tryz.prog 75 [.slice (some ⟨g,0,none⟩) l.length cap].toArray W fun e W'=> ∃x:List Value,e= .returned ((fun _=> .slice (some ⟨g,0,none⟩) (GP l).length cap) x)∧(fun _=>True) x∧Below (Bb W).heap.size (Bb W) W'∧Ar (Bb W) W' ((fun x=>[AT (Aw W g),Br g (GP l) x]) x):=by
  refine Ck (X:=List Value) (val:=fun _=> .slice (some ⟨g,0,none⟩) (GP l).length cap) (Φ:=fun _=>True) (nb:=fun x=>[AT (Aw W g),Br g (GP l) x]) (Hp.enterT (B:=Br g l junk) I hg) Tryz.func75 I I I ?_
  refine zA (zB (wP I (Aa (zE (zA (zA (zB (wP I (wP I (wP I ?_))))))))))
  by_cases hlt:l.length<2
  ·have e:GP l=l:=by
    rcases(show l.length=0∨l.length=1 by omega) with e|e
    ·rw[GP,e,List.length_eq_zero_iff.1 e];rfl
    ·rw[GP,e,QE,List.take_of_length_le (by omega)]
   refine wU 8 true I (dT (by omega)) (Aa (zE (zR I (zA (zB (wP I (wP I (Aa (zE (zO (zP ?_)))))))))))
   rw[e]
   exact Az tH I (.tmp I) junk I tO fun W1 hp=>(hp.pick (l:=[AT (Aw W g),Br g l junk]) [0,1] (by decide) I).own
  refine wU 8 false I (dF (by omega)) (Aa (zE (zS I (zI (zE (zA (zA (zB (wP I (Aa (zE (zH ?_))))))))))))
  refine A8 (X:=Nat) (fun i=>[(0, .slice (some ⟨g,0,none⟩) l.length cap),(3, .int .i64 (i:Nat))]) (fun _=>[AT (Aw W g),Br g l junk]) (fun i=>1≤i∧i≤l.length∧EJ l i=l.take i) (fun i=>l.length-i) 1 ⟨Nat.le_refl _,by omega,QE l⟩ ⟨I,I,tO⟩ [] I ?_
  rintro i ⟨hi1,hi2,hc⟩
  have hi1:1≤i:=hi1
  have hi2:i≤l.length:=hi2
  have hc:EJ l i=l.take i:=hc
  refine zA (zA (zB (wP I (wP I (wP I (wP I ?_))))))
  by_cases hi:i<l.length
  rotate_left
  ·obtain rfl:i=l.length:=by omega
   have e:GP l=l:=by rw[GP,hc,List.take_length]
   refine wU 13 false I (dF (by omega)) (Aa (zE (zS I (zJ (zK (zK (zL (zE (zA (zB (wP I (wP I (Aa ?_)))))))))))))
   refine zE (zO ?_)
   rw[e]
   exact Az tH I (.tmp I) junk I tO fun W1 hp=>(hp.pick (l:=[AT (Aw W g),Br g l junk]) [0,1] (by decide) I).own
  refine wU 13 true I (dT (by omega)) (Aa (zE (zR I (zI (zE (zA (zH (zA (zU ?_)))))))))
  have hm:i-1<l.length:=by omega
  obtain⟨x,hx⟩: ∃x,x=l[i]:=⟨_,rfl⟩
  obtain⟨y,hy⟩: ∃y,y=l[i-1]:=⟨_,rfl⟩
  have ex:l[i]? =some x:=by rw[List.getElem?_eq_getElem hi,hx]
  have ey:l[i-1]? =some y:=by rw[List.getElem?_eq_getElem hm,hy]
  have rx: ∀ {W1:World},Hp (Bb W) [AT (Aw W g),Br g l junk] W1→Ak W1 g (0+i*2) [str (Ad x.1),str (Ad x.2)]:=fun hp=>by rw[hx];exact Nt hp 1 rfl hi
  have ry: ∀ {W1:World},Hp (Bb W) [AT (Aw W g),Br g l junk] W1→Ak W1 g (0+(i-1)*2) [str (Ad y.1),str (Ad y.2)]:=fun hp=>by rw[hy];exact Nt hp 1 rfl hm
  refine qP I (qP I ?_)
  refine qJ ?_
  refine qL 0 I I (fun W1 hp=>rx hp) I (qP I (qP I (qP I (qV 22 ((i-1:Nat):Int) I (show w64 ((i:Int)-1)=_ by rw[Au (by omega) (by omega)];omega) ?_))))
  refine qJ ?_
  refine qL 0 I I (fun W1 hp=>ry hp) I ?_
  refine Pq (Ad x.1) (Ad x.2) (Ad y.1) (Ad y.2) I I I I I ?_
  refine qU 25 (decide (x=y)) I JW (AQ (Aa (zE ?_)))
  refine A0 I (fun hxy=> ?_) (fun hxy=> ?_)
  rotate_left
  ·have hne:x≠y:=of_decide_eq_false hxy
   refine zI (zN (zE (zB (wP I (wP I (wV 15 ((i+1:Nat):Int) I (As (by omega)) (wP I (Aa ?_))))))))
   exact Ay (i+1) ⟨by omega,hi,by
    rw[MP hi (fun h=>hne (by rw[ex,ey] at h;exact Option.some.inj h.2)),hc,List.take_add_one,List.getElem?_eq_getElem hi];rfl⟩ (by show l.length-(i+1)<l.length-i;omega) ⟨rfl,rfl,trivial⟩ [] rfl
  have hxe:x=y:=of_decide_eq_true hxy
  have hsame:EJ l (i+1)=l.take i:=by rw[KL (by omega) (by rw[ex,ey,hxe]),hc]
  refine zA (zB (wP I (wP I ?_)))
  refine Ct i tH I I I I I I I I (by omega) hcap ?_
  refine Aj 28 (.slice (some ⟨g,0+i*2,none⟩) (l.length-i) (cap-i)) I (by rw[if_neg (by omega)]) ?_
  refine wP I (Aa (zE (zA (zA (zB (wP I (Aa (zE (zH ?_)))))))))
  refine A8 (X:=Nat) (fun k=>[(0, .slice (some ⟨g,0,none⟩) l.length cap),(3, .int .i64 ((EJ l (i+k)).length:Nat)),(4, .slice (some ⟨g,0+i*2,none⟩) (l.length-i) (cap-i)),(5, .int .i64 (k:Nat))]) (fun k=>[AT (Aw W g),Br g (EJ l (i+k)++l.drop (EJ l (i+k)).length) junk])
   (fun k=>1≤k∧i+k≤l.length∧1≤(EJ l (i+k)).length∧(EJ l (i+k)).length+1≤i+k) (fun k=>l.length-i-k) 1 ⟨Nat.le_refl _,hi,by rw[hsame,List.length_take];omega,by rw[hsame,List.length_take];omega⟩ ⟨rfl,by rw[hsame,List.length_take,Nat.min_eq_left (by omega)];rfl,rfl,rfl,trivial⟩ [] (by rw[hsame,List.length_take,Nat.min_eq_left (by omega),List.take_append_drop];rfl) ?_
  rintro k ⟨hk1,hk2,hk3,hk4⟩
  have hk1:1≤k:=hk1
  have hk2:i+k≤l.length:=hk2
  have hk3:1≤(EJ l (i+k)).length:=hk3
  have hk4:(EJ l (i+k)).length+1≤i+k:=hk4
  obtain⟨C,hC⟩: ∃C,C=EJ l (i+k):=⟨_,rfl⟩
  rw[←hC] at hk3 hk4
  rw[←hC]
  have hlen:(C++l.drop C.length).length=l.length:=by rw[List.length_append,List.length_drop];omega
  refine zA (zA (zB (wP I (wP I (wP I (wP I ?_))))))
  by_cases hlk:k<l.length-i
  ·refine wU 32 true I (dT (by omega)) (Aa (zE (zR I (zI (zE (zA (zH (zA (zU ?_)))))))))
   have old: ∀j (hj:j<l.length),C.length≤j→(C++l.drop C.length)[j]'(by rw[hlen];exact hj)=l[j]:=fun j hj h=>by
    rw[List.getElem_append_right h,List.getElem_drop]
    congr 1;omega
   have h1:i+k<l.length:=by omega
   have h2:i+k-1<l.length:=by omega
   obtain⟨u,hu⟩: ∃u,u=l[i+k]:=⟨_,rfl⟩
   obtain⟨v,hv⟩: ∃v,v=l[i+k-1]:=⟨_,rfl⟩
   have eu:l[i+k]? =some u:=by rw[List.getElem?_eq_getElem h1,hu]
   have ev:l[i+k-1]? =some v:=by rw[List.getElem?_eq_getElem h2,hv]
   have ru: ∀ {W1:World},Hp (Bb W) [AT (Aw W g),Br g (C++l.drop C.length) junk] W1→Ak W1 g (0+i*2+k*2) [str (Ad u.1),str (Ad u.2)]:=fun hp=>by
    have:=Nt hp 1 rfl (i:=i+k) (by rw[hlen];exact h1)
    rw[old _ h1 (by omega), ←hu] at this
    rwa [show 0+i*2+k*2=0+(i+k)*2 by omega]
   have rv: ∀ {W1:World},Hp (Bb W) [AT (Aw W g),Br g (C++l.drop C.length) junk] W1→Ak W1 g (0+i*2+(k-1)*2) [str (Ad v.1),str (Ad v.2)]:=fun hp=>by
    have:=Nt hp 1 rfl (i:=i+k-1) (by rw[hlen];exact h2)
    rw[old _ h2 (by omega), ←hv] at this
    rwa [show 0+i*2+(k-1)*2=0+(i+k-1)*2 by omega]
   refine qP I (qP I ?_)
   refine qJ ?_
   refine qL 0 I I (fun W1 hp=>ru hp) I (qP I (qP I (qP I (qV 41 ((k-1:Nat):Int) I (show w64 ((k:Int)-1)=_ by rw[Au (by omega) (by omega)];omega) ?_))))
   refine qJ ?_
   refine qL 0 I I (fun W1 hp=>rv hp) I ?_
   refine P0 (Ad u.1) (Ad u.2) (Ad v.1) (Ad v.2) I I I I I ?_
   refine CU 44 (.bool (!decide (u=v))) I (congrArg (fun b=>Value.bool (!b)) JW) ?_
   refine AQ (Aa (zE ?_))
   refine A0 I (fun huv=> ?_) (fun huv=> ?_)
   ·have hne:u≠v:=fun e=>by rw[e,dT rfl] at huv;cases huv
    have hnew:EJ l (i+(k+1))=C++[u]:=by
     rw[show i+(k+1)=i+k+1 by omega,MP h1 (fun h=>hne (by rw[eu,ev] at h;exact Option.some.inj h.2)), ←hC,hu]
    have hd:l.drop C.length=l[C.length]'(by omega)::l.drop (C.length+1):=List.drop_eq_getElem_cons (by omega)
    have hs1:BK (ptC (C++l.drop C.length)++junk) (0+C.length*2) (cvV u).cells.toList=ptC (C++[u]++l.drop (C++[u]).length)++junk:=by
     rw[hd,Cr,List.append_assoc,show 0+C.length*2=(ptC C).length+0 by rw[AI];omega,Ey]
     simp only[List.length_append,List.length_cons,List.length_nil,Nat.zero_add,Cr,List.append_assoc]
     rfl
    have hs2:0+C.length*2+2≤(ptC (C++l.drop C.length)++junk).length:=by rw[List.length_append,AI,hlen];omega
    refine zA (zB (wP I (wP I (wP I (wP I ?_)))))
    refine wJ ?_
    refine wL 0 I I (fun W1 hp=>ru hp) I ?_
    refine wJ ?_
    refine A4 1 _ tH I I I I I I I I I I hs2 hs1 ?_
    refine Aa (zE (zB (wP I (wP I (wV 53 ((C.length+1:Nat):Int) I (As (by omega)) (wP I (Aa (zN (zE (zB (wP I (wP I (wV 34 ((k+1:Nat):Int) I (As (by omega)) ?_)))))))))))))
    exact wP I (Aa (Ay (k+1) ⟨by omega,by omega,by rw[hnew,List.length_append];omega,by rw[hnew,List.length_append,List.length_singleton];omega⟩ (by show l.length-i-(k+1)<l.length-i-k;omega) ⟨I,by rw[hnew,List.length_append];rfl,I,I,tO⟩ [] (by rw[hnew];rfl)))
   ·have he:u=v:=by
     cases hd:decide (u=v) with
     |true=>exact of_decide_eq_true hd
     |false=>rw[hd] at huv;cases huv
    have hsm:EJ l (i+(k+1))=C:=by rw[show i+(k+1)=i+k+1 by omega,KL (by omega) (by rw[eu,ev,he]), ←hC]
    exact zI (zN (zE (zB (wP I (wP I (wV 34 ((k+1:Nat):Int) I (As (by omega)) (wP I (Aa (Ay (k+1) ⟨by omega,by omega,by rw[hsm];exact hk3,by rw[hsm];omega⟩ (by show l.length-i-(k+1)<l.length-i-k;omega) ⟨I,by rw[hsm];rfl,I,I,tO⟩ [] (by rw[hsm];rfl))))))))))
  have ek:i+k=l.length:=by omega
  rw[ek] at hC
  have hCC:GP l=C:=hC.symm
  refine wU 32 false I (dF (by omega)) (Aa (zE (zS I (zJ (zK (zK (zL (zE (zA (zB ?_))))))))))
  have hd1:(ptC (l.drop C.length)).length=(l.length-C.length)*2:=by rw[AI,List.length_drop]
  refine wP I (wP I ?_)
  refine Ct C.length tH I I I I I I I I (by omega) hcap ?_
  refine Aj 56 (.slice (some ⟨g,0+C.length*2,none⟩) (l.length-C.length) (cap-C.length)) I (by rw[if_neg (by omega)]) ?_
  refine VA 1 (e:=35) (z:= .agg #[str [],str []]) Tryz.underlying22 Tryz.zeroValue35 I I I I I I I I I (Tv _) (by rw[TH];show 0+C.length*2+_≤(ptC (C++l.drop C.length)++junk).length;rw[List.length_append,AI,hlen];omega) ?_
  refine Aa (zE (zA (zB (wP I (wP I ?_)))))
  refine B4 C.length tH I I I I I I I I (by omega) ?_
  refine wP I (Aa (zE (zO (zQ (zP (zP (zQ (zP ?_))))))))
  have hs3:BK (ptC (C++l.drop C.length)++junk) (0+C.length*2) (Cw (Value.agg #[str [],str []]).cells.toList (l.length-C.length))=ptC C++(Cw (Value.agg #[str [],str []]).cells.toList (l.length-C.length)++junk):=by
   rw[Cr,List.append_assoc,show 0+C.length*2=(ptC C).length by rw[AI];omega]
   exact Tf (ptC C) (ptC (l.drop C.length)) junk _ (by rw[hd1,TH])
  rw[hCC]
  exact Az tH I (.tmp I) (Cw (Value.agg #[str [],str []]).cells.toList (l.length-C.length)++junk) I tO fun W1 hp=>by
   rw[show[AT (Aw W g),Br g (C++l.drop C.length) junk].set 1 _=[AT (Aw W g),(⟨g,35,BK (ptC (C++l.drop C.length)++junk) (0+C.length*2) (Cw (Value.agg #[str [],str []]).cells.toList (l.length-C.length)),true,none⟩:Bx)] from rfl,hs3] at hp
   exact(hp.pick (l:=[AT (Aw W g),Br g C (Cw (Value.agg #[str [],str []]).cells.toList (l.length-C.length)++junk)]) [0,1] (by decide) I).own
 refine key.mono ?_
 rintro e W' ⟨x,he,_,hb,hn'⟩
 exact⟨x,he,tO,EX hg I hb hn'⟩
theorem Cs.cells {W:World} {p:Option Addr} {l:List Ag} (h:Cs W p l):Nm W p (ptC l):=by
 rcases h with rfl|⟨b,off,e,h⟩
 ·exact .inl I
 ·by_cases h0:l=[]
  ·exact .inl (by rw[h0];rfl)
  refine .inr ⟨b,off,e, ?_⟩
  have hpos:0<l.length:=List.length_pos_iff.2 h0
  refine⟨(h 0 hpos).lt,fun m u hu=> ?_⟩
  have hm:m<l.length*2:=by rw[←AI];exact(List.getElem?_eq_some_iff.1 hu).1
  have hi:m/2<l.length:=by omega
  have hr:=h (m/2) hi
  have hd:=Wc hi
  rw[hd,List.getElem?_append_right (by rw[AI,List.length_take];omega),AI,List.length_take,Nat.min_eq_left (by omega),List.getElem?_append_left (by show _<2;omega)] at hu
  have:=hr.get (m-m/2*2) u hu
  rwa [show off+m/2*2+(m-m/2*2)=off+m by omega] at this
theorem NO (W:World) (p:Option Addr) (cap:Nat) (l:List Ag) (hn:l.length≤100000) (hA:Cs W p l) (hne:l≠[]):
  Ai Tryz.prog 27 #[slv p l.length cap] W (fun V:Vec=>V.val l.length) (fun V=>V.OK 2 l.length (ptC l)∧V.p≠none) (fun V=>[V.bx 35 (ptC l)]):=by
 have hc:=hA.cells
 obtain⟨b,off,rfl,hR⟩: ∃b off,p=some ⟨b,off,none⟩∧Ak W b off (ptC l):=by
  rcases hc with h|h
  ·exfalso
   have h2:l.length*2=0:=by rw[←AI,h];rfl
   exact hne (List.length_eq_zero_iff.1 (by omega))
  ·exact h
 refine Ae (args:=[slv (some ⟨b,off,none⟩) l.length cap]) Tryz.func27 I I I ?_
 refine zA (zB (wP I (Aa (zE (zA (zA (zB (wP I ?_))))))))
 refine W4 tH I I I I I I I ?_
 refine zC (zE (zS I (zI (zE (zA (zB ?_))))))
 refine BV tH I I I I I ?_
 intro g
 refine wP I ?_
 refine Bv (len:=0) (V:=⟨some g,0,[]⟩) (xs:=[]) 0 Tryz.vec22 rfl rfl rfl rfl rfl rfl rfl rfl rfl ⟨rfl,(fun h=>by cases h),fun _=>⟨Nat.le_refl _,Nat.zero_le _,rfl⟩⟩ (AI l) (fun W hp j u hj=> ?_) (BY _) (by simp only[maxLen];omega) (by omega) ?_
 ·rw[Addr.add_none]
  exact((hR.hp hp).get j u hj)
 intro V hV hp0
 refine wP I (Aa (zE (zO ?_)))
 have e0:0+l.length=l.length:=Nat.zero_add _
 rw[e0,List.nil_append] at hV
 exact Az tH I (.tmp I) V (by rw[e0]) ⟨hV,fun h=>hne (List.length_eq_zero_iff.1 (hp0 h))⟩ fun W hp=>Ar.of_hp1 hp 0 I
-- BOXES 3
-- CODE2
abbrev Vm (ix:Nat→Nat) (P:Nat→Ag) (k:Nat):List Value:=[.int .i64 (ix k:Nat),cvV (P k)]
theorem SV (p:Option Addr) (n cap:Nat) (W:World):Ai Tryz.prog 78 #[slv p n cap] W (fun b:Nat=> .func (.func 139) #[] #[Ah b]) (fun _=>True) (fun b=>[⟨b,22,[slv p n cap],true,none⟩]):=by
 refine Ae (args:=[slv p n cap]) Tryz.func78 I I I ?_
 refine zA (zB ?_)
 (refine Ax rfl rfl rfl rfl ?_;intro)
 refine wP I (Aa ?_)
 rename_i b
 exact zE (zA (zB (wP I (wP I (Aa (zE (zO (Az tH I (.tmp I) b I tO fun W1 hp=>Ar.of_hp hp))))))))
theorem Rb (p:Option Addr) (n cap:Nat) (W:World):Ai Tryz.prog 79 #[slv p n cap] W (fun b:Nat=> .func (.func 140) #[] #[Ah b]) (fun _=>True) (fun b=>[⟨b,22,[slv p n cap],true,none⟩]):=by
 refine Ae (args:=[slv p n cap]) Tryz.func79 I I I ?_
 refine zA (zB ?_)
 (refine Ax rfl rfl rfl rfl ?_;intro)
 refine wP I (Aa ?_)
 rename_i b
 exact zE (zA (zB (wP I (wP I (Aa (zE (zO (Az tH I (.tmp I) b I tO fun W1 hp=>Ar.of_hp hp))))))))
theorem UP (l:List Ag) (b1:Nat) (p:Option Addr) (cap:Nat) (hn:l.length<1099511627776):Q8 Tryz.prog 139 [Ah b1] l.length (Vm (fun k=>k) (Ab l)) (fun _=>VZ b1 p cap l):=by
 refine⟨fun y J Jx hN hB hA hU hY W hJ=> ?_⟩
 have hp0:=(hN _ _ W hJ).1.pts
 refine EN (args:=[.func (.yield y) #[] #[],Ah b1]) (J0:=J 0 []) (Jm:=fun W=> ∃L,J l.length L W) Tryz.func139 I I I hJ ?_
 refine zA (zB (wL 0 I I (fun W hp=>(hN _ _ W hp).1.var) I (wP I (wP I (Aa (zE (zH ?_)))))))
 refine E9 (X:=Nat×List (Nat×Obj)) (fun s=>[(0, .func (.yield y) #[] #[]),(1,Ah b1),(5,slv p l.length cap),(6, .int .i64 (l.length:Nat)),(7, .int .i64 (s.1:Nat))]) (fun s W=>J s.1 s.2 W)
  (fun s=>s.1≤l.length) (fun s=>l.length-s.1) (0,[]) (Nat.zero_le _) ⟨rfl,rfl,rfl,rfl,rfl,trivial⟩ (fun W hp=>hp) ?_
 rintro⟨i,L⟩ hi
 have hi:i≤l.length:=hi
 refine zA (zB (wP I ?_))
 by_cases hlt:i<l.length
 rotate_left
 ·refine wU 8 false I (dF (by omega)) (Aa (zE (zA (zS I (zJ (zK (zK (zL ?_))))))))
  exact I5 I fun W hp=>⟨L,by
   have e:i=l.length:=by omega
   have hp:J i L W:=hp
   rw[e] at hp
   exact hp⟩
 refine wU 8 true I (dT (by omega)) (Aa (zE (zA (zR I (zI (zE (zA (zH (zA (zB ?_))))))))))
 obtain⟨g,off,hpe,hrow⟩: ∃g off,p=some ⟨g,off,none⟩∧ ∀W k L,J k L W→ ∀j,j<l.length→Ak W g (off+j*2) [str (Ad (Ab l j).1),str (Ad (Ab l j).2)]:=by
  obtain⟨g,off,e,_⟩:=hp0.at_ hlt
  refine⟨g,off,e,fun W1 k L1 h1 j hj=> ?_⟩
  obtain⟨g',off',e',h2⟩:=(hN _ _ W1 h1).1.pts.at_ hj
  rw[e] at e'
  cases e'
  rw[AE hj]
  exact h2 j hj
 subst hpe
 refine wP I ?_
 refine wJ ?_
 refine wL 0 I I (fun W hp=>hrow W _ _ hp i hlt) I ?_
 refine On (fun b W=>J i [(b, .cells (Value.agg #[str [],str []]).cells 35 (0,0))] W) I I I (Tryz.hZ.get I) (fun W W' b hp hb hl ho=>hA _ _ W W' b _ hp hb hl ho) fun b=> ?_
 refine wP I ?_
 refine OH (cs:=[str [],str []]) (ty:=35) (fun W=>J i (NN b (Ab l i)) W) tH I I I I I I (fun W hp=>(hN _ _ W hp).2 (b,_) (List.mem_cons_self ..)) I I I (fun W W' hp hu=>hU _ _ _ _ W W' hp hu) ?_
 refine Aa (zE (zA (zB (wP I (wP I (wL 0 I I (fun W hp=>show Ak W b 0 (cvV (Ab l i)).cells.toList from Ak.of_block ((hN _ _ W hp).2 (b,_) (List.mem_cons_self ..))) I ?_))))))
 have hYk: ∀W,J i (NN b (Ab l i)) W→YieldAt (Fw none) 0 Tryz.prog y (Vm (fun k=>k) (Ab l) i).toArray W fun e W'=>(e= .returned (.bool true)∧J (i+1) (NN b (Ab l i)) W')∨(e= .returned (.bool false)∧Jx W'):=fun W h=>hY _ _ W hlt h
 refine GW (A1:=fun W=>J (i+1) (NN b (Ab l i)) W) (A2:=Jx) I I I I I I hYk ?_ ?_
 rotate_left
 ·exact wP I (Aa (zE (zR I (zO (zQ (zP (zP (zQ (DD I (fun W h=>h))))))))))
 exact wP I (Aa (zE (zS I (zI (zN (zE (zB (wP I (wV 17 ((i+1:Nat):Int) I (As (by omega)) (wP I (Aa (E5 (i+1,NN b (Ab l i)) hlt (by show l.length-(i+1)<l.length-i;omega) ⟨I,I,I,I,I,tO⟩ (fun W hp=>hp)))))))))))))
theorem Tm (l:List Ag) (b1:Nat) (p:Option Addr) (cap:Nat) (hn:l.length<1099511627776):Q8 Tryz.prog 140 [Ah b1] l.length (Vm (fun k=>l.length-1-k) (fun k=>Ab l (l.length-1-k))) (fun _=>VZ b1 p cap l):=by
 refine⟨fun y J Jx hN hB hA hU hY W hJ=> ?_⟩
 have hp0:=(hN _ _ W hJ).1.pts
 refine EN (args:=[.func (.yield y) #[] #[],Ah b1]) (J0:=J 0 []) (Jm:=fun W=> ∃L,J l.length L W) Tryz.func140 I I I hJ ?_
 refine zA (zB (wL 0 I I (fun W hp=>(hN _ _ W hp).1.var) I (wP I (wP I (wV 6 ((l.length:Int)-1-(0:Nat)) I (show w64 ((l.length:Int)-1)=_ by rw[Au (by omega) (by omega)];omega) (wP I (Aa (zE (zH ?_)))))))))
 refine E9 (X:=Nat) (fun k=>[(0, .func (.yield y) #[] #[]),(1,Ah b1),(3, .int .i64 ((l.length:Int)-1-(k:Nat)))]) (fun k W=>J k [] W)
  (fun k=>k≤l.length) (fun k=>l.length-k) 0 (Nat.zero_le _) ⟨rfl,rfl,rfl,trivial⟩ (fun W hp=>hp) ?_
 intro k hk
 have hk:k≤l.length:=hk
 refine zA (zA (zB (wP I (wP I ?_))))
 by_cases hlt:k<l.length
 rotate_left
 ·refine wU 8 false I (dF (by omega)) (Aa (zE (zS I (zJ (zK (zK (zL ?_)))))))
  exact I5 I fun W hp=>⟨[],by
   have e:k=l.length:=by omega
   have hp:J k [] W:=hp
   rw[e] at hp
   exact hp⟩
 refine wU 8 true I (dT (by omega)) (Aa (zE (zR I (zI (zE (zA (zH (zA (zB ?_)))))))))
 obtain⟨g,off,hpe,hrow⟩: ∃g off,p=some ⟨g,off,none⟩∧ ∀W k L,J k L W→ ∀j,j<l.length→Ak W g (off+j*2) [str (Ad (Ab l j).1),str (Ad (Ab l j).2)]:=by
  obtain⟨g,off,e,_⟩:=hp0.at_ hlt
  refine⟨g,off,e,fun W1 k L1 h1 j hj=> ?_⟩
  obtain⟨g',off',e',h2⟩:=(hN _ _ W1 h1).1.pts.at_ hj
  rw[e] at e'
  cases e'
  rw[AE hj]
  exact h2 j hj
 subst hpe
 have ej:(l.length:Int)-1-(k:Nat)=((l.length-1-k:Nat):Int):=by omega
 have hj:l.length-1-k<l.length:=by omega
 refine wP I (wP I (wV 12 ((l.length-1-k:Nat):Int) I ej (wL 0 I I (fun W hp=>(hN _ _ W hp).1.var) I (wP I (wV 14 ((l.length-1-k:Nat):Int) I ej ?_)))))
 refine wJ ?_
 refine wL 0 I I (fun W hp=>hrow W _ _ hp (l.length-1-k) hj) I ?_
 have hYk: ∀W,J k [] W→YieldAt (Fw none) 0 Tryz.prog y (Vm (fun k=>l.length-1-k) (fun k=>Ab l (l.length-1-k)) k).toArray W fun e W'=>(e= .returned (.bool true)∧J (k+1) [] W')∨(e= .returned (.bool false)∧Jx W'):=fun W h=>hY _ _ W hlt h
 refine GW (A1:=fun W=>J (k+1) [] W) (A2:=Jx) I I I I I I hYk ?_ ?_
 rotate_left
 ·exact wP I (Aa (zE (zR I (zO (zQ (zP (zP (zQ (DD I (fun W h=>h))))))))))
 exact wP I (Aa (zE (zS I (zI (zN (zE (zB (wP I (wP I (wV 10 ((l.length:Int)-1-((k+1:Nat):Int)) I (show w64 ((l.length:Int)-1-(k:Nat)-1)=_ by rw[Au (by omega) (by omega)];omega) (wP I (Aa (E5 (k+1) hlt (by show l.length-(k+1)<l.length-k;omega) ⟨I,I,I,tO⟩ (fun W hp=>hp))))))))))))))
-- BOXES 6
-- CODE2
def Dv (P:Nat→Ag):Nat→List Ag
 |0=>[]
 |k+1=>P k::BF (P k) (Dv P k)
theorem Jl (p:Ag):BF p []=[]:=by simp[BF]
theorem Ju (p b:Ag):BF p [b]=[b]:=by simp[BF]
theorem Je {p a b:Ag} {t:List Ag} (h:A3 a b p≤0):BF p (b::a::t)=BF p (a::t):=by rw[BF,if_pos h]
theorem Ik {p a b:Ag} {t:List Ag} (h: ¬A3 a b p≤0):BF p (b::a::t)=b::a::t:=by rw[BF,if_neg h]
theorem Jr (p:Ag): ∀r,(BF p r).length≤r.length
 |[]=>by rw[Jl];exact Nat.le_refl _
 |[b]=>by rw[Ju];exact Nat.le_refl _
 |b::a::t=>by
  by_cases h:A3 a b p≤0
  ·rw[Je h]
   have:=Jr p (a::t)
   simp only[List.length_cons] at this⊢
   omega
  ·rw[Ik h];exact Nat.le_refl _
theorem M4 {p x:Ag}: ∀ {r:List Ag},x∈BF p r→x∈r
 |[],h=>by rwa [Jl] at h
 |[b],h=>by rwa [Ju] at h
 |b::a::t,h=>by
  by_cases c:A3 a b p≤0
  ·rw[Je c] at h
   exact List.mem_cons_of_mem _ (M4 h)
  ·rwa [Ik c] at h
theorem Gh (P:Nat→Ag): ∀k,(Dv P k).length≤k
 |0=>Nat.le_refl _
 |k+1=>by
  have h1:=Gh P k
  have h2:=Jr (P k) (Dv P k)
  show(BF (P k) (Dv P k)).length+1≤k+1
  omega
theorem QQ {P:Nat→Ag} {x:Ag}: ∀ {k:Nat},x∈Dv P k→ ∃i,i<k∧x=P i
 |0,h=>absurd h List.not_mem_nil
 |k+1,h=>by
  rcases List.mem_cons.1 h with rfl|h
  ·exact⟨k,by omega,I⟩
  ·obtain⟨i,hi,e⟩:=QQ (M4 h)
   exact⟨i,by omega,e⟩
theorem O9 (l:List Ag): ∀(P:Nat→Ag),(∀i (h:i<l.length),P i=l[i])→Dv P l.length=Ap l:=by
 have key: ∀(m:List Ag) (r:List Ag) (P:Nat→Ag) (j:Nat),Dv P j=r→(∀i (h:i<m.length),P (j+i)=m[i])→Dv P (j+m.length)=m.foldl (fun r p=>p::BF p r) r:=by
  intro m
  induction m with
  |nil=>exact fun r P j h _=>h
  |cons x m ih=>
   intro r P j h hP
   have e0:P j=x:=hP 0 (by simp)
   rw[List.length_cons,show j+(m.length+1)=j+1+m.length by omega]
   rw[List.foldl_cons]
   refine ih _ P (j+1) ?_ fun i hi=> ?_
   ·show P j::BF (P j) (Dv P j)=_
    rw[e0,h]
   ·have:=hP (i+1) (by rw[List.length_cons];omega)
    rw[show j+1+i=j+(i+1) by omega,this];rfl
 intro P hP
 have:=key l [] P 0 rfl (fun i h=>by rw[Nat.zero_add];exact hP i h)
 rwa [Nat.zero_add] at this
theorem Mk (l:List Ag):Dv (Ab l) l.length=Ap l:=O9 l _ fun _ h=>AE h
theorem Qj (l:List Ag):Dv (fun k=>Ab l (l.length-1-k)) l.length=Ap l.reverse:=by
 have:=O9 l.reverse (fun k=>Ab l (l.length-1-k)) fun i h=>by
  rw[List.length_reverse] at h
  show Ab l (l.length-1-i)=_
  rw[AE (by omega),List.getElem_reverse]
 rwa [List.length_reverse] at this
theorem XQ (p q r:Ag):decide (Ha p q r≤0)=decide (A3 p q r≤0):=by
 unfold Ha
 rw[TR]
 exact decide_eq_decide.2 (by unfold A3;constructor<;>intro h<;>grind)
abbrev KI (c:Nat) (x y z:Ag) (W:World):Prop:=Ai Tryz.prog 55 #[Ah c,cvV x,cvV y,cvV z] W (fun _:Unit=> .int .i64 (Ha x y z)) (fun _=>True) (fun _=>[])
theorem T3 (a b:Ag) (t:List Ag) (j:List Value):ptC (b::a::t).reverse++j=ptC t.reverse++([str (Ad a.1),str (Ad a.2)]++([str (Ad b.1),str (Ad b.2)]++j)):=by
 rw[List.reverse_cons,List.reverse_cons,Cr,Cr,List.append_assoc,List.append_assoc];rfl
theorem Uk (b:Ag) (t:List Ag) (j:List Value):ptC t.reverse++(ptC [b]++j)=ptC (b::t).reverse++j:=by
 rw[List.reverse_cons,Cr,List.append_assoc]
theorem TJ {g cap:Nat} {j:List Value} {b:Ag} {t:List Ag} (h:(⟨some g,cap,j⟩:Vec).OK 2 (b::t).length (ptC (b::t).reverse)):(⟨some g,cap,ptC [b]++j⟩:Vec).OK 2 t.length (ptC t.reverse):=by
 obtain⟨h1,h2,h3⟩:=h.cap (by simp)
 refine⟨by rw[AI,List.length_reverse],(fun e=>by cases e),fun _=>⟨?_,h2, ?_⟩⟩
 ·have h1:t.length+1≤cap:=h1
  show t.length≤cap
  omega
 ·rw[AI,List.length_reverse] at h3
  show(ptC t.reverse).length+(ptC [b]++j).length=cap*2
  have h3:(t.length+1)*2+j.length=cap*2:=h3
  rw[AI,List.length_reverse,List.length_append]
  show t.length*2+(2+j.length)=cap*2
  omega
theorem Lj (bk c gf:Nat) (lb:List Value) (hE:Bl Tryz.prog gf=true) (m:Nat) (ix:Nat→Nat) (P:Nat→Ag) (Need:Nat→World→Prop) (hI:Q8 Tryz.prog gf lb m (Vm ix P) Need) (h0:0<m) (hm:m≤4096) (W:World) (hk:Ak W bk 0 [Ah c])
  (hN: ∀k W1,Below W.heap.size W W1→Need k W1) (hL: ∀i j k,i<m→j<m→k<m→ ∀W1,Below W.heap.size W W1→KI c (P i) (P j) (P k) W1):
  Ai Tryz.prog 76 #[.func (.func gf) #[] lb.toArray,Ah bk] W (fun V:Vec=>V.val ((Dv P m).length-1)) (fun V=>V.OK 2 ((Dv P m).length-1) (ptC (Dv P m).tail.reverse)∧V.p≠none) (fun V=>[V.bx 35 (ptC (Dv P m).tail.reverse)]):=by
 obtain⟨S,hS⟩: ∃S,S=Dv P m:=⟨_,rfl⟩
 rw[←hS]
 refine Ae (args:=[.func (.func gf) #[] lb.toArray,Ah bk]) Tryz.func76 I I I ?_
 refine zA (zB (wP I (Aa (zE (zA (zB ?_))))))
 (refine Af Tryz.hZ rfl rfl rfl rfl ?_;intro)
 refine Aa ?_
 rename_i b4
 refine zE (zA (zA (zB (wP I (Aa (zE (zH ?_)))))))
 refine Ga ?_
 refine DH (X:=Nat×Vec) (fun x=>[lsB b4 (x.2.val (Dv P x.1).length),x.2.bx 35 (ptC (Dv P x.1).reverse)])
  (fun j x=>x.1=j∧x.2.OK 2 (Dv P x.1).length (ptC (Dv P x.1).reverse)) (fun _ _=>False) (0,Vec.empty) rfl hE hI (fun _=>rfl)
  ⟨rfl,Vec.OK.empty 2⟩ [] rfl (fun k x W1 _ hp=>hN k W1 hp.below) ?_ ?_ (fun _ _ _ _ _ h=>h.elim)
 ·rintro k ⟨k',O⟩ d l' rec L hk1 ⟨e1,hO⟩ hrec
  obtain rfl:k'=k:=e1
  have hk1:k'<m:=hk1
  have hO:O.OK 2 (Dv P k').length (ptC (Dv P k').reverse):=hO
  have hlen:=Gh P k'
  have hsu:Dv P (k'+1)=P k'::BF (P k') (Dv P k'):=rfl
  have hmem: ∀x∈Dv P k', ∃i,i<m∧x=P i:=fun x hx=>by
   obtain⟨i,hi,e⟩:=QQ hx
   exact⟨i,by omega,e⟩
  obtain⟨r1,hr1⟩: ∃r1,r1=BF (P k') (Dv P k'):=⟨_,rfl⟩
  have hlr:r1.length≤(Dv P k').length:=by rw[hr1];exact Jr _ _
  rw[←hr1] at hsu
  refine zB ?_
  (refine Af Tryz.hZ rfl rfl rfl rfl ?_;intro)
  refine wS 5 I I I (Aa ?_)
  rename_i b6
  refine CK 4 hrec I ?_
  refine B8 ?_
  refine Pm (X:=Vec) (fun _=>[(1,Ah bk),(4,Ah b4),(6,Ah b6)]) (fun O=>[AT L,lsB b4 (O.val r1.length),O.bx 35 (ptC r1.reverse),B6 d,Bi l' rec .busy none,ptB b6 (Ad (P k').1) (Ad (P k').2)]) (fun O=>O.OK 2 r1.length (ptC r1.reverse)) ?_ ?_
  ·refine zH ?_
   refine A8 (X:=List Ag×Vec) (fun _=>[(1,Ah bk),(4,Ah b4),(6,Ah b6)]) (fun s=>[AT L,lsB b4 (s.2.val s.1.length),s.2.bx 35 (ptC s.1.reverse),B6 d,Bi l' rec .busy none,ptB b6 (Ad (P k').1) (Ad (P k').2)])
    (fun s=>BF (P k') s.1=r1∧(∀x∈s.1,x∈Dv P k')∧s.1.length≤4096∧s.2.OK 2 s.1.length (ptC s.1.reverse)) (fun s=>s.1.length) (Dv P k',O) ⟨hr1.symm,fun _ h=>h,by show(Dv P k').length≤4096;omega,hO⟩ ⟨rfl,rfl,rfl,trivial⟩ [] rfl ?_
   rintro⟨r,⟨pO,cO,jO⟩⟩ ⟨i1,i2,i3,i4⟩
   have i1:BF (P k') r=r1:=i1
   have i2: ∀x∈r,x∈Dv P k':=i2
   have i3:r.length≤4096:=i3
   have i4:(⟨pO,cO,jO⟩:Vec).OK 2 r.length (ptC r.reverse):=i4
   rcases r with _|⟨b,_|⟨a,t⟩⟩
   ·obtain rfl:r1=[]:=by rw[←i1,Jl]
    cases pO with
    |none=>
     refine zA (zA (zU (qB 1 I I I (qP I (qP I ?_)))))
     refine CU 12 (.bool false) I I ?_
     refine qP I ?_
     iterate 16 refine F7 I I ?_
     exact qP I (AQ (Aa (zE (zS I (zJ (zK (zK (zL (An (⟨none,cO,jO⟩:Vec) i4 ⟨I,I,I,tO⟩ [] I)))))))))
    |some g=>
     refine zA (zA (zU (qB 1 I I I (qP I (qP I ?_)))))
     refine CU 12 (.bool false) I I ?_
     refine qP I ?_
     iterate 16 refine F7 I I ?_
     exact qP I (AQ (Aa (zE (zS I (zJ (zK (zK (zL (An (⟨some g,cO,jO⟩:Vec) i4 ⟨I,I,I,tO⟩ [] I)))))))))
   ·obtain rfl:r1=[b]:=by rw[←i1,Ju]
    cases pO with
    |none=>exact absurd (i4.nil rfl) (by simp)
    |some g=>
    refine zA (zA (zU (qB 1 I I I (qP I (qP I ?_)))))
    refine CU 12 (.bool false) I I ?_
    refine qP I ?_
    iterate 16 refine F7 I I ?_
    exact qP I (AQ (Aa (zE (zS I (zJ (zK (zK (zL (An (⟨some g,cO,jO⟩:Vec) i4 ⟨I,I,I,tO⟩ [] I)))))))))
   ·cases pO with
    |none=>exact absurd (i4.nil rfl) (by simp)
    |some g=>
    have i3:t.length+1+1≤4096:=i3
    have el:(b::a::t).length=t.length+2:=rfl
    obtain⟨ia,ha,ea⟩:=hmem a (i2 a (by simp))
    obtain⟨ib,hb,eb⟩:=hmem b (i2 b (by simp))
    have hleft: ∀W1,Below W.heap.size W W1→KI c a b (P k') W1:=fun W1 h=>by rw[ea,eb];exact hL ia ib k' ha hb hk1 W1 h
    have hA:(ptC t.reverse).length=t.length*2:=by rw[AI,List.length_reverse]
    refine zA (zA (zU (qB 1 I I I (qP I (qP I (qU 12 true I (dT (by rw[el];omega)) (qP I (qL 0 I I (fun W1 hp=>hk.hp hp) I (qB 1 I I I (qB 1 I I I (qP I (qP I (qV 18 ((t.length:Nat):Int) I (show w64 (((b::a::t).length:Int)-2)=_ by rw[el,Au (by omega) (by omega)];omega) ?_)))))))))))))
    refine qI I I (by omega) (by rw[el];omega) (qL 0 I I (fun W1 hp=>show Ak W1 g (0+t.length*2) [str (Ad a.1),str (Ad a.2)] from KC hp 2 (A:=ptC t.reverse) (C:=[str (Ad b.1),str (Ad b.2)]++jO) I (T3 a b t jO) (by rw[hA];omega)) I (qB 1 I I I (qB 1 I I I (qP I (qP I (qV 24 ((t.length+1:Nat):Int) I (show w64 (((b::a::t).length:Int)-1)=_ by rw[el,Au (by omega) (by omega)];omega) (qI I I (by omega) (by rw[el];omega) (qL 0 I I (fun W1 hp=>show Ak W1 g (0+(t.length+1)*2) [str (Ad b.1),str (Ad b.2)] from KC hp 2 (A:=ptC t.reverse++[str (Ad a.1),str (Ad a.2)]) (C:=jO) I ((T3 a b t jO).trans (by rw[List.append_assoc])) (by rw[List.length_append,hA];show 0+(t.length+1)*2=t.length*2+2;omega)) I (qB 5 I I I (qC I I (fun W1 hp=>hleft W1 hp.below) (qP I (qU 29 (decide (A3 a b (P k')≤0)) I (XQ a b (P k')) (qP I ?_)))))))))))))
    refine AQ (Aa (zE ?_))
    refine A0 I (fun hc=> ?_) (fun hc=> ?_)
    ·have hc':A3 a b (P k')≤0:=of_decide_eq_true hc
     refine zI (zE (zH (zB (wB 1 I I I (wB 1 I I I (wP I (wP I (wV 34 ((t.length+1:Nat):Int) I (show w64 (((b::a::t).length:Int)-1)=_ by rw[el,Au (by omega) (by omega)];omega) ?_))))))))
     refine B4 (t.length+1) tH I I I I I I I I (by have h2:t.length+2≤cO:=(i4.cap (by simp)).1;show t.length+1≤cO;omega) ?_
     refine wS 1 I I I (Aa (zN ?_))
     exact Ay (a::t,(⟨some g,cO,ptC [b]++jO⟩:Vec)) ⟨by rw[←i1,Je hc'],fun x hx=>i2 x (List.mem_cons_of_mem _ hx),by show t.length+1≤4096;omega,TJ i4⟩ (by show t.length+1<t.length+1+1;omega) ⟨I,I,I,tO⟩ []
      (by show _=[AT L,lsB b4 (.slice (some ⟨g,0,none⟩) (t.length+1) cO),(⟨g,35,ptC (a::t).reverse++(ptC [b]++jO),true,none⟩:Bx),B6 d,Bi l' rec .busy none,ptB b6 (Ad (P k').1) (Ad (P k').2)];rw[Uk];rfl)
    ·have hc': ¬A3 a b (P k')≤0:=of_decide_eq_false hc
     obtain rfl:r1=b::a::t:=by rw[←i1,Ik hc']
     exact zJ (zK (zK (zL (An (⟨some g,cO,jO⟩:Vec) i4 ⟨I,I,I,tO⟩ [] I))))
  ·intro O1 hO1
   have hO1:O1.OK 2 r1.length (ptC r1.reverse):=hO1
   refine zB (wB 1 I I I (wB 5 I I I ?_))
   refine AN Tryz.hZ tH I I I I I I I I I I I fun bS=> ?_
   refine BM (V:=O1) (len:=r1.length) (xs:=ptC r1.reverse) 2 6 Tryz.vec22 (r1.length+1) (ptC (P k'::r1).reverse) I I I I I I I I I I I hO1 I I I (by rw[List.reverse_cons,Cr];rfl) (by simp only[maxLen];omega) (by omega) I ?_
   intro gO cO jO hO2
   exact wS 1 I I I (Aa (zN (Co 4 (k'+1,(⟨some gO,cO,jO⟩:Vec)) hrec I ⟨I,by show(⟨some gO,cO,jO⟩:Vec).OK 2 (Dv P (k'+1)).length (ptC (Dv P (k'+1)).reverse);rw[hsu];exact hO2⟩ [_,_] (by rw[hsu];rfl))))
 ·rintro⟨k',⟨pO,cO,jO⟩⟩ d l' rec ⟨e1,hO⟩
  obtain rfl:k'=m:=e1
  have hO:(⟨pO,cO,jO⟩:Vec).OK 2 (Dv P k').length (ptC (Dv P k').reverse):=hO
  have hlen:=Gh P k'
  have hne:S≠[]:=by
   obtain⟨j,rfl⟩: ∃j,k'=j+1:=⟨k'-1,by omega⟩
   rw[hS]
   exact List.cons_ne_nil _ _
  rw[←hS] at hO hlen
  rw[←hS]
  clear hS
  obtain⟨b,t,rfl⟩: ∃b t,S=b::t:=by
   cases S with
   |nil=>exact absurd rfl hne
   |cons b t=>exact⟨b,t,rfl⟩
  cases pO with
  |none=>exact absurd (hO.nil rfl) (by simp)
  |some g=>
  have hlen:t.length+1≤k':=hlen
  have el:(b::t).length=t.length+1:=rfl
  refine zN (zE (zA (zB (wB 0 I I I (wB 0 I I I (wP I (wP I (wV 43 (t.length:Nat) I (show w64 (((b::t).length:Int)-1)=_ by rw[el,Au (by omega) (by omega)];omega) ?_))))))))
  refine B4 t.length tH I I I I I I I I (by have h2:t.length+1≤cO:=(hO.cap (by simp)).1;show t.length≤cO;omega) ?_
  refine wP I (Aa (zE (zO ?_)))
  refine Cl 2 I ?_
  exact Az tH I (.tmp I) (⟨some g,cO,ptC [b]++jO⟩:Vec) I ⟨TJ hO,by simp⟩ fun W1 hp=>by
   have h1:=hp.pick (l:=[(⟨g,35,ptC (b::t).reverse++jO,true,none⟩:Bx)]) [1] (by decide) rfl
   rw[←Uk] at h1
   exact Ar.of_hp h1
-- BOXES 5
theorem Qz (p q:Rat) (hp:okQ p) (hq:okQ q) (h0:q.num≠0) (hno: ¬AR p q) (W:World) (ht:AM W):
  Ai Tryz.prog 152 #[C1 p,C1 q] W (fun _:Unit=> .tuple #[str [], .int .i64 4]) (fun _=>True) (fun _=>[]):=by
 obtain⟨s,hs⟩:=FS p q hp hq hno
 refine Ae (args:=[C1 p,C1 q]) Tryz.func152 I I I ?_
 repeat (first|refine zA ?_|refine zB ?_|refine zC ?_|refine zD ?_|refine zE ?_|refine zF ?_|refine zG ?_|refine zH ?_|refine zI ?_|refine zJ ?_|refine zK ?_|refine zL ?_|refine zM rfl ?_|refine zN ?_|refine zO ?_|refine zP ?_|refine zQ ?_|refine zR rfl ?_|refine zS rfl ?_|refine zU ?_)
 (refine Ax rfl rfl rfl rfl ?_;intro)
 (refine Ax rfl rfl rfl rfl ?_;intro)
 refine wP I (wP I (Aa ?_))
 repeat (first|refine zA ?_|refine zB ?_|refine zC ?_|refine zD ?_|refine zE ?_|refine zF ?_|refine zG ?_|refine zH ?_|refine zI ?_|refine zJ ?_|refine zK ?_|refine zL ?_|refine zM rfl ?_|refine zN ?_|refine zO ?_|refine zP ?_|refine zQ ?_|refine zR rfl ?_|refine zS rfl ?_|refine zU ?_)
 refine wP I ?_
 (first|refine wB 0 rfl rfl rfl ?_|refine wB 1 rfl rfl rfl ?_|refine wB 2 rfl rfl rfl ?_|refine wB 3 rfl rfl rfl ?_|refine wB 4 rfl rfl rfl ?_)
 refine wP I (wU 11 false I ((Bj _ [48]).trans (dF fun e=>h0 (HO.1 e))) (Aa ?_))
 repeat (first|refine zA ?_|refine zB ?_|refine zC ?_|refine zD ?_|refine zE ?_|refine zF ?_|refine zG ?_|refine zH ?_|refine zI ?_|refine zJ ?_|refine zK ?_|refine zL ?_|refine zM rfl ?_|refine zN ?_|refine zO ?_|refine zP ?_|refine zQ ?_|refine zR rfl ?_|refine zS rfl ?_|refine zU ?_)
 (first|refine wB 0 rfl rfl rfl ?_|refine wB 1 rfl rfl rfl ?_|refine wB 2 rfl rfl rfl ?_|refine wB 3 rfl rfl rfl ?_|refine wB 4 rfl rfl rfl ?_)
 (first|refine wB 0 rfl rfl rfl ?_|refine wB 1 rfl rfl rfl ?_|refine wB 2 rfl rfl rfl ?_|refine wB 3 rfl rfl rfl ?_|refine wB 4 rfl rfl rfl ?_)
 refine wC I I (fun W h=>hs W (ht.hp h)) ?_
 iterate 7 refine wP I ?_
 refine Aa ?_
 repeat (first|refine zA ?_|refine zB ?_|refine zC ?_|refine zD ?_|refine zE ?_|refine zF ?_|refine zG ?_|refine zH ?_|refine zI ?_|refine zJ ?_|refine zK ?_|refine zL ?_|refine zM rfl ?_|refine zN ?_|refine zO ?_|refine zP ?_|refine zQ ?_|refine zR rfl ?_|refine zS rfl ?_|refine zU ?_)
 refine wP I (wP I (Aa ?_))
 repeat (first|refine zA ?_|refine zB ?_|refine zC ?_|refine zD ?_|refine zE ?_|refine zF ?_|refine zG ?_|refine zH ?_|refine zI ?_|refine zJ ?_|refine zK ?_|refine zL ?_|refine zM rfl ?_|refine zN ?_|refine zO ?_|refine zP ?_|refine zQ ?_|refine zR rfl ?_|refine zS rfl ?_|refine zU ?_)
 refine wP I (wP I (wP I (Aa ?_)))
 repeat (first|refine zA ?_|refine zB ?_|refine zC ?_|refine zD ?_|refine zE ?_|refine zF ?_|refine zG ?_|refine zH ?_|refine zI ?_|refine zJ ?_|refine zK ?_|refine zL ?_|refine zM rfl ?_|refine zN ?_|refine zO ?_|refine zP ?_|refine zQ ?_|refine zR rfl ?_|refine zS rfl ?_|refine zU ?_)
 exact wR2 I I I
theorem Rf (p q:Rat) (hp:okQ p) (hq:okQ q) (h0:q.num≠0) (W:World) (ht:AM W):
  Ai Tryz.prog 152 #[C1 p,C1 q] W (fun _:Unit=>opV (AR p q) (p/q)) (fun _=>True) (fun _=>[]):=by
 by_cases h:AR p q
 ·exact(M5 p q hp hq h.1 h.2 W ht).cast (by rw[Fs h,Nr,if_neg h0])
 ·exact(Qz p q hp hq h0 h W ht).cast (GA h).symm
theorem QA (p q:Rat) (hkp:okQ p) (hkq:okQ q) (h0:q.num≠0) (W0:World) (hv:BT W0) (ht:AM W0):
  Ai Tryz.prog 105 #[str (Ad p),str (Ad q)] W0 (fun _:Unit=>opV (AR p q) (p/q)) (fun _=>True) (fun _=>[]):=by
 obtain⟨rs,re,hr⟩:=Gy (AR p q) (p/q)
 have hlp:=Ba hkp
 have hlq:=Ba hkq
 have hboth: ∀W,BT W→AM W→Ai Tryz.prog 50 #[str (Ad p),str (Ad q), .func (.func 152) #[] #[]] W (fun _:Unit=> .tuple #[str rs, .int .i64 re]) (fun _=>True) (fun _=>[]):=
  fun W hv ht=>Db p q rs re 152 [] hkp hkq W hv ht (by kernel_rfl) (fun W' hb=>(Rf p q hkp hkq h0 W' (ht.below hb)).cast hr)
 refine Ae (args:=[str (Ad p),str (Ad q)]) Tryz.func105 I I I ?_
 repeat (first|refine zA ?_|refine zB ?_|refine zC ?_|refine zD ?_|refine zE ?_|refine zF ?_|refine zG ?_|refine zH ?_|refine zI ?_|refine zJ ?_|refine zK ?_|refine zL ?_|refine zM rfl ?_|refine zN ?_|refine zO ?_|refine zP ?_|refine zQ ?_|refine zR rfl ?_|refine zS rfl ?_|refine zU ?_)
 refine wP I (wP I (Aa ?_))
 repeat (first|refine zA ?_|refine zB ?_|refine zC ?_|refine zD ?_|refine zE ?_|refine zF ?_|refine zG ?_|refine zH ?_|refine zI ?_|refine zJ ?_|refine zK ?_|refine zL ?_|refine zM rfl ?_|refine zN ?_|refine zO ?_|refine zP ?_|refine zQ ?_|refine zR rfl ?_|refine zS rfl ?_|refine zU ?_)
 refine wP I (wP I (wU 9 true I (by show(!_)=true;rw[Bj,dF fun e=>h0 (Fp.1 e)];rfl) (Aa ?_)))
 repeat (first|refine zA ?_|refine zB ?_|refine zC ?_|refine zD ?_|refine zE ?_|refine zF ?_|refine zG ?_|refine zH ?_|refine zI ?_|refine zJ ?_|refine zK ?_|refine zL ?_|refine zM rfl ?_|refine zN ?_|refine zO ?_|refine zP ?_|refine zQ ?_|refine zR rfl ?_|refine zS rfl ?_|refine zU ?_)
 refine wP I (wP I ?_)
 have hquick: ∀W,AM W→Ai Tryz.prog 48 #[str (Ad p),str (Ad q), .func (.func 151) #[] #[]] W (fun _:Unit=>if smQ p∧smQ q then .tuple #[str (Ad (p/q)), .bool true] else .tuple #[str [], .bool false]) (fun _=>True) (fun _=>[]):=
  fun W ht=>Dc p q (p/q) (p.num*(q.den:Nat)) ((p.den:Nat)*q.num) _ (by kernel_rfl) (by omega) (by omega) (fun hp hq=>by
   have m1:=CO hp.1 (C8 q hq)
   have m3:=CO (C8 p hp) hq.1
   exact⟨Nc _ _ _ _ hp.1 (C8 p hp) hq.1 (C8 q hq),Int.mul_ne_zero (by have:=p.den_nz;omega) h0,by omega,by omega,Km p q h0⟩) W ht
 by_cases hs:smQ p∧smQ q
 ·refine wC I I (fun W h=>(hquick W (ht.hp h)).cast (if_pos hs)) ?_
  iterate 5 refine wP I ?_
  refine Aa ?_
  repeat (first|refine zA ?_|refine zB ?_|refine zC ?_|refine zD ?_|refine zE ?_|refine zF ?_|refine zG ?_|refine zH ?_|refine zI ?_|refine zJ ?_|refine zK ?_|refine zL ?_|refine zM rfl ?_|refine zN ?_|refine zO ?_|refine zP ?_|refine zQ ?_|refine zR rfl ?_|refine zS rfl ?_|refine zU ?_)
  refine wP I (Aa ?_)
  repeat (first|refine zA ?_|refine zB ?_|refine zC ?_|refine zD ?_|refine zE ?_|refine zF ?_|refine zG ?_|refine zH ?_|refine zI ?_|refine zJ ?_|refine zK ?_|refine zL ?_|refine zM rfl ?_|refine zN ?_|refine zO ?_|refine zP ?_|refine zQ ?_|refine zR rfl ?_|refine zS rfl ?_|refine zU ?_)
  refine wP I (wP I (wP I (Aa ?_)))
  repeat (first|refine zA ?_|refine zB ?_|refine zC ?_|refine zD ?_|refine zE ?_|refine zF ?_|refine zG ?_|refine zH ?_|refine zI ?_|refine zJ ?_|refine zK ?_|refine zL ?_|refine zM rfl ?_|refine zN ?_|refine zO ?_|refine zP ?_|refine zQ ?_|refine zR rfl ?_|refine zS rfl ?_|refine zU ?_)
  exact A7 tH I (.tmp I) (.tmp I) () (Fs (Mv hs).2.2.2).symm tO fun W _=>Ar.nil _ _
 ·refine wC I I (fun W h=>(hquick W (ht.hp h)).cast (if_neg hs)) ?_
  iterate 5 refine wP I ?_
  refine Aa ?_
  repeat (first|refine zA ?_|refine zB ?_|refine zC ?_|refine zD ?_|refine zE ?_|refine zF ?_|refine zG ?_|refine zH ?_|refine zI ?_|refine zJ ?_|refine zK ?_|refine zL ?_|refine zM rfl ?_|refine zN ?_|refine zO ?_|refine zP ?_|refine zQ ?_|refine zR rfl ?_|refine zS rfl ?_|refine zU ?_)
  refine wP I (Aa ?_)
  repeat (first|refine zA ?_|refine zB ?_|refine zC ?_|refine zD ?_|refine zE ?_|refine zF ?_|refine zG ?_|refine zH ?_|refine zI ?_|refine zJ ?_|refine zK ?_|refine zL ?_|refine zM rfl ?_|refine zN ?_|refine zO ?_|refine zP ?_|refine zQ ?_|refine zR rfl ?_|refine zS rfl ?_|refine zU ?_)
  refine wP I (wP I (wC I I (fun W hp=>hboth W (hv.hp hp) (ht.hp hp)) (wP I (wP I (wP I (wP I (Aa ?_)))))))
  repeat (first|refine zA ?_|refine zB ?_|refine zC ?_|refine zD ?_|refine zE ?_|refine zF ?_|refine zG ?_|refine zH ?_|refine zI ?_|refine zJ ?_|refine zK ?_|refine zL ?_|refine zM rfl ?_|refine zN ?_|refine zO ?_|refine zP ?_|refine zQ ?_|refine zR rfl ?_|refine zS rfl ?_|refine zU ?_)
  exact wR2 I I hr.symm
theorem LC (p q:Rat) (hkp:okQ p) (hkq:okQ q) (h:AR p q) (W0:World) (hv:BT W0) (ht:AM W0):
  Ai Tryz.prog 119 #[str (Ad p),str (Ad q)] W0 (fun _:Unit=> .tuple #[.int .i64 (G3 (p.num*(q.den:Nat)) (q.num*(p.den:Nat))), .int .i64 0]) (fun _=>True) (fun _=>[]):=by
 have hlp:=Ba hkp
 have hlq:=Ba hkq
 refine Ae (args:=[str (Ad p),str (Ad q)]) Tryz.func119 I I I ?_
 repeat (first|refine zA ?_|refine zB ?_|refine zC ?_|refine zD ?_|refine zE ?_|refine zF ?_|refine zG ?_|refine zH ?_|refine zI ?_|refine zJ ?_|refine zK ?_|refine zL ?_|refine zM rfl ?_|refine zN ?_|refine zO ?_|refine zP ?_|refine zQ ?_|refine zR rfl ?_|refine zS rfl ?_|refine zU ?_)
 refine wP I (wP I (Aa (AP (Ao ?_))))
 refine AJ (X:=Unit) (fun _=>[(0,str (Ad p)),(1,str (Ad q)),(4, .int .i64 0),(5, .int .i64 0)]) (fun _=>[]) (fun _=>True) ?_ ?_
 ·repeat (first|refine zA ?_|refine zB ?_|refine zC ?_|refine zD ?_|refine zE ?_|refine zF ?_|refine zG ?_|refine zH ?_|refine zI ?_|refine zJ ?_|refine zK ?_|refine zL ?_|refine zM rfl ?_|refine zN ?_|refine zO ?_|refine zP ?_|refine zQ ?_|refine zR rfl ?_|refine zS rfl ?_|refine zU ?_)
  refine wP I ?_
  by_cases hp:smQ p
  ·refine wC I I (fun W _=>(AX (Ad p) (by omega) W).cast ((Ce p).trans (if_pos hp))) (wP I (wP I (wP I ?_)))
   (refine Af Tryz.hZ rfl rfl rfl rfl ?_;intro)
   (first|refine wS 0 rfl rfl rfl ?_|refine wS 1 rfl rfl rfl ?_|refine wS 2 rfl rfl rfl ?_|refine wS 3 rfl rfl rfl ?_|refine wS 4 rfl rfl rfl ?_)
   refine wP I (Aa ?_)
   rename_i b6
   repeat (first|refine zA ?_|refine zB ?_|refine zC ?_|refine zD ?_|refine zE ?_|refine zF ?_|refine zG ?_|refine zH ?_|refine zI ?_|refine zJ ?_|refine zK ?_|refine zL ?_|refine zM rfl ?_|refine zN ?_|refine zO ?_|refine zP ?_|refine zQ ?_|refine zR rfl ?_|refine zS rfl ?_|refine zU ?_)
   refine wP I (Aa ?_)
   repeat (first|refine zA ?_|refine zB ?_|refine zC ?_|refine zD ?_|refine zE ?_|refine zF ?_|refine zG ?_|refine zH ?_|refine zI ?_|refine zJ ?_|refine zK ?_|refine zL ?_|refine zM rfl ?_|refine zN ?_|refine zO ?_|refine zP ?_|refine zQ ?_|refine zR rfl ?_|refine zS rfl ?_|refine zU ?_)
   refine wP I ?_
   by_cases hq:smQ q
   ·refine wC I I (fun W _=>(AX (Ad q) (by omega) W).cast ((Ce q).trans (if_pos hq))) (wP I (wP I (wP I ?_)))
    (refine Af Tryz.hZ rfl rfl rfl rfl ?_;intro)
    (first|refine wS 0 rfl rfl rfl ?_|refine wS 1 rfl rfl rfl ?_|refine wS 2 rfl rfl rfl ?_|refine wS 3 rfl rfl rfl ?_|refine wS 4 rfl rfl rfl ?_)
    refine wP I (Aa ?_)
    rename_i b8
    repeat (first|refine zA ?_|refine zB ?_|refine zC ?_|refine zD ?_|refine zE ?_|refine zF ?_|refine zG ?_|refine zH ?_|refine zI ?_|refine zJ ?_|refine zK ?_|refine zL ?_|refine zM rfl ?_|refine zN ?_|refine zO ?_|refine zP ?_|refine zQ ?_|refine zR rfl ?_|refine zS rfl ?_|refine zU ?_)
    refine wP I (Aa ?_)
    repeat (first|refine zA ?_|refine zB ?_|refine zC ?_|refine zD ?_|refine zE ?_|refine zF ?_|refine zG ?_|refine zH ?_|refine zI ?_|refine zJ ?_|refine zK ?_|refine zL ?_|refine zM rfl ?_|refine zN ?_|refine zO ?_|refine zP ?_|refine zQ ?_|refine zR rfl ?_|refine zS rfl ?_|refine zU ?_)
    refine wP I ?_
    (first|refine wB 0 rfl rfl rfl ?_|refine wB 1 rfl rfl rfl ?_|refine wB 2 rfl rfl rfl ?_|refine wB 3 rfl rfl rfl ?_|refine wB 4 rfl rfl rfl ?_)
    refine wP I ?_
    (first|refine wB 0 rfl rfl rfl ?_|refine wB 1 rfl rfl rfl ?_|refine wB 2 rfl rfl rfl ?_|refine wB 3 rfl rfl rfl ?_|refine wB 4 rfl rfl rfl ?_)
    refine wP I (wV 31 (p.num*(q.den:Nat)) I (CQ hp.1 (C8 q hq)) (wP I ?_))
    (first|refine wB 0 rfl rfl rfl ?_|refine wB 1 rfl rfl rfl ?_|refine wB 2 rfl rfl rfl ?_|refine wB 3 rfl rfl rfl ?_|refine wB 4 rfl rfl rfl ?_)
    refine wP I ?_
    (first|refine wB 0 rfl rfl rfl ?_|refine wB 1 rfl rfl rfl ?_|refine wB 2 rfl rfl rfl ?_|refine wB 3 rfl rfl rfl ?_|refine wB 4 rfl rfl rfl ?_)
    refine wP I (wV 36 (q.num*(p.den:Nat)) I (CQ hq.1 (C8 p hp)) (wC I I (fun W _=>Jz _ _ W) (wP I (wP I (Aa ?_)))))
    repeat (first|refine zA ?_|refine zB ?_|refine zC ?_|refine zD ?_|refine zE ?_|refine zF ?_|refine zG ?_|refine zH ?_|refine zI ?_|refine zJ ?_|refine zK ?_|refine zL ?_|refine zM rfl ?_|refine zN ?_|refine zO ?_|refine zP ?_|refine zQ ?_|refine zR rfl ?_|refine zS rfl ?_|refine zU ?_)
    exact wR2 I I I
   ·refine wC I I (fun W _=>(AX (Ad q) (by omega) W).cast ((Ce q).trans (if_neg hq))) (wP I (wP I (wP I ?_)))
    (refine Af Tryz.hZ rfl rfl rfl rfl ?_;intro)
    (first|refine wS 0 rfl rfl rfl ?_|refine wS 1 rfl rfl rfl ?_|refine wS 2 rfl rfl rfl ?_|refine wS 3 rfl rfl rfl ?_|refine wS 4 rfl rfl rfl ?_)
    refine wP I (Aa ?_)
    repeat (first|refine zA ?_|refine zB ?_|refine zC ?_|refine zD ?_|refine zE ?_|refine zF ?_|refine zG ?_|refine zH ?_|refine zI ?_|refine zJ ?_|refine zK ?_|refine zL ?_|refine zM rfl ?_|refine zN ?_|refine zO ?_|refine zP ?_|refine zQ ?_|refine zR rfl ?_|refine zS rfl ?_|refine zU ?_)
    refine wP I (Aa ?_)
    repeat (first|refine zA ?_|refine zB ?_|refine zC ?_|refine zD ?_|refine zE ?_|refine zF ?_|refine zG ?_|refine zH ?_|refine zI ?_|refine zJ ?_|refine zK ?_|refine zL ?_|refine zM rfl ?_|refine zN ?_|refine zO ?_|refine zP ?_|refine zQ ?_|refine zR rfl ?_|refine zS rfl ?_|refine zU ?_)
    exact An () tO ⟨I,I,I,I,tO⟩ _ I
  ·refine wC I I (fun W _=>(AX (Ad p) (by omega) W).cast ((Ce p).trans (if_neg hp))) (wP I (wP I (wP I ?_)))
   (refine Af Tryz.hZ rfl rfl rfl rfl ?_;intro)
   (first|refine wS 0 rfl rfl rfl ?_|refine wS 1 rfl rfl rfl ?_|refine wS 2 rfl rfl rfl ?_|refine wS 3 rfl rfl rfl ?_|refine wS 4 rfl rfl rfl ?_)
   refine wP I (Aa ?_)
   repeat (first|refine zA ?_|refine zB ?_|refine zC ?_|refine zD ?_|refine zE ?_|refine zF ?_|refine zG ?_|refine zH ?_|refine zI ?_|refine zJ ?_|refine zK ?_|refine zL ?_|refine zM rfl ?_|refine zN ?_|refine zO ?_|refine zP ?_|refine zQ ?_|refine zR rfl ?_|refine zS rfl ?_|refine zU ?_)
   refine wP I (Aa ?_)
   repeat (first|refine zA ?_|refine zB ?_|refine zC ?_|refine zD ?_|refine zE ?_|refine zF ?_|refine zG ?_|refine zH ?_|refine zI ?_|refine zJ ?_|refine zK ?_|refine zL ?_|refine zM rfl ?_|refine zN ?_|refine zO ?_|refine zP ?_|refine zQ ?_|refine zR rfl ?_|refine zS rfl ?_|refine zU ?_)
   exact An () tO ⟨I,I,I,I,tO⟩ _ I
 ·intro _ _
  repeat (first|refine zA ?_|refine zB ?_|refine zC ?_|refine zD ?_|refine zE ?_|refine zF ?_|refine zG ?_|refine zH ?_|refine zI ?_|refine zJ ?_|refine zK ?_|refine zL ?_|refine zM rfl ?_|refine zN ?_|refine zO ?_|refine zP ?_|refine zQ ?_|refine zR rfl ?_|refine zS rfl ?_|refine zU ?_)
  refine wP I (wC I I (fun W hp=>(CP (Ad p) (by omega) W (hv.hp hp) (ht.hp hp)).cast (HM hkp)) (wP I (wP I (wP I ?_))))
  (refine Af Tryz.hZ rfl rfl rfl rfl ?_;intro)
  (first|refine wS 0 rfl rfl rfl ?_|refine wS 1 rfl rfl rfl ?_|refine wS 2 rfl rfl rfl ?_|refine wS 3 rfl rfl rfl ?_|refine wS 4 rfl rfl rfl ?_)
  refine wP I (Aa ?_)
  rename_i b10
  repeat (first|refine zA ?_|refine zB ?_|refine zC ?_|refine zD ?_|refine zE ?_|refine zF ?_|refine zG ?_|refine zH ?_|refine zI ?_|refine zJ ?_|refine zK ?_|refine zL ?_|refine zM rfl ?_|refine zN ?_|refine zO ?_|refine zP ?_|refine zQ ?_|refine zR rfl ?_|refine zS rfl ?_|refine zU ?_)
  refine wP I (wP I (Aa ?_))
  repeat (first|refine zA ?_|refine zB ?_|refine zC ?_|refine zD ?_|refine zE ?_|refine zF ?_|refine zG ?_|refine zH ?_|refine zI ?_|refine zJ ?_|refine zK ?_|refine zL ?_|refine zM rfl ?_|refine zN ?_|refine zO ?_|refine zP ?_|refine zQ ?_|refine zR rfl ?_|refine zS rfl ?_|refine zU ?_)
  refine wP I (wC I I (fun W hp=>(CP (Ad q) (by omega) W (hv.hp hp) (ht.hp hp)).cast (HM hkq)) (wP I (wP I (wP I ?_))))
  (refine Af Tryz.hZ rfl rfl rfl rfl ?_;intro)
  (first|refine wS 0 rfl rfl rfl ?_|refine wS 1 rfl rfl rfl ?_|refine wS 2 rfl rfl rfl ?_|refine wS 3 rfl rfl rfl ?_|refine wS 4 rfl rfl rfl ?_)
  refine wP I (Aa ?_)
  rename_i b12
  repeat (first|refine zA ?_|refine zB ?_|refine zC ?_|refine zD ?_|refine zE ?_|refine zF ?_|refine zG ?_|refine zH ?_|refine zI ?_|refine zJ ?_|refine zK ?_|refine zL ?_|refine zM rfl ?_|refine zN ?_|refine zO ?_|refine zP ?_|refine zQ ?_|refine zR rfl ?_|refine zS rfl ?_|refine zU ?_)
  refine wP I (wP I (Aa ?_))
  repeat (first|refine zA ?_|refine zB ?_|refine zC ?_|refine zD ?_|refine zE ?_|refine zF ?_|refine zG ?_|refine zH ?_|refine zI ?_|refine zJ ?_|refine zK ?_|refine zL ?_|refine zM rfl ?_|refine zN ?_|refine zO ?_|refine zP ?_|refine zQ ?_|refine zR rfl ?_|refine zS rfl ?_|refine zU ?_)
  (first|refine wB 0 rfl rfl rfl ?_|refine wB 1 rfl rfl rfl ?_|refine wB 2 rfl rfl rfl ?_|refine wB 3 rfl rfl rfl ?_|refine wB 4 rfl rfl rfl ?_)
  (first|refine wB 0 rfl rfl rfl ?_|refine wB 1 rfl rfl rfl ?_|refine wB 2 rfl rfl rfl ?_|refine wB 3 rfl rfl rfl ?_|refine wB 4 rfl rfl rfl ?_)
  refine wC I I (fun W hp=>Dp p q hkp hkq h.1 h.2 W (ht.hp hp)) ?_
  iterate 7 refine wP I ?_
  refine Aa ?_
  repeat (first|refine zA ?_|refine zB ?_|refine zC ?_|refine zD ?_|refine zE ?_|refine zF ?_|refine zG ?_|refine zH ?_|refine zI ?_|refine zJ ?_|refine zK ?_|refine zL ?_|refine zM rfl ?_|refine zN ?_|refine zO ?_|refine zP ?_|refine zQ ?_|refine zR rfl ?_|refine zS rfl ?_|refine zU ?_)
  refine wP I (wP I (Aa ?_))
  repeat (first|refine zA ?_|refine zB ?_|refine zC ?_|refine zD ?_|refine zE ?_|refine zF ?_|refine zG ?_|refine zH ?_|refine zI ?_|refine zJ ?_|refine zK ?_|refine zL ?_|refine zM rfl ?_|refine zN ?_|refine zO ?_|refine zP ?_|refine zQ ?_|refine zR rfl ?_|refine zS rfl ?_|refine zU ?_)
  refine wP I (wP I (wC I I (fun W _=>Is _ _ h.1 h.2 W) (wP I (wP I (wP I (wP I (Aa ?_)))))))
  repeat (first|refine zA ?_|refine zB ?_|refine zC ?_|refine zD ?_|refine zE ?_|refine zF ?_|refine zG ?_|refine zH ?_|refine zI ?_|refine zJ ?_|refine zK ?_|refine zL ?_|refine zM rfl ?_|refine zN ?_|refine zO ?_|refine zP ?_|refine zQ ?_|refine zR rfl ?_|refine zS rfl ?_|refine zU ?_)
  exact wR2 I I I
theorem L4 (p q:Rat) (hkp:okQ p) (hkq:okQ q) (hno: ¬AR p q) (W0:World) (hv:BT W0) (ht:AM W0):
  Ai Tryz.prog 119 #[str (Ad p),str (Ad q)] W0 (fun _:Unit=> .tuple #[.int .i64 0, .int .i64 4]) (fun _=>True) (fun _=>[]):=by
 obtain⟨s,hs⟩:=FS p q hkp hkq hno
 have hlp:=Ba hkp
 have hlq:=Ba hkq
 refine Ae (args:=[str (Ad p),str (Ad q)]) Tryz.func119 I I I ?_
 repeat (first|refine zA ?_|refine zB ?_|refine zC ?_|refine zD ?_|refine zE ?_|refine zF ?_|refine zG ?_|refine zH ?_|refine zI ?_|refine zJ ?_|refine zK ?_|refine zL ?_|refine zM rfl ?_|refine zN ?_|refine zO ?_|refine zP ?_|refine zQ ?_|refine zR rfl ?_|refine zS rfl ?_|refine zU ?_)
 refine wP I (wP I (Aa (AP (Ao ?_))))
 refine AJ (X:=Unit) (fun _=>[(0,str (Ad p)),(1,str (Ad q)),(4, .int .i64 0),(5, .int .i64 0)]) (fun _=>[]) (fun _=>True) ?_ ?_
 ·repeat (first|refine zA ?_|refine zB ?_|refine zC ?_|refine zD ?_|refine zE ?_|refine zF ?_|refine zG ?_|refine zH ?_|refine zI ?_|refine zJ ?_|refine zK ?_|refine zL ?_|refine zM rfl ?_|refine zN ?_|refine zO ?_|refine zP ?_|refine zQ ?_|refine zR rfl ?_|refine zS rfl ?_|refine zU ?_)
  refine wP I ?_
  by_cases hp:smQ p
  ·refine wC I I (fun W _=>(AX (Ad p) (by omega) W).cast ((Ce p).trans (if_pos hp))) (wP I (wP I (wP I ?_)))
   (refine Af Tryz.hZ rfl rfl rfl rfl ?_;intro)
   (first|refine wS 0 rfl rfl rfl ?_|refine wS 1 rfl rfl rfl ?_|refine wS 2 rfl rfl rfl ?_|refine wS 3 rfl rfl rfl ?_|refine wS 4 rfl rfl rfl ?_)
   refine wP I (Aa ?_)
   rename_i b6
   repeat (first|refine zA ?_|refine zB ?_|refine zC ?_|refine zD ?_|refine zE ?_|refine zF ?_|refine zG ?_|refine zH ?_|refine zI ?_|refine zJ ?_|refine zK ?_|refine zL ?_|refine zM rfl ?_|refine zN ?_|refine zO ?_|refine zP ?_|refine zQ ?_|refine zR rfl ?_|refine zS rfl ?_|refine zU ?_)
   refine wP I (Aa ?_)
   repeat (first|refine zA ?_|refine zB ?_|refine zC ?_|refine zD ?_|refine zE ?_|refine zF ?_|refine zG ?_|refine zH ?_|refine zI ?_|refine zJ ?_|refine zK ?_|refine zL ?_|refine zM rfl ?_|refine zN ?_|refine zO ?_|refine zP ?_|refine zQ ?_|refine zR rfl ?_|refine zS rfl ?_|refine zU ?_)
   refine wP I ?_
   by_cases hq:smQ q
   ·exact absurd (Mv ⟨hp,hq⟩).2.2.2 hno
   ·refine wC I I (fun W _=>(AX (Ad q) (by omega) W).cast ((Ce q).trans (if_neg hq))) (wP I (wP I (wP I ?_)))
    (refine Af Tryz.hZ rfl rfl rfl rfl ?_;intro)
    (first|refine wS 0 rfl rfl rfl ?_|refine wS 1 rfl rfl rfl ?_|refine wS 2 rfl rfl rfl ?_|refine wS 3 rfl rfl rfl ?_|refine wS 4 rfl rfl rfl ?_)
    refine wP I (Aa ?_)
    repeat (first|refine zA ?_|refine zB ?_|refine zC ?_|refine zD ?_|refine zE ?_|refine zF ?_|refine zG ?_|refine zH ?_|refine zI ?_|refine zJ ?_|refine zK ?_|refine zL ?_|refine zM rfl ?_|refine zN ?_|refine zO ?_|refine zP ?_|refine zQ ?_|refine zR rfl ?_|refine zS rfl ?_|refine zU ?_)
    refine wP I (Aa ?_)
    repeat (first|refine zA ?_|refine zB ?_|refine zC ?_|refine zD ?_|refine zE ?_|refine zF ?_|refine zG ?_|refine zH ?_|refine zI ?_|refine zJ ?_|refine zK ?_|refine zL ?_|refine zM rfl ?_|refine zN ?_|refine zO ?_|refine zP ?_|refine zQ ?_|refine zR rfl ?_|refine zS rfl ?_|refine zU ?_)
    exact An () tO ⟨I,I,I,I,tO⟩ _ I
  ·refine wC I I (fun W _=>(AX (Ad p) (by omega) W).cast ((Ce p).trans (if_neg hp))) (wP I (wP I (wP I ?_)))
   (refine Af Tryz.hZ rfl rfl rfl rfl ?_;intro)
   (first|refine wS 0 rfl rfl rfl ?_|refine wS 1 rfl rfl rfl ?_|refine wS 2 rfl rfl rfl ?_|refine wS 3 rfl rfl rfl ?_|refine wS 4 rfl rfl rfl ?_)
   refine wP I (Aa ?_)
   repeat (first|refine zA ?_|refine zB ?_|refine zC ?_|refine zD ?_|refine zE ?_|refine zF ?_|refine zG ?_|refine zH ?_|refine zI ?_|refine zJ ?_|refine zK ?_|refine zL ?_|refine zM rfl ?_|refine zN ?_|refine zO ?_|refine zP ?_|refine zQ ?_|refine zR rfl ?_|refine zS rfl ?_|refine zU ?_)
   refine wP I (Aa ?_)
   repeat (first|refine zA ?_|refine zB ?_|refine zC ?_|refine zD ?_|refine zE ?_|refine zF ?_|refine zG ?_|refine zH ?_|refine zI ?_|refine zJ ?_|refine zK ?_|refine zL ?_|refine zM rfl ?_|refine zN ?_|refine zO ?_|refine zP ?_|refine zQ ?_|refine zR rfl ?_|refine zS rfl ?_|refine zU ?_)
   exact An () tO ⟨I,I,I,I,tO⟩ _ I
 ·intro _ _
  repeat (first|refine zA ?_|refine zB ?_|refine zC ?_|refine zD ?_|refine zE ?_|refine zF ?_|refine zG ?_|refine zH ?_|refine zI ?_|refine zJ ?_|refine zK ?_|refine zL ?_|refine zM rfl ?_|refine zN ?_|refine zO ?_|refine zP ?_|refine zQ ?_|refine zR rfl ?_|refine zS rfl ?_|refine zU ?_)
  refine wP I (wC I I (fun W hp=>(CP (Ad p) (by omega) W (hv.hp hp) (ht.hp hp)).cast (HM hkp)) (wP I (wP I (wP I ?_))))
  (refine Af Tryz.hZ rfl rfl rfl rfl ?_;intro)
  (first|refine wS 0 rfl rfl rfl ?_|refine wS 1 rfl rfl rfl ?_|refine wS 2 rfl rfl rfl ?_|refine wS 3 rfl rfl rfl ?_|refine wS 4 rfl rfl rfl ?_)
  refine wP I (Aa ?_)
  rename_i b10
  repeat (first|refine zA ?_|refine zB ?_|refine zC ?_|refine zD ?_|refine zE ?_|refine zF ?_|refine zG ?_|refine zH ?_|refine zI ?_|refine zJ ?_|refine zK ?_|refine zL ?_|refine zM rfl ?_|refine zN ?_|refine zO ?_|refine zP ?_|refine zQ ?_|refine zR rfl ?_|refine zS rfl ?_|refine zU ?_)
  refine wP I (wP I (Aa ?_))
  repeat (first|refine zA ?_|refine zB ?_|refine zC ?_|refine zD ?_|refine zE ?_|refine zF ?_|refine zG ?_|refine zH ?_|refine zI ?_|refine zJ ?_|refine zK ?_|refine zL ?_|refine zM rfl ?_|refine zN ?_|refine zO ?_|refine zP ?_|refine zQ ?_|refine zR rfl ?_|refine zS rfl ?_|refine zU ?_)
  refine wP I (wC I I (fun W hp=>(CP (Ad q) (by omega) W (hv.hp hp) (ht.hp hp)).cast (HM hkq)) (wP I (wP I (wP I ?_))))
  (refine Af Tryz.hZ rfl rfl rfl rfl ?_;intro)
  (first|refine wS 0 rfl rfl rfl ?_|refine wS 1 rfl rfl rfl ?_|refine wS 2 rfl rfl rfl ?_|refine wS 3 rfl rfl rfl ?_|refine wS 4 rfl rfl rfl ?_)
  refine wP I (Aa ?_)
  rename_i b12
  repeat (first|refine zA ?_|refine zB ?_|refine zC ?_|refine zD ?_|refine zE ?_|refine zF ?_|refine zG ?_|refine zH ?_|refine zI ?_|refine zJ ?_|refine zK ?_|refine zL ?_|refine zM rfl ?_|refine zN ?_|refine zO ?_|refine zP ?_|refine zQ ?_|refine zR rfl ?_|refine zS rfl ?_|refine zU ?_)
  refine wP I (wP I (Aa ?_))
  repeat (first|refine zA ?_|refine zB ?_|refine zC ?_|refine zD ?_|refine zE ?_|refine zF ?_|refine zG ?_|refine zH ?_|refine zI ?_|refine zJ ?_|refine zK ?_|refine zL ?_|refine zM rfl ?_|refine zN ?_|refine zO ?_|refine zP ?_|refine zQ ?_|refine zR rfl ?_|refine zS rfl ?_|refine zU ?_)
  (first|refine wB 0 rfl rfl rfl ?_|refine wB 1 rfl rfl rfl ?_|refine wB 2 rfl rfl rfl ?_|refine wB 3 rfl rfl rfl ?_|refine wB 4 rfl rfl rfl ?_)
  (first|refine wB 0 rfl rfl rfl ?_|refine wB 1 rfl rfl rfl ?_|refine wB 2 rfl rfl rfl ?_|refine wB 3 rfl rfl rfl ?_|refine wB 4 rfl rfl rfl ?_)
  refine wC I I (fun W hp=>hs W (ht.hp hp)) ?_
  iterate 7 refine wP I ?_
  refine Aa ?_
  repeat (first|refine zA ?_|refine zB ?_|refine zC ?_|refine zD ?_|refine zE ?_|refine zF ?_|refine zG ?_|refine zH ?_|refine zI ?_|refine zJ ?_|refine zK ?_|refine zL ?_|refine zM rfl ?_|refine zN ?_|refine zO ?_|refine zP ?_|refine zQ ?_|refine zR rfl ?_|refine zS rfl ?_|refine zU ?_)
  refine wP I (wP I (Aa ?_))
  repeat (first|refine zA ?_|refine zB ?_|refine zC ?_|refine zD ?_|refine zE ?_|refine zF ?_|refine zG ?_|refine zH ?_|refine zI ?_|refine zJ ?_|refine zK ?_|refine zL ?_|refine zM rfl ?_|refine zN ?_|refine zO ?_|refine zP ?_|refine zQ ?_|refine zR rfl ?_|refine zS rfl ?_|refine zU ?_)
  refine wP I (wP I (wP I (Aa ?_)))
  repeat (first|refine zA ?_|refine zB ?_|refine zC ?_|refine zD ?_|refine zE ?_|refine zF ?_|refine zG ?_|refine zH ?_|refine zI ?_|refine zJ ?_|refine zK ?_|refine zL ?_|refine zM rfl ?_|refine zN ?_|refine zO ?_|refine zP ?_|refine zQ ?_|refine zR rfl ?_|refine zS rfl ?_|refine zU ?_)
  exact wR2 I I I
theorem L5 (p q:Rat) (hkp:okQ p) (hkq:okQ q) (W0:World) (hv:BT W0) (ht:AM W0):
  Ai Tryz.prog 119 #[str (Ad p),str (Ad q)] W0 (fun _:Unit=>cmV p q) (fun _=>True) (fun _=>[]):=by
 by_cases h:AR p q
 ·exact(LC p q hkp hkq h W0 hv ht).cast (by rw[cmV,if_pos h,SL])
 ·exact(L4 p q hkp hkq h W0 hv ht).cast (by rw[cmV,if_neg h])
-- BOXES 8
-- CODE2
def erI:Bool→Int
 |true=>4
 |false=>0
abbrev caE (c:Nat) (s:Bool):Bx:=⟨c,61,[.int .i64 (erI s)],true,none⟩
abbrev caO (s:Bool):Obj:= .cells #[.int .i64 (erI s)] 61 (0,0)
structure KcP (c:Nat) (s:Bool) (W:World):Prop where
 o:W.heap[c]? =some (caO s)
 k: ∀W',GB W W' c→BT W'∧AM W'
theorem GB.refl (W:World) (g:Nat):GB W W g:=⟨rfl,rfl,rfl,Nat.le_refl _,fun _ _ _=>rfl⟩
theorem KcP.v {c:Nat} {s:Bool} {W:World} (h:KcP c s W):BT W:=(h.k W (GB.refl W c)).1
theorem KcP.t {c:Nat} {s:Bool} {W:World} (h:KcP c s W):AM W:=(h.k W (GB.refl W c)).2
theorem KcP.at_ {c:Nat} {s s1:Bool} {W W1:World} {bs:List Bx} (h:KcP c s W) (hp:Hp (Bb W) (AT (Aw W c)::caE c s1::bs) W1):KcP c s1 W1:=
 ⟨(hp.own.cell 1 (caE c s1) rfl (c,caO s1) (List.mem_cons_self ..)).1,fun _ h2=>h.k _ ((Gt h.o ⟨_,List.mem_cons_self ..⟩ (Hp.take (bxs:=[AT (Aw W c),caE c s1]) (nb:=bs) hp)).trans h2)⟩
theorem KcP.of {c:Nat} {s:Bool} {W0 W:World} {bxs:List Bx} (hp:Hp W0 bxs W) (k:Nat) (hk:nth bxs k=some (caE c s)) (hv:BT W0) (ht:AM W0):KcP c s W:=by
 rw[BI] at hk
 have hc:=hp.own.cell k _ hk (c,caO s) (List.mem_cons_self ..)
 exact⟨hc.1,fun W2 h2=>⟨hv.below (h2.below hp.below hc.2),ht.below (h2.below hp.below hc.2)⟩⟩
theorem EE {c:Nat} {s1:Bool} {W W1:World} {bs:List Bx} (hp:Hp (Bb W) (AT (Aw W c)::caE c s1::bs) W1):Ar (Bb W) W1 [AT (Aw W c),caE c s1]:=
 (Hp.take (bxs:=[AT (Aw W c),caE c s1]) (nb:=bs) hp).own
structure Cm (g:Nat) (vs:List Value) (c:Nat) {X:Type} (st:X→Bool) (val:X→Value) (Φ:X→Prop) (W:World):Prop where
 out:Calls Tryz.prog g vs.toArray W fun e W'=> ∃x,e= .returned (val x)∧Φ x∧JP W W' c c (caO (st x))
theorem Cm.enter {N c:Nat} {s:Bool} {f:Nat} {fn:Func} {cd:Code} {args:List Value} {X:Type} {st:X→Bool} {val:X→Value} {Φ:X→Prop} {W:World} (h:KcP c s W) (hf:Tryz.prog.funcs[f]? =some fn) (hb:fn.body=some cd) (hN:fn.ntmps=N) (hl:Nat.ble args.length N=true)
  (hw:WC none 0 Tryz.prog N [] cd (Ib Tryz.prog fn (Bb W) val Φ (fun x=>[AT (Aw W c),caE c (st x)])) (KN 0 args) (Hp (Bb W) [AT (Aw W c),caE c s])):Cm f args c st val Φ W:=by
 have key:=Ck (X:=X) (val:=val) (Φ:=Φ) (nb:=fun x=>[AT (Aw W c),caE c (st x)]) (Hp.enterT (B:=caE c s) rfl h.o) hf hb hN hl hw
 refine⟨key.mono ?_⟩
 rintro e W' ⟨x,he,hx,hb,hn⟩
 exact⟨x,he,hx,EX h.o I hb hn⟩
theorem Cm.same {g c:Nat} {vs:List Value} {s:Bool} {v:Value} {W:World} (h:Cm g vs c (fun _:Unit=>s) (fun _=>v) (fun _=>True) W) (ho:W.heap[c]? =some (caO s)):Ai Tryz.prog g vs.toArray W (fun _:Unit=>v) (fun _=>True) (fun _=>[]):=by
 refine⟨h.out.mono ?_⟩
 rintro e W' ⟨x,he,_,hn⟩
 refine⟨x,he,tO,⟨hn.os,hn.tape,hn.output,hn.size,fun i hi=> ?_⟩,Ar.nil _ _⟩
 by_cases e:i=c
 ·subst e;exact hn.new.trans ho.symm
 ·exact hn.old i e hi
section
variable {r:Option Nat} {n:Nat} {W0:World} {N:Nat} {D:List Deferred} {ops:List Oper} {Q:Exit→Act→World→Prop} {o:Oper} {rest:List Oper} {env:Env} {bxs:List Bx}
theorem RC (k c:Nat) {s:Bool} {cl:Call} {f:Operand} {g d:Nat} {vs:List Value} {X:Type} {st:X→Bool} {val:X→Value} {Φ:X→Prop} (hg:AC ops N env o=some true) (hd:o.dst=some d) (ho:o.op= .call cl) (hc:cl.callee= .value f) (hf:evO N env f=some (.func (.func g) #[] #[])) (ha:CH (evO N env) cl.args.toList=some vs) (hE:Bl Tryz.prog g=true)
  (hk:nth bxs k=some (caE c s)) (hC: ∀W,Hp W0 bxs W→Cm g vs c st val Φ W)
  (h: ∀x,Φ x→WL r n Tryz.prog N D ops Q rest ((d,val x)::env) (Hp W0 (bxs.set k (caE c (st x))))):WL r n Tryz.prog N D ops Q (o::rest) env (Hp W0 bxs):=
 DV (X:=X) (val:=val) (Φ:=Φ) (capt:=[]) k (B:=caE c s) (L1:=[]) (L2:=[]) (b:=c) (ob:=caO s) (fun x=>caE c (st x)) (g':=fun _=>c) (o':=fun x=>caO (st x))
  hg hd ho hc hf ha hE hk rfl (fun _ _=>rfl) (fun W hp=>by rw[List.append_nil];exact(hC W hp).out) h
theorem AO (k c:Nat) {s s':Bool} {v:Value} {cl:Call} {f:Operand} {g d:Nat} {vs:List Value} (hg:AC ops N env o=some true) (hd:o.dst=some d) (ho:o.op= .call cl) (hc:cl.callee= .value f) (hf:evO N env f=some (.func (.func g) #[] #[])) (ha:CH (evO N env) cl.args.toList=some vs) (hE:Bl Tryz.prog g=true)
  (hk:nth bxs k=some (caE c s)) (hC: ∀W,Hp W0 bxs W→Cm g vs c (fun _:Unit=>s') (fun _=>v) (fun _=>True) W)
  (h:WL r n Tryz.prog N D ops Q rest ((d,v)::env) (Hp W0 (bxs.set k (caE c s')))):WL r n Tryz.prog N D ops Q (o::rest) env (Hp W0 bxs):=
 RC k c hg hd ho hc hf ha hE hk hC (fun _ _=>h)
end
@[irreducible] def opR (ok : Prop) [Decidable ok] (r : Rat) (s : Bool) : Rat × Bool := match s with
 |true=>(0,true)
 |false=>if ok then(r,false) else(0,true)
theorem QR {ok:Prop} [Decidable ok] {r:Rat}:opR ok r true=(0,true):=by unfold opR;rfl
theorem BU {ok:Prop} [Decidable ok] {r:Rat} (h:ok):opR ok r false=(r,false):=by unfold opR;exact if_pos h
theorem Vl {ok:Prop} [Decidable ok] {r:Rat} (h: ¬ok):opR ok r false=(0,true):=by unfold opR;exact if_neg h
theorem Kc:okQ 0:=by
 have h:szQ 0 1:=by unfold szQ;decide+kernel
 exact h.ok (by decide)
theorem PT {ok:Prop} [Decidable ok] {r:Rat} {s:Bool} (h:ok→okQ r):okQ (opR ok r s).1:=by
 cases s with
 |true=>rw[QR];exact Kc
 |false=>
  by_cases c:ok
  ·rw[BU c];exact h c
  ·rw[Vl c];exact Kc
def kAd (s:Bool) (p q:Rat):Rat×Bool:=opR (BL p q) (p+q) s
def kSb (s:Bool) (p q:Rat):Rat×Bool:=opR (CV p q) (p-q) s
def kMu (s:Bool) (p q:Rat):Rat×Bool:=opR (Cf p q) (p*q) s
def kDi (s:Bool) (p q:Rat):Rat×Bool:=opR (AR p q) (p/q) s
theorem K8 (s:Bool) (p q:Rat):okQ (kAd s p q).1:=PT Kn
theorem My (s:Bool) (p q:Rat):okQ (kSb s p q).1:=PT OJ
theorem Jd (s:Bool) (p q:Rat):okQ (kMu s p q).1:=PT Oo
@[irreducible] def kOr (s : Bool) (p q : Rat) : Int × Bool := match s with
 |true=>(0,true)
 |false=>if AR p q then(CG p q,false) else(0,true)
theorem Ry {p q:Rat}:kOr true p q=(0,true):=by unfold kOr;rfl
theorem Gg {p q:Rat} (h:AR p q):kOr false p q=(CG p q,false):=by unfold kOr;exact if_pos h
theorem RB {p q:Rat} (h: ¬AR p q):kOr false p q=(0,true):=by unfold kOr;exact if_neg h
theorem Ol (c g:Nat) (a b:List UInt8) (W:World) (h:KcP c true W):
  Cm 104 [Ah c, .func (.func g) #[] #[],str a,str b] c (fun _:Unit=>true) (fun _=>str [48]) (fun _=>True) W:=by
 refine Cm.enter h Tryz.func104 I I I ?_
 refine zA (zB (wP I (Aa (zE (zA (zA (zB (wP I ?_))))))))
 refine AH I I I I ?_
 exact wP I (wB 1 I I I (wP I (Aa (zE (zR I (zA (zB (wP I (Aa (zE (zO (zP (Az tH I (.tmp I) () I tO fun W1 hp=>EE hp)))))))))))))
theorem Qw (c g:Nat) (a b v:List UInt8) (z:Bool) (W:World) (h:KcP c false W) (hE:Bl Tryz.prog g=true)
  (hg: ∀W1,BT W1→AM W1→Ai Tryz.prog g #[str a,str b] W1 (fun _:Unit=> .tuple #[str v, .int .i64 (erI z)]) (fun _=>True) (fun _=>[])):
  Cm 104 [Ah c, .func (.func g) #[] #[],str a,str b] c (fun _:Unit=>z) (fun _=>if z=true then str [48] else str v) (fun _=>True) W:=by
 refine Cm.enter h Tryz.func104 I I I ?_
 refine zA (zB (wP I (Aa (zE (zA (zA (zB (wP I ?_))))))))
 refine AH I I I I ?_
 refine wP I (wB 1 I I I (wP I (Aa (zE (zS I (zI (zE (zA (zB (wP I (wP I (wP I ?_))))))))))))
 refine BB (capt:=[]) I I I I I I hE (fun W1 hp=>hg W1 (h.at_ (bs:=[]) hp).v (h.at_ (bs:=[]) hp).t) ?_
 iterate 5 refine wP I ?_
 refine Aa (zE (zA (zA (zB (wP I (wP I ?_))))))
 refine AH I I I I ?_
 refine wP I (wS 1 I I I (Aa (zE (zA (zB ?_)))))
 cases z with
 |true=>
  exact wP I (wP I (Aa (zE (zR I (zA (zB (wP I (Aa (zE (zO (zP (Az tH I (.tmp I) () I tO fun W1 hp=>EE hp))))))))))))
 |false=>
  exact wP I (wP I (Aa (zE (zS I (zI (zE (zA (zB (wP I (wP I (Aa (zE (zO (Az tH I (.tmp I) () I tO fun W1 hp=>EE hp))))))))))))))
theorem Hv (c g:Nat) (a b:List UInt8) (ok:Prop) [Decidable ok] (r:Rat) (s:Bool) (W:World) (h:KcP c s W) (hE:Bl Tryz.prog g=true)
  (hg: ∀W1,BT W1→AM W1→Ai Tryz.prog g #[str a,str b] W1 (fun _:Unit=>opV ok r) (fun _=>True) (fun _=>[])):
  Cm 104 [Ah c, .func (.func g) #[] #[],str a,str b] c (fun _:Unit=>(opR ok r s).2) (fun _=>str (Ad (opR ok r s).1)) (fun _=>True) W:=by
 cases s with
 |true=>
  rw[QR]
  show Cm _ _ c _ (fun _=>str (Ad 0)) _ W
  rw[CW]
  exact Ol c g a b W h
 |false=>
  by_cases k:ok
  ·rw[BU k]
   exact Qw c g a b (Ad r) false W h hE fun W1 hv ht=>(hg W1 hv ht).cast (Fs k)
  ·rw[Vl k]
   show Cm _ _ c _ (fun _=>str (Ad 0)) _ W
   rw[CW]
   exact Qw c g a b [] true W h hE fun W1 hv ht=>(hg W1 hv ht).cast (GA k)
abbrev Ca (g:Nat) (vs:List Value) (c:Nat) (x:Rat×Bool) (W:World):Prop:=Cm g vs c (fun _:Unit=>x.2) (fun _=>str (Ad x.1)) (fun _=>True) W
theorem Eo (c:Nat) (s:Bool) (p q:Rat) (hp:okQ p) (hq:okQ q) (W:World) (h:KcP c s W):Ca 45 [Ah c,str (Ad p),str (Ad q)] c (kAd s p q) W:=by
 refine Cm.enter h Tryz.func45 I I I ?_
 refine zA (zB (wP I (Aa (zE (zA (zB (wP I (wP I (wP I ?_)))))))))
 refine AO 1 c I I I I I I (by kernel_rfl) I (fun W1 hp1=>Hv c 16 (Ad p) (Ad q) (BL p q) (p+q) s W1 (h.at_ (bs:=[]) hp1) (by kernel_rfl) (fun W2 hv ht=>Q5 p q hp hq W2 hv ht)) ?_
 exact wP I (Aa (zE (zO (Az tH I (.tmp I) () I tO fun W1 hp=>EE hp))))
theorem Fk (c:Nat) (s:Bool) (p q:Rat) (hp:okQ p) (hq:okQ q) (W:World) (h:KcP c s W):Ca 59 [Ah c,str (Ad p),str (Ad q)] c (kSb s p q) W:=by
 refine Cm.enter h Tryz.func59 I I I ?_
 refine zA (zB (wP I (Aa (zE (zA (zB (wP I (wP I (wP I ?_)))))))))
 refine AO 1 c I I I I I I (by kernel_rfl) I (fun W1 hp1=>Hv c 126 (Ad p) (Ad q) (CV p q) (p-q) s W1 (h.at_ (bs:=[]) hp1) (by kernel_rfl) (fun W2 hv ht=>RE p q hp hq W2 hv ht)) ?_
 exact wP I (Aa (zE (zO (Az tH I (.tmp I) () I tO fun W1 hp=>EE hp))))
theorem D2 (c:Nat) (s:Bool) (p q:Rat) (hp:okQ p) (hq:okQ q) (W:World) (h:KcP c s W):Ca 60 [Ah c,str (Ad p),str (Ad q)] c (kMu s p q) W:=by
 refine Cm.enter h Tryz.func60 I I I ?_
 refine zA (zB (wP I (Aa (zE (zA (zB (wP I (wP I (wP I ?_)))))))))
 refine AO 1 c I I I I I I (by kernel_rfl) I (fun W1 hp1=>Hv c 72 (Ad p) (Ad q) (Cf p q) (p*q) s W1 (h.at_ (bs:=[]) hp1) (by kernel_rfl) (fun W2 hv ht=>Rq p q hp hq W2 hv ht)) ?_
 exact wP I (Aa (zE (zO (Az tH I (.tmp I) () I tO fun W1 hp=>EE hp))))
theorem RG (c:Nat) (s:Bool) (p q:Rat) (hp:okQ p) (hq:okQ q) (h0:q.num≠0) (W:World) (h:KcP c s W):Ca 47 [Ah c,str (Ad p),str (Ad q)] c (kDi s p q) W:=by
 refine Cm.enter h Tryz.func47 I I I ?_
 refine zA (zB (wP I (Aa (zE (zA (zB (wP I (wP I (wP I ?_)))))))))
 refine AO 1 c I I I I I I (by kernel_rfl) I (fun W1 hp1=>Hv c 105 (Ad p) (Ad q) (AR p q) (p/q) s W1 (h.at_ (bs:=[]) hp1) (by kernel_rfl) (fun W2 hv ht=>QA p q hp hq h0 W2 hv ht)) ?_
 exact wP I (Aa (zE (zO (Az tH I (.tmp I) () I tO fun W1 hp=>EE hp))))
abbrev EM (g:Nat) (vs:List Value) (c:Nat) (x:Int×Bool) (W:World):Prop:=Cm g vs c (fun _:Unit=>x.2) (fun _=> .int .i64 x.1) (fun _=>True) W
theorem C3 (c:Nat) (s:Bool) (p q:Rat) (hp:okQ p) (hq:okQ q) (W:World) (h:KcP c s W):EM 53 [Ah c,str (Ad p),str (Ad q)] c (kOr s p q) W:=by
 cases s with
 |true=>
  rw[Ry]
  refine Cm.enter h Tryz.func53 I I I ?_
  refine zA (zB (wP I (Aa (zE (zA (zA (zB (wP I ?_))))))))
  refine AH I I I I ?_
  exact wP I (wB 1 I I I (wP I (Aa (zE (zR I (zA (zB (wP I (Aa (zE (zO (zP (Az tH I (.tmp I) () I tO fun W1 hp=>EE hp)))))))))))))
 |false=>
  have one: ∀(v:Int) (z:Bool),cmV p q= .tuple #[.int .i64 v, .int .i64 (erI z)]→EM 53 [Ah c,str (Ad p),str (Ad q)] c (v,z) W:=fun v z hvz=>by
   refine Cm.enter h Tryz.func53 I I I ?_
   refine zA (zB (wP I (Aa (zE (zA (zA (zB (wP I ?_))))))))
   refine AH I I I I ?_
   refine wP I (wB 1 I I I (wP I (Aa (zE (zS I (zI (zE (zA (zB (wP I (wP I (wC I I (fun W1 hp1=>(L5 p q hp hq W1 (h.at_ (bs:=[]) hp1).v (h.at_ (bs:=[]) hp1).t).cast hvz) ?_))))))))))))
   iterate 5 refine wP I ?_
   refine Aa (zE (zA (zB (wP I (wP I ?_)))))
   refine AH I I I I ?_
   exact wP I (wS 1 I I I (Aa (zE (zA (zB (wP I (wP I (Aa (zE (zO (Az tH I (.tmp I) () I tO fun W1 hp=>EE hp)))))))))))
  by_cases k:AR p q
  ·rw[Gg k]
   exact one (CG p q) false (if_pos k)
  ·rw[RB k]
   exact one 0 true (if_neg k)
-- BOXES 5
-- CODE2
def tnR (p q r:Ag):Int×Int:=match tA p q r,tB p q r with
 |some x,some y=>if AR x y then(CG x y,0) else(0,4)
 |_,_=>(0,4)
theorem WH (p q r:Ag):tnV p q r= .tuple #[.int .i64 (tnR p q r).1, .int .i64 (tnR p q r).2]:=by
 unfold tnV tnR
 cases tA p q r with
 |none=>rfl
 |some x=>cases tB p q r with
  |none=>rfl
  |some y=>
   show cmV x y=_
   unfold cmV
   by_cases c:AR x y
   ·rw[if_pos c];simp only[if_pos c]
   ·rw[if_neg c];simp only[if_neg c]
def KT (l:List Ag) (i k:Nat):Int×Int:=tnR (Ab l i) (Ab l (i+1)) (Ab l k)
def N7 (l:List Ag) (i k:Nat):Prop:=k≠i∧k≠(i+1)%l.length
structure FE (l:List Ag) (i j:Nat) (c:Bool):Prop where
 e0: ∀a k,(a<i∨a=i∧k<j)→k<l.length→N7 l a k→(KT l a k).2=0
 c0:c=true↔ ∀a k,(a<i∨a=i∧k<j)→k<l.length→N7 l a k→0<(KT l a k).1
theorem FE.zero (l:List Ag):FE l 0 0 true:=⟨fun a k h=>by omega,⟨fun _ a k h=>by omega,fun _=>rfl⟩⟩
theorem FE.skip {l:List Ag} {i j:Nat} {c:Bool} (h:FE l i j c) (hn: ¬N7 l i j):FE l i (j+1) c:=by
 have w: ∀a k,(a<i∨a=i∧k<j+1)→N7 l a k→a<i∨a=i∧k<j:=by
  intro a k h1 h2
  rcases h1 with h1|⟨rfl,h1⟩
  ·exact Or.inl h1
  ·rcases Nat.lt_or_ge k j with q|q
   ·exact Or.inr ⟨I,q⟩
   ·obtain rfl:k=j:=by omega
    exact absurd h2 hn
 exact⟨fun a k h1 h2 h3=>h.e0 a k (w a k h1 h3) h2 h3,h.c0.trans ⟨fun f a k h1 h2 h3=>f a k (w a k h1 h3) h2 h3,fun f a k h1 h2 h3=>f a k (by omega) h2 h3⟩⟩
theorem FE.step {l:List Ag} {i j:Nat} {c:Bool} (h:FE l i j c) (he:(KT l i j).2=0) (hj:j<l.length) (ha:N7 l i j):FE l i (j+1) (c&&decide (0<(KT l i j).1)):=by
 have w: ∀a k,(a<i∨a=i∧k<j+1)→(a<i∨a=i∧k<j)∨a=i∧k=j:=by
  intro a k h1;omega
 refine⟨fun a k h1 h2 h3=> ?_, ?_⟩
 ·rcases w a k h1 with q|⟨rfl,rfl⟩
  ·exact h.e0 a k q h2 h3
  ·exact he
 ·rw[Bool.and_eq_true,decide_eq_true_iff,h.c0]
  constructor
  ·rintro⟨f,g⟩ a k h1 h2 h3
   rcases w a k h1 with q|⟨rfl,rfl⟩
   ·exact f a k q h2 h3
   ·exact g
  ·intro f
   exact⟨fun a k h1 h2 h3=>f a k (by omega) h2 h3,f i j (by omega) hj ha⟩
theorem FE.next {l:List Ag} {i j:Nat} {c:Bool} (h:FE l i j c) (hj:l.length≤j):FE l (i+1) 0 c:=by
 have w: ∀a k,(a<i+1∨a=i+1∧k<0)→k<l.length→a<i∨a=i∧k<j:=by intro a k h1 h2;omega
 exact⟨fun a k h1 h2 h3=>h.e0 a k (w a k h1 h2) h2 h3,h.c0.trans ⟨fun f a k h1 h2 h3=>f a k (w a k h1 h2) h2 h3,fun f a k h1 h2 h3=>f a k (by omega) h2 h3⟩⟩
-- BOXES 5
-- CODE2
def cvS (p:Ag):PtS:=(Ad p.1,Ad p.2)
theorem FJ: ∀ {l:List Ag},(∀x∈l,okP x)→nErr (l.map cvS)=0
 |[],_=>rfl
 |x::l,h=>by
  have hx:=h x List.mem_cons_self
  show(if (rdR (Ad x.1)).2≠0 then(rdR (Ad x.1)).2 else if (rdR (Ad x.2)).2≠0 then(rdR (Ad x.2)).2 else nErr (l.map cvS))=0
  rw[K4 hx.1,K4 hx.2,if_neg (by simp),if_neg (by simp)]
  exact FJ fun y hy=>h y (List.mem_cons_of_mem _ hy)
def La (l:List Ag):Prop:= ∀i k,i<l.length→k<l.length→N7 l i k→(KT l i k).2=0∧0<(KT l i k).1
theorem IN (W:World) (p:Option Addr) (cap:Nat) (l:List Ag) (hA:Dm W p (l.map cvS)) (h3:3≤l.length) (h4:l.length≤4096) (hk: ∀x∈l,okP x) (ht:AM W):
  Ai Tryz.prog 39 #[slv p l.length cap] W (fun e:Int=> .int .i64 e) (fun e=>e=0↔La l) (fun _=>[]):=by
 have hml:(l.map cvS).length=l.length:=by simp
 obtain⟨b,off,rfl,hrow0⟩: ∃b off,p=some ⟨b,off,none⟩∧ ∀i (hi:i<(l.map cvS).length),Ak W b (off+i*2) [str (l.map cvS)[i].1,str (l.map cvS)[i].2]:=by
  rcases hA with h|h
  ·have:=congrArg List.length h;simp at this;rw[this] at h3;exact absurd h3 (by decide)
  ·exact h
 have hrow: ∀i,i<l.length→Ak W b (off+i*2) [str (Ad (Ab l i).1),str (Ad (Ab l i).2)]:=fun i hi=>by
  have h:=hrow0 i (by rw[hml];exact hi)
  rw[AE hi]
  simpa[cvS] using h
 have hok: ∀i,i<l.length→okP (Ab l i):=fun i hi=>hk _ (AD (by omega) i)
 have hnum: ∀W1,AM W1→Dm W1 (some ⟨b,off,none⟩) (l.map cvS)→Ai Tryz.prog 92 #[slv (some ⟨b,off,none⟩) l.length cap] W1 (fun _:Unit=> .int .i64 0) (fun _=>True) (fun _=>[]):=fun W1 t1 a1=>by
  have h:=DZ W1 (some ⟨b,off,none⟩) cap (l.map cvS) a1 (by rw[hml];omega) (fun x hx=>by
   obtain⟨q,hq,rfl⟩:=List.mem_map.1 hx
   have a:=Ba (hk q hq).1
   have b:=Ba (hk q hq).2
   show(Ad q.1).length<_∧(Ad q.2).length<_
   omega) t1
  rw[FJ hk,hml] at h
  exact h
 refine Ae (args:=[slv (some ⟨b,off,none⟩) l.length cap]) Tryz.func39 I I I ?_
 refine zA (zB (wP I (Aa (zE (zA (zA (zB (wP I (wP I (wP I (wU 12 false I (dF (by omega)) (Aa (zE ?_)))))))))))))
 refine zS I (zI (zE (zA (zA (zB (wP I (wP I (wP I (wU 15 false I (dF (by omega)) (Aa (zE (zS I (zI ?_)))))))))))))
 refine zE (zA (zA (zB (wP I (wC I I (fun W1 hp=>hnum W1 (ht.hp hp) (hA.hp hp)) (wP I (Aa (zE (zA (zB (wP I (wP I (Aa ?_)))))))))))))
 refine zE (zS I (zI (zE (zA (zB (wP I (Aa (zE (zA (zA (zB (wP I (Aa ?_)))))))))))))
 refine zE (zH ?_)
 refine A8 (X:=Nat×Bool) (fun s=>[(0,slv (some ⟨b,off,none⟩) l.length cap),(4, .bool s.2),(5, .int .i64 (s.1:Nat))]) (fun _=>[]) (fun s=>s.1≤l.length∧FE l s.1 0 s.2) (fun s=>l.length-s.1) (0,true) ⟨Nat.zero_le _,FE.zero l⟩ ⟨I,I,I,tO⟩ [] I ?_
 rintro⟨i,c⟩ ⟨hi,hU⟩
 have hi:i≤l.length:=hi
 have hU:FE l i 0 c:=hU
 refine zA (zA (zB (wP I (wP I (wP I (wP I ?_))))))
 by_cases hlt:i<l.length
 ·refine wU 24 true I (dT (by omega)) (Aa (zE (zR I (zI (zE (zA (zH (zA (zB (wP I (wP I (wV 28 ((i+1:Nat):Int) I (As (by omega)) (wP I (wP I ?_))))))))))))))
  refine Ft I I I I I (by omega) ?_
  obtain⟨m,hm⟩: ∃m,m=(i+1)%l.length:=⟨_,rfl⟩
  have hml2:m<l.length:=by rw[hm];exact Nat.mod_lt _ (by omega)
  refine wV 31 (m:Nat) I (by rw[Int.tmod_eq_emod_of_nonneg (by omega)];omega) (wP I (Aa (zE (zA (zB (wP I (Aa (zE (zH ?_)))))))))
  refine A8 (X:=Nat×Bool) (fun s=>[(0,slv (some ⟨b,off,none⟩) l.length cap),(4, .bool s.2),(5, .int .i64 (i:Nat)),(6, .int .i64 (m:Nat)),(7, .int .i64 (s.1:Nat))]) (fun _=>[]) (fun s=>s.1≤l.length∧FE l i s.1 s.2) (fun s=>l.length-s.1) (0,c) ⟨Nat.zero_le _,hU⟩ ⟨I,I,I,I,I,tO⟩ [] I ?_
  rintro⟨j,d⟩ ⟨hj,hV⟩
  have hj:j≤l.length:=hj
  have hV:FE l i j d:=hV
  refine zA (zA (zB (wP I (wP I (wP I (wP I ?_))))))
  by_cases hjt:j<l.length
  ·refine wU 35 true I (dT (by omega)) (Aa (zE (zR I (zI (zE (zA (zH (zA (zA (zB ?_))))))))))
   have skip: ¬N7 l i j→FE l i (j+1) d:=fun h=>hV.skip h
   by_cases hji:j=i
   ·skip
    refine wP I (wP I (wP I (wU 40 true I (by rw[beq_iff_eq];omega) (wP I ?_))))
    iterate 3 refine At I I ?_
    exact wP I (Aa (zE (zR I (zJ (zK (zL (zE (zB (wP I (wP I (wV 37 ((j+1:Nat):Int) I (As (by omega)) (wP I (Aa (Ay (j+1,d) ⟨hjt,skip fun h=>h.1 hji⟩ (by show l.length-(j+1)<l.length-j;omega) ⟨I,I,I,I,I,tO⟩ [] I))))))))))))))
   refine wP I (wP I (wP I (wU 40 false I (by rw[beq_eq_false_iff_ne];omega) (wP I (wP I (wP I (wP I ?_)))))))
   by_cases hjm:j=m
   ·refine wU 44 true I (by rw[beq_iff_eq];omega) (wP I (Aa (zE (zR I (zJ (zK (zL (zE (zB (wP I (wP I (wV 37 ((j+1:Nat):Int) I (As (by omega)) (wP I ?_)))))))))))))
    exact Aa (Ay (j+1,d) ⟨hjt,skip fun h=>h.2 (by rw[←hm];exact hjm)⟩ (by show l.length-(j+1)<l.length-j;omega) ⟨I,I,I,I,I,tO⟩ [] I)
   refine wU 44 false I (by rw[beq_eq_false_iff_ne];omega) (wP I (Aa (zE (zS I (zI (zE (zA (zU ?_))))))))
   have hap:N7 l i j:=⟨hji,by rw[←hm];exact hjm⟩
   have em:Ab l m=Ab l (i+1):=by rw[hm,Bn]
   have hrm:Ak W b (off+m*2) [str (Ad (Ab l (i+1)).1),str (Ad (Ab l (i+1)).2)]:=by rw[←em];exact hrow m hml2
   have hri:=hrow i hlt
   have hrj:=hrow j hjt
   have ki:=hok i hlt
   have kj:=hok j hjt
   have km:okP (Ab l (i+1)):=by rw[←em];exact hok m hml2
   have hst:=fun he=>hV.step he hjt hap
   have htn:tnV (Ab l i) (Ab l (i+1)) (Ab l j)= .tuple #[.int .i64 (KT l i j).1, .int .i64 (KT l i j).2]:=WH _ _ _
   generalize hs0:(KT l i j).1=s0 at*
   generalize he0:(KT l i j).2=e0 at*
   refine qP I (qP I ?_)
   refine qJ ?_
   refine qL 0 I I (fun W1 hp=>hri.hp hp) I (qP I (qP I ?_))
   refine qJ ?_
   refine qL 0 I I (fun W1 hp=>hrm.hp hp) I (qP I (qP I ?_))
   refine qJ ?_
   refine qL 0 I I (fun W1 hp=>hrj.hp hp) I (qC I I (fun W1 hp=>(Lt (Ab l i) (Ab l (i+1)) (Ab l j) ki km kj W1 (ht.hp hp)).cast htn) ?_)
   iterate 5 refine qP I ?_
   refine AQ (Aa (zE (zA (zA (zB (wP I (wP I ?_)))))))
   by_cases hz:e0=0
   ·subst hz
    refine Aj 63 (.bool false) I I ?_
    refine Aa (zE (zS I (zI (zE (zB ?_)))))
    cases d with
    |true=>
     refine wP I (wP I (wP I (wP I (wU 68 (decide (0<s0)) I (decide_eq_decide.2 (by omega)) (wP I (wP I (Aa (zN (zE (zB (wP I (wP I (wV 37 ((j+1:Nat):Int) I (As (by omega)) ?_)))))))))))))
     exact wP I (Aa (Ay (j+1,decide (0<s0)) ⟨hjt,by have h:=hst I;rw[Bool.true_and] at h;exact h⟩ (by show l.length-(j+1)<l.length-j;omega) ⟨I,I,I,I,I,tO⟩ [] I))
    |false=>
     refine wP I (wP I ?_)
     iterate 2 refine At I I ?_
     exact wP I (wP I (Aa (zN (zE (zB (wP I (wP I (wV 37 ((j+1:Nat):Int) I (As (by omega)) (wP I (Aa (Ay (j+1,false) ⟨hjt,hst I⟩ (by show l.length-(j+1)<l.length-j;omega) ⟨I,I,I,I,I,tO⟩ [] I)))))))))))
   ·refine wU 63 true I (by show(!decide (e0=0))=true;rw[dF hz];rfl) (Aa (zE (zR I (zA (zB (wP I (wP I (Aa (zE (zO (zP (zQ (zP (zP ?_))))))))))))))
    exact zQ (zQ (zP (zP (zQ (zP (Az tH I (.tmp I) e0 I ⟨fun h=>absurd h hz,fun h=>absurd (he0▸(h i j hlt hjt hap).1) hz⟩ fun W _=>Ar.nil _ _))))))
  ·refine wU 35 false I (dF (by omega)) (Aa (zE (zS I (zJ (zK (zK (zL (zN (zE (zB (wP I (wP I (wV 26 ((i+1:Nat):Int) I (As (by omega)) ?_)))))))))))))
   exact wP I (Aa (Ay (i+1,d) ⟨hlt,hV.next (by omega)⟩ (by show l.length-(i+1)<l.length-i;omega) ⟨I,I,I,tO⟩ [] I))
 ·refine wU 24 false I (dF (by omega)) (Aa (zE (zS I (zJ (zK (zK (zL (zE (zA (zA (zB ?_)))))))))))
  have hi':i=l.length:=by omega
  cases c with
  |true=>
   exact wP I (wP I (Aa (zE (zS I (zI (zE (zA (zB (wP I (Aa (zE (zO (Az tH I (.tmp I) (0:Int) I ⟨fun _ a k h1 h2 h3=>⟨hU.e0 a k (by omega) h2 h3,hU.c0.1 I a k (by omega) h2 h3⟩,fun _=>rfl⟩ fun W _=>Ar.nil _ _)))))))))))))
  |false=>
   exact wP I (wP I (Aa (zE (zR I (zA (zB (wP I (Aa (zE (zO (zP (Az tH I (.tmp I) (15:Int) I ⟨fun h=>absurd h (by decide),fun h=>absurd (hU.c0.2 fun a k h1 h2 h3=>(h a k (by omega) h2 h3).2) (by decide)⟩ fun W _=>Ar.nil _ _))))))))))))
theorem PN {ok:Prop} [Decidable ok] {r x:Rat} (h:opO ok r=some x):x=r:=by
 unfold opO at h
 by_cases c:ok
 ·rw[if_pos c] at h;exact(Option.some.inj h).symm
 ·rw[if_neg c] at h;exact absurd h (by simp)
theorem Mw {a b c d x:Rat} (h:Bf (Bq (some a) (some b)) (Bq (some c) (some d))=some x):x=(a-b)*(c-d):=by
 cases h1:Bq (some a) (some b) with
 |none=>rw[h1] at h;exact absurd h (by rw[Bf];simp;intro p q;simp)
 |some u=>
  cases h2:Bq (some c) (some d) with
  |none=>rw[h1,h2] at h;exact absurd h (by rw[Bf];simp;intro p q;simp)
  |some v=>
   rw[h1,h2,Bf] at h
   rw[Bq] at h1 h2
   rw[PN h,PN h1,PN h2]
theorem Xx {p q r:Ag} (h:(tnR p q r).2=0) (h':0<(tnR p q r).1):0<A3 p q r:=by
 unfold tnR at h h'
 cases ha:tA p q r with
 |none=>rw[ha] at h;exact absurd h (by simp)
 |some x=>
  cases hb:tB p q r with
  |none=>rw[ha,hb] at h;exact absurd h (by simp)
  |some y=>
   rw[ha,hb] at h'
   have ex:=Mw ha
   have ey:=Mw hb
   by_cases c:AR x y
   ·simp only[if_pos c] at h'
    have hd:decide (CG x y>0)=true:=dT h'
    rw[I1,decide_eq_true_iff] at hd
    rw[ex,ey] at hd
    unfold A3
    grind
   ·simp only[if_neg c] at h'
    exact absurd h' (by decide)
theorem La.poly {l:List Ag} (h3:3≤l.length) (h:La l):Bm l:=by
 refine C2.of_chk h3 Ep fun i k hi hk h1 h2 h4=> ?_
 have ha:N7 l i k:=by
  refine⟨h1,fun e=> ?_⟩
  by_cases c:i+1<l.length
  ·rw[Nat.mod_eq_of_lt c] at e;exact h2 e
  ·have e2:i+1=l.length:=by omega
   rw[e2,Nat.mod_self] at e
   exact h4 ⟨e,e2⟩
 have:=h i k hi hk ha
 exact Xx this.1 this.2
-- BOXES 4
-- CODE2
theorem Ud {a:List UInt8} (h:(rdR a).2=0): ∃q,okQ q∧a=Ad q:=by
 unfold rdR at h
 cases hf:frm a with
 |none=>rw[hf] at h;exact absurd h (by decide)
 |some x=>
  obtain⟨z,d⟩:=x
  rw[hf] at h
  simp only at h
  by_cases h1:z.natAbs<Bw∧d<Bw
  ·rw[if_pos h1] at h
   by_cases h2:Nat.gcd z.natAbs d=1
   ·obtain⟨h3,h4⟩:=Mf hf
    exact⟨⟨z,d,by omega,h2⟩,⟨h1.1,by unfold okN;rw[Int.natAbs_natCast];exact h1.2⟩,h4⟩
   ·rw[if_neg h2] at h;exact absurd h (by decide)
  ·rw[if_neg h1] at h;exact absurd h (by decide)
-- BOXES 4
-- CODE2
theorem Hh: ∀ {l:List PtS},nErr l=0→ ∃m:List Ag,l=m.map cvS∧ ∀x∈m,okP x
 |[],_=>⟨[],rfl,fun _ h=>absurd h (by simp)⟩
 |x::l,h=>by
  have h:(if (rdR x.1).2≠0 then(rdR x.1).2 else if (rdR x.2).2≠0 then(rdR x.2).2 else nErr l)=0:=h
  by_cases h1:(rdR x.1).2=0
  ·rw[if_neg (by simp[h1])] at h
   by_cases h2:(rdR x.2).2=0
   ·rw[if_neg (by simp[h2])] at h
    obtain⟨m,rfl,hm⟩:=Hh h
    obtain⟨q1,o1,e1⟩:=Ud h1
    obtain⟨q2,o2,e2⟩:=Ud h2
    refine⟨(q1,q2)::m, ?_,fun y hy=> ?_⟩
    ·rw[List.map_cons,cvS, ←e1, ←e2]
    ·rcases List.mem_cons.1 hy with rfl|hy
     ·exact⟨o1,o2⟩
     ·exact hm y hy
   ·rw[if_pos h2] at h
    exact absurd h h2
  ·rw[if_pos h1] at h
   exact absurd h h1
def Z8 (l:List PtS):Prop:= ∃m:List Ag,l=m.map cvS∧3≤m.length∧(∀x∈m,okP x)∧Bm m
theorem Qm (W:World) (p:Option Addr) (cap:Nat) (l:List PtS) (hA:Dm W p l) (h4:l.length≤4096) (hs: ∀x∈l,x.1.length<4611686018427387904∧x.2.length<4611686018427387904) (ht:AM W):
  Ai Tryz.prog 39 #[slv p l.length cap] W (fun e:Int=> .int .i64 e) (fun e=>e=0→Z8 l) (fun _=>[]):=by
 by_cases h3:3≤l.length
 rotate_left
 ·refine Ae (args:=[slv p l.length cap]) Tryz.func39 I I I ?_
  refine zA (zB (wP I (Aa (zE (zA (zA (zB (wP I (wP I (wP I (wU 12 true I (dT (by omega)) (Aa (zE ?_)))))))))))))
  exact zR I (zA (zB (wP I (Aa (zE (zO (zP (Az tH I (.tmp I) (5:Int) I (fun h=>absurd h (by decide)) fun W _=>Ar.nil _ _))))))))
 by_cases h0:nErr l=0
 ·obtain⟨m,rfl,hm⟩:=Hh h0
  rw[List.length_map] at h3 h4
  have h:=IN W p cap m hA h3 h4 hm ht
  rw[List.length_map]
  refine⟨h.out.mono ?_⟩
  rintro e W' ⟨x,he,hx,hb⟩
  exact⟨x,he,fun h0=>⟨m,I,h3,hm,(hx.1 h0).poly h3⟩,hb⟩
 ·refine Ae (args:=[slv p l.length cap]) Tryz.func39 I I I ?_
  refine zA (zB (wP I (Aa (zE (zA (zA (zB (wP I (wP I (wP I (wU 12 false I (dF (by omega)) (Aa (zE ?_)))))))))))))
  refine zS I (zI (zE (zA (zA (zB (wP I (wP I (wP I (wU 15 false I (dF (by omega)) (Aa (zE (zS I (zI ?_)))))))))))))
  refine zE (zA (zA (zB (wP I (wC I I (fun W1 hp=>DZ W1 p cap l (hA.hp hp) (by omega) hs (ht.hp hp)) (wP I (Aa (zE (zA (zB (wP I (wP I (wU 19 true I (bne_iff_ne.2 h0) ?_)))))))))))))
  exact Aa (zE (zR I (zA (zB (wP I (wP I (Aa (zE (zO (zP (Az tH I (.tmp I) (nErr l) I (fun h=>absurd h h0) fun W _=>Ar.nil _ _)))))))))))
abbrev Ls:=Option Addr×Nat×List PtS
abbrev lsV (x:Ls):Value:=slv x.1 x.2.2.length x.2.1
structure LsP (W:World) (g off:Nat) (xs:List Ls):Prop where
 r:Ak W g off (xs.map lsV)
 p: ∀x∈xs,Dm W x.1 x.2.2
theorem LsP.hp {W0 W:World} {bxs:List Bx} {g off:Nat} {xs:List Ls} (h:LsP W0 g off xs) (hp:Hp W0 bxs W):LsP W g off xs:=⟨h.r.hp hp,fun x hx=>(h.p x hx).hp hp⟩
theorem LsP.row {W:World} {g off:Nat} {xs:List Ls} (h:LsP W g off xs) {i:Nat} (hi:i<xs.length):Ak W g (off+i*1) [lsV xs[i]]:=by
 refine⟨h.r.lt,fun j u hu=> ?_⟩
 have hj:j=0:=by have:=(List.getElem?_eq_some_iff.1 hu).1;simpa using this
 subst hj
 have:=h.r.get i (lsV xs[i]) (by rw[List.getElem?_map,List.getElem?_eq_getElem hi];rfl)
 rw[Nat.mul_one,Nat.add_zero,this]
 simpa using hu
theorem OI {α:Type} {F:α→Bool} {l:List α} {i:Nat} (h:i<l.length):(l.drop i).any F=(F l[i]||(l.drop (i+1)).any F):=by
 rw[List.drop_eq_getElem_cons h,List.any_cons]
def K7 (x:Ls):Bool:=JZ x.2.2
theorem NS (xs:List Ls) (hn:xs.length≤100000) (hl: ∀x∈xs,x.2.2.length<4611686018427387904) (g off cap:Nat) (W:World) (hS:LsP W g off xs):
  Ai Tryz.prog 124 #[slv (some ⟨g,off,none⟩) xs.length cap, .func (.func 58) #[] #[]] W (fun z:Int=> .int .i64 z) (fun z=>0≤z↔xs.any K7=true) (fun _=>[]):=by
 refine Ae (args:=[slv (some ⟨g,off,none⟩) xs.length cap, .func (.func 58) #[] #[]]) Tryz.func124 I I I ?_
 refine zA (zB (wP I (Aa (zE (zA (zA (zB (wP I (wP I (wP I (Aa (zE (zH ?_)))))))))))))
 refine A8 (X:=Nat) (fun i=>[(0,slv (some ⟨g,off,none⟩) xs.length cap),(1, .func (.func 58) #[] #[]),(6,slv (some ⟨g,off,none⟩) xs.length cap),(7, .int .i64 (xs.length:Nat)),(8, .int .i64 (i:Nat))]) (fun _=>[]) (fun i=>i≤xs.length∧xs.any K7=(xs.drop i).any K7) (fun i=>xs.length-i) 0 ⟨Nat.zero_le _,by rw[List.drop_zero]⟩ ⟨I,I,I,I,I,tO⟩ [] I ?_
 intro i hi
 obtain⟨hi,hA⟩:i≤xs.length∧xs.any K7=(xs.drop i).any K7:=hi
 refine zA (zB (wP I ?_))
 by_cases hlt:i<xs.length
 rotate_left
 ·refine wU 9 false I (dF (by omega)) (Aa (zE (zA (zS I (zJ (zK (zK (zL (zE (zA (zB (wP I (Aa ?_)))))))))))))
  refine zE (zO ?_)
  rw[List.drop_of_length_le (by omega)] at hA
  exact Az tH I (.tmp I) (-1:Int) I (by rw[hA];exact⟨fun h=>absurd h (by decide),fun h=>absurd (show false=true from h) (by decide)⟩) fun W _=>Ar.nil _ _
 refine wU 9 true I (dT (by omega)) (Aa (zE (zA (zR I (zI (zE (zA (zH (zA (zB ?_))))))))))
 have hr:=hS.row hlt
 rw[OI hlt] at hA
 have hx:xs[i]∈xs:=List.getElem_mem _
 obtain⟨x,hq⟩: ∃x,x=xs[i]:=⟨_,rfl⟩
 rw[←hq] at hr hA hx
 refine wP I (wP I (Aa (zE (zA (zB (wP I (wP I (wP I ?_))))))))
 refine wJ ?_
 refine wL 0 I I (fun W1 hp=>hr.hp hp) I ?_
 refine BB (capt:=[]) I I I I I I (by kernel_rfl) (fun W1 hp=>NH W1 x.1 x.2.1 x.2.2 ((hS.p x hx).hp hp) (hl x hx)) ?_
 refine Aa (zE ?_)
 refine A0 I (fun hc=> ?_) (fun hc=> ?_)
 ·have hc:K7 x=true:=hc
  exact zA (zB (wP I (wP I (Aa (zE (zO (zQ (zP (zP (zQ (zP (Az tH I (.tmp I) ((i:Nat):Int) I ⟨fun _=>by rw[hA,hc];rfl,fun _=>by omega⟩ fun W _=>Ar.nil _ _))))))))))))
 ·have hc:K7 x=false:=hc
  rw[hc,Bool.false_or] at hA
  exact zI (zN (zE (zB (wP I (wV 18 ((i+1:Nat):Int) I (As (by omega)) (wP I (Aa (Ay (i+1) ⟨hlt,hA⟩ (by show xs.length-(i+1)<xs.length-i;omega) ⟨I,I,I,I,I,tO⟩ [] I))))))))
theorem KP (xs:List Ls) (hn:xs.length≤100000) (hl: ∀x∈xs,x.2.2.length<4611686018427387904) (g off cap:Nat) (W:World) (hS:LsP W g off xs):
  Ai Tryz.prog 57 #[slv (some ⟨g,off,none⟩) xs.length cap, .func (.func 58) #[] #[]] W (fun _:Unit=> .bool (xs.any K7)) (fun _=>True) (fun _=>[]):=by
 refine Ae (args:=[slv (some ⟨g,off,none⟩) xs.length cap, .func (.func 58) #[] #[]]) Tryz.func57 I I I ?_
 refine zA (zB (wP I (Aa (zE (zA (zB (wP I (wP I ?_))))))))
 refine wD (X:=Int) I I (fun W1 hp=>NS xs hn hl g off cap W1 (hS.hp hp)) ?_
 intro z hz
 have hz:0≤z↔xs.any K7=true:=hz
 refine wP I ?_
 refine Aj 8 (.bool (xs.any K7)) I (congrArg Value.bool (by
  cases h:xs.any K7 with
  |true=>exact dT (hz.2 h)
  |false=>exact dF fun h2=>by rw[hz.1 h2] at h;cases h)) ?_
 exact wP I (Aa (zE (zO (wR1 I I I))))
theorem P8 (xs:List Ls) (hn:xs.length≤100000) (hl: ∀x∈xs,x.2.2.length<4611686018427387904) (g off cap:Nat) (W:World) (hS:LsP W g off xs):
  Ai Tryz.prog 20 #[slv (some ⟨g,off,none⟩) xs.length cap] W (fun _:Unit=> .bool (xs.any K7)) (fun _=>True) (fun _=>[]):=by
 refine Ae (args:=[slv (some ⟨g,off,none⟩) xs.length cap]) Tryz.func20 I I I ?_
 refine zA (zB (wP I (Aa (zE (zA (zB (wP I ?_)))))))
 refine BB (capt:=[]) I I I I I I (by kernel_rfl) (fun W1 hp=>KP xs hn hl g off cap W1 (hS.hp hp)) ?_
 exact wP I (Aa (zE (zO (wR1 I I I))))
theorem NB (g:Nat) (hE:Bl Tryz.prog g=true) (F:PtS→Bool) (hg: ∀x W,Ai Tryz.prog g #[.agg #[str x.1,str x.2]] W (fun _:Unit=> .bool (F x)) (fun _=>True) (fun _=>[])) (xs:List PtS) (hn:xs.length≤100000) (p:Option Addr) (cap:Nat) (W:World) (hS:Dm W p xs):
  Ai Tryz.prog 81 #[slv p xs.length cap, .func (.func g) #[] #[]] W (fun z:Int=> .int .i64 z) (fun z=>0≤z↔xs.any F=true) (fun _=>[]):=by
 refine Ae (args:=[slv p xs.length cap, .func (.func g) #[] #[]]) Tryz.func81 I I I ?_
 refine zA (zB (wP I (Aa (zE (zA (zA (zB (wP I (wP I (wP I (Aa (zE (zH ?_)))))))))))))
 refine A8 (X:=Nat) (fun i=>[(0,slv p xs.length cap),(1, .func (.func g) #[] #[]),(6,slv p xs.length cap),(7, .int .i64 (xs.length:Nat)),(8, .int .i64 (i:Nat))]) (fun _=>[]) (fun i=>i≤xs.length∧xs.any F=(xs.drop i).any F) (fun i=>xs.length-i) 0 ⟨Nat.zero_le _,by rw[List.drop_zero]⟩ ⟨I,I,I,I,I,tO⟩ [] I ?_
 intro i hi
 obtain⟨hi,hA⟩:i≤xs.length∧xs.any F=(xs.drop i).any F:=hi
 refine zA (zB (wP I ?_))
 by_cases hlt:i<xs.length
 rotate_left
 ·refine wU 9 false I (dF (by omega)) (Aa (zE (zA (zS I (zJ (zK (zK (zL (zE (zA (zB (wP I (Aa ?_)))))))))))))
  refine zE (zO ?_)
  rw[List.drop_of_length_le (by omega)] at hA
  exact Az tH I (.tmp I) (-1:Int) I (by rw[hA];exact⟨fun h=>absurd h (by decide),fun h=>absurd (show false=true from h) (by decide)⟩) fun W _=>Ar.nil _ _
 refine wU 9 true I (dT (by omega)) (Aa (zE (zA (zR I (zI (zE (zA (zH (zA (zB ?_))))))))))
 obtain⟨b,off,rfl,hrow⟩: ∃b off,p=some ⟨b,off,none⟩∧ ∀i (hi:i<xs.length),Ak W b (off+i*2) [str xs[i].1,str xs[i].2]:=by
  rcases hS with h|h
  ·rw[h] at hlt;exact absurd hlt (by simp)
  ·exact h
 have hr:=hrow i hlt
 rw[OI hlt] at hA
 obtain⟨x,hq⟩: ∃x,x=xs[i]:=⟨_,rfl⟩
 rw[←hq] at hr hA
 refine wP I (wP I (Aa (zE (zA (zB (wP I (wP I (wP I ?_))))))))
 refine wJ ?_
 refine wL 0 I I (fun W1 hp=>hr.hp hp) I ?_
 refine BB (capt:=[]) I I I I I I hE (fun W1 _=>hg x W1) ?_
 refine Aa (zE ?_)
 refine A0 I (fun hc=> ?_) (fun hc=> ?_)
 ·have hc:F x=true:=hc
  exact zA (zB (wP I (wP I (Aa (zE (zO (zQ (zP (zP (zQ (zP (Az tH I (.tmp I) ((i:Nat):Int) I ⟨fun _=>by rw[hA,hc];rfl,fun _=>by omega⟩ fun W _=>Ar.nil _ _))))))))))))
 ·have hc:F x=false:=hc
  rw[hc,Bool.false_or] at hA
  exact zI (zN (zE (zB (wP I (wV 18 ((i+1:Nat):Int) I (As (by omega)) (wP I (Aa (Ay (i+1) ⟨hlt,hA⟩ (by show xs.length-(i+1)<xs.length-i;omega) ⟨I,I,I,I,I,tO⟩ [] I))))))))
theorem KU (g:Nat) (hE:Bl Tryz.prog g=true) (F:PtS→Bool) (hg: ∀x W,Ai Tryz.prog g #[.agg #[str x.1,str x.2]] W (fun _:Unit=> .bool (F x)) (fun _=>True) (fun _=>[])) (xs:List PtS) (hn:xs.length≤100000) (p:Option Addr) (cap:Nat) (W:World) (hS:Dm W p xs):
  Ai Tryz.prog 29 #[slv p xs.length cap, .func (.func g) #[] #[]] W (fun _:Unit=> .bool (xs.any F)) (fun _=>True) (fun _=>[]):=by
 refine Ae (args:=[slv p xs.length cap, .func (.func g) #[] #[]]) Tryz.func29 I I I ?_
 refine zA (zB (wP I (Aa (zE (zA (zB (wP I (wP I ?_))))))))
 refine wD (X:=Int) I I (fun W1 hp=>NB g hE F hg xs hn p cap W1 (hS.hp hp)) ?_
 intro z hz
 have hz:0≤z↔xs.any F=true:=hz
 refine wP I ?_
 refine Aj 8 (.bool (xs.any F)) I (congrArg Value.bool (by
  cases h:xs.any F with
  |true=>exact dT (hz.2 h)
  |false=>exact dF fun h2=>by rw[hz.1 h2] at h;cases h)) ?_
 exact wP I (Aa (zE (zO (wR1 I I I))))
theorem Vu {l:List PtS} (h:JZ l=false):l.length≤8∧ ∀x∈l,x.1.length≤604∧x.2.length≤604:=by
 unfold JZ at h
 rw[Bool.or_eq_false_iff] at h
 refine⟨by have:=of_decide_eq_false h.2;omega,fun x hx=> ?_⟩
 have h1:=List.any_eq_false.1 h.1 x hx
 have h2:LD x=false:=by cases e:LD x with
  |true=>exact absurd e h1
  |false=>rfl
 unfold LD at h2
 rw[Bool.or_eq_false_iff] at h2
 have one: ∀a:List UInt8,HE a=false→a.length≤604:=fun a ha=>by
  unfold HE at ha
  rw[Bool.or_eq_false_iff] at ha
  have:=of_decide_eq_false ha.2
  omega
 exact⟨one _ h2.1,one _ h2.2⟩
-- BOXES 8
-- CODE2
abbrev caF (c:Nat) (s:Bool):Bx:=⟨c,61,[.int .i64 (erI s)],false,none⟩
def kLf (s:Bool) (p q r:Ag):Int×Bool:=
 kOr (kMu (kMu (kSb (kSb (kSb (kSb s q.1 p.1).2 r.2 p.2).2 q.2 p.2).2 r.1 p.1).2 (kSb s q.1 p.1).1 (kSb (kSb s q.1 p.1).2 r.2 p.2).1).2 (kSb (kSb (kSb s q.1 p.1).2 r.2 p.2).2 q.2 p.2).1 (kSb (kSb (kSb (kSb s q.1 p.1).2 r.2 p.2).2 q.2 p.2).2 r.1 p.1).1).2
  (kMu (kSb (kSb (kSb (kSb s q.1 p.1).2 r.2 p.2).2 q.2 p.2).2 r.1 p.1).2 (kSb s q.1 p.1).1 (kSb (kSb s q.1 p.1).2 r.2 p.2).1).1
  (kMu (kMu (kSb (kSb (kSb (kSb s q.1 p.1).2 r.2 p.2).2 q.2 p.2).2 r.1 p.1).2 (kSb s q.1 p.1).1 (kSb (kSb s q.1 p.1).2 r.2 p.2).1).2 (kSb (kSb (kSb s q.1 p.1).2 r.2 p.2).2 q.2 p.2).1 (kSb (kSb (kSb (kSb s q.1 p.1).2 r.2 p.2).2 q.2 p.2).2 r.1 p.1).1).1
structure Gl (p q r:Ag):Prop where
 a:CV q.1 p.1
 b:CV r.2 p.2
 c:CV q.2 p.2
 d:CV r.1 p.1
 m:Cf (q.1-p.1) (r.2-p.2)
 n:Cf (q.2-p.2) (r.1-p.1)
 o:AR ((q.1-p.1)*(r.2-p.2)) ((q.2-p.2)*(r.1-p.1))
theorem DM {ok:Prop} [Decidable ok] {r:Rat} {s:Bool}:(opR ok r s).2=false↔s=false∧ok:=by
 cases s with
 |true=>rw[QR];simp
 |false=>
  by_cases c:ok
  ·rw[BU c];simp[c]
  ·rw[Vl c];simp[c]
theorem Iw {s:Bool} {p q:Rat}:(kOr s p q).2=false↔s=false∧AR p q:=by
 cases s with
 |true=>rw[Ry];simp
 |false=>
  by_cases c:AR p q
  ·rw[Gg c];simp[c]
  ·rw[RB c];simp[c]
theorem Ws {p q r:Ag} (h:Gl p q r):kLf false p q r=(Ha p q r,false):=by
 have a:kSb false q.1 p.1=(q.1-p.1,false):=BU h.a
 have b:kSb false r.2 p.2=(r.2-p.2,false):=BU h.b
 have c:kSb false q.2 p.2=(q.2-p.2,false):=BU h.c
 have d:kSb false r.1 p.1=(r.1-p.1,false):=BU h.d
 unfold kLf
 simp only[a,b,c,d]
 have m:kMu false (q.1-p.1) (r.2-p.2)=((q.1-p.1)*(r.2-p.2),false):=BU h.m
 have n:kMu false (q.2-p.2) (r.1-p.1)=((q.2-p.2)*(r.1-p.1),false):=BU h.n
 simp only[m,n]
 rw[Gg h.o];rfl
theorem Yw {s:Bool} {p q r:Ag}:(kLf s p q r).2=false↔s=false∧Gl p q r:=by
 constructor
 ·intro h
  unfold kLf at h
  have h7:=Iw.1 h
  have h6:=DM.1 h7.1
  have h5:=DM.1 h6.1
  have h4:=DM.1 h5.1
  have h3:=DM.1 h4.1
  have h2:=DM.1 h3.1
  have h1:=DM.1 h2.1
  obtain⟨rfl,a⟩:=h1
  have ea:kSb false q.1 p.1=(q.1-p.1,false):=BU a
  have b:=h2.2
  have c:=h3.2
  have d:=h4.2
  have eb:kSb false r.2 p.2=(r.2-p.2,false):=BU b
  have ec:kSb false q.2 p.2=(q.2-p.2,false):=BU c
  have ed:kSb false r.1 p.1=(r.1-p.1,false):=BU d
  have m:=h5.2
  have n:=h6.2
  have o:=h7.2
  simp only[ea,eb,ec,ed] at m n o
  have em:kMu false (q.1-p.1) (r.2-p.2)=((q.1-p.1)*(r.2-p.2),false):=BU m
  have en:kMu false (q.2-p.2) (r.1-p.1)=((q.2-p.2)*(r.1-p.1),false):=BU n
  simp only[em,en] at o
  exact⟨I,a,b,c,d,m,n,o⟩
 ·rintro⟨rfl,h⟩
  rw[Ws h]
theorem FG (c:Nat) (s:Bool) (p q r:Ag) (hp:okP p) (hq:okP q) (hr:okP r) (W:World) (h:KcP c s W):EM 55 [Ah c,cvV p,cvV q,cvV r] c (kLf s p q r) W:=by
 obtain⟨x1,e1⟩: ∃x,x=kSb s q.1 p.1:=⟨_,rfl⟩
 obtain⟨x2,e2⟩: ∃x,x=kSb x1.2 r.2 p.2:=⟨_,rfl⟩
 obtain⟨x3,e3⟩: ∃x,x=kSb x2.2 q.2 p.2:=⟨_,rfl⟩
 obtain⟨x4,e4⟩: ∃x,x=kSb x3.2 r.1 p.1:=⟨_,rfl⟩
 obtain⟨x5,e5⟩: ∃x,x=kMu x4.2 x1.1 x2.1:=⟨_,rfl⟩
 obtain⟨x6,e6⟩: ∃x,x=kMu x5.2 x3.1 x4.1:=⟨_,rfl⟩
 obtain⟨x7,e7⟩: ∃x,x=kOr x6.2 x5.1 x6.1:=⟨_,rfl⟩
 have eL:kLf s p q r=x7:=by rw[e7,e6,e5,e4,e3,e2,e1];rfl
 have o1:okQ x1.1:=by rw[e1];exact My _ _ _
 have o2:okQ x2.1:=by rw[e2];exact My _ _ _
 have o3:okQ x3.1:=by rw[e3];exact My _ _ _
 have o4:okQ x4.1:=by rw[e4];exact My _ _ _
 have o5:okQ x5.1:=by rw[e5];exact Jd _ _ _
 have o6:okQ x6.1:=by rw[e6];exact Jd _ _ _
 have c1: ∀W1,KcP c s W1→Ca 59 [Ah c,str (Ad q.1),str (Ad p.1)] c x1 W1:=fun W1 h=>by rw[e1];exact Fk c s _ _ hq.1 hp.1 W1 h
 have c2: ∀W1,KcP c x1.2 W1→Ca 59 [Ah c,str (Ad r.2),str (Ad p.2)] c x2 W1:=fun W1 h=>by rw[e2];exact Fk c _ _ _ hr.2 hp.2 W1 h
 have c3: ∀W1,KcP c x2.2 W1→Ca 59 [Ah c,str (Ad q.2),str (Ad p.2)] c x3 W1:=fun W1 h=>by rw[e3];exact Fk c _ _ _ hq.2 hp.2 W1 h
 have c4: ∀W1,KcP c x3.2 W1→Ca 59 [Ah c,str (Ad r.1),str (Ad p.1)] c x4 W1:=fun W1 h=>by rw[e4];exact Fk c _ _ _ hr.1 hp.1 W1 h
 have c5: ∀W1,KcP c x4.2 W1→Ca 60 [Ah c,str (Ad x1.1),str (Ad x2.1)] c x5 W1:=fun W1 h=>by rw[e5];exact D2 c _ _ _ o1 o2 W1 h
 have c6: ∀W1,KcP c x5.2 W1→Ca 60 [Ah c,str (Ad x3.1),str (Ad x4.1)] c x6 W1:=fun W1 h=>by rw[e6];exact D2 c _ _ _ o3 o4 W1 h
 have c7: ∀W1,KcP c x6.2 W1→EM 53 [Ah c,str (Ad x5.1),str (Ad x6.1)] c x7 W1:=fun W1 h=>by rw[e7];exact C3 c _ _ _ o5 o6 W1 h
 rw[eL]
 clear eL e1 e2 e3 e4 e5 e6 e7
 refine Cm.enter h Tryz.func55 I I I ?_
 refine zA (zB ?_)
 (refine Ax rfl rfl rfl rfl ?_;intro)
 (refine Ax rfl rfl rfl rfl ?_;intro)
 (refine Ax rfl rfl rfl rfl ?_;intro)
 refine wP I (Aa ?_)
 rename_i b5 b6 b7
 refine zE (Ao ?_)
 refine AL (X:=Unit) [true,true,true,true,true,false,true,true,true,true,true,false,false,false] (fun _=>[(0,Ah c),(5,Ah b5),(6,Ah b6),(7,Ah b7),(9,str (Ad x1.1)),(10,str (Ad x2.1))]) (fun _=>[AT (Aw W c),caE c x2.2,ptB b5 (Ad p.1) (Ad p.2),ptB b6 (Ad q.1) (Ad q.2),ptB b7 (Ad r.1) (Ad r.2)])
  4 [AT (Aw W c),caF c s,ptB b5 (Ad p.1) (Ad p.2),ptB b6 (Ad q.1) (Ad q.2),ptB b7 (Ad r.1) (Ad r.2)] Tryz.mixed (by kernel_rfl) ?_ ?_
 ·refine qP I (qP I (qB 3 I I I (qP I (qB 2 I I I (qP I (qP I (qB 4 I I I (qP I (qB 2 I I I (Bu (wX (wZ ?_))))))))))))
  refine AO 1 c I I I I I I (by kernel_rfl) I (fun W1 hp1=>c1 W1 (h.at_ (bs:=[ptB b5 (Ad p.1) (Ad p.2),ptB b6 (Ad q.1) (Ad q.2),ptB b7 (Ad r.1) (Ad r.2)]) hp1)) ?_
  refine Aa (Ac (wX (wZ ?_)))
  refine AO 1 c I I I I I I (by kernel_rfl) I (fun W1 hp1=>c2 W1 (h.at_ (bs:=[ptB b5 (Ad p.1) (Ad p.2),ptB b6 (Ad q.1) (Ad q.2),ptB b7 (Ad r.1) (Ad r.2)]) hp1)) ?_
  refine Aa (Ac (wX (wZ (wP I (Aa (Ac (wX (wZ (wP I (Aa (Ac ?_)))))))))))
  refine A5 I (by((repeat (first|refine A9.same ?_|refine A9.off I ?_));exact tO)) ?_
  exact Al () ⟨I,I,I,I,I,I,tO⟩ [0,1,2,3,4] (by decide) I
 intro _
 refine zE (Ao ?_)
 refine AL (X:=Unit) [true,true,true,true,true,false,true,true,true,true,true,false,false,false] (fun _=>[(0,Ah c),(9,str (Ad x1.1)),(10,str (Ad x2.1)),(11,str (Ad x3.1)),(12,str (Ad x4.1))]) (fun _=>[AT (Aw W c),caE c x4.2])
  4 [AT (Aw W c),caF c x2.2,ptB b5 (Ad p.1) (Ad p.2),ptB b6 (Ad q.1) (Ad q.2),ptB b7 (Ad r.1) (Ad r.2)] Tryz.mixed (by kernel_rfl) ?_ ?_
 ·refine qP I (qP I (qB 3 I I I (qP I (qB 2 I I I (qP I (qP I (qB 4 I I I (qP I (qB 2 I I I (Bu (wX (wZ ?_))))))))))))
  refine AO 1 c I I I I I I (by kernel_rfl) I (fun W1 hp1=>c3 W1 (h.at_ (bs:=[ptB b5 (Ad p.1) (Ad p.2),ptB b6 (Ad q.1) (Ad q.2),ptB b7 (Ad r.1) (Ad r.2)]) hp1)) ?_
  refine Aa (Ac (wX (wZ ?_)))
  refine AO 1 c I I I I I I (by kernel_rfl) I (fun W1 hp1=>c4 W1 (h.at_ (bs:=[ptB b5 (Ad p.1) (Ad p.2),ptB b6 (Ad q.1) (Ad q.2),ptB b7 (Ad r.1) (Ad r.2)]) hp1)) ?_
  refine Aa (Ac (wX (wZ (wP I (Aa (Ac (wX (wZ (wP I (Aa (Ac ?_)))))))))))
  refine A5 I (by((repeat (first|refine A9.same ?_|refine A9.off I ?_));exact tO)) ?_
  exact Al () ⟨I,I,I,I,I,tO⟩ [0,1] (by decide) I
 intro _
 refine zE (zA (zB (wP I (wP I (wP I (wP I ?_))))))
 refine AO 1 c I I I I I I (by kernel_rfl) I (fun W1 hp1=>c5 W1 (h.at_ (bs:=[]) hp1)) ?_
 refine wP I (wP I (wP I ?_))
 refine AO 1 c I I I I I I (by kernel_rfl) I (fun W1 hp1=>c6 W1 (h.at_ (bs:=[]) hp1)) ?_
 refine AO 1 c I I I I I I (by kernel_rfl) I (fun W1 hp1=>c7 W1 (h.at_ (bs:=[]) hp1)) ?_
 exact wP I (Aa (zE (zO (Az tH I (.tmp I) () I tO fun W1 hp=>EE hp))))
theorem KI.of {c:Nat} {p q r:Ag} (hp:okP p) (hq:okP q) (hr:okP r) (h:Gl p q r) {W:World} (hk:KcP c false W):KI c p q r W:=by
 have:=FG c false p q r hp hq hr W hk
 rw[Ws h] at this
 exact this.same hk.o
theorem Hu {c:Nat} {p q:Rat} (hp:okQ p) (hq:okQ q) (h:AR p q) {W:World} (hk:KcP c false W):Ai Tryz.prog 53 #[Ah c,str (Ad p),str (Ad q)] W (fun _:Unit=> .int .i64 (CG p q)) (fun _=>True) (fun _=>[]):=by
 have:=C3 c false p q hp hq W hk
 rw[Gg h] at this
 exact this.same hk.o
theorem KcP.below {c:Nat} {s:Bool} {W W':World} (h:KcP c s W) (hb:Below W.heap.size W W'):KcP c s W':=
 ⟨(hb.block c (Array.getElem?_eq_some_iff.1 h.o).1).trans h.o,fun _ h2=>h.k _ (GB.trans ⟨hb.os,hb.tape,hb.output,hb.size,fun x _ hx=>hb.block x hx⟩ h2)⟩
theorem KcP.hp {c:Nat} {s:Bool} {W0 W:World} {bxs:List Bx} (h:KcP c s W0) (hp:Hp W0 bxs W):KcP c s W:=h.below hp.below
theorem KK.of {c:Nat} {p q:Ag} (hp:okP p) (hq:okP q) (h1:AR p.1 q.1) (h2:AR p.2 q.2) {W:World} (hk:KcP c false W):KK c p q W:=by
 refine Ae (args:=[Ah c,cvV p,cvV q]) Tryz.func71 I I I ?_
 refine zA (zB ?_)
 (refine Ax rfl rfl rfl rfl ?_;intro)
 (refine Ax rfl rfl rfl rfl ?_;intro)
 refine wP I (Aa (zE (zA (zA (zB (wP I (wP I (wB 0 I I I (wP I (wB 1 I I I ?_))))))))))
 rcases Hi p.1 q.1 with e|e|e
 ·refine wC I I (fun W hp1=>(Hu hp.1 hq.1 h1 (hk.hp hp1)).cast (congrArg (Value.int .i64) e)) (wP I (Aa (zE (zA (zB (wP I (wP I (Aa (zE (zR I (zA (zB (wP I (wP I ?_))))))))))))))
  exact Aa (zE (zO (zP (wR1 I I (by rw[GZ,e,if_neg (by decide)])))))
 ·refine wC I I (fun W hp1=>(Hu hp.1 hq.1 h1 (hk.hp hp1)).cast (congrArg (Value.int .i64) e)) (wP I (Aa (zE (zA (zB (wP I (wP I (Aa (zE (zS I (zI (zE (zA ?_)))))))))))))
  exact zB (wP I (wP I (wB 0 I I I (wP I (wB 1 I I I (wC I I (fun W hp1=>Hu hp.2 hq.2 h2 (hk.hp hp1)) (wP I (Aa (zE (zO (wR1 I I (by rw[GZ,if_pos e]))))))))))))
 ·refine wC I I (fun W hp1=>(Hu hp.1 hq.1 h1 (hk.hp hp1)).cast (congrArg (Value.int .i64) e)) (wP I (Aa (zE (zA (zB (wP I (wP I (Aa (zE (zR I (zA (zB (wP I (wP I ?_))))))))))))))
  exact Aa (zE (zO (zP (wR1 I I (by rw[GZ,e,if_neg (by decide)])))))
-- BOXES 8
-- CODE2
theorem Cs.keep {W W1:World} {p:Option Addr} {l:List Ag} {c:Nat} {s:Bool} (h:Cs W p l) (ho:W.heap[c]? =some (caO s)) (hK:GB W W1 c):Cs W1 p l:=by
 rcases h with h|⟨b,off,e,h⟩
 ·exact .inl h
 refine .inr ⟨b,off,e,fun i hi=> ?_⟩
 have hr:=h i hi
 have hne:b≠c:=fun e=>by
  subst e
  have h0:=hr.get 0 (str (Ad l[i].1)) rfl
  simp only[World.cell?,ho] at h0
  generalize off+i*2+0=k at h0
  cases k with
  |zero=>simp at h0
  |succ k=>simp at h0
 refine⟨Nat.lt_of_lt_of_le hr.lt hK.size,fun j u hu=> ?_⟩
 have h1:=hr.get j u hu
 have h2:=hK.at_ b hne hr.lt
 simp only[World.cell?] at h1⊢
 rw[h2]
 exact h1
theorem Cs.kc {W W1:World} {p:Option Addr} {l:List Ag} {c:Nat} {s s1:Bool} {bs:List Bx} (h:Cs W p l) (ho:W.heap[c]? =some (caO s)) (hp:Hp (Bb W) (AT (Aw W c)::caE c s1::bs) W1):Cs W1 p l:=
 h.keep ho (Gt ho ⟨_,List.mem_cons_self ..⟩ (Hp.take (bxs:=[AT (Aw W c),caE c s1]) (nb:=bs) hp))
structure V3 (l:List Ag) (a b:Nat):Prop where
 x:AR (Ab l a).1 (Ab l b).1
 y:AR (Ab l a).2 (Ab l b).2
 t: ∀d,d<l.length→Gl (Ab l a) (Ab l b) (Ab l d)
def Dl (l:List Ag):Prop:= ∀a,a<l.length→ ∀b,b<l.length→V3 l a b
theorem N9 (c:Nat) (l:List Ag) (h0:0<l.length) (hn:l.length≤4096) (hq: ∀p∈l,okP p) (p:Option Addr) (cap:Nat) (W:World) (hA:Cs W p l) (h:KcP c false W):
  Cm 74 [Ah c,slv p l.length cap] c (fun s:Bool=>s) (fun s=> .int .i64 (erI s)) (fun s=>s=false↔Dl l) W:=by
 obtain⟨g,off,hpe,_⟩:=hA.at_ h0
 have hrow: ∀ {W1:World} {s1:Bool} {bs:List Bx},Hp (Bb W) (AT (Aw W c)::caE c s1::bs) W1→ ∀j,j<l.length→Ak W1 g (off+j*2) [str (Ad (Ab l j).1),str (Ad (Ab l j).2)]:=fun hp j hj=>by
  obtain⟨g',off',e',h2⟩:=(hA.kc h.o hp).at_ hj
  rw[hpe] at e'
  cases e'
  rw[AE hj]
  exact h2 j hj
 have ok: ∀j,okP (Ab l j):=fun j=>hq _ (AD h0 j)
 subst hpe
 refine Cm.enter h Tryz.func74 I I I ?_
 refine zA (zB (wP I (Aa (zE (zA (zA (zB (wP I (wP I (wP I (Aa (zE (zH ?_)))))))))))))
 refine A8 (X:=Nat) (fun i=>[(0,Ah c),(1,slv (some ⟨g,off,none⟩) l.length cap),(11,slv (some ⟨g,off,none⟩) l.length cap),(12, .int .i64 (l.length:Nat)),(13, .int .i64 (i:Nat))]) (fun _=>[AT (Aw W c),caE c false]) (fun i=>i≤l.length∧ ∀a,a<i→ ∀b,b<l.length→V3 l a b) (fun i=>l.length-i) 0 ⟨Nat.zero_le _,fun _ h=>absurd h (Nat.not_lt_zero _)⟩ ⟨I,I,I,I,I,tO⟩ [] I ?_
 rintro i ⟨hi1,hi2⟩
 have hi1:i≤l.length:=hi1
 have hi2: ∀a,a<i→ ∀b,b<l.length→V3 l a b:=hi2
 refine zA (zB (wP I ?_))
 by_cases hi:i<l.length
 rotate_left
 ·obtain rfl:i=l.length:=by omega
  refine wU 14 false I (dF (by omega)) (Aa (zE (zA (zS I (zJ (zK (zK (zL (zE (zA (zB (wP I (Aa ?_)))))))))))))
  exact zE (zO (Az tH I (.tmp I) false I ⟨fun _=>hi2,fun _=>rfl⟩ fun W1 hp=>EE hp))
 refine wU 14 true I (dT (by omega)) (Aa (zE (zA (zR I (zI (zE (zA (zH (zA (zB ?_))))))))))
 obtain⟨P,hP⟩: ∃P,P=Ab l i:=⟨_,rfl⟩
 have okPP:okP P:=hP▸ok i
 have rP: ∀ {W1:World} {s1:Bool} {bs:List Bx},Hp (Bb W) (AT (Aw W c)::caE c s1::bs) W1→Ak W1 g (off+i*2) [str (Ad P.1),str (Ad P.2)]:=fun hp=>by rw[hP];exact hrow hp i hi
 refine wJ ?_
 refine wL 0 I I (fun W1 hp=>rP (s1:=false) (bs:=[]) hp) I ?_
 (refine Af Tryz.hZ rfl rfl rfl rfl ?_;intro)
 refine wS 2 I I I (Aa ?_)
 rename_i b6
 refine zE (zA (zB (wP I (wP I (wP I (Aa (zE (zH ?_))))))))
 refine A8 (X:=Nat) (fun k=>[(0,Ah c),(1,slv (some ⟨g,off,none⟩) l.length cap),(6,Ah b6),(11,slv (some ⟨g,off,none⟩) l.length cap),(12, .int .i64 (l.length:Nat)),(13, .int .i64 (i:Nat)),(17,slv (some ⟨g,off,none⟩) l.length cap),(18, .int .i64 (l.length:Nat)),(19, .int .i64 (k:Nat))]) (fun _=>[AT (Aw W c),caE c false,ptB b6 (Ad P.1) (Ad P.2)]) (fun k=>k≤l.length∧ ∀b,b<k→V3 l i b) (fun k=>l.length-k) 0 ⟨Nat.zero_le _,fun _ h=>absurd h (Nat.not_lt_zero _)⟩ ⟨I,I,I,I,I,I,I,I,I,tO⟩ [] I ?_
 rintro k ⟨hk1,hk2⟩
 have hk1:k≤l.length:=hk1
 have hk2: ∀b,b<k→V3 l i b:=hk2
 refine zA (zB (wP I ?_))
 by_cases hk:k<l.length
 rotate_left
 ·obtain rfl:k=l.length:=by omega
  refine wU 20 false I (dF (by omega)) (Aa (zE (zA (zS I (zJ (zK (zK (zL (zN (zE (zB (wP I (wV 57 ((i+1:Nat):Int) I (As (by omega)) ?_)))))))))))))
  refine wP I (Aa ?_)
  exact Ay (i+1) ⟨hi,fun a ha=>by
   by_cases e:a=i
   ·subst e;exact hk2
   ·exact hi2 a (by omega)⟩ (by show l.length-(i+1)<l.length-i;omega) ⟨I,I,I,I,I,tO⟩ [_] I
 refine wU 20 true I (dT (by omega)) (Aa (zE (zA (zR I (zI (zE (zA (zH (zA (zB ?_))))))))))
 obtain⟨Q,hQ⟩: ∃Q,Q=Ab l k:=⟨_,rfl⟩
 have okQQ:okP Q:=hQ▸ok k
 have rQ: ∀ {W1:World} {s1:Bool} {bs:List Bx},Hp (Bb W) (AT (Aw W c)::caE c s1::bs) W1→Ak W1 g (off+k*2) [str (Ad Q.1),str (Ad Q.2)]:=fun hp=>by rw[hQ];exact hrow hp k hk
 refine wJ ?_
 refine wL 0 I I (fun W1 hp=>rQ (s1:=false) (bs:=[ptB b6 (Ad P.1) (Ad P.2)]) hp) I ?_
 (refine Af Tryz.hZ rfl rfl rfl rfl ?_;intro)
 refine wS 3 I I I (Aa ?_)
 rename_i b8
 obtain⟨x1,e1⟩: ∃x,x=kOr false P.1 Q.1:=⟨_,rfl⟩
 obtain⟨x2,e2⟩: ∃x,x=kOr x1.2 P.2 Q.2:=⟨_,rfl⟩
 have c1: ∀W1,KcP c false W1→EM 53 [Ah c,str (Ad P.1),str (Ad Q.1)] c x1 W1:=fun W1 h=>by rw[e1];exact C3 c _ _ _ okPP.1 okQQ.1 W1 h
 have c2: ∀W1,KcP c x1.2 W1→EM 53 [Ah c,str (Ad P.2),str (Ad Q.2)] c x2 W1:=fun W1 h=>by rw[e2];exact C3 c _ _ _ okPP.2 okQQ.2 W1 h
 have hx:x2.2=false↔AR P.1 Q.1∧AR P.2 Q.2:=by
  rw[e2,Iw,e1,Iw]
  exact⟨fun h=>⟨h.1.2,h.2⟩,fun h=>⟨⟨I,h.1⟩,h.2⟩⟩
 refine zE (zA (zB (wP I (wP I (wB 2 I I I (wP I (wB 3 I I I ?_)))))))
 refine AO 1 c I I I I I I (by kernel_rfl) I (fun W1 hp1=>c1 W1 (h.at_ (bs:=[ptB b6 (Ad P.1) (Ad P.2),ptB b8 (Ad Q.1) (Ad Q.2)]) hp1)) ?_
 refine Aa (zE (zA (zB (wP I (wP I (wB 2 I I I (wP I (wB 3 I I I ?_))))))))
 refine AO 1 c I I I I I I (by kernel_rfl) I (fun W1 hp1=>c2 W1 (h.at_ (bs:=[ptB b6 (Ad P.1) (Ad P.2),ptB b8 (Ad Q.1) (Ad Q.2)]) hp1)) ?_
 refine Aa (zE (zA (zB (wP I (wP I (wP I (Aa (zE (zH ?_)))))))))
 refine A8 (X:=Nat×Bool) (fun s=>[(0,Ah c),(1,slv (some ⟨g,off,none⟩) l.length cap),(6,Ah b6),(8,Ah b8),(11,slv (some ⟨g,off,none⟩) l.length cap),(12, .int .i64 (l.length:Nat)),(13, .int .i64 (i:Nat)),(17,slv (some ⟨g,off,none⟩) l.length cap),(18, .int .i64 (l.length:Nat)),(19, .int .i64 (k:Nat)),(35,slv (some ⟨g,off,none⟩) l.length cap),(36, .int .i64 (l.length:Nat)),(37, .int .i64 (s.1:Nat))]) (fun s=>[AT (Aw W c),caE c s.2,ptB b6 (Ad P.1) (Ad P.2),ptB b8 (Ad Q.1) (Ad Q.2)])
  (fun s=>s.1≤l.length∧(0<s.1→s.2=false)∧(s.2=false↔AR P.1 Q.1∧AR P.2 Q.2∧ ∀d,d<s.1→Gl P Q (Ab l d))) (fun s=>l.length-s.1) (0,x2.2) ⟨Nat.zero_le _,fun h=>absurd h (Nat.not_lt_zero _),hx.trans ⟨fun h=>⟨h.1,h.2,fun _ hd=>absurd hd (Nat.not_lt_zero _)⟩,fun h=>⟨h.1,h.2.1⟩⟩⟩ ⟨rfl,rfl,rfl,rfl,rfl,rfl,rfl,rfl,rfl,rfl,rfl,rfl,rfl,trivial⟩ [] rfl ?_
 rintro⟨j,s⟩ ⟨hj1,hj2,hj3⟩
 have hj1:j≤l.length:=hj1
 have hj2:0<j→s=false:=hj2
 have hj3:s=false↔AR P.1 Q.1∧AR P.2 Q.2∧ ∀d,d<j→Gl P Q (Ab l d):=hj3
 refine zA (zB (wP I ?_))
 by_cases hj:j<l.length
 rotate_left
 ·obtain rfl:j=l.length:=by omega
  obtain rfl:s=false:=hj2 h0
  have hall:=hj3.1 rfl
  refine wU 38 false I (dF (by omega)) (Aa (zE (zA (zS I (zJ (zK (zK (zL (zN (zE (zB (wP I (wV 56 ((k+1:Nat):Int) I (As (by omega)) ?_)))))))))))))
  refine wP I (Aa ?_)
  exact Ay (k+1) ⟨hk,fun b hb=>by
   by_cases e:b=k
   ·subst e;exact⟨by rw[←hP, ←hQ];exact hall.1,by rw[←hP, ←hQ];exact hall.2.1,by rw[←hP, ←hQ];exact hall.2.2⟩
   ·exact hk2 b (by omega)⟩ (by show l.length-(k+1)<l.length-k;omega) ⟨I,I,I,I,I,I,I,I,I,tO⟩ [_] I
 refine wU 38 true I (dT (by omega)) (Aa (zE (zA (zR I (zI (zE (zA (zH (zA (zB ?_))))))))))
 obtain⟨Z,hZ⟩: ∃Z,Z=Ab l j:=⟨_,rfl⟩
 have okZZ:okP Z:=hZ▸ok j
 have rZ: ∀ {W1:World} {s1:Bool} {bs:List Bx},Hp (Bb W) (AT (Aw W c)::caE c s1::bs) W1→Ak W1 g (off+j*2) [str (Ad Z.1),str (Ad Z.2)]:=fun hp=>by rw[hZ];exact hrow hp j hj
 refine wJ ?_
 refine wL 0 I I (fun W1 hp=>rZ (s1:=s) (bs:=[ptB b6 (Ad P.1) (Ad P.2),ptB b8 (Ad Q.1) (Ad Q.2)]) hp) I ?_
 (refine Af Tryz.hZ rfl rfl rfl rfl ?_;intro)
 refine wS 4 I I I (Aa ?_)
 rename_i b10
 obtain⟨⟨v,s2⟩,e3⟩: ∃x,x=kLf s P Q Z:=⟨_,rfl⟩
 have hs2:s2=false↔s=false∧Gl P Q Z:=by
  have:=Yw (s:=s) (p:=P) (q:=Q) (r:=Z)
  rw[←e3] at this
  exact this
 have c3: ∀W1,KcP c s W1→EM 55 [Ah c,cvV P,cvV Q,cvV Z] c (v,s2) W1:=fun W1 h=>by rw[e3];exact FG c _ _ _ _ okPP okQQ okZZ W1 h
 refine zE (zA (zB (wP I (wB 2 I I I (wB 3 I I I (wB 4 I I I ?_))))))
 refine AO 1 c I I I I I I (by kernel_rfl) I (fun W1 hp1=>c3 W1 (h.at_ (bs:=[ptB b6 (Ad P.1) (Ad P.2),ptB b8 (Ad Q.1) (Ad Q.2),ptB b10 (Ad Z.1) (Ad Z.2)]) hp1)) ?_
 refine Aa ?_
 cases s2 with
 |true=>
  have hno: ¬Dl l:=fun ha=>by
   have hb:=ha i hi k hk
   have h1:Gl P Q Z:=by rw[hP,hQ,hZ];exact hb.t j hj
   have h2:s=false:=hj3.2 ⟨by rw[hP,hQ];exact hb.x,by rw[hP,hQ];exact hb.y,fun d hd=>by rw[hP,hQ];exact hb.t d (by omega)⟩
   exact absurd (hs2.2 ⟨h2,h1⟩) (by decide)
  refine zE (zA (zB (wP I ?_)))
  refine AH I I I I ?_
  refine wP I (wB 1 I I I (wP I (Aa (zE (zR I (zA (zB (wP I ?_))))))))
  refine AH I I I I ?_
  refine wP I (wB 1 I I I (wP I (Aa (zE (zO (zQ (zP (zP (zQ (zQ (zP (zP (zQ (zQ ?_))))))))))))))
  exact zP (zP (zQ (zP (Az tH I (.tmp I) true I ⟨fun h=>absurd h (by decide),fun h=>absurd h hno⟩ fun W1 hp=>EE hp))))
 |false=>
  obtain⟨rfl,htn⟩:=hs2.1 rfl
  have hall:=hj3.1 rfl
  refine zE (zA (zB (wP I ?_)))
  refine AH I I I I ?_
  refine wP I (wB 1 I I I (wP I (Aa (zE (zS I (zI (zN (zE (zB (wP I (wV 55 ((j+1:Nat):Int) I (As (by omega)) (wP I (Aa ?_)))))))))))))
  exact Ay (j+1,false) ⟨hj,fun _=>rfl,⟨fun _=>⟨hall.1,hall.2.1,fun d hd=>by
   by_cases e:d=j
   ·subst e;rw[←hZ];exact htn
   ·exact hall.2.2 d (by have hd:d<j+1:=hd;omega)⟩,fun _=>rfl⟩⟩ (by show l.length-(j+1)<l.length-j;omega) ⟨I,I,I,I,I,I,I,I,I,I,I,I,I,tO⟩ [_] I
def HG (x:PtS):Bool:=decide (30<x.1.length)||decide (30<x.2.length)
theorem Pp (x:PtS) (W:World):Ai Tryz.prog 137 #[.agg #[str x.1,str x.2]] W (fun _:Unit=> .bool (HG x)) (fun _=>True) (fun _=>[]):=by
 have e1: ∀a:List UInt8,decide (((⟨a.toArray⟩:ByteArray).size:Int)>30)=decide (30<a.length):=fun a=>decide_eq_decide.2 (by show((a.toArray.size:Nat):Int)>30↔_;rw[List.size_toArray];omega)
 refine Ae (args:=[.agg #[str x.1,str x.2]]) Tryz.func137 I I I ?_
 refine zA (zB ?_)
 (refine Ax rfl rfl rfl rfl ?_;intro)
 refine wP I (Aa (zE (zA (zB (wP I (wB 0 I I I (wP I (wP I (wU 6 (decide (30<x.1.length)) I (e1 x.1) ?_)))))))))
 cases hx:decide (30<x.1.length) with
 |true=>
  refine wP I ?_
  iterate 4 refine At I I ?_
  exact wP I (wP I (Aa (zE (zO (wR1 I I (by rw[HG,hx];rfl))))))
 |false=>
  exact wP I (wP I (wB 0 I I I (wP I (wP I (wU 11 (decide (30<x.2.length)) I (e1 x.2) (wP I (wP I (Aa (zE (zO (wR1 I I (by rw[HG,hx];rfl))))))))))))
theorem RV (xs:List PtS) (hn:xs.length≤100000) (p:Option Addr) (cap:Nat) (W:World) (hS:Dm W p xs):
  Ai Tryz.prog 73 #[slv p xs.length cap] W (fun _:Unit=> .bool (xs.any HG)) (fun _=>True) (fun _=>[]):=by
 refine Ae (args:=[slv p xs.length cap]) Tryz.func73 I I I ?_
 exact zA (zB (wP I (Aa (zE (zA (zB (wP I (wC I I (fun W1 hp=>KU 137 (by kernel_rfl) HG Pp xs hn p cap W1 (hS.hp hp)) (wP I (Aa (zE (zO (wR1 I I I)))))))))))))
-- BOXES 8
-- CODE2
section
variable {r:Option Nat} {n:Nat} {W0:World} {N:Nat} {D:List Deferred} {ops:List Oper} {Q:Exit→Act→World→Prop} {o:Oper} {rest:List Oper} {env:Env} {bxs:List Bx}
end
def kLs (s:Bool) (p q:Ag):Int×Bool:=if (kOr s p.1 q.1).1=0 then kOr (kOr s p.1 q.1).2 p.2 q.2 else kOr s p.1 q.1
def K0 (p q:Ag):Prop:=AR p.1 q.1∧(p.1=q.1→AR p.2 q.2)
theorem MN {p q:Rat}:CG p q=0↔p=q:=by
 rcases I8 p q with⟨a,e⟩|⟨a,e⟩|⟨a,e⟩
 ·rw[e];exact⟨fun h=>absurd h (by decide),fun h=>by rw[h] at a;exact absurd a Rat.lt_irrefl⟩
 ·rw[e];exact⟨fun _=>a,fun _=>rfl⟩
 ·rw[e];exact⟨fun h=>absurd h (by decide),fun h=>by rw[h] at a;exact absurd a Rat.lt_irrefl⟩
theorem Zw {p q:Ag}:(kLs false p q).2=false↔K0 p q:=by
 unfold kLs K0
 by_cases h:AR p.1 q.1
 ·rw[Gg h]
  by_cases e:p.1=q.1
  ·rw[if_pos (MN.2 e),Iw]
   exact⟨fun k=>⟨h,fun _=>k.2⟩,fun k=>⟨I,k.2 e⟩⟩
  ·rw[if_neg (fun c=>e (MN.1 c))];simp[h,e]
 ·rw[RB h,if_pos rfl,Ry];simp[h]
theorem Yo {p q:Ag} (h:K0 p q):kLs false p q=(GZ p q,false):=by
 unfold kLs GZ
 rw[Gg h.1]
 by_cases e:CG p.1 q.1=0
 ·rw[if_pos e,if_pos e,Gg (h.2 (MN.1 e))]
 ·rw[if_neg e,if_neg e]
-- BOXES 9
-- CODE2
theorem KW (c:Nat) (s:Bool) (p q:Rat) (hp:okQ p) (hq:okQ q) (h0:s=false→q.num≠0) (W:World) (h:KcP c s W):Ca 47 [Ah c,str (Ad p),str (Ad q)] c (kDi s p q) W:=by
 cases s with
 |false=>exact RG c false p q hp hq (h0 rfl) W h
 |true=>
  have e:kDi true p q=(0,true):=by unfold kDi;exact QR
  rw[e]
  refine Cm.enter h Tryz.func47 I I I ?_
  refine zA (zB (wP I (Aa (zE (zA (zB (wP I (wP I (wP I ?_)))))))))
  refine AO 1 c I I I I I I (by kernel_rfl) I (fun W1 hp1=>Ol c 105 (Ad p) (Ad q) W1 (h.at_ (bs:=[]) hp1)) ?_
  exact wP I (Aa (zE (zO (Az tH I (.tmp I) () (by rw[←CW]) tO fun W1 hp=>EE hp))))
theorem W9 (s:Bool) (p q:Rat) (h0:s=false→q≠0):okQ (kDi s p q).1:=by
 cases s with
 |true=>
  have e:kDi true p q=(0,true):=by unfold kDi;exact QR
  rw[e];exact Kc
 |false=>
  refine PT fun h=> ?_
  have hn:q.num≠0:=Nz (h0 rfl)
  rw[←Km p q hn]
  refine LV (Int.mul_ne_zero (by have:=p.den_nz;omega) hn) h.1 ?_
  rw[Int.mul_comm];exact h.2
def bgE (s:Bool) (D:List Ag):Nat→Nat×Bool
 |0=>(0,s)
 |i+1=>(if (kLs (bgE s D i).2 (Ab D (i+1)) (Ab D (bgE s D i).1)).1<0 then i+1 else(bgE s D i).1,(kLs (bgE s D i).2 (Ab D (i+1)) (Ab D (bgE s D i).1)).2)
def Yc (D:List Ag):Prop:= ∀i,i+1<D.length→K0 (Ab D (i+1)) (Ab D (B9 D (i+1)))
theorem V8 (s:Bool) (D:List Ag): ∀i,(bgE s D i).1≤i
 |0=>Nat.le_refl _
 |i+1=>by
  have ih:=V8 s D i
  show(if _ then i+1 else(bgE s D i).1)≤i+1
  split
  ·exact Nat.le_refl _
  ·exact Nat.le_succ_of_le ih
theorem WW (D:List Ag):B9 D 1=0:=by show(if Bc (Ab D 0) (Ab D 0)=true then 0 else 0)=0;split<;>rfl
theorem TN {D:List Ag}: ∀ {i:Nat},(∀j,j<i→K0 (Ab D (j+1)) (Ab D (B9 D (j+1))))→bgE false D i=(B9 D (i+1),false)
 |0,_=>by rw[WW];rfl
 |i+1,h=>by
  have ih:=TN (D:=D) (i:=i) fun j hj=>h j (by omega)
  show(if (kLs (bgE false D i).2 (Ab D (i+1)) (Ab D (bgE false D i).1)).1<0 then i+1 else(bgE false D i).1,(kLs (bgE false D i).2 (Ab D (i+1)) (Ab D (bgE false D i).1)).2)=_
  rw[ih,Yo (h i (by omega))]
  have e:B9 D (i+1+1)=if Bc (Ab D (i+1)) (Ab D (B9 D (i+1)))=true then i+1 else B9 D (i+1):=rfl
  rw[e, ←LL]
  simp only[decide_eq_true_eq]
-- BOXES 6
-- CODE2
theorem O4 (x y:Rat):cmV x y= .tuple #[.int .i64 (kOr false x y).1, .int .i64 (erI (kOr false x y).2)]:=by
 unfold cmV
 by_cases h:AR x y
 ·rw[if_pos h,Gg h];rfl
 ·rw[if_neg h,RB h];rfl
theorem Ic (p q:Ag) (hp:okP p) (hq:okP q) (W:World) (ht:AM W):
  Ai Tryz.prog 80 #[cvV p,cvV q] W (fun _:Unit=> .tuple #[.int .i64 (kLs false p q).1, .int .i64 (erI (kLs false p q).2)]) (fun _=>True) (fun _=>[]):=by
 obtain⟨⟨n,e⟩,h1⟩: ∃x,x=kOr false p.1 q.1:=⟨_,rfl⟩
 have v1:cmV p.1 q.1= .tuple #[.int .i64 n, .int .i64 (erI e)]:=by rw[O4, ←h1]
 have eL:kLs false p q=if n=0 then kOr e p.2 q.2 else(n,e):=by unfold kLs;rw[←h1]
 rw[eL]
 clear eL h1
 refine Ae (args:=[cvV p,cvV q]) Tryz.func80 I I I ?_
 refine zA (zB ?_)
 (refine Ax rfl rfl rfl rfl ?_;intro)
 (refine Ax rfl rfl rfl rfl ?_;intro)
 refine wP I (wP I (Aa (zE (zA (zB (wP I (wB 0 I I I (wP I (wB 1 I I I (wC I I (fun W1 h=>(Ef p.1 q.1 hp.1 hq.1 W1 (ht.hp h)).cast v1) ?_))))))))))
 iterate 5 refine wP I ?_
 refine Aa (zE (zA (zA (zB (wP I (wP I ?_))))))
 by_cases h0:n=0
 ·rw[if_pos h0]
  refine wU 17 false I (bne_eq_false_iff_eq.2 h0) ?_
  cases e with
  |true=>
   refine wP I (wP I (wP I (wP I (Aa (zE (zR I (zA (zB (wP I (wP I (wP I (wP I (Aa ?_)))))))))))))
   exact zE (zO (zP (wR2 I I (by rw[Ry,h0]))))
  |false=>
   refine wP I (wP I (wP I (wP I (Aa (zE (zS I (zI (zE (zA (zB (wP I (wB 0 I I I (wP I ?_)))))))))))))
   exact wB 1 I I I (wC I I (fun W1 h=>(Ef p.2 q.2 hp.2 hq.2 W1 (ht.hp h)).cast (O4 p.2 q.2)) (wP I (wP I (wP I (wP I (Aa (zE (zO (wR2 I I I)))))))))
 ·rw[if_neg h0]
  refine wU 17 true I (bne_iff_ne.2 h0) (wP I ?_)
  iterate 2 refine At I I ?_
  exact wP I (Aa (zE (zR I (zA (zB (wP I (wP I (wP I (wP I (Aa (zE (zO (zP (wR2 I I I))))))))))))))
theorem Dk {ok:Prop} [Decidable ok] {r:Rat} (h:ok):opO ok r=some r:=by unfold opO;exact if_pos h
theorem EL {ok:Prop} [Decidable ok] {r:Rat} (h: ¬ok):opO ok r=none:=by unfold opO;exact if_neg h
theorem Rz (b:Option Rat):En none b=none:=by cases b<;>rfl
theorem Od (b:Option Rat):Bf none b=none:=by cases b<;>rfl
theorem K9 (a:Option Rat):Bf a none=none:=by cases a<;>rfl
theorem UF (b:Option Rat):Bq none b=none:=by cases b<;>rfl
theorem Q9 (a:Option Rat):GL a none=none:=by cases a<;>rfl
-- BOXES 9
-- CODE2
abbrev nmR (b:Nat) (s:List UInt8) (e:Int):Bx:=⟨b,84,[str s, .int .i64 e],true,none⟩
end
end Go.Proofs.YthndmdimmgkpgaaGreatDoor
