/-
  Lemmas that the theorem openingDormers_upto_card needs (part 7 of 8).
-/
import Derived.Test.YtlnjmcchddbogaaGreatDoorOdf
set_option maxHeartbeats 64000000
namespace Go.Proofs.YtlnjmcchddbogaaGreatDoor
section
open Go Go.RowKit Go.Am Go.Lib
set_option maxRecDepth 10000
theorem MO (p q:Rat) (hp:okQ p) (hq:okQ q) (h1: ¬okN (p.num*(q.den:Nat))) (W:World) (ht:A9 W):
  Ae Tryz.prog 72 #[Gz p,Gz q] W (fun _:Unit=> .tuple #[str [],str [], .int .i64 4]) (fun _=>True) (fun _=>[]):=by
 refine Ab Tryz.func72 I I I<|xb<|wF I I fun _=>wF I I fun _=>Ad I<|xf<|wP I<|wB 0 I I I<|wP I<|wB 1 I I I<|wC I I (fun W h=>(Ck p.num (q.den:Nat) hp.1 hq.2 W (ht.hp h)).cast (Jv h1))<|Ak I<|xa<|?_
 exact xd<|Aa I<|xa<|zR I<|xb<|At I<|xo<|wR3 I I I
theorem MU (p q:Rat) (hp:okQ p) (hq:okQ q) (h1:okN (p.num*(q.den:Nat))) (h2: ¬okN (q.num*(p.den:Nat))) (W:World) (ht:A9 W):
  Ae Tryz.prog 72 #[Gz p,Gz q] W (fun _:Unit=> .tuple #[str (itoa (p.num*(q.den:Nat))),str [], .int .i64 4]) (fun _=>True) (fun _=>[]):=by
 refine Ab Tryz.func72 I I I<|xb<|wF I I fun _=>wF I I fun _=>Ad I<|xf<|wP I<|wB 0 I I I<|wP I<|wB 1 I I I<|wC I I (fun W h=>(Ck p.num (q.den:Nat) hp.1 hq.2 W (ht.hp h)).cast (Gh h1))<|Ak I<|xa<|?_
 refine xd<|Aa I<|xa<|zS I<|xm<|wP I<|wB 1 I I I<|wP I<|wB 0 I I I<|wC I I (fun W h=>(Ck q.num (p.den:Nat) hq.1 hp.2 W (ht.hp h)).cast (Jv h2))<|Ak I<|xa<|?_
 exact xb<|AE I<|xc<|wR3 I I I
theorem IH (p q:Rat) (hp:okQ p) (hq:okQ q) (h: ¬Ch p q): ∃s, ∀(W:World) (_:A9 W),
  Ae Tryz.prog 72 #[Gz p,Gz q] W (fun _:Unit=> .tuple #[str s,str [], .int .i64 4]) (fun _=>True) (fun _=>[]):=by
 by_cases h1:okN (p.num*(q.den:Nat))
 ·exact⟨_,fun W ht=>MU p q hp hq h1 (fun h2=>h ⟨h1,h2⟩) W ht⟩
 ·exact⟨_,fun W ht=>MO p q hp hq h1 W ht⟩
theorem Rr (p q r:Rat) (b h:Nat) (z:Int) (hp:okQ p) (hq:okQ q) (hr:nrm z ((p.den:Nat)*(q.den:Nat))=r) (hE:AS Tryz.prog h=true)
  (hop:Ch p q-> ∀W,A9 W->Ae Tryz.prog h #[str (itoa (p.num*(q.den:Nat))),str (itoa (q.num*(p.den:Nat)))] W (fun _:Unit=>Mi z) (fun _=>True) (fun _=>[])) (W:World) (ht:A9 W) (hrow:Aj W b 0 [.func (.func h) #[] #[]]):
  Ae Tryz.prog 128 #[Gz p,Gz q,Ai b] W (fun _:Unit=>if Ch p q/\okN z/\okN ((p.den:Nat)*(q.den:Nat)) then .tuple #[str (Ac r), .int .i64 0] else .tuple #[str [], .int .i64 4]) (fun _=>True) (fun _=>[]):=by
 by_cases hx:Ch p q
 ·by_cases hz:okN z
  ·by_cases hd:okN ((p.den:Nat)*(q.den:Nat))
   ·rw[if_pos ⟨hx,hz,hd⟩]
    exact(Iy p q b h z hp hq hx.1 hx.2 hz hd hE (fun W2 h2=>(hop hx W2 h2).cast (Gh hz)) W ht hrow).cast (by rw[hr])
   ·rw[if_neg fun e=>hd e.2.2]
    refine Ab Tryz.func128 I I I<|xb<|wF I I fun _=>wF I I fun _=>Aa I<|xf<|wB 0 I I I<|wB 1 I I I<|wC I I (fun W h=>Dm p q hp hq hx.1 hx.2 W (ht.hp h))<|AE I<|wP I<|xl<|zA<|?_
    refine zB<|Aa I<|xa<|zS I<|xm<|wL 0 I I (fun W h=>hrow.hp h) I<|Aa I<|Bz (capt:=[]) I I I I I I hE (fun W h=>(hop hx W (ht.hp h)).cast (Gh hz))<|Ak I<|xk<|?_
    refine Aa I<|xa<|zS I<|xm<|wP I<|wB 0 I I I<|wP I<|wB 1 I I I<|wC I I (fun W h=>(Ck (p.den:Nat) (q.den:Nat) hp.2 hq.2 W (ht.hp h)).cast (Jv hd))<|Ak I<|xk<|?_
    exact Aa I<|xa<|zR I<|xb<|Ad I<|xo<|wR2 I I I
  ·rw[if_neg fun e=>hz e.2.1]
   refine Ab Tryz.func128 I I I<|xb<|wF I I fun _=>wF I I fun _=>Aa I<|xf<|wB 0 I I I<|wB 1 I I I<|wC I I (fun W h=>Dm p q hp hq hx.1 hx.2 W (ht.hp h))<|AE I<|wP I<|xl<|zA<|?_
   refine zB<|Aa I<|xa<|zS I<|xm<|wL 0 I I (fun W h=>hrow.hp h) I<|Aa I<|Bz (capt:=[]) I I I I I I hE (fun W h=>(hop hx W (ht.hp h)).cast (Jv hz))<|Ak I<|xk<|?_
   exact Aa I<|xa<|zR I<|xb<|Ad I<|xo<|wR2 I I I
 ·rw[if_neg fun e=>hx e.1]
  obtain⟨s,hs⟩:=IH p q hp hq hx
  refine Ab Tryz.func128 I I I<|xb<|wF I I fun _=>wF I I fun _=>Aa I<|xf<|wB 0 I I I<|wB 1 I I I<|wC I I (fun W h=>hs W (ht.hp h))<|AE I<|wP I<|xl<|zA<|?_
  exact zB<|Aa I<|xa<|zR I<|xb<|Ad I<|xo<|wR2 I I I
theorem WH {p q:Rat}:JG p q↔Ch p q/\okN (p.num*(q.den:Nat)+q.num*(p.den:Nat))/\okN ((p.den:Nat)*(q.den:Nat)):=⟨fun h=>⟨⟨h.1,h.2.1⟩,h.2.2.2,h.2.2.1⟩,fun h=>⟨h.1.1,h.1.2,h.2.2,h.2.1⟩⟩
theorem EX {p q:Rat}:JG p (-q)↔Ch p q/\okN (p.num*(q.den:Nat)-q.num*(p.den:Nat))/\okN ((p.den:Nat)*(q.den:Nat)):=by
 have e:(-q).num= -q.num:=rfl
 have d:(-q).den=q.den:=rfl
 unfold JG Ch okN
 rw[e,d,Int.neg_mul,Int.natAbs_neg, <-Int.sub_eq_add_neg]
 exact⟨fun h=>⟨⟨h.1,h.2.1⟩,h.2.2.2,h.2.2.1⟩,fun h=>⟨h.1.1,h.1.2,h.2.2,h.2.1⟩⟩
theorem ZM {a ok:Prop} [Decidable a] [Decidable ok] (h:ok↔a) (r:Rat):(if a then Value.tuple #[str (Ac r), .int .i64 0] else .tuple #[str [], .int .i64 4])=opV ok r:=by
 by_cases c:a
 ·rw[if_pos c,O7 (h.2 c)]
 ·rw[if_neg c,UX fun e=>c (h.1 e)]
theorem VH (ok:Prop) [Decidable ok] (r:Rat): ∃s e,opV ok r= .tuple #[str s, .int .i64 e]:=by unfold opV;split<;>exact⟨_,_,rfl⟩
theorem UG {p q:Rat} (hs:smQ p/\smQ q):JG p q/\JG p (-q)/\If p q/\Ch p q:=by
 have m1:=Dr hs.1.1 (Dk q hs.2)
 have m2:=Dr hs.2.1 (Dk p hs.1)
 have m3:=Dr (Dk p hs.1) (Dk q hs.2)
 have m4:=Dr hs.1.1 hs.2.1
 have k: ∀z:Int,z.natAbs<10^18->okN z:=fun z h=>IZ (Nat.lt_trans h (by decide))
 have d1:Ch p q:=⟨k _ (by omega),k _ (by omega)⟩
 exact⟨WH.2 ⟨d1,k _ (by omega),k _ (by omega)⟩,EX.2 ⟨d1,k _ (by omega),k _ (by omega)⟩,⟨k _ (by omega),k _ (by omega)⟩,d1⟩
theorem Tj (p q:Rat) (hkp:okQ p) (hkq:okQ q) (W0:World) (hv:AH W0) (ht:A9 W0):
  Ae Tryz.prog 37 #[str (Ac p),str (Ac q)] W0 (fun _:Unit=>opV (JG p (-q)) (p-q)) (fun _=>True) (fun _=>[]):=by
 obtain⟨rs,re,hr⟩:=VH (JG p (-q)) (p-q)
 have hlp:=AX hkp
 have hlq:=AX hkq
 refine Ab Tryz.func37 I I I<|xb<|Aa I<|xk<|Aa I<|?_
 have hquick: ∀W,A9 W->Ae Tryz.prog 68 #[str (Ac p),str (Ac q), .func (.func 77) #[] #[]] W (fun _:Unit=>if smQ p/\smQ q then .tuple #[str (Ac (p-q)), .bool true] else .tuple #[str [], .bool false]) (fun _=>True) (fun _=>[]):=
  fun W ht=>El p q (p-q) (p.num*(q.den:Nat)-q.num*(p.den:Nat)) ((p.den:Nat)*(q.den:Nat)) _ (by kernel_rfl) (by omega) (by omega) (fun hp hq=>by
   have m1:=Dr hp.1 (Dk q hq)
   have m2:=Dr hq.1 (Dk p hp)
   have m3:=Dr (Dk p hp) (Dk q hq)
   exact⟨Nw _ _ _ _ hp.1 (Dk p hp) hq.1 (Dk q hq),Eb,by omega,by omega,Jp p q⟩) W ht
 by_cases hs:smQ p/\smQ q
 ·exact wC I I (fun W h=>(hquick W (ht.hp h)).cast (if_pos hs))<|Ak I<|xf<|wP I<|xa<|zR I<|xb<|Ad I<|xo<|A4 tH I (.tmp I) (.tmp I) () (O7 (UG hs).2.1).symm tO fun W _=>Au.nil _ _
 ·refine wC I I (fun W h=>(hquick W (ht.hp h)).cast (if_neg hs))<|Ak I<|xf<|wP I<|xa<|zS I<|xm<|Aa I<|wD (X:=Nat) I I (fun W _=>Gw 78 W) ?_
  intro b18 _
  exact wC I I (fun W hp=>Ep p q rs re 128 [Ai b18] hkp hkq W (hv.hp hp) (ht.hp hp) (by kernel_rfl) (fun W' hb=>(Rr p q (p-q) b18 78 (p.num*(q.den:Nat)-q.num*(p.den:Nat)) hkp hkq (Jp p q) (by kernel_rfl) (fun hx W2 ht2=>NN _ _ hx.1 hx.2 W2 ht2) W' ((ht.hp hp).below hb) ((Aj.of_bx hp 0 I I).below (Nat.le_refl _) hb)).cast ((ZM EX _).trans hr)))<|At I<|xc<|wR2 I I hr.symm
theorem S6 (p q:Rat) (hp:okQ p) (hq:okQ q) (hno: ¬If p q) (W:World) (ht:A9 W):
  Ae Tryz.prog 97 #[Gz p,Gz q] W (fun _:Unit=> .tuple #[str [], .int .i64 4]) (fun _=>True) (fun _=>[]):=by
 refine Ab Tryz.func97 I I I<|xb<|wF I I fun _=>wF I I fun _=>Aa I<|xf<|wP I<|wB 0 I I I<|wP I<|wB 1 I I I<|?_
 by_cases hz:okN (p.num*q.num)
 ·refine wC I I (fun W h=>(Ck p.num q.num hp.1 hq.1 W (ht.hp h)).cast (Gh hz))<|Ak I<|xk<|Aa I<|xa<|zS I<|xm<|wP I<|wB 0 I I I<|wP I<|wB 1 I I I<|?_
  refine wC I I (fun W h=>(Ck (p.den:Nat) (q.den:Nat) hp.2 hq.2 W (ht.hp h)).cast (Jv fun hd=>hno ⟨hz,hd⟩))<|Ak I<|xk<|Aa I<|xa<|zR I<|xb<|Ad I<|xc<|?_
  exact zP<|wR2 I I I
 ·refine wC I I (fun W h=>(Ck p.num q.num hp.1 hq.1 W (ht.hp h)).cast (Jv hz))<|Ak I<|xk<|Aa I<|xa<|zR I<|xb<|Ad I<|xc<|?_
  exact zP<|wR2 I I I
theorem T8 (p q:Rat) (hp:okQ p) (hq:okQ q) (W:World) (ht:A9 W):
  Ae Tryz.prog 97 #[Gz p,Gz q] W (fun _:Unit=>opV (If p q) (p*q)) (fun _=>True) (fun _=>[]):=by
 by_cases h:If p q
 ·exact(Pq p q hp hq h.1 h.2 W ht).cast (O7 h).symm
 ·exact(S6 p q hp hq h W ht).cast (UX h).symm
theorem SS (p q:Rat) (hkp:okQ p) (hkq:okQ q) (W0:World) (hv:AH W0) (ht:A9 W0):
  Ae Tryz.prog 53 #[str (Ac p),str (Ac q)] W0 (fun _:Unit=>opV (If p q) (p*q)) (fun _=>True) (fun _=>[]):=by
 obtain⟨rs,re,hr⟩:=VH (If p q) (p*q)
 have hlp:=AX hkp
 have hlq:=AX hkq
 refine Ab Tryz.func53 I I I<|xb<|Aa I<|xk<|Aa I<|?_
 have hquick: ∀W,A9 W->Ae Tryz.prog 68 #[str (Ac p),str (Ac q), .func (.func 96) #[] #[]] W (fun _:Unit=>if smQ p/\smQ q then .tuple #[str (Ac (p*q)), .bool true] else .tuple #[str [], .bool false]) (fun _=>True) (fun _=>[]):=
  fun W ht=>El p q (p*q) (p.num*q.num) ((p.den:Nat)*(q.den:Nat)) _ (by kernel_rfl) (by omega) (by omega) (fun hp hq=>by
   have m1:=Dr hp.1 hq.1
   have m3:=Dr (Dk p hp) (Dk q hq)
   exact⟨NJ _ _ _ _ hp.1 (Dk p hp) hq.1 (Dk q hq),Eb,by omega,by omega,J7 p q⟩) W ht
 by_cases hs:smQ p/\smQ q
 ·exact wC I I (fun W h=>(hquick W (ht.hp h)).cast (if_pos hs))<|Ak I<|xf<|wP I<|xa<|zR I<|xb<|Ad I<|xo<|A4 tH I (.tmp I) (.tmp I) () (O7 (UG hs).2.2.1).symm tO fun W _=>Au.nil _ _
 ·refine wC I I (fun W h=>(hquick W (ht.hp h)).cast (if_neg hs))<|Ak I<|xf<|wP I<|xa<|zS I<|xm<|Aa I<|wC I I (fun W hp=>Ep p q rs re 97 [] hkp hkq W (hv.hp hp) (ht.hp hp) (by kernel_rfl) (fun W' hb=>(T8 p q hkp hkq W' ((ht.hp hp).below hb)).cast hr))<|At I<|?_
  exact xc<|wR2 I I hr.symm
def M5 (p q:Rat):Prop:=JG p (-q)
instance (p q:Rat):Decidable (M5 p q):=inferInstanceAs (Decidable (JG p (-q)))
theorem VK {z d:Int} (hd:d≠0) (hz:okN z) (hk:okN d):okQ (nrm z d):=(G5 (k:=mxd) z hd hz hk).ok (by decide)
theorem WY {p q:Rat} (h:M5 p q):okQ (p-q):=by
 rw[<-Jp]
 have h':=EX.1 h
 exact VK Eb h'.2.1 h'.2.2
theorem Xk {p q:Rat} (h:If p q):okQ (p*q):=by
 rw[<-J7]
 exact VK Eb h.1 h.2
def okP (p:Ax):Prop:=okQ p.1/\okQ p.2
abbrev PtS:=List UInt8×List UInt8
def TD (W:World) (p:Option Addr) (l:List PtS):Prop:=l=[]\/ ∃b off,p=some ⟨b,off,none⟩/\ ∀i (hi:i<l.length),Aj W b (off+i*2) [str l[i].1,str l[i].2]
theorem TD.hp {W0 W:World} {bxs:List Bx} {p:Option Addr} {l:List PtS} (h:TD W0 p l) (hp:Hp W0 bxs W):TD W p l:=by
 rcases h with h|⟨b,off,e,h⟩
 ·exact Or.inl h
 ·exact Or.inr ⟨b,off,e,fun i hi=>(h i hi).hp hp⟩
def PR:List PtS->Int
 |[]=>0
 |x::l=>if (rdR x.1).2≠0 then(rdR x.1).2 else if (rdR x.2).2≠0 then(rdR x.2).2 else PR l
theorem WS {l:List PtS} {i:Nat} (h:i<l.length):PR (l.drop i)=if (rdR l[i].1).2≠0 then(rdR l[i].1).2 else if (rdR l[i].2).2≠0 then(rdR l[i].2).2 else PR (l.drop (i+1)):=by
 rw[List.drop_eq_getElem_cons h]
 rfl
section
variable {P:Program} {N:Nat} {D:List Deferred} {ops:List Oper} {o:Oper} {rest:List Oper} {env:Env} {A A2:World->Prop} {R:Act->World->Prop}
theorem WI (k:Nat) {d:Nat} {t e:TypeId} {m:Nat} {parts:Array (Nat×Operand)} {vs:List (Nat×Value)} (z:Value) {c:List Value} (ht:P.underlying t=some (.array m e)) (hz: ∀W,(zeroValue t).run P W= .ok z W) (hs: ∀W,(Go.sizeOf e).run P W= .ok k W)
  (hg:Aw ops N env o=some true) (hd:o.dst=some d) (ho:o.op= .build t parts) (hp:DV (evO N env) parts.toList=some vs) (hc:GD (Kc k) z.cells.toList vs=some c)
  (h:WQ P N D ops A2 R rest ((d, .agg c.toArray)::env) A):WQ P N D ops A2 R (o::rest) env A:=
 Eh hg hd (fun c e=>by rw[ho] at e;cases e) (fun ρ W hρ _=>by
  have hparts:(parts.map fun(i,x)=>(i,ρ x)).toList=vs:=by rw[<-Ej hρ hp];simp
  have hfill:=Lk hc
  simp only[Array.toArray_toList] at hfill
  have hfill':Instr.fill (fun i=>some (i*k,k)) z.cells (parts.map fun(i,x)=>(i,ρ x)).toList=some c.toArray:=by rw[hparts];exact hfill
  simp only[execOp,ho,Instr.build,Sem.run_bind,hz,Result.andThen_ok,run_underlying ht,hs,Sem.run_pure]
  rw[hfill']
  simp) h
end
section
variable {r:Option Nat} {n:Nat} {P:Program} {N:Nat} {D:List Deferred} {ops:List Oper} {Q:Exit->Act->World->Prop} {o:Oper} {rest:List Oper} {env:Env} {A A2:World->Prop} {R:Act->World->Prop}
theorem JL {ρ:Operand->Value} {t e:TypeId} {m c:Nat} {x y:Operand} {k:IntKind} {b off:Nat} {z:Int} (ht:P.underlying t=some (.array m e)) (hs: ∀W,(Go.sizeOf e).run P W= .ok c W) (ho:o.op= .indexAddr t x y)
  (hx:ρ x= .pointer (some ⟨b,off,none⟩)) (hy:ρ y= .int k z) (h0:0<=z/\z<m) (W:World):(execOp ρ o).run P W= .ok (.value (.pointer (some ⟨b,off+z.toNat*c,none⟩))) W:=by
 simp[execOp,ho,hx,hy,Instr.indexAt,Instr.sureAddr,asIntOf,run_underlying ht,hs,h0.1,h0.2,Addr.add_none]
theorem EK {d:Nat} {t e:TypeId} {m c:Nat} {x y:Operand} {k:IntKind} {b off:Nat} {z:Int} (ht:P.underlying t=some (.array m e)) (hs: ∀W,(Go.sizeOf e).run P W= .ok c W) (hg:Aw ops N env o=some true) (hd:o.dst=some d) (ho:o.op= .indexAddr t x y)
  (hx:evO N env x=some (.pointer (some ⟨b,off,none⟩))) (hy:evO N env y=some (.int k z)) (h0:0<=z/\z<m)
  (h:WL r n P N D ops Q rest ((d, .pointer (some ⟨b,off+z.toNat*c,none⟩))::env) A):WL r n P N D ops Q (o::rest) env A:=
 CP hg hd (fun c e=>by rw[ho] at e;cases e) (fun _ W hρ _=>JL ht hs ho (hρ _ _ hx) (hρ _ _ hy) h0 W) h
theorem BC {d:Nat} {t e:TypeId} {m c:Nat} {x y:Operand} {k:IntKind} {b off:Nat} {z:Int} (ht:P.underlying t=some (.array m e)) (hs: ∀W,(Go.sizeOf e).run P W= .ok c W) (hg:Aw ops N env o=some true) (hd:o.dst=some d) (ho:o.op= .indexAddr t x y)
  (hx:evO N env x=some (.pointer (some ⟨b,off,none⟩))) (hy:evO N env y=some (.int k z)) (h0:0<=z/\z<m)
  (h:WQ P N D ops A2 R rest ((d, .pointer (some ⟨b,off+z.toNat*c,none⟩))::env) A):WQ P N D ops A2 R (o::rest) env A:=
 Eh hg hd (fun c e=>by rw[ho] at e;cases e) (fun _ W hρ _=>JL ht hs ho (hρ _ _ hx) (hρ _ _ hy) h0 W) h
end
def Cl (W:World) (p:Option Addr) (l:List Ax):Prop:=l=[]\/ ∃b off,p=some ⟨b,off,none⟩/\ ∀i (hi:i<l.length),Aj W b (off+i*2) [str (Ac l[i].1),str (Ac l[i].2)]
theorem Cl.below {W W':World} {p:Option Addr} {l:List Ax} {n:Nat} (h:Cl W p l) (hn:W.heap.size<=n) (hb:Below n W W'):Cl W' p l:=by
 rcases h with h|⟨b,off,h1,h2⟩
 ·exact .inl h
 ·exact .inr ⟨b,off,h1,fun i hi=>(h2 i hi).below hn hb⟩
theorem Cl.hp {W0 W:World} {bxs:List Bx} {p:Option Addr} {l:List Ax} (h:Cl W0 p l) (hp:Hp W0 bxs W):Cl W p l:=h.below (Nat.le_refl _) hp.below
theorem Cl.at_ {W:World} {p:Option Addr} {l:List Ax} (h:Cl W p l) {i:Nat} (hi:i<l.length): ∃g off,p=some ⟨g,off,none⟩/\ ∀k (hk:k<l.length),Aj W g (off+k*2) [str (Ac l[k].1),str (Ac l[k].2)]:=by
 rcases h with h|⟨g,off,e,h⟩
 ·rw[h] at hi;exact absurd hi (Nat.not_lt_zero _)
 ·exact⟨g,off,e,h⟩
abbrev ptS (q:Ax):PtS:=(Ac q.1,Ac q.2)
structure YQ (b:Nat) (p:Option Addr) (cap:Nat) (l:List Ax) (W:World):Prop where
 var:Aj W b 0 [slv p l.length cap]
 pts:Cl W p l
abbrev sdV (p q:Ax):Value:= .agg #[str (Ac p.1),str (Ac p.2),str (Ac q.1),str (Ac q.2)]
abbrev eI (l:List Ax) (k:Nat):List Value:=[.int .i64 (k:Nat),sdV (Az l k) (Az l (k+1))]
theorem FR (p:Option Addr) (n cap:Nat) (W:World):Ae Tryz.prog 220 #[slv p n cap] W (fun b:Nat=> .func (.func 285) #[] #[Ai b]) (fun _=>True) (fun b=>[⟨b,132,[slv p n cap],true,none⟩]):=by
 refine Ab Tryz.func220 I I I<|xb<|wF I I fun _=>wP I<|zC<|?_
 rename_i b
 exact xn<|Aa I<|xc<|A3 tH I (.tmp I) b I tO fun W1 hp=>Au.of_hp hp
abbrev PF (b:Nat) (q:Ax):List (Nat×Obj):=[(b, .cells (cvV q).cells 105 (0,0))]
theorem G2 (l:List Ax) (b1:Nat) (p:Option Addr) (cap:Nat) (hn:l.length<1099511627776):Qq Tryz.prog 285 [Ai b1] l.length (eI l) (fun _=>YQ b1 p cap l):=by
 refine⟨fun y J Jx hN hB hA hU hY W hJ=> ?_⟩
 have hdr: ∀k L W,J k L W->J k L { W with drawn:=W.drawn+1 }:=fun k L W h=>hB k L W _ h ⟨rfl,rfl,rfl,Nat.le_refl _,fun _ _=>rfl⟩
 have hp0:=(hN _ _ W hJ).1.pts
 refine Da (args:=[.func (.yield y) #[] #[],Ai b1]) (J0:=J 0 []) (Jm:=fun W=> ∃L,J l.length L W) Tryz.func285 I I I hJ ?_
 refine xb<|wL 0 I I (fun W hp=>(hN _ _ W hp).1.var) I<|Aa I<|xa<|zH<|?_
 refine Di (X:=Nat×List (Nat×Obj)) (fun s=>[(0, .func (.yield y) #[] #[]),(1,Ai b1),(5,slv p l.length cap),(6, .int .i64 (l.length:Nat)),(7, .int .i64 (s.1:Nat))]) (fun s W=>J s.1 s.2 W)
  (fun s=>s.1<=l.length) (fun s=>l.length-s.1) (0,[]) (Nat.zero_le _) ⟨rfl,rfl,rfl,rfl,rfl,trivial⟩ (fun W hp=>hp) ?_
 rintro⟨i,L⟩ hi
 have hi:i<=l.length:=hi
 refine xb<|wP I<|?_
 by_cases hlt:i<l.length
 rotate_left
 ·refine wU 8 false I (dF (by omega))<|xl<|zS I<|xg<|?_
  exact FK I fun W hp=>⟨L,by
   have e:i=l.length:=by omega
   have hp:J i L W:=hp
   rw[e] at hp
   exact hp⟩
 refine wU 8 true I (dT (by omega))<|xl<|zR I<|xh<|?_
 have hn0:0<l.length:=by omega
 have l2:(i+1)%l.length<l.length:=Nat.mod_lt _ hn0
 obtain⟨g,off,hpe,hrow⟩: ∃g off,p=some ⟨g,off,none⟩/\ ∀W k L,J k L W-> ∀j,j<l.length->Aj W g (off+j*2) [str (Ac (Az l j).1),str (Ac (Az l j).2)]:=by
  obtain⟨g,off,e,_⟩:=hp0.at_ hlt
  refine⟨g,off,e,fun W1 k L1 h1 j hj=> ?_⟩
  obtain⟨g',off',e',h2⟩:=(hN _ _ W1 h1).1.pts.at_ hj
  rw[e] at e'
  cases e'
  rw[Dx hj]
  exact h2 j hj
 subst hpe
 have hz:(l.length:Int)≠0:=by omega
 have e2:(w64 ((i:Int)+1)).tmod (l.length:Int)=(((i+1)%l.length:Nat):Int):=by
  rw[Ar (x:=(i:Int)+1) (by omega) (by omega)]
  rfl
 refine wP I<|wJ ?_
 refine wL 0 I I (fun W hp=>hrow W _ _ hp i hlt) I<|LA (fun b W=>J i [(b, .cells (Value.agg #[str [],str []]).cells 105 (0,0))] W) I I I (Tryz.hZ.get I) (fun W W' b hp hb hl ho=>hA _ _ W W' b _ hp hb hl ho) fun b=> ?_
 refine wP I<|LU (cs:=[str [],str []]) (ty:=105) (fun W=>J i (PF b (Az l i)) W) tH I I I I I I (fun W hp=>(hN _ _ W hp).2 (b,_) (List.mem_cons_self ..)) I I I (fun W W' hp hu=>hU _ _ _ _ W W' hp hu) ?_
 refine xl<|Rb 12 (hdr _ _) Tryz.mixed (by kernel_rfl) I ?_
 refine Ay I<|qL 0 I I (fun W hp=>show Aj W b 0 (cvV (Az l i)).cells.toList from Aj.of_block ((hN _ _ W hp).2 (b,_) (List.mem_cons_self ..))) I<|qL 0 I I (fun W hp=>(hN _ _ W hp).1.var) I<|Ay I<|qL 0 I I (fun W hp=>(hN _ _ W hp).1.var) I<|qP I<|DO I I I I I hz ?_
 refine qV 20 (((i+1)%l.length:Nat):Int) I e2<|qJ ?_
 refine qL 0 I I (fun W hp=>hrow W _ _ hp ((i+1)%l.length) l2) I<|WI 2 (.agg #[str [],str [],str [],str []]) Tryz.underlying270 (fun W=>by kernel_rfl) Tryz.sizeOf105 I I I I I ?_
 refine UQ ?_
 have hYk: ∀W,J i (PF b (Az l i)) W->YieldAt (Fw none) 0 Tryz.prog y (eI l i).toArray W fun e W'=>(e= .returned (.bool true)/\J (i+1) (PF b (Az l i)) W')\/(e= .returned (.bool false)/\Jx W'):=fun W h=>hY _ _ W hlt h
 unfold eI at hYk
 rw[<-LW l (i+1)] at hYk
 refine E7 (A1:=fun W=>J (i+1) (PF b (Az l i)) W) (A2:=Jx) I I I I I I hYk ?_ ?_
 rotate_left
 ·exact wP I<|xa<|zR I<|zO<|xj<|Cp I (fun W h=>h)
 exact wP I<|xa<|zS I<|zI<|xi<|wP I<|wV 26 ((i+1:Nat):Int) I (A0 (by omega))<|wP I<|zC<|Dh (i+1,PF b (Az l i)) hlt (by show l.length-(i+1)<l.length-i;omega) ⟨I,I,I,I,I,tO⟩ (fun W hp=>hp)
theorem OB (W:World) (p:Option Addr) (cap:Nat) (l:List PtS) (hA:TD W p l) (hn:l.length<4611686018427387904) (hs: ∀x∈l,x.1.length<=4000000000/\x.2.length<=4000000000) (hv:AH W) (ht:A9 W):
  Ae Tryz.prog 275 #[slv p l.length cap] W (fun _:Unit=> .int .i64 (PR l)) (fun _=>True) (fun _=>[]):=by
 refine Ab Tryz.func275 I I I<|xb<|wP I<|xk<|Ad I<|xa<|zH<|Av (X:=Nat) (fun i=>[(2, .int .i64 0),(8,slv p l.length cap),(9, .int .i64 (l.length:Nat)),(10, .int .i64 (i:Nat))]) (fun _=>[]) (fun i=>i<=l.length/\PR l=PR (l.drop i)) (fun i=>l.length-i) 0 ⟨Nat.zero_le _,I⟩ ⟨I,I,I,I,tO⟩ [] I ?_
 rintro i ⟨hi,he⟩
 have hi:i<=l.length:=hi
 have he:PR l=PR (l.drop i):=he
 refine xb<|wP I<|?_
 by_cases hlt:i<l.length
 rotate_left
 ·exact wU 11 false I (dF (by omega))<|xl<|zS I<|xg<|xn<|wP I<|xc<|wR1 I I (by rw[he,List.drop_of_length_le (by omega)];rfl)
 refine wU 11 true I (dT (by omega))<|xl<|zR I<|xh<|?_
 obtain⟨b,off,rfl,hrow⟩: ∃b off,p=some ⟨b,off,none⟩/\ ∀i (hi:i<l.length),Aj W b (off+i*2) [str l[i].1,str l[i].2]:=by
  rcases hA with h|h
  ·rw[h] at hlt;exact absurd hlt (by simp)
  ·exact h
 have hr:=hrow i hlt
 have hz:=hs l[i] (List.getElem_mem _)
 rw[WS hlt] at he
 obtain⟨⟨x,y⟩,hx⟩: ∃x,x=l[i]:=⟨_,rfl⟩
 rw[<-hx] at hr hz he
 simp only at hr hz he
 refine wJ ?_
 refine wL 0 I I (fun W1 hp=>hr.hp hp) I<|wG I I fun _=>wS 0 I I I<|xf<|wP I<|wB 0 I I I<|wP I<|wB 0 I I I<|As Tryz.hZ tH I I I I I I I I I I I fun bS=> ?_
 refine Aa I<|zC<|?_
 rename_i b4
 refine zE<|zH<|Av (X:=Nat) (fun k=>[(2, .int .i64 0),(8,slv (some ⟨b,off,none⟩) l.length cap),(9, .int .i64 (l.length:Nat)),(10, .int .i64 (i:Nat)),(18,slv (some ⟨bS,0,none⟩) 2 2),(19, .int .i64 2),(20, .int .i64 (k:Nat))]) (fun _=>[⟨b4,105,[str x,str y],true,none⟩,⟨bS,25,[str x,str y],true,none⟩]) (fun k=>k=0\/k=1/\(rdR x).2=0\/k=2/\(rdR x).2=0/\(rdR y).2=0) (fun k=>2-k) 0 (Or.inl I) ⟨I,I,I,I,I,I,I,tO⟩ [] I ?_
 rintro k (rfl|⟨rfl,h1⟩|⟨rfl,h1,h2⟩)
 ·refine xb<|wP I<|xl<|zR I<|xh<|wI I I (by decide) (by decide)<|wB 1 I I I<|wP I<|xf<|wP I<|wC I I (fun W1 hp=>BE x hz.1 W1 (hv.hp hp) (ht.hp hp))<|wP I<|zC<|?_
  refine xn<|Aa I<|?_
  by_cases h1:(rdR x).2=0
  rotate_left
  ·refine wU 27 true I (bne_iff_ne.2 h1)<|xa<|zR I<|xb<|Aa I<|xc<|xj<|xj<|zP<|?_
   rw[if_pos h1] at he
   exact wR1 I I (by rw[he])
  exact wU 27 false I (bne_eq_false_iff_eq.2 h1)<|xa<|zS I<|zI<|xi<|Aa I<|zC<|Al 1 (Or.inr (Or.inl ⟨I,h1⟩)) (by decide) ⟨I,I,I,I,I,I,I,tO⟩ [] I
 ·rw[if_neg (fun h=>h h1)] at he
  refine xb<|wP I<|xl<|zR I<|xh<|wI I I (by decide) (by decide)<|wB 1 I I I<|wP I<|xf<|wP I<|wC I I (fun W1 hp=>BE y hz.2 W1 (hv.hp hp) (ht.hp hp))<|wP I<|zC<|?_
  refine xn<|Aa I<|?_
  by_cases h2:(rdR y).2=0
  rotate_left
  ·refine wU 27 true I (bne_iff_ne.2 h2)<|xa<|zR I<|xb<|Aa I<|xc<|xj<|xj<|zP<|?_
   rw[if_pos h2] at he
   exact wR1 I I (by rw[he])
  exact wU 27 false I (bne_eq_false_iff_eq.2 h2)<|xa<|zS I<|zI<|xi<|Aa I<|zC<|Al 2 (Or.inr (Or.inr ⟨I,h1,h2⟩)) (by decide) ⟨I,I,I,I,I,I,I,tO⟩ [] I
 ·rw[if_neg (fun h=>h h1),if_neg (fun h=>h h2)] at he
  exact xb<|wP I<|xl<|zS I<|xg<|xi<|wP I<|wV 30 ((i+1:Nat):Int) I (A0 (by omega))<|wP I<|zC<|Al (i+1) ⟨hlt,he⟩ (by show l.length-(i+1)<l.length-i;omega) ⟨I,I,I,I,tO⟩ [_,_] I
def KI (k:Nat) (l:List Ax):Prop:= ∀p∈l,szQ p.1 k/\szQ p.2 k
theorem KI.at_ {k:Nat} {l:List Ax} (h:KI k l) (h0:0<l.length) (i:Nat):szQ (Az l i).1 k/\szQ (Az l i).2 k:=h _ (J8 h0 i)
theorem VS {p q r:Ax} {k:Nat} (hp:szQ p.1 k/\szQ p.2 k) (hq:szQ q.1 k/\szQ q.2 k) (hr:szQ r.1 k/\szQ r.2 k) (hk:k<=36):eN p q r:=by
 have a:=hq.1.sub hp.1
 have b:=hr.2.sub hp.2
 have c:=hq.2.sub hp.2
 have d:=hr.1.sub hp.1
 exact⟨sz2 hq.1 hp.1 (by omega),sz2 hr.2 hp.2 (by omega),sz2 hq.2 hp.2 (by omega),sz2 hr.1 hp.1 (by omega),sz2 a b (by omega),sz2 c d (by omega),sz2 (a.mul b) (c.mul d) (by omega)⟩
theorem cZ {x y:Rat} (h:y<x):CT x y=1:=by
 have h1:=OT x y
 rw[dT h] at h1
 have h2:=of_decide_eq_true h1
 rcases HL x y with e|e|e<;>omega
theorem X5 {p q r:Ax} (h:0<F0 p q r):Vl p q r=1:=cZ (by unfold F0 at h;grind)
theorem Yr {l:List Ax} (h:J3 l) {k i:Nat} (hk:k<l.length) (hi:i<l.length) (h1:i≠k) (h2:i≠(k+1)%l.length):Vl (Az l k) (Az l (k+1)) (Az l i)=1:=by
 refine X5 (Ge.sideS h hk hi h1 ?_ ?_)
 ·intro e
  rw[e,Nat.mod_eq_of_lt (by omega)] at h2
  exact h2 I
 ·rintro⟨e,e2⟩
  rw[e,e2,Nat.mod_self] at h2
  exact h2 I
theorem Fk {W0 W:World} {bxs:List Bx} (hp:Hp W0 bxs W) (k:Nat) {c:Nat} (h:bxs[k]? =some ⟨c,266,[.int .i64 0],true,none⟩):DL W c:=
 (hp.own.cell k _ h (c,_) (List.mem_cons_self ..)).1
theorem Cl.b {W:World} {p:Option Addr} {l:List Ax} (h:Cl W p l):TD W p (l.map ptS):=by
 rcases h with e|⟨g,off,e,hr⟩
 ·exact .inl (by rw[e];rfl)
 ·refine .inr ⟨g,off,e,fun i hi=> ?_⟩
  rw[List.getElem_map]
  exact hr i (by rw[List.length_map] at hi;exact hi)
theorem V5: ∀ {l:List Ax},(∀p∈l,okQ p.1/\okQ p.2)->PR (l.map ptS)=0
 |[],_=>rfl
 |p::l,h=>by
  obtain⟨h1,h2⟩:=h p (List.mem_cons_self ..)
  show(if (rdR (Ac p.1)).2≠0 then _ else if (rdR (Ac p.2)).2≠0 then _ else PR (l.map ptS))=0
  rw[Dt h1,Dt h2,if_neg (fun h=>h rfl),if_neg (fun h=>h rfl)]
  exact V5 fun q hq=>h q (List.mem_cons_of_mem _ hq)
theorem Ie (W:World) (p:Option Addr) (cap:Nat) (l:List Ax) (hA:Cl W p l) (hn:l.length<=100000) (hk: ∀p∈l,okQ p.1/\okQ p.2) (hv:AH W) (ht:A9 W):
  Ae Tryz.prog 275 #[slv p l.length cap] W (fun _:Unit=> .int .i64 0) (fun _=>True) (fun _=>[]):=by
 have h:=OB W p cap (l.map ptS) hA.b (by rw[List.length_map];omega) (fun x hx=>by
  obtain⟨q,hq,rfl⟩:=List.mem_map.1 hx
  have h1:=AX (hk q hq).1
  have h2:=AX (hk q hq).2
  show(Ac q.1).length<=_/\(Ac q.2).length<=_
  omega) hv ht
 rwa [V5 hk,List.length_map] at h
theorem QU (l:List Ax) (hP:J3 l) (h3:3<=l.length) (hn:l.length<=4096) (hs:KI 36 l) (p:Option Addr) (cap:Nat) (W:World) (hA:Cl W p l) (hv:AH W) (ht:A9 W):
  Ae Tryz.prog 219 #[slv p l.length cap] W (fun _:Unit=> .int .i64 0) (fun _=>True) (fun _=>[]):=by
 have hn0:0<l.length:=by omega
 have hz:(l.length:Int)≠0:=by omega
 refine Ab Tryz.func219 I I I<|xb<|wF I I fun _=>wG I I fun _=>zC<|?_
 rename_i b1 b2
 refine zE<|zA<|zH<|xb<|wB 0 I I I<|Aa I<|wU 13 false I (dF (by omega))<|wP I<|xa<|zS I<|xb<|wB 0 I I I<|Aa I<|wU 17 false I (dF (by omega))<|wP I<|xa<|zS I<|zI<|?_
 refine zN<|zE<|xd<|wB 0 I I I<|wC I I (fun W1 hp=>Ie W1 p cap l (hA.hp hp) (by omega) (fun q hq=>⟨(hs q hq).1.ok (by decide),(hs q hq).2.ok (by decide)⟩) (hv.hp hp) (ht.hp hp))<|wP I<|xf<|Aa I<|xa<|zS I<|xm<|An Tryz.hZ tH I I I I I I I I ?_
 refine wF I I fun _=>wG I I fun _=>wG I I fun _=>wS 3 I I I<|wS 4 I I I<|zC<|?_
 rename_i bC b4 b5
 refine zE<|xd<|wB 0 I I I<|wD (X:=Nat) I I (fun W1 _=>FR p l.length cap W1) ?_
 intro bp _
 refine xa<|zH<|?_
 refine EZ (X:=Unit) (fun _=>[⟨b1,132,[slv p l.length cap],true,none⟩,⟨b2,34,[.int .i64 0],true,none⟩,⟨bC,266,[.int .i64 0],true,none⟩,⟨b4,264,[Ai bC],true,none⟩,⟨b5,4,[.bool false],true,none⟩,⟨bp,132,[slv p l.length cap],true,none⟩])
  (fun _ _=>True) (fun _ _=>False) () rfl (by kernel_rfl) (G2 l bp p cap (by omega)) (fun _=>rfl)
  trivial [] rfl (fun k x W1 _ hp=>⟨Aj.of_bx hp 5 rfl rfl,hA.hp hp⟩) ?_ ?_ (fun _ _ _ _ _ h=>h.elim)
 ·rintro k ⟨⟩ d l' rec L hk _ hrec
  have hk:k<l.length:=hk
  refine xb<|wP I<|xa<|zB<|wG I I fun _=>wS 9 I I I<|zC<|?_
  rename_i b7
  refine BU 8 hrec I ?_
  refine zH<|xb<|wB 1 I I I<|Aa I<|xa<|zH<|?_
  refine Av (X:=Nat) (fun i=>[(1,Ai b1),(2,Ai b2),(4,Ai b4),(5,Ai b5),(6, .int .i64 (k:Nat)),(7,Ai b7),(29,slv p l.length cap),(30, .int .i64 (l.length:Nat)),(31, .int .i64 (i:Nat))])
   (fun _=>[Bd L,⟨b1,132,[slv p l.length cap],true,none⟩,⟨b2,34,[.int .i64 0],true,none⟩,⟨bC,266,[.int .i64 0],true,none⟩,⟨b4,264,[Ai bC],true,none⟩,⟨b5,4,[.bool false],true,none⟩,⟨bp,132,[slv p l.length cap],true,none⟩,BL d,Bp l' rec .busy none,⟨b7,270,(sdV (Az l k) (Az l (k+1))).cells.toList,true,none⟩])
   (fun i=>i<=l.length) (fun i=>l.length-i) 0 (Nat.zero_le _) ⟨rfl,rfl,rfl,rfl,rfl,rfl,rfl,rfl,rfl,trivial⟩ [] rfl ?_
  intro i hi
  have hi:i<=l.length:=hi
  refine xb<|wP I<|?_
  by_cases hlt:i<l.length
  rotate_left
  ·exact wU 32 false I (dF (by omega))<|xl<|zS I<|xg<|zN<|By 8 () hrec I tO [_] I
  refine wU 32 true I (dT (by omega))<|xl<|zR I<|xh<|?_
  obtain⟨g,off,hpe,hrow⟩:=hA.at_ hlt
  have hrow:=hrow i hlt
  rw[<-Dx hlt] at hrow
  subst hpe
  refine wP I<|wJ ?_
  refine wL 0 I I (fun W1 hp=>hrow.hp hp) I<|wG I I fun _=>wP I<|wS 10 I I I<|zC<|?_
  rename_i b9
  refine zE<|xd<|Ad I<|?_
  by_cases h1:i=k
  ·refine wU 38 false I (bne_eq_false_iff_eq.2 (by omega))<|wP I<|?_
   iterate 7 refine Af I I ?_
   refine Aa I<|?_
   iterate 8 refine Af I I ?_
   refine wP I<|xa<|zS I<|xm<|wB 4 I I I<|AQ I I I I ?_
   exact wP I<|wB 3 I I I<|wP I<|xa<|zS I<|zI<|xi<|wP I<|wV 67 ((i+1:Nat):Int) I (A0 (by omega))<|wP I<|zC<|Al (i+1) hlt (by show l.length-(i+1)<l.length-i;omega) ⟨I,I,I,I,I,I,I,I,I,tO⟩ [_] I
  refine wU 38 true I (bne_iff_ne.2 (by omega))<|At I<|wV 42 ((k+1:Nat):Int) I (A0 (by omega))<|wB 1 I I I<|wP I<|FC I I I I I hz ?_
  refine wV 45 (((k+1)%l.length:Nat):Int) I I<|wP I<|?_
  by_cases h2:i=(k+1)%l.length
  ·refine wU 46 false I (bne_eq_false_iff_eq.2 (by omega))<|Aa I<|?_
   iterate 8 refine Af I I ?_
   refine wP I<|xa<|zS I<|xm<|wB 4 I I I<|AQ I I I I ?_
   exact wP I<|wB 3 I I I<|wP I<|xa<|zS I<|zI<|xi<|wP I<|wV 67 ((i+1:Nat):Int) I (A0 (by omega))<|wP I<|zC<|Al (i+1) hlt (by show l.length-(i+1)<l.length-i;omega) ⟨I,I,I,I,I,I,I,I,I,tO⟩ [_] I
  refine wU 46 true I (bne_iff_ne.2 (by omega))<|Aa I<|wB 4 I I I<|EK Tryz.underlying270 Tryz.sizeOf105 I I I I I ⟨by decide,by decide⟩<|wB 9 I I I<|EK Tryz.underlying270 Tryz.sizeOf105 I I I I I ⟨by decide,by decide⟩<|wB 9 I I I<|wB 10 I I I<|wC I I (fun W1 hp=>(TP bC (Az l k) (Az l (k+1)) (Az l i) (VS (hs.at_ hn0 _) (hs.at_ hn0 _) (hs.at_ hn0 _) (by decide)) W1 (Fk hp 3 I) (hv.hp hp) (ht.hp hp)).cast (v':= .int .i64 1) (by rw[Yr hP hk hlt h1 h2]))<|Aa I<|xa<|zS I<|xm<|wB 4 I I I<|AQ I I I I ?_
  exact wP I<|wB 3 I I I<|wP I<|xa<|zS I<|zI<|xi<|wP I<|wV 67 ((i+1:Nat):Int) I (A0 (by omega))<|wP I<|zC<|Al (i+1) hlt (by show l.length-(i+1)<l.length-i;omega) ⟨I,I,I,I,I,I,I,I,I,tO⟩ [_] I
 ·rintro⟨⟩ d l' rec _
  refine zN<|zE<|xd<|wB 4 I I I<|xa<|zS I<|xm<|wS 1 I I I<|xc<|Co 6 I ?_
  exact A3 tH I (.cell 1 I I I I I) () I tO fun W _=>Au.nil _ _
structure Ny (W:World) (p:Option Addr) (l:List Ax):Prop where
 poly:J3 l
 n3:3<=l.length
 n:l.length<=4096
 sz:KI 36 l
 m:Cl W p l
 v:AH W
 t:A9 W
theorem Ny.hp {W0 W:World} {bxs:List Bx} {p:Option Addr} {l:List Ax} (h:Ny W0 p l) (hp:Hp W0 bxs W):Ny W p l:=⟨h.poly,h.n3,h.n,h.sz,h.m.hp hp,h.v.hp hp,h.t.hp hp⟩
theorem Ny.chk {W:World} {p:Option Addr} {l:List Ax} (h:Ny W p l) (cap:Nat):Ae Tryz.prog 219 #[slv p l.length cap] W (fun _:Unit=> .int .i64 0) (fun _=>True) (fun _=>[]):=
 QU l h.poly h.n3 h.n h.sz p cap W h.m h.v h.t
theorem PI (l:List Ax) (p:Option Addr) (cap:Nat) (W:World) (h:Ny W p l):
  Ae Tryz.prog 225 #[slv p l.length cap, .slice none 0 0] W (fun _:Unit=> .int .i64 0) (fun _=>True) (fun _=>[]):=by
 refine Ab Tryz.func225 I I I<|xb<|wP I<|xk<|wP I<|wC I I (fun W1 hp=>(h.hp hp).chk cap)<|wP I<|xa<|zS I<|xe<|xd<|Ad I<|zC<|?_
 refine zE<|zH<|Av (X:=Unit) (fun _=>[(1, .slice none 0 0),(4, .int .i64 0),(12, .int .i64 0),(13, .int .i64 0)]) (fun _=>[]) (fun _=>True) (fun _=>0) () tO ⟨I,I,I,I,tO⟩ [] I ?_
 intro _ _
 refine xb<|wP I<|xl<|zS I<|xg<|zE<|xd<|At I<|?_
 iterate 4 refine Af I I ?_
 refine Aa I<|?_
 iterate 4 refine Af I I ?_
 exact wP I<|xa<|zS I<|xm<|wP I<|xc<|wR1 I I I
structure fP (f:EL) (q:Ax):Prop where
 m1:Sz2 f.a q.1
 m2:Sz2 f.b q.2
 s:Sz2 (f.a*q.1) (f.b*q.2)
 d:Sz2 (f.a*q.1+f.b*q.2) f.c
structure Qd (b4 b5 b6 b7 c:Nat) (f:EL) (W:World):Prop where
 r4:Aj W b4 0 [Ai c]
 r5:Aj W b5 0 [str (Ac f.a)]
 r6:Aj W b6 0 [str (Ac f.b)]
 r7:Aj W b7 0 [str (Ac f.c)]
 k:DL W c
 v:AH W
 t:A9 W
theorem DL.below {W W':World} {c n:Nat} (h:DL W c) (hn:W.heap.size<=n) (hb:Below n W W'):DL W' c:=
 (hb.block c (Nat.lt_of_lt_of_le (Array.getElem?_eq_some_iff.1 h).1 hn)).trans h
theorem Qd.below {b4 b5 b6 b7 c:Nat} {f:EL} {W W':World} (h:Qd b4 b5 b6 b7 c f W) (hb:Below W.heap.size W W'):Qd b4 b5 b6 b7 c f W':=
 ⟨h.r4.below (Nat.le_refl _) hb,h.r5.below (Nat.le_refl _) hb,h.r6.below (Nat.le_refl _) hb,h.r7.below (Nat.le_refl _) hb,h.k.below (Nat.le_refl _) hb,h.v.below hb,h.t.below hb⟩
theorem Qd.hp {b4 b5 b6 b7 c:Nat} {f:EL} {W0 W:World} {bxs:List Bx} (h:Qd b4 b5 b6 b7 c f W0) (hp:Hp W0 bxs W):Qd b4 b5 b6 b7 c f W:=h.below hp.below
theorem Ly (c:Nat) (f:EL) (W:World):Ae Tryz.prog 288 #[Ai c,str (Ac f.a),str (Ac f.b),str (Ac f.c)] W
  (fun x:Nat×Nat×Nat×Nat=> .func (.func 332) #[] #[Ai x.1,Ai x.2.1,Ai x.2.2.1,Ai x.2.2.2]) (fun _=>True)
  (fun x=>[⟨x.1,264,[Ai c],true,none⟩,⟨x.2.1,25,[str (Ac f.a)],true,none⟩,⟨x.2.2.1,25,[str (Ac f.b)],true,none⟩,⟨x.2.2.2,25,[str (Ac f.c)],true,none⟩]):=by
 refine Ab Tryz.func288 I I I<|xb<|wF I I fun _=>wF I I fun _=>wF I I fun _=>wF I I fun _=>wP I<|zC<|?_
 rename_i b4 b5 b6 b7
 exact xn<|Aa I<|xc<|A3 tH I (.tmp I) (b4,b5,b6,b7) I tO fun W1 hp=>Au.of_hp hp
theorem GW (b4 b5 b6 b7 c:Nat) (f:EL) (q:Ax) (hz:fP f q) (W:World) (hL:Qd b4 b5 b6 b7 c f W):
  Ae Tryz.prog 332 #[cvV q,Ai b4,Ai b5,Ai b6,Ai b7] W (fun _:Unit=>str (Ac (f.at q))) (fun _=>True) (fun _=>[]):=by
 refine Ab Tryz.func332 I I I<|xb<|wF I I fun _=>wP I<|xl<|zU<|qL 0 I I (fun W1 hp=>(hL.hp hp).r4) I<|qL 0 I I (fun W1 hp=>(hL.hp hp).r5) I<|qP I<|qB 0 I I I<|qC I I (fun W1 hp=>CL c f.a q.1 hz.m1 W1 (hL.hp hp).k (hL.hp hp).v (hL.hp hp).t)<|qL 0 I I (fun W1 hp=>(hL.hp hp).r4) I<|qL 0 I I (fun W1 hp=>(hL.hp hp).r6) I<|qP I<|qB 0 I I I<|qC I I (fun W1 hp=>CL c f.b q.2 hz.m2 W1 (hL.hp hp).k (hL.hp hp).v (hL.hp hp).t)<|Ay I<|zD<|xa<|?_
 exact zA<|zU<|qL 0 I I (fun W1 hp=>(hL.hp hp).r4) I<|qL 0 I I (fun W1 hp=>(hL.hp hp).r4) I<|Ay I<|qC I I (fun W1 hp=>Gc c (f.a*q.1) (f.b*q.2) hz.s W1 (hL.hp hp).k (hL.hp hp).v (hL.hp hp).t)<|qL 0 I I (fun W1 hp=>(hL.hp hp).r7) I<|qC I I (fun W1 hp=>C8 c (f.a*q.1+f.b*q.2) f.c hz.d W1 (hL.hp hp).k (hL.hp hp).v (hL.hp hp).t)<|qP I<|zD<|xc<|wR1 I I I
abbrev vsC (l:List Rat):List Value:=l.map fun q=>str (Ac q)
theorem aZ (a b:List Rat):vsC (a++b)=vsC a++vsC b:=List.map_append
theorem GO (l:List Ax) (F:Ax->Rat) (g:Nat) (capt:List Value) (hE:AS Tryz.prog g=true) (hn:l.length<=4096) (p:Option Addr) (cap:Nat) (W:World) (hA:Cl W p l)
  (hg: ∀q∈l, ∀W1,Below W.heap.size W W1->Ae Tryz.prog g ([cvV q]++capt).toArray W1 (fun _:Unit=>str (Ac (F q))) (fun _=>True) (fun _=>[])):
  Ae Tryz.prog 287 #[slv p l.length cap, .func (.func g) #[] capt.toArray] W (fun V:Vec=>V.val l.length) (fun V=>V.OK 1 l.length (vsC (l.map F))) (fun V=>[V.bx 25 (vsC (l.map F))]):=by
 refine Ab Tryz.func287 I I I<|xb<|wP I<|xf<|wP I<|xk<|Ad I<|xa<|zH<|C9 ?_
 refine Av (X:=Nat×Vec) (fun s=>[(1, .func (.func g) #[] capt.toArray),(5,s.2.val s.1),(8,slv p l.length cap),(9, .int .i64 (l.length:Nat)),(10, .int .i64 (s.1:Nat))])
  (fun s=>[s.2.bx 25 (vsC ((l.take s.1).map F))]) (fun s=>s.1<=l.length/\s.2.OK 1 s.1 (vsC ((l.take s.1).map F))) (fun s=>l.length-s.1) (0,Vec.empty) ⟨Nat.zero_le _,Vec.OK.empty 1⟩ ⟨rfl,rfl,rfl,rfl,rfl,trivial⟩ [] rfl ?_
 rintro⟨i,V⟩ ⟨hi,hV⟩
 have hi:i<=l.length:=hi
 have hV:V.OK 1 i (vsC ((l.take i).map F)):=hV
 refine xb<|wP I<|?_
 by_cases hlt:i<l.length
 ·refine wU 11 true I (dT (by omega))<|xl<|zR I<|xh<|?_
  obtain⟨gp,off,hpe,hrow⟩:=hA.at_ hlt
  have hrow:=hrow i hlt
  have hq:=hg l[i] (List.getElem_mem hlt)
  have hsu:(l.take (i+1)).map F=(l.take i).map F++[F l[i]]:=by
   rw[List.take_add_one,List.getElem?_eq_getElem hlt,List.map_append];rfl
  obtain⟨q,hqe⟩: ∃q,q=l[i]:=⟨_,rfl⟩
  rw[<-hqe] at hrow hq hsu
  subst hpe
  refine wJ ?_
  refine wL 0 I I (fun W1 hp=>hrow.hp hp) I<|wG I I fun _=>wS 1 I I I<|xa<|zB<|Aa I<|wB 1 I I I<|Bz (capt:=capt) I I I I I I hE (fun W1 hp=>hq W1 hp.below)<|As Tryz.hZ tH I I I I I I I I I I I fun bS=> ?_
  refine AN (V:=V) (len:=i) (xs:=vsC ((l.take i).map F)) 0 2 Tryz.vec75 (i+1) (vsC ((l.take (i+1)).map F)) I I I I I I I I I I I hV I I I (by rw[hsu,aZ];rfl) (by simp only[maxLen];omega) (by omega) I ?_
  intro gV cV jV hV1
  exact wP I<|zC<|xi<|wP I<|wV 20 ((i+1:Nat):Int) I (A0 (by omega))<|wP I<|zC<|Al (i+1,⟨some gV,cV,jV⟩) ⟨hlt,hV1⟩ (by show l.length-(i+1)<l.length-i;omega) ⟨I,I,I,I,I,tO⟩ _ I
 have e:i=l.length:=by omega
 subst e
 have et:l.take l.length=l:=List.take_of_length_le (Nat.le_refl _)
 rw[et] at hV
 refine wU 11 false I (dF (by omega))<|xl<|zS I<|xg<|xn<|Aa I<|xc<|?_
 exact A3 tH I (.tmp I) V I hV fun W1 hp=>by
  have hp:Hp W [V.bx 25 (vsC ((l.take l.length).map F))] W1:=hp
  rw[et] at hp
  exact Au.of_hp hp
section
variable {r:Option Nat} {n:Nat} {P:Program} {N:Nat} {D:List Deferred} {ops:List Oper} {Q:Exit->Act->World->Prop} {o:Oper} {rest:List Oper} {env:Env} {A:World->Prop}
theorem Ou {W:World} {t ty e:TypeId} {size bytes:Nat} {z:Value} (hty:VecTy P t e size bytes z) {b:Option Addr} {k c c':Nat} (hk:k<=c):
  (Builtin.append_ #[t,t] ty #[.slice b k c, .slice none 0 c']).run P W= .ok (.slice b k c) W:=by
 obtain⟨i,hi,hz,hsz,hby⟩:=hty.hi
 have hs:(Go.sizeOf e).run P W= .ok i.size W:=by simp[sizeOf,typeInfo,hi]
 cases b<;>simp[Builtin.append_,run_underlying hty.ht,hs,hk,Builtin.lenOf,Builtin.firstCells,storeCells]
theorem KF {d:Nat} {t e:TypeId} {size bytes:Nat} {z:Value} (hty:VecTy P t e size bytes z) {c:Call} {s x:Operand} {b:Option Addr} {k cp cp':Nat}
  (hg:Aw ops N env o=some true) (hd:o.dst=some d) (ho:o.op= .call c) (hc:c.callee= .builtin .append) (ha:c.args= #[s,x]) (hat:c.argTypes= #[t,t])
  (hs:evO N env s=some (.slice b k cp)) (hx:evO N env x=some (.slice none 0 cp')) (hk:k<=cp)
  (h:WL r n P N D ops Q rest ((d, .slice b k cp)::env) A):WL r n P N D ops Q (o::rest) env A:= .mk fun act W h2 h3 hp=>by
 refine BO hg h2 (fun c e=>by rw[ho] at e;cases e) ?_
 have hr:=Ou (P:=P) (W:=W) (ty:=o.type) hty (b:=b) (c':=cp') hk
 have e1:c.args.map (ov env act).eval= #[.slice b k cp, .slice none 0 cp']:=by rw[ha];simp[AB h2 _ _ hs,AB h2 _ _ hx]
 have:(execOp (ov env act).eval o).run P W= .ok (.value (.slice b k cp)) W:=by
  simp only[execOp,ho,resolve,hc,invoke,builtin,e1,hat,Sem.run_bind,Sem.run_pure,Result.andThen_ok,hr]
 rw[this]
 simp only[Oper.uponIn,hd]
 exact h.out act W h2 h3 hp
end
def eD (V:Vec):Option Addr:=V.p.map fun g=>⟨g,0,none⟩
def ZJ (V:Vec):Nat:=match V.p with
 |none=>0
 |some _=>V.cap
theorem Nb {V:Vec} {size n:Nat} {xs:List Value} (h:V.OK size n xs):V.val n= .slice (eD V) n (ZJ V):=by
 obtain⟨p,cap,junk⟩:=V
 cases p with
 |none=>rw[h.nil rfl];rfl
 |some g=>rfl
theorem YR {V:Vec} {size n:Nat} {xs:List Value} (h:V.OK size n xs):n<=ZJ V:=by
 obtain⟨p,cap,junk⟩:=V
 cases p with
 |none=>rw[h.nil rfl];exact Nat.le_refl _
 |some g=>exact(h.cap (by simp)).1
def NO (W:World) (p:Option Addr) (cs:List Value):Prop:=cs=[]\/ ∃b off,p=some ⟨b,off,none⟩/\Aj W b off cs
theorem NO.none {W:World} {l:List Value} (h:NO W none l):l=[]:=by
 rcases h with h|⟨b,off,e,_⟩
 ·exact h
 ·cases e
def T2p (n0 n1:Nat):Nat->Nat
 |0=>0
 |1=>n0
 |_=>n0+n1
def C2p (c0 c1:List Value):Nat->List Value
 |0=>[]
 |1=>c0
 |_=>c0++c1
theorem R3 (W:World) (m:Nat) (hm:m<=1000000):Ae Tryz.prog 274 #[.slice none 0 0, .int .i64 (m:Nat)] W (fun V:Vec=>V.val 0) (fun V=>V.OK 2 0 []/\(0<m->V.p≠none)) (fun V=>[V.bx 105 []]):=by
 refine Ab Tryz.func274 I I I<|xb<|wP I<|xk<|Aa I<|xa<|zS I<|xe<|xd<|?_
 iterate 8 refine wP I ?_
 refine xf<|Aa I<|xa<|?_
 have e14:w64 ((m:Int)-w64 (0-0))=m:=by
  have:w64 (0-0)=0:=rfl
  rw[this];exact(Ar (by omega) (by omega)).trans (by omega)
 refine Bh 16 _ I (show Value.bool (decide (w64 ((m:Int)-w64 (0-0))>0))= .bool (decide (0<m)) by rw[e14];congr 1;simp) ?_
 refine Ag I (fun h=> ?_) (fun h=> ?_)
 ·have h:0<m:=by simpa using h
  refine zB<|Ad I<|BG 0 tH I I I I I I I I (Nat.le_refl _) ?_
  refine wP I ?_
  refine I3 Tryz.vec132 (ku:= .i64) (by kernel_rfl) m I I I I I I I I e14 h (by simp only[maxLen];omega) (by omega) ?_
  intro V hV hp hj
  refine Aa I<|?_
  obtain⟨p,cap,junk⟩:=V
  cases p with
  |none=>exact absurd rfl hp
  |some g=>
  refine BG (a:=some ⟨g,0,none⟩) (len:=m) (cap:=cap) 0 tH I I I I I I I I (Nat.zero_le _) ?_
  refine wP I<|xf<|Aa I<|xc<|?_
  obtain⟨h1,h2,h3⟩:=hV.cap (by simp)
  refine A3 tH rfl (.tmp rfl) (⟨some g,cap,Cf [.string ⟨#[]⟩, .string ⟨#[]⟩] m++junk⟩:Vec) rfl ⟨⟨rfl,(fun h=>by cases h),fun _=>⟨Nat.zero_le _,h2, ?_⟩⟩,fun _=>by simp⟩ fun W hp=>Au.of_hp1 hp 0 rfl
  show 0+(Cf _ m++junk).length=cap*2
  rw[List.length_append,Nat.zero_add]
  exact h3
 ·have h:m=0:=by simp at h;omega
  subst h
  exact xm<|wP rfl<|wP rfl<|xc<|A3 tH rfl (.tmp rfl) Vec.empty rfl ⟨Vec.OK.empty 2,fun h=>absurd h (Nat.lt_irrefl _)⟩ fun W hp=>Own.one (fun p hp=>by cases hp) List.nodup_nil
theorem D2 (W:World) (b cap:Nat) (p0 p1:Option Addr) (n0 n1 k0 k1:Nat) (c0 c1:List Value) (hrow:Aj W b 0 [.slice p0 n0 k0, .slice p1 n1 k1]) (h0:NO W p0 c0) (h1:NO W p1 c1) (l0:c0.length=n0*2) (l1:c1.length=n1*2)
  (o0: ∀u∈c0,u.oneCell'=true) (o1: ∀u∈c1,u.oneCell'=true) (b0:n0<=100000) (b1:n1<=100000):
  Ae Tryz.prog 216 #[.slice (some ⟨b,0,none⟩) 2 cap] W (fun V:Vec=>V.val (n0+n1)) (fun V=>V.OK 2 (n0+n1) (c0++c1)) (fun V=>[V.bx 105 (c0++c1)]):=by
 refine Ab Tryz.func216 I I I<|xb<|wP I<|xf<|wP I<|xk<|Ad I<|xa<|zH<|?_
 refine Av (X:=Nat) (fun k=>[(0, .slice (some ⟨b,0,none⟩) 2 cap),(3, .int .i64 (T2p n0 n1 k:Nat)),(9, .slice (some ⟨b,0,none⟩) 2 cap),(10, .int .i64 2),(11, .int .i64 (k:Nat))]) (fun _=>[])
  (fun k=>k<=2) (fun k=>2-k) 0 (Nat.zero_le _) ⟨rfl,rfl,rfl,rfl,rfl,trivial⟩ [] rfl ?_
 intro i hi
 have hi:i=0\/i=1\/i=2:=by have:i<=2:=hi;omega
 rcases hi with rfl|rfl|rfl
 ·refine xb<|wP I<|xl<|zR I<|xh<|wJ ?_
  refine wL 0 I I (fun W hp=>hrow.hp hp) I<|wP I<|xf<|At I<|wV 18 (T2p n0 n1 1:Nat) I (show w64 ((T2p n0 n1 0:Nat)+(n0:Nat))=(T2p n0 n1 1:Nat) by have hT0:T2p n0 n1 0=0:=I;have hT1:T2p n0 n1 1=n0:=I;rw[Ar (by omega) (by omega)];omega)<|wP I<|xf<|Aa I<|xa<|zS I<|zI<|zN<|zE<|?_
  exact zB<|Aa I<|zC<|Al 1 (by decide) (by decide) ⟨I,I,I,I,I,tO⟩ [] I
 ·refine xb<|wP I<|xl<|zR I<|xh<|wJ ?_
  refine wL 1 I I (fun W hp=>hrow.hp hp) I<|wP I<|xf<|At I<|wV 18 (T2p n0 n1 2:Nat) I (show w64 ((T2p n0 n1 1:Nat)+(n1:Nat))=(T2p n0 n1 2:Nat) by have hT0:T2p n0 n1 1=n0:=I;have hT1:T2p n0 n1 2=n0+n1:=I;rw[Ar (by omega) (by omega)];omega)<|wP I<|xf<|Aa I<|xa<|zS I<|zI<|zN<|zE<|?_
  exact zB<|Aa I<|zC<|Al 2 (by decide) (by decide) ⟨I,I,I,I,I,tO⟩ [] I
 refine xb<|wP I<|xl<|zS I<|xg<|xn<|wP I<|wD (X:=Vec) I I (fun W _=>R3 W (n0+n1) (by omega)) ?_
 rintro V0 ⟨hV0,hV0p⟩
 refine wP I<|xk<|Ad I<|xa<|zH<|?_
 refine Av (X:=Nat×Vec) (fun x=>[(6,x.2.val (T2p n0 n1 x.1)),(25, .slice (some ⟨b,0,none⟩) 2 cap),(26, .int .i64 2),(27, .int .i64 (x.1:Nat))]) (fun x=>[x.2.bx 105 (C2p c0 c1 x.1)])
  (fun x=>x.1<=2/\x.2.OK 2 (T2p n0 n1 x.1) (C2p c0 c1 x.1)) (fun x=>2-x.1) (0,V0) ⟨Nat.zero_le _,hV0⟩ ⟨rfl,rfl,rfl,rfl,trivial⟩ [] rfl ?_
 rintro⟨i,V⟩ ⟨hi,hV⟩
 have hi:i=0\/i=1\/i=2:=by have:i<=2:=hi;omega
 rcases hi with rfl|rfl|rfl
 ·have hV:V.OK 2 (T2p n0 n1 0) (C2p c0 c1 0):=hV
  have hT0:T2p n0 n1 0=0:=rfl
  have hT1:T2p n0 n1 1=n0:=rfl
  refine xb<|wP I<|xl<|zR I<|xh<|wJ ?_
  refine wL 0 I I (fun W hp=>hrow.hp hp) I<|wP I<|xa<|zB<|Aa I<|?_
  cases p0 with
  |none=>
   have hc:=h0.none
   have hn0:n0=0:=by rw[hc,List.length_nil] at l0;omega
   refine Ap 31 (.slice (eD V) (T2p n0 n1 0) (ZJ V)) I (Nb hV)<|Ap 32 (.slice none 0 k0) I (by rw[hn0])<|KF Tryz.vec132 I I I I I I I I (YR hV) ?_
   refine Ap 33 (V.val (T2p n0 n1 0)) I (Nb hV).symm ?_
   have eT:T2p n0 n1 0=T2p n0 n1 1:=by omega
   have eC:C2p c0 c1 0=C2p c0 c1 1:=by show[]=c0;rw[hc]
   rw[eT,eC] at hV
   rw[eT,eC]
   exact wP I<|zC<|xi<|Aa I<|zC<|Al (1,V) ⟨by show 1<=2;decide,hV⟩ (by show 2-1<2-0;decide) ⟨I,I,I,I,tO⟩ [] I
  |some a=>
   refine EW (len:=T2p n0 n1 0) (V:=V) 0 Tryz.vec132 I I I I I I I I I hV l0 (fun W hp j u hj=> ?_) o0 (by simp only[maxLen];omega) (by omega) ?_
   ·obtain⟨ab,ao,asp⟩:=a
    rcases h0 with h|⟨b',off',e,h⟩
    ·rw[h] at hj;simp at hj
    ·cases e
     rw[Addr.add_none]
     exact(h.hp hp).get j u hj
   intro V' hV' _
   have eT:T2p n0 n1 0+n0=T2p n0 n1 1:=by omega
   have eC:C2p c0 c1 0++c0=C2p c0 c1 1:=rfl
   rw[eT,eC] at hV'
   rw[eT,eC]
   exact wP I<|zC<|xi<|Aa I<|zC<|Al (1,V') ⟨by show 1<=2;decide,hV'⟩ (by show 2-1<2-0;decide) ⟨I,I,I,I,tO⟩ [] I
 ·have hV:V.OK 2 (T2p n0 n1 1) (C2p c0 c1 1):=hV
  have hT0:T2p n0 n1 1=n0:=rfl
  have hT1:T2p n0 n1 2=n0+n1:=rfl
  refine xb<|wP I<|xl<|zR I<|xh<|wJ ?_
  refine wL 1 I I (fun W hp=>hrow.hp hp) I<|wP I<|xa<|zB<|Aa I<|?_
  cases p1 with
  |none=>
   have hc:=h1.none
   have hn0:n1=0:=by rw[hc,List.length_nil] at l1;omega
   refine Ap 31 (.slice (eD V) (T2p n0 n1 1) (ZJ V)) I (Nb hV)<|Ap 32 (.slice none 0 k1) I (by rw[hn0])<|KF Tryz.vec132 I I I I I I I I (YR hV) ?_
   refine Ap 33 (V.val (T2p n0 n1 1)) I (Nb hV).symm ?_
   have eT:T2p n0 n1 1=T2p n0 n1 2:=by omega
   have eC:C2p c0 c1 1=C2p c0 c1 2:=by show c0=c0++c1;rw[hc];simp
   rw[eT,eC] at hV
   rw[eT,eC]
   exact wP I<|zC<|xi<|Aa I<|zC<|Al (2,V) ⟨by show 2<=2;decide,hV⟩ (by show 2-2<2-1;decide) ⟨I,I,I,I,tO⟩ [] I
  |some a=>
   refine EW (len:=T2p n0 n1 1) (V:=V) 0 Tryz.vec132 I I I I I I I I I hV l1 (fun W hp j u hj=> ?_) o1 (by simp only[maxLen];omega) (by omega) ?_
   ·obtain⟨ab,ao,asp⟩:=a
    rcases h1 with h|⟨b',off',e,h⟩
    ·rw[h] at hj;simp at hj
    ·cases e
     rw[Addr.add_none]
     exact(h.hp hp).get j u hj
   intro V' hV' _
   have eT:T2p n0 n1 1+n1=T2p n0 n1 2:=by omega
   have eC:C2p c0 c1 1++c1=C2p c0 c1 2:=rfl
   rw[eT,eC] at hV'
   rw[eT,eC]
   exact wP I<|zC<|xi<|Aa I<|zC<|Al (2,V') ⟨by show 2<=2;decide,hV'⟩ (by show 2-2<2-1;decide) ⟨I,I,I,I,tO⟩ [] I
 exact xb<|wP I<|xl<|zS I<|xg<|xn<|Aa I<|xc<|A3 tH I (.tmp I) V I hV fun W hp=>Au.of_hp1 hp 0 I
structure gJ (p q:Ax) (u v:Rat):Prop where
 s:Sz2 u v
 d:Sz2 u (u-v)
 nz:(u-v).num≠0
 x1:Sz2 q.1 p.1
 x2:Sz2 (u/(u-v)) (q.1-p.1)
 x3:Sz2 p.1 (u/(u-v)*(q.1-p.1))
 y1:Sz2 q.2 p.2
 y2:Sz2 (u/(u-v)) (q.2-p.2)
 y3:Sz2 p.2 (u/(u-v)*(q.2-p.2))
theorem UV (c:Nat) (p q:Ax) (u v:Rat) (hz:gJ p q u v) (W:World) (hc:DL W c) (hv:AH W) (ht:A9 W):
  Ae Tryz.prog 290 #[Ai c,cvV p,cvV q,str (Ac u),str (Ac v)] W (fun _:Unit=>cvV (Va (u/(u-v)) p q)) (fun _=>True) (fun _=>[]):=by
 refine Ab Tryz.func290 I I I<|xb<|wF I I fun _=>wF I I fun _=>wG I I fun _=>xf<|Ak I<|wC I I (fun W hp=>C8 c u v hz.s W (hc.hp hp) (hv.hp hp) (ht.hp hp))<|wC I I (fun W hp=>NK c u (u-v) hz.d hz.nz W (hc.hp hp) (hv.hp hp) (ht.hp hp))<|wP I<|xl<|zU<|Ay I<|?_
 refine qB 0 I I I<|Cd I<|qB 1 I I I<|qP I<|qB 0 I I I<|qC I I (fun W hp=>C8 c q.1 p.1 hz.x1 W (hc.hp hp) (hv.hp hp) (ht.hp hp))<|qC I I (fun W hp=>CL c (u/(u-v)) (q.1-p.1) hz.x2 W (hc.hp hp) (hv.hp hp) (ht.hp hp))<|qC I I (fun W hp=>Gc c p.1 (u/(u-v)*(q.1-p.1)) hz.x3 W (hc.hp hp) (hv.hp hp) (ht.hp hp))<|qP I<|zD<|xl<|zU<|Ay I<|qB 0 I I I<|Cd I<|?_
 refine qB 1 I I I<|qP I<|qB 0 I I I<|qC I I (fun W hp=>C8 c q.2 p.2 hz.y1 W (hc.hp hp) (hv.hp hp) (ht.hp hp))<|qC I I (fun W hp=>CL c (u/(u-v)) (q.2-p.2) hz.y2 W (hc.hp hp) (hv.hp hp) (ht.hp hp))<|qC I I (fun W hp=>Gc c p.2 (u/(u-v)*(q.2-p.2)) hz.y3 W (hc.hp hp) (hv.hp hp) (ht.hp hp))<|qP I<|zD<|xf<|Aa I<|An Tryz.hZ tH I I I I I I I I ?_
 exact wS 2 I I I<|xc<|A3 tH I (.cell 2 I I I I I) () I tO fun W _=>Au.nil _ _
theorem Se (q:Rat):decide (He q<0)=decide (q<0):=by
 refine decide_eq_decide.2 ?_
 have h:q.num<0↔q<0:=by rw[<-Rat.not_le, <-Rat.num_nonneg];omega
 rw[<-h]
 unfold He
 split
 ·omega
 ·split<;>omega
theorem Rv (q:Rat) (W:World):Ae Tryz.prog 291 #[str (Ac q)] W (fun _:Unit=> .bool (decide (q<0))) (fun _=>True) (fun _=>[]):=by
 exact Ab Tryz.func291 I I I<|xb<|wP I<|xf<|wP I<|wC I I (fun W hp=>Je q W)<|wP I<|wU 5 (decide (q<0)) I (Se q)<|wP I<|xc<|wR1 I I I
theorem X0 {α:Type} {p:α->Bool} {l:List α} {i:Nat} (hi:i<l.length):(l.drop i).any p=(p l[i]||(l.drop (i+1)).any p):=by
 rw[List.drop_eq_getElem_cons hi,List.any_cons]
theorem PD (g:Nat) (hE:AS Tryz.prog g=true) (F:Rat->Bool) (hg: ∀q W,Ae Tryz.prog g #[str (Ac q)] W (fun _:Unit=> .bool (F q)) (fun _=>True) (fun _=>[])) (l:List Rat) (hn:l.length<=100000) (p:Option Addr) (cap:Nat) (W:World) (hS:EJ W p (l.map Ac)):
  Ae Tryz.prog 299 #[slv p l.length cap, .func (.func g) #[] #[]] W (fun z:Int=> .int .i64 z) (fun z=>0<=z↔l.any F=true) (fun _=>[]):=by
 refine Ab Tryz.func299 I I I<|xb<|wP I<|xk<|Ad I<|xa<|zH<|Av (X:=Nat) (fun i=>[(0,slv p l.length cap),(1, .func (.func g) #[] #[]),(6,slv p l.length cap),(7, .int .i64 (l.length:Nat)),(8, .int .i64 (i:Nat))]) (fun _=>[]) (fun i=>i<=l.length/\l.any F=(l.drop i).any F) (fun i=>l.length-i) 0 ⟨Nat.zero_le _,by rw[List.drop_zero]⟩ ⟨I,I,I,I,I,tO⟩ [] I ?_
 intro i hi
 obtain⟨hi,hA⟩:i<=l.length/\l.any F=(l.drop i).any F:=hi
 refine xb<|wP I<|?_
 by_cases hlt:i<l.length
 rotate_left
 ·refine wU 9 false I (dF (by omega))<|xl<|zS I<|xg<|xn<|wP I<|xc<|?_
  rw[List.drop_of_length_le (by omega)] at hA
  exact A3 tH I (.tmp I) (-1:Int) I (by rw[hA];exact⟨fun h=>absurd h (by decide),fun h=>absurd (show false=true from h) (by decide)⟩) fun W _=>Au.nil _ _
 refine wU 9 true I (dT (by omega))<|xl<|zR I<|xh<|?_
 obtain⟨b,off,rfl,hrow⟩:=hS.row (i:=i) (by rw[List.length_map];exact hlt)
 have hr:=hrow i (by rw[List.length_map];exact hlt)
 rw[List.getElem_map] at hr
 rw[X0 hlt] at hA
 obtain⟨q,hq⟩: ∃q,q=l[i]:=⟨_,rfl⟩
 rw[<-hq] at hr hA
 refine Aa I<|xf<|Ad I<|wJ ?_
 refine wL 0 I I (fun W1 hp=>hr.hp hp) I<|Bz (capt:=[]) I I I I I I hE (fun W1 _=>hg q W1)<|xa<|Ag I (fun hc=> ?_) (fun hc=> ?_)
 ·have hc:F q=true:=hc
  exact xb<|Aa I<|xc<|xj<|zP<|A3 tH I (.tmp I) ((i:Nat):Int) I ⟨fun _=>by rw[hA,hc];rfl,fun _=>by omega⟩ fun W _=>Au.nil _ _
 ·have hc:F q=false:=hc
  rw[hc,Bool.false_or] at hA
  exact zI<|xi<|wP I<|wV 18 ((i+1:Nat):Int) I (A0 (by omega))<|wP I<|zC<|Al (i+1) ⟨hlt,hA⟩ (by show l.length-(i+1)<l.length-i;omega) ⟨I,I,I,I,I,tO⟩ [] I
theorem LB (g:Nat) (hE:AS Tryz.prog g=true) (F:Rat->Bool) (hg: ∀q W,Ae Tryz.prog g #[str (Ac q)] W (fun _:Unit=> .bool (F q)) (fun _=>True) (fun _=>[])) (l:List Rat) (hn:l.length<=100000) (p:Option Addr) (cap:Nat) (W:World) (hS:EJ W p (l.map Ac)):
  Ae Tryz.prog 234 #[slv p l.length cap, .func (.func g) #[] #[]] W (fun _:Unit=> .bool (l.any F)) (fun _=>True) (fun _=>[]):=by
 refine Ab Tryz.func234 I I I<|xb<|wP I<|xf<|Aa I<|wD (X:=Int) I I (fun W1 hp=>PD g hE F hg l hn p cap W1 (hS.hp hp)) ?_
 intro z hz
 have hz:0<=z↔l.any F=true:=hz
 refine wP I ?_
 refine Ap 8 (.bool (l.any F)) I (congrArg Value.bool (by
  cases h:l.any F with
  |true=>exact dT (hz.2 h)
  |false=>exact dF fun h2=>by rw[hz.1 h2] at h;cases h)) ?_
 exact wP I<|xc<|wR1 I I I
theorem VJ (p q:Rat):(p<q/\CT p q= -1)\/(p=q/\CT p q=0)\/(q<p/\CT p q=1):=by
 have h1:=Cc p q
 have h2:=OT p q
 rcases HL p q with e|e|e<;>rw[e] at h1 h2⊢
 ·exact .inl ⟨of_decide_eq_true h1.symm,I⟩
 ·refine .inr (.inl ⟨?_,I⟩)
  have a:=of_decide_eq_false h1.symm
  have b:=of_decide_eq_false h2.symm
  exact Rat.le_antisymm (Rat.not_lt.1 b) (Rat.not_lt.1 a)
 ·exact .inr (.inr ⟨of_decide_eq_true h2.symm,I⟩)
theorem Vv (p q:Ax):decide (LN p q<0)=F8 p q:=by
 unfold LN F8
 have h1:=VJ p.1 q.1
 have h2:=VJ p.2 q.2
 rcases h1 with⟨a,e⟩|⟨a,e⟩|⟨a,e⟩
 ·rw[e,if_neg (by decide),dT a];rfl
 ·rw[e,if_pos rfl,Cc,dF (show¬p.1<q.1 by grind),dT a,Bool.false_or,Bool.true_and]
 ·rw[e,if_neg (by decide),dF (show¬p.1<q.1 by grind),dF (show¬p.1=q.1 by grind)];rfl
abbrev ptC (l:List Ax):List Value:=l.flatMap fun q=>[str (Ac q.1),str (Ac q.2)]
theorem CZ (a b:List Ax):ptC (a++b)=ptC a++ptC b:=List.flatMap_append
theorem BK (l:List Ax):(ptC l).length=l.length*2:=by
 induction l with
 |nil=>rfl
 |cons p l ih=>show(ptC l).length+1+1=(l.length+1)*2;rw[ih];omega
theorem FP (l:List Ax): ∀u∈ptC l,u.oneCell'=true:=fun u hu=>by
 obtain⟨q,_,h⟩:=List.mem_flatMap.1 hu
 rcases List.mem_cons.1 h with rfl|h
 ·rfl
 ·obtain rfl:=List.mem_singleton.1 h;rfl
theorem D6 {W:World} {g off:Nat} {a b:List Value} (h:Aj W g off (a++b)):Aj W g off a:=⟨h.lt,fun k u hu=>h.get k u (by rw[List.getElem?_append_left (List.getElem?_eq_some_iff.1 hu).1];exact hu)⟩
theorem LY {W:World} {g off:Nat} {a b:List Value} (h:Aj W g off (a++b)):Aj W g (off+a.length) b:=⟨h.lt,fun k u hu=>by
 have:=h.get (a.length+k) u (by rw[List.getElem?_append_right (by omega),Nat.add_sub_cancel_left];exact hu)
 rwa [<-Nat.add_assoc] at this⟩
theorem Zm {l:List Ax} {i:Nat} (hi:i<l.length):ptC l=ptC (l.take i)++([str (Ac l[i].1),str (Ac l[i].2)]++ptC (l.drop (i+1))):=by
 conv=>lhs;rw[<-List.take_append_drop i l,List.drop_eq_getElem_cons hi,CZ]
 rfl
theorem Cl.of_row {W:World} {g off:Nat} {l:List Ax} {junk:List Value} (h:Aj W g off (ptC l++junk)):Cl W (some ⟨g,off,none⟩) l:= .inr ⟨g,off,rfl,fun i hi=>by
 have h1:=D6 h
 rw[Zm hi] at h1
 have h2:=D6 (LY h1)
 rwa [BK,List.length_take,Nat.min_eq_left (Nat.le_of_lt hi)] at h2⟩
theorem RO (c:Nat) (l:List Ax) (k:Nat) (hk:k<=149) (hs:KI k l) (h0:0<l.length) (hn:l.length<=100000) (g cap:Nat) (hcap:l.length<=cap) (W:World) (hrow:Aj W g 0 (ptC l)) (hc:DL W c) (hv:AH W) (ht:A9 W):
  Ae Tryz.prog 292 #[Ai c,slv (some ⟨g,0,none⟩) l.length cap] W (fun V:Vec=>V.val l.length) (fun V=>V.OK 2 l.length (ptC (D1 l))) (fun V=>[V.bx 105 (ptC (D1 l))]):=by
 have hrow':Aj W g 0 (ptC l++[]):=by rw[List.append_nil];exact hrow
 have hA:=Cl.of_row hrow'
 have hr: ∀i,i<l.length->Aj W g (0+i*2) [str (Ac (Az l i).1),str (Ac (Az l i).2)]:=fun i hi=>by
  obtain⟨g',off',e,h⟩:=hA.at_ hi
  cases e
  rw[Dx hi]
  exact h i hi
 have hlst: ∀i,i<=l.length->CM l i<l.length:=fun i hi=>by
  rcases(M4 l i).1 with e|e<;>omega
 refine Ab Tryz.func292 I I I<|xb<|wP I<|xf<|wP I<|xk<|wP I<|xa<|zH<|?_
 have e1:CM l 1=0:=by show(if F8 (Az l 0) (Az l 0)=true then 0 else 0)=0;split<;>rfl
 refine Av (X:=Nat) (fun i=>[(0,Ai c),(1,slv (some ⟨g,0,none⟩) l.length cap),(5, .int .i64 (CM l i:Nat)),(6, .int .i64 (i:Nat))]) (fun _=>[]) (fun i=>1<=i/\i<=l.length) (fun i=>l.length-i) 1 ⟨Nat.le_refl _,h0⟩ ⟨I,I,congrArg (fun n:Nat=>some (Value.int .i64 (n:Int))) e1.symm,I,tO⟩ [] I ?_
 intro i hi
 obtain⟨hi1,hi⟩:1<=i/\i<=l.length:=hi
 have hls:=hlst i hi
 refine xd<|At I<|?_
 by_cases hlt:i<l.length
 ·refine wU 10 true I (dT (by omega))<|xa<|zR I<|xe<|zA<|zH<|zA<|zU<|?_
  have hsu:CM l (i+1)=if F8 (Az l i) (Az l (CM l i))=true then i else CM l i:=rfl
  have zi:=hs.at_ h0 i
  have zj:=hs.at_ h0 (CM l i)
  refine AY I<|qJ ?_
  refine qL 0 I I (fun W1 hp=>(hr i hlt).hp hp) I<|Ay I<|qJ ?_
  refine qL 0 I I (fun W1 hp=>(hr (CM l i) hls).hp hp) I<|qC I I (fun W1 hp=>SC c (Az l i) (Az l (CM l i)) (sz2 zi.1 zj.1 (by omega)) (sz2 zi.2 zj.2 (by omega)) W1 (hc.hp hp) (hv.hp hp) (ht.hp hp))<|qP I<|qU 23 (F8 (Az l i) (Az l (CM l i))) I (Vv _ _)<|zD<|xa<|Ag I (fun hc2=> ?_) (fun hc2=> ?_)
  ·have hc2:F8 (Az l i) (Az l (CM l i))=true:=hc2
   rw[if_pos hc2] at hsu
   exact zB<|Aa I<|zC<|xi<|Aa I<|wV 12 ((i+1:Nat):Int) I (A0 (by omega))<|wP I<|zC<|Al (i+1) ⟨by omega,hlt⟩ (by show l.length-(i+1)<l.length-i;omega) ⟨I,I,congrArg (fun n:Nat=>some (Value.int .i64 (n:Int))) hsu.symm,I,tO⟩ [] I
  ·have hc2:F8 (Az l i) (Az l (CM l i))=false:=hc2
   rw[hc2,if_neg (by decide)] at hsu
   exact zI<|xi<|Aa I<|wV 12 ((i+1:Nat):Int) I (A0 (by omega))<|wP I<|zC<|Al (i+1) ⟨by omega,hlt⟩ (by show l.length-(i+1)<l.length-i;omega) ⟨I,I,congrArg (fun n:Nat=>some (Value.int .i64 (n:Int))) hsu.symm,I,tO⟩ [] I
 have e:i=l.length:=by omega
 subst e
 obtain⟨m,hm⟩: ∃m,m=CM l l.length:=⟨_,rfl⟩
 rw[<-hm] at hls
 rw[<-hm]
 have hB:D1 l=l.drop m++l.take m:=by rw[hm];rfl
 have hBC:ptC (D1 l)=ptC (l.drop m)++ptC (l.take m):=by rw[hB,CZ]
 have hl1:(l.drop m).length=l.length-m:=List.length_drop
 have hl2:(l.take m).length=m:=by rw[List.length_take];omega
 have hsplit:ptC l=ptC (l.take m)++ptC (l.drop m):=by rw[<-CZ,List.take_append_drop]
 have ra:Aj W g 0 (ptC (l.take m)):=by rw[hsplit] at hrow;exact D6 hrow
 have rb:Aj W g (m*2) (ptC (l.drop m)):=by
  rw[hsplit] at hrow
  have:=LY hrow
  rwa [BK,hl2,Nat.zero_add] at this
 refine wU 10 false I (dF (by omega))<|xa<|zS I<|xg<|zE<|zA<|?_
 refine AV (X:= { V:Vec//V.OK 2 l.length (ptC (D1 l)) }) [true,true,false,true,true,false,false,false,false] (fun V=>[(4,V.1.val l.length)]) (fun V=>[V.1.bx 105 (ptC (D1 l))])
  5 [] Tryz.mixed (by kernel_rfl) ?_ ?_
 ·refine Cd I<|BR<|wX<|RS.cons ?_ (RS.cons ?_ (RS.nil))
  ·refine Dv m tH I I I I I I I I (by omega) (by omega) ?_;refine Ap 27 (.slice (some ⟨g,m*2,none⟩) (l.length-m) (cap-m)) I (by rw[if_neg (by omega),Nat.zero_add]) ?_
   refine zC<|Ah<|wX<|wZ<|BG m tH I I I I I I I I (by omega) ?_
   refine zC<|Ah<|wX<|wZ<|As Tryz.hZ tH I I I I I I I I I I I fun bL1=> ?_
   refine zC<|Ah<|wX<|wZ<|?_
   refine wD (X:=Vec) rfl rfl (fun W1 hp=>D2 W1 bL1 2 (some ⟨g,m*2,none⟩) (some ⟨g,0,none⟩) (l.length-m) m (cap-m) cap (ptC (l.drop m)) (ptC (l.take m)) (Aj.of_bx hp 0 rfl rfl) (.inr ⟨g,m*2,rfl,rb.hp hp⟩) (.inr ⟨g,0,rfl,ra.hp hp⟩) (by rw[BK,hl1]) (by rw[BK,hl2]) (FP _) (FP _) (by omega) (by omega)) ?_;intro V1 hV1;refine Ap 32 (V1.val l.length) rfl (by rw[show l.length-m+m=l.length by omega]) ?_
   refine zC<|Ah<|wX<|wZ<|wP I<|zC<|Ah<|?_
   rw[show l.length-m+m=l.length by omega, <-hBC] at hV1;rw[<-hBC];first|refine AF rfl (by((repeat (first|refine AK.same ?_|refine AK.off rfl ?_));exact trivial)) ?_|refine AR rfl (by kernel_rfl) ?_
   exact A7 ⟨V1,hV1⟩ ⟨I,tO⟩ [1] (by decide) I
  ·refine BG m tH I I I I I I I I (by omega) ?_
   refine zC<|Ah<|wX<|wZ<|?_
   refine Dv m tH I I I I I I I I (by omega) (by omega) ?_;refine Ap 27 (.slice (some ⟨g,m*2,none⟩) (l.length-m) (cap-m)) I (by rw[if_neg (by omega),Nat.zero_add]) ?_
   refine zC<|Ah<|wX<|wZ<|As Tryz.hZ tH I I I I I I I I I I I fun bL1=> ?_
   refine zC<|Ah<|wX<|wZ<|?_
   refine wD (X:=Vec) rfl rfl (fun W1 hp=>D2 W1 bL1 2 (some ⟨g,m*2,none⟩) (some ⟨g,0,none⟩) (l.length-m) m (cap-m) cap (ptC (l.drop m)) (ptC (l.take m)) (Aj.of_bx hp 0 rfl rfl) (.inr ⟨g,m*2,rfl,rb.hp hp⟩) (.inr ⟨g,0,rfl,ra.hp hp⟩) (by rw[BK,hl1]) (by rw[BK,hl2]) (FP _) (FP _) (by omega) (by omega)) ?_;intro V1 hV1;refine Ap 32 (V1.val l.length) rfl (by rw[show l.length-m+m=l.length by omega]) ?_
   refine zC<|Ah<|wX<|wZ<|wP I<|zC<|Ah<|?_
   rw[show l.length-m+m=l.length by omega, <-hBC] at hV1;rw[<-hBC];first|refine AF rfl (by((repeat (first|refine AK.same ?_|refine AK.off rfl ?_));exact trivial)) ?_|refine AR rfl (by kernel_rfl) ?_
   exact A7 ⟨V1,hV1⟩ ⟨I,tO⟩ [1] (by decide) I
 rintro⟨V,hV⟩
 exact zE<|zO<|A3 tH I (.tmp I) V I hV fun W1 hp=>Au.of_hp hp
theorem QR (q:Rat):decide (He q<=0)=decide (q<=0):=by
 refine decide_eq_decide.2 ?_
 have h:0<q.num↔0<q:=by
  have h1:0<=q.num↔0<=q:=Rat.num_nonneg
  have h2:q.num=0↔q=0:=Rat.num_eq_zero
  constructor
  ·intro h
   exact Rat.lt_of_le_of_ne (h1.1 (by omega)) (fun e=>by rw[<-e] at h;exact absurd h (by decide))
  ·intro h
   have a:=h1.2 (Rat.le_of_lt h)
   have b:q.num≠0:=fun e=>by rw[h2.1 e] at h;exact Rat.lt_irrefl h
   omega
 rw[<-Rat.not_lt, <-h]
 unfold He
 split
 ·omega
 ·split<;>omega
theorem Lu (q:Rat):He q= -1\/He q=0\/He q=1:=by
 unfold He
 split
 ·exact .inr (.inl I)
 ·split
  ·exact .inl I
  ·exact .inr (.inr I)
theorem ZN (u v:Rat):decide (w64 (He u*He v)<0)=decide (u*v<0):=by
 have hu:=Se u
 have hu2:=QR u
 have hv:=Se v
 have hv2:=QR v
 rw[decide_eq_decide] at hu hu2 hv hv2
 rw[decide_eq_decide,Qb]
 have hw:w64 (He u*He v)=He u*He v:=by
  rcases Lu u with a|a|a<;>rcases Lu v with b|b|b<;>rw[a,b]<;>rfl
 rw[hw]
 rw[show 0<v↔ ¬v<=0 from Rat.not_le.symm,show 0<u↔ ¬u<=0 from Rat.not_le.symm, <-hu, <-hu2, <-hv, <-hv2]
 rcases Lu u with a|a|a<;>rcases Lu v with b|b|b<;>rw[a,b]<;>decide
theorem cE {W0 W:World} {bxs:List Bx} (hp:Hp W0 bxs W) (k:Nat) {g:Nat} {l:List Rat} {junk:List Value} {i:Nat} (hk:nth bxs k=some ⟨g,25,vsC l++junk,true,none⟩) (hi:i<l.length):Aj W g (0+i*1) [str (Ac l[i])]:=by
 have h:=D6 (Aj.of_bx hp k hk rfl)
 refine⟨h.lt,fun m u hu=> ?_⟩
 cases m with
 |zero=>
  obtain rfl:str (Ac l[i])=u:=by simpa using hu
  have:=h.get i (str (Ac l[i])) (by rw[List.getElem?_map,List.getElem?_eq_getElem hi];rfl)
  rw[Nat.zero_add,Nat.mul_one,Nat.add_zero]
  rwa [Nat.zero_add] at this
 |succ m=>simp at hu
structure ClZ (f:EL) (l:List Ax):Prop where
 v: ∀q∈l,fP f q
 c: ∀i,i<l.length->f.at (Az l i)*f.at (Az l (i+1))<0->gJ (Az l i) (Az l (i+1)) (f.at (Az l i)) (f.at (Az l (i+1)))
 o:KI 149 (CE f l)
def Fu (f:EL) (l:List Ax) (k:Nat):List Ax:=(DX (Az l) k f).map (W8 (Az l))
def Hm (f:EL) (l:List Ax) (k:Nat):List Ax:=Fu f l k++(if f.at (Az l k)<=0 then[Az l k] else[])
theorem Qw (f:EL) (l:List Ax) (k:Nat):Fu f l (k+1)=Hm f l k++(if f.at (Az l k)*f.at (Az l (k+1))<0 then[Va (f.at (Az l k)/(f.at (Az l k)-f.at (Az l (k+1)))) (Az l k) (Az l (k+1))] else[]):=by
 unfold Fu Hm
 rw[RV,R6,List.append_assoc]
 rfl
theorem Jb (f:EL) (l:List Ax): ∀k,(Fu f l k).length<=2*k
 |0=>Nat.le_refl _
 |k+1=>by
  have ih:=Jb f l k
  rw[Qw]
  unfold Hm
  rw[List.length_append,List.length_append]
  have a:(if f.at (Az l k)<=0 then[Az l k] else[]).length<=1:=by split<;>simp
  have b:(if f.at (Az l k)*f.at (Az l (k+1))<0 then[Va (f.at (Az l k)/(f.at (Az l k)-f.at (Az l (k+1)))) (Az l k) (Az l (k+1))] else[]).length<=1:=by split<;>simp
  omega
theorem XM (f:EL) (l:List Ax) (k:Nat):(Hm f l k).length<=2*k+1:=by
 unfold Hm
 have:=Jb f l k
 rw[List.length_append]
 have a:(if f.at (Az l k)<=0 then[Az l k] else[]).length<=1:=by split<;>simp
 omega
theorem Zq (f:EL) (l:List Ax):(l.map f.at).any (fun q=>decide (q<0))=Mm f l:=by
 unfold Mm
 rw[List.any_map];rfl
abbrev ckB (b c:Nat):Bx:=⟨b,264,[Ai c],true,none⟩
abbrev lsB (b:Nat) (v:Value):Bx:=⟨b,132,[v],true,none⟩
abbrev nmB (b:Nat) (v:Value):Bx:=⟨b,75,[v],true,none⟩
theorem Tf (c:Nat) (f:EL) (l:List Ax) (hz:ClZ f l) (hP:J3 l) (h3:3<=l.length) (hn:l.length<=4096) (p:Option Addr) (cap:Nat) (W:World) (hA:Cl W p l) (hc:DL W c) (hv:AH W) (ht:A9 W):
  Ae Tryz.prog 222 #[Ai c,slv p l.length cap,str (Ac f.a),str (Ac f.b),str (Ac f.c)] W (fun V:Vec=>V.val (GK f l).length) (fun V=>V.OK 2 (GK f l).length (ptC (GK f l))) (fun V=>[V.bx 105 (ptC (GK f l))]):=by
 have hn0:0<l.length:=by omega
 have hzz:(l.length:Int)≠0:=by omega
 have hvl:(l.map f.at).length=l.length:=List.length_map _
 refine Ab Tryz.func222 I I I<|xb<|wF I I fun _=>wF I I fun _=>wP I<|zC<|?_
 rename_i b5 b6
 refine zE<|zA<|?_
 refine AV (X:= { s:Nat×Vec//s.2.OK 1 l.length (vsC (l.map f.at)) }) [true,true,true,true,true,false,false,false,false] (fun s=>[(5,Ai b5),(6,Ai b6),(11,Ai s.1.1)]) (fun s=>[ckB b5 c,lsB b6 (slv p l.length cap),nmB s.1.1 (s.1.2.val l.length),s.1.2.bx 25 (vsC (l.map f.at))])
  4 [ckB b5 c,lsB b6 (slv p l.length cap)] Tryz.mixed (by kernel_rfl) ?_ ?_
 ·refine qB 1 I I I<|qB 0 I I I<|AY I<|BR<|wX<|RS.cons ?_ (RS.cons ?_ (RS.nil))
  ·refine wD (X:=Nat×Nat×Nat×Nat) rfl rfl (fun W1 _=>Ly c f W1) ?_;rintro⟨v4,v5,v6,v7⟩ _
   refine zC<|Ah<|wX<|RS.cons ?_ (RS.cons ?_ (RS.nil))
   ·refine wD (X:=Vec) rfl rfl (fun W1 hp=>GO l f.at 332 [Ai v4,Ai v5,Ai v6,Ai v7] (by kernel_rfl) hn p cap W1 (hA.hp hp) (fun q hq W2 hb=>GW v4 v5 v6 v7 c f q (hz.v q hq) W2 (Qd.below (by first|exact⟨Aj.of_bx hp 2 rfl rfl,Aj.of_bx hp 3 rfl rfl,Aj.of_bx hp 4 rfl rfl,Aj.of_bx hp 5 rfl rfl,hc.hp hp,hv.hp hp,ht.hp hp⟩|exact⟨Aj.of_bx hp 3 rfl rfl,Aj.of_bx hp 4 rfl rfl,Aj.of_bx hp 5 rfl rfl,Aj.of_bx hp 6 rfl rfl,hc.hp hp,hv.hp hp,ht.hp hp⟩) hb))) ?_;rintro⟨pV1,cV1,jV1⟩ hV1;obtain⟨gV1,rfl⟩: ∃g,pV1=some g:=Option.ne_none_iff_exists'.1 (fun e=>absurd (hV1.nil e) (by omega))
    refine zC<|Ah<|wX<|wZ<|?_
    refine B5 Tryz.hZ rfl rfl rfl rfl ?_;intro b11
    refine zC<|Ah<|wX<|wZ<|wS 7 I I I<|zC<|Ah<|?_
    refine AF I (by((repeat (first|refine AK.same ?_|refine AK.off I ?_));exact tO)) ?_
    exact A7 (⟨(b11,⟨some gV1,cV1,jV1⟩),hV1⟩: { s:Nat×Vec//s.2.OK 1 l.length (vsC (l.map f.at)) }) ⟨I,I,I,tO⟩ [0,1,7,6] (by decide) I
   ·refine B5 Tryz.hZ rfl rfl rfl rfl ?_;intro b11
    refine zC<|Ah<|wX<|wZ<|?_
    refine wD (X:=Vec) rfl rfl (fun W1 hp=>GO l f.at 332 [Ai v4,Ai v5,Ai v6,Ai v7] (by kernel_rfl) hn p cap W1 (hA.hp hp) (fun q hq W2 hb=>GW v4 v5 v6 v7 c f q (hz.v q hq) W2 (Qd.below (by first|exact⟨Aj.of_bx hp 2 rfl rfl,Aj.of_bx hp 3 rfl rfl,Aj.of_bx hp 4 rfl rfl,Aj.of_bx hp 5 rfl rfl,hc.hp hp,hv.hp hp,ht.hp hp⟩|exact⟨Aj.of_bx hp 3 rfl rfl,Aj.of_bx hp 4 rfl rfl,Aj.of_bx hp 5 rfl rfl,Aj.of_bx hp 6 rfl rfl,hc.hp hp,hv.hp hp,ht.hp hp⟩) hb))) ?_;rintro⟨pV1,cV1,jV1⟩ hV1;obtain⟨gV1,rfl⟩: ∃g,pV1=some g:=Option.ne_none_iff_exists'.1 (fun e=>absurd (hV1.nil e) (by omega))
    refine zC<|Ah<|wX<|wZ<|wS 6 I I I<|zC<|Ah<|?_
    refine AF I (by((repeat (first|refine AK.same ?_|refine AK.off I ?_));exact tO)) ?_
    exact A7 (⟨(b11,⟨some gV1,cV1,jV1⟩),hV1⟩: { s:Nat×Vec//s.2.OK 1 l.length (vsC (l.map f.at)) }) ⟨I,I,I,tO⟩ [0,1,6,7] (by decide) I
  ·refine B5 Tryz.hZ rfl rfl rfl rfl ?_;intro b11
   refine zC<|Ah<|wX<|wZ<|?_
   refine wD (X:=Nat×Nat×Nat×Nat) rfl rfl (fun W1 _=>Ly c f W1) ?_;rintro⟨v4,v5,v6,v7⟩ _
   refine zC<|Ah<|wX<|wZ<|?_
   refine wD (X:=Vec) rfl rfl (fun W1 hp=>GO l f.at 332 [Ai v4,Ai v5,Ai v6,Ai v7] (by kernel_rfl) hn p cap W1 (hA.hp hp) (fun q hq W2 hb=>GW v4 v5 v6 v7 c f q (hz.v q hq) W2 (Qd.below (by first|exact⟨Aj.of_bx hp 2 rfl rfl,Aj.of_bx hp 3 rfl rfl,Aj.of_bx hp 4 rfl rfl,Aj.of_bx hp 5 rfl rfl,hc.hp hp,hv.hp hp,ht.hp hp⟩|exact⟨Aj.of_bx hp 3 rfl rfl,Aj.of_bx hp 4 rfl rfl,Aj.of_bx hp 5 rfl rfl,Aj.of_bx hp 6 rfl rfl,hc.hp hp,hv.hp hp,ht.hp hp⟩) hb))) ?_;rintro⟨pV1,cV1,jV1⟩ hV1;obtain⟨gV1,rfl⟩: ∃g,pV1=some g:=Option.ne_none_iff_exists'.1 (fun e=>absurd (hV1.nil e) (by omega))
   refine zC<|Ah<|wX<|wZ<|wS 2 I I I<|zC<|Ah<|?_
   refine AF I (by((repeat (first|refine AK.same ?_|refine AK.off I ?_));exact tO)) ?_
   exact A7 (⟨(b11,⟨some gV1,cV1,jV1⟩),hV1⟩: { s:Nat×Vec//s.2.OK 1 l.length (vsC (l.map f.at)) }) ⟨I,I,I,tO⟩ [0,1,2,7] (by decide) I
 rintro⟨⟨b11,⟨pV,cV,jV⟩⟩,hV⟩
 obtain⟨gV,rfl⟩: ∃g,pV=some g:=by
  cases pV with
  |none=>have:=hV.nil rfl;omega
  |some g=>exact⟨g,rfl⟩
 have hcapV:=(hV.cap (by simp)).1
 refine zE<|xd<|wB 0 I I I<|AQ I I I I ?_
 refine wP I<|wL 0 I I (fun W1 hp=>(hc.hp hp).row) I<|wP I<|xa<|zS I<|xm<|wG I I fun _=>zC<|?_
 rename_i b12
 refine zE<|xd<|wB 1 I I I<|wD (X:=Nat) I I (fun W1 _=>FR p l.length cap W1) ?_
 intro bp _
 refine xa<|zH<|C9 ?_
 refine EZ (X:=Nat×Vec) (fun x=>[ckB b5 c,lsB b6 (slv p l.length cap),nmB b11 (.slice (some ⟨gV,0,none⟩) l.length cV),⟨gV,25,vsC (l.map f.at)++jV,true,none⟩,lsB b12 (x.2.val (Fu f l x.1).length),lsB bp (slv p l.length cap),x.2.bx 105 (ptC (Fu f l x.1))])
  (fun j x=>x.1=j/\x.2.OK 2 (Fu f l x.1).length (ptC (Fu f l x.1))) (fun _ _=>False) (0,Vec.empty) rfl (by kernel_rfl) (G2 l bp p cap (by omega)) (fun _=>rfl)
  ⟨rfl,Vec.OK.empty 2⟩ [] rfl (fun k x W1 _ hp=>⟨Aj.of_bx hp 5 rfl rfl,hA.hp hp⟩) ?_ ?_ (fun _ _ _ _ _ h=>h.elim)
 ·rintro k ⟨k',O⟩ d l' rec L hk ⟨e1,hO⟩ hrec
  obtain rfl:k'=k:=e1
  have hk:k'<l.length:=hk
  have hO:O.OK 2 (Fu f l k').length (ptC (Fu f l k')):=hO
  have hol:=Jb f l k'
  have hml:=XM f l k'
  have hsl:=Jb f l (k'+1)
  have hk2:(k'+1)%l.length<l.length:=Nat.mod_lt _ hn0
  have ev: ∀i (hi:i<l.length),(l.map f.at)[i]'(by rw[hvl];exact hi)=f.at (Az l i):=fun i hi=>by rw[List.getElem_map,Dx hi]
  have hr1: ∀ {W0 W1:World} {bxs:List Bx} (hp:Hp W0 bxs W1) (m:Nat) (hm:nth bxs m=some ⟨gV,25,vsC (l.map f.at)++jV,true,none⟩),Aj W1 gV (0+k'*1) [str (Ac (f.at (Az l k')))]:=fun hp m hm=>by
   have:=cE hp m hm (i:=k') (by rw[hvl];exact hk)
   rwa [ev k' hk] at this
  have hr2: ∀ {W0 W1:World} {bxs:List Bx} (hp:Hp W0 bxs W1) (m:Nat) (hm:nth bxs m=some ⟨gV,25,vsC (l.map f.at)++jV,true,none⟩),Aj W1 gV (0+((k'+1)%l.length)*1) [str (Ac (f.at (Az l (k'+1))))]:=fun hp m hm=>by
   have:=cE hp m hm (i:=(k'+1)%l.length) (by rw[hvl];exact hk2)
   rwa [ev _ hk2,LW] at this
  obtain⟨u,hu⟩: ∃u,u=f.at (Az l k'):=⟨_,rfl⟩
  obtain⟨v,hvv⟩: ∃v,v=f.at (Az l (k'+1)):=⟨_,rfl⟩
  have hsu:=Qw f l k'
  have hmu:Hm f l k'=Fu f l k'++(if u<=0 then[Az l k'] else[]):=by rw[hu];rfl
  have hcz:=hz.c k' hk
  rw[<-hu, <-hvv] at hsu hcz
  rw[<-hu] at hr1
  rw[<-hvv] at hr2
  refine xb<|wP I<|xa<|zB<|wG I I fun _=>wS 10 I I I<|zC<|?_
  rename_i b14
  refine BU 9 hrec I ?_
  refine zH<|zA<|zU<|qB 3 I I I<|qP I<|qJ ?_
  refine qL 0 I I (fun W1 hp=>hr1 hp 4 I) I<|qC I I (fun W1 _=>Je u W1)<|qB 3 I I I<|Ay I<|qV 40 ((k'+1:Nat):Int) I (A0 (by omega))<|qB 2 I I I<|qP I<|DO I I I I I hzz ?_
  refine Fa 43 (.int .i64 (((k'+1)%l.length:Nat):Int)) I I<|qJ ?_
  refine qL 0 I I (fun W1 hp=>hr2 hp 4 I) I<|qC I I (fun W1 _=>Je v W1)<|Ay I<|zD<|xk<|Aa I<|wU 48 (decide (u<=0)) I (QR u)<|xa<|?_
  refine AA (X:=Vec) (fun _=>[(5,Ai b5),(6,Ai b6),(11,Ai b11),(12,Ai b12),(13, .int .i64 (k':Nat)),(14,Ai b14),(15, .int .i64 (He u)),(16, .int .i64 (He v))])
   (fun O=>[Bd L,ckB b5 c,lsB b6 (slv p l.length cap),nmB b11 (.slice (some ⟨gV,0,none⟩) l.length cV),⟨gV,25,vsC (l.map f.at)++jV,true,none⟩,lsB b12 (O.val (Hm f l k').length),lsB bp (slv p l.length cap),O.bx 105 (ptC (Hm f l k')),BL d,Bp l' rec .busy none,⟨b14,270,(sdV (Az l k') (Az l (k'+1))).cells.toList,true,none⟩])
   (fun O=>O.OK 2 (Hm f l k').length (ptC (Hm f l k'))) ?_ ?_
  ·refine Ag I (fun hc1=> ?_) (fun hc1=> ?_)
   ·rw[if_pos (of_decide_eq_true hc1)] at hmu
    have hlm:(Fu f l k').length+1=(Hm f l k').length:=by rw[hmu,List.length_append];rfl
    refine zB<|wB 5 I I I<|EK Tryz.underlying270 Tryz.sizeOf105 I I I I I ⟨by decide,by decide⟩<|wB 10 I I I<|As Tryz.hZ tH I I I I I I I I I I I fun bS=> ?_
    refine AN (V:=O) (len:=(Fu f l k').length) (xs:=ptC (Fu f l k')) 7 11 Tryz.vec132 (Hm f l k').length (ptC (Hm f l k')) I I I I I I I I I I I hO I I hlm (by rw[hmu,CZ];rfl) (by simp only[maxLen];omega) (by omega) I ?_
    intro gO cO jO hO1
    exact wS 5 I I I<|zC<|Ao ⟨some gO,cO,jO⟩ hO1 ⟨I,I,I,I,I,I,I,I,tO⟩ [_] I
   ·rw[if_neg (of_decide_eq_false hc1),List.append_nil] at hmu
    exact zI<|Ao O (by rw[hmu];exact hO) ⟨I,I,I,I,I,I,I,I,tO⟩ [] (by rw[hmu];rfl)
  intro O1 hO1
  have hO1:O1.OK 2 (Hm f l k').length (ptC (Hm f l k')):=hO1
  refine xb<|At I<|wU 57 (decide (u*v<0)) I (ZN u v)<|xa<|Ag I (fun hc2=> ?_) (fun hc2=> ?_)
  ·have hc2':u*v<0:=of_decide_eq_true hc2
   rw[if_pos hc2'] at hsu
   have hlm:(Hm f l k').length+1=(Fu f l (k'+1)).length:=by rw[hsu,List.length_append];rfl
   refine AV (X:= { O:Vec//O.OK 2 (Fu f l (k'+1)).length (ptC (Fu f l (k'+1))) }) [true,true,true,true,true,true,true,true,true,true,true,true,true,true,true,true,true,true,true,false,false,false] (fun _=>[(5,Ai b5)])
    (fun O=>[Bd L,ckB b5 c,lsB b6 (slv p l.length cap),nmB b11 (.slice (some ⟨gV,0,none⟩) l.length cV),⟨gV,25,vsC (l.map f.at)++jV,true,none⟩,lsB b12 (O.1.val (Fu f l (k'+1)).length),lsB bp (slv p l.length cap),O.1.bx 105 (ptC (Fu f l (k'+1))),BL d,Bp l' rec .busy none])
    3 [Bd L,ckB b5 c,lsB b6 (slv p l.length cap),nmB b11 (.slice (some ⟨gV,0,none⟩) l.length cV),⟨gV,25,vsC (l.map f.at)++jV,true,none⟩,lsB b12 (O1.val (Hm f l k').length),lsB bp (slv p l.length cap),O1.bx 105 (ptC (Hm f l k')),BL d,Bp l' rec .busy none,⟨b14,270,(sdV (Az l k') (Az l (k'+1))).cells.toList,true,none⟩] Tryz.mixed (by kernel_rfl) ?_ ?_
   ·refine qB 5 I I I<|qB 1 I I I<|BC Tryz.underlying270 Tryz.sizeOf105 I I I I I ⟨by decide,by decide⟩<|qB 10 I I I<|BC Tryz.underlying270 Tryz.sizeOf105 I I I I I ⟨by decide,by decide⟩<|qB 10 I I I<|qB 3 I I I<|qP I<|qJ ?_
    refine qL 0 I I (fun W1 hp=>hr1 hp 4 I) I<|qB 3 I I I<|Ay I<|qV 70 ((k'+1:Nat):Int) I (A0 (by omega))<|qB 2 I I I<|qP I<|DO I I I I I hzz ?_
    refine Fa 73 (.int .i64 (((k'+1)%l.length:Nat):Int)) I I<|qJ ?_
    refine qL 0 I I (fun W1 hp=>hr2 hp 4 I) I<|qC I I (fun W1 hp=>UV c (Az l k') (Az l (k'+1)) u v (hcz hc2') W1 (hc.hp hp) (hv.hp hp) (ht.hp hp))<|BR<|wX<|wZ<|As Tryz.hZ tH I I I I I I I I I I I fun bS=> ?_
    refine zC<|Ah<|wX<|wZ<|?_
    refine AN (V:=O1) (len:=(Hm f l k').length) (xs:=ptC (Hm f l k')) 7 11 Tryz.vec132 (Fu f l (k'+1)).length (ptC (Fu f l (k'+1))) rfl rfl rfl rfl rfl rfl rfl rfl rfl rfl rfl hO1 rfl rfl hlm (by rw[hsu,CZ];rfl) (by simp only[maxLen];omega) (by omega) rfl ?_;intro gO cO jO hO2
    refine zC<|Ah<|wY<|wZ<|wS 5 I I I<|zC<|Ah<|AR I (by kernel_rfl) ?_
    exact A7 (⟨⟨some gO,cO,jO⟩,hO2⟩: { O:Vec//O.OK 2 (Fu f l (k'+1)).length (ptC (Fu f l (k'+1))) }) ⟨I,tO⟩ [0,1,2,3,4,5,6,7,8,9] (by decide) I
   rintro⟨O2,hO2⟩
   exact zN<|By 9 (k'+1,O2) hrec I ⟨I,hO2⟩ [] I
  ·rw[if_neg (of_decide_eq_false hc2),List.append_nil] at hsu
   exact zI<|zN<|By 9 (k'+1,O1) hrec I ⟨I,by show O1.OK 2 (Fu f l (k'+1)).length (ptC (Fu f l (k'+1)));rw[hsu];exact hO1⟩ [_] (by rw[hsu];rfl)
 ·rintro⟨k',O⟩ d l' rec ⟨e1,hO⟩
  obtain rfl:k'=l.length:=e1
  have hO:O.OK 2 (CE f l).length (ptC (CE f l)):=hO
  have hoe:Fu f l l.length=CE f l:=rfl
  have hol:=Jb f l l.length
  rw[hoe] at hol
  rw[hoe]
  refine zN<|zE<|xd<|wB 0 I I I<|AQ I I I I ?_
  refine wP I<|wL 0 I I (fun W1 hp=>(hc.hp hp).row) I<|Aa I<|wB 2 I I I<|?_
  refine wC I I (fun W1 hp=>(by
   have h:=LB 291 (by kernel_rfl) (fun q=>decide (q<0)) Rv (l.map f.at) (by rw[hvl];omega) (some ⟨gV,0,none⟩) cV W1 (.inr ⟨gV,0,rfl,by
    have:=D6 (Aj.of_bx hp 3 rfl rfl:Aj W1 gV 0 (vsC (l.map f.at)++jV))
    rw[List.map_map];exact this⟩)
   rwa [hvl,Zq] at h)) ?_
  cases hneg:Mm f l with
  |false=>
   refine Aa I<|xa<|zR I<|xb<|wP I<|xo<|Co 7 I ?_
   have e0:GK f l=[]:=by unfold GK;rw[hneg];rfl
   exact A3 tH I (.tmp I) Vec.empty (by rw[e0];rfl) (by rw[e0];exact Vec.OK.empty 2) fun W1 hp=>by
    rw[e0]
    exact Own.one (fun p hp=>by cases hp) List.nodup_nil
  |true=>
   have e0:GK f l=D1 (CE f l):=by unfold GK;rw[hneg];rfl
   have hlb:(D1 (CE f l)).length=(CE f l).length:=Vm (WZ _)
   obtain⟨q,hq,hqn⟩:=Uv.1 hneg
   have hpos:0<(CE f l).length:=by
    obtain⟨i,hi,e⟩:=FX hq
    have:=aA hP hi (by rw[e];exact hqn)
    rw[T1]
    omega
   obtain⟨pO,cO,jO⟩:=O
   obtain⟨gO,rfl⟩: ∃g,pO=some g:=Option.ne_none_iff_exists'.1 (fun e=>absurd (hO.nil e) (by omega))
   have hcO:=(hO.cap (by simp)).1
   refine Aa I<|xa<|zS I<|xm<|wB 0 I I I<|wB 4 I I I<|wD (X:=Vec) I I (fun W1 hp=>RO c (CE f l) 149 (by decide) hz.o hpos (by omega) gO cO hcO W1 (D6 (Aj.of_bx hp 6 I I:Aj W1 gO 0 (ptC (CE f l)++jO))) (hc.hp hp) (hv.hp hp) (ht.hp hp)) ?_
   intro V2 hV2
   have hV2:V2.OK 2 (CE f l).length (ptC (D1 (CE f l))):=hV2
   refine wP I<|xc<|Co 7 I ?_
   exact A3 tH I (.tmp I) V2 (by rw[e0,hlb]) (by rw[e0,hlb];exact hV2) fun W1 hp=>by
    rw[e0]
    exact Au.of_hp (hp.pick (l:=[V2.bx 105 (ptC (D1 (CE f l)))]) [9] (by decide) I)
theorem QC : ∃ f1 f2 : Field, (Tryz.prog.fieldsOf 105).toList = [f1, f2] /\ (f1.name ≠ "_" /\ f1.type = 25 /\ f1.offset = 0) /\ (f2.name ≠ "_" /\ f2.type = 25 /\ f2.offset = 1) := by
 unfold Program.fieldsOf;rw[Tryz.underlying105]
 exact⟨_,_,I,⟨by decide,I,I⟩,⟨by decide,I,I⟩⟩
theorem dW (W:World) (a b c d:List UInt8):(binOp .eql 105 (.agg #[str a,str b]) (.agg #[str c,str d])).run Tryz.prog W= .ok (.bool (decide (a=c/\b=d))) W:=by
 rw[run_eql_struct,run_equalIn_agg W 9999 105 _ _ (by kernel_rfl) (by kernel_rfl)]
 obtain⟨f1,f2,hf,⟨n1,t1,o1⟩,⟨n2,t2,o2⟩⟩:=QC
 rw[hf]
 have e: ∀(x y:List UInt8) W,(Op.equalIn 9999 25 (str x) (str y)).run Tryz.prog W= .ok (decide (x=y)) W:=fun x y W=>by
  rw[run_equalIn_string W 9998 25 _ _ Tryz.underlying25,AW]
 by_cases h1:a=c<;>by_cases h2:b=d<;>simp[Op.eqFields,part,Tryz.isAgg25,e,h1,h2,n1,n2,t1,t2,o1,o2]
theorem e9 (W:World) (a b c d:List UInt8):(binOp .neq 105 (.agg #[str a,str b]) (.agg #[str c,str d])).run Tryz.prog W= .ok (.bool (!decide (a=c/\b=d))) W:=by
 rw[run_neq_struct,run_equalIn_agg W 9999 105 _ _ (by kernel_rfl) (by kernel_rfl)]
 obtain⟨f1,f2,hf,⟨n1,t1,o1⟩,⟨n2,t2,o2⟩⟩:=QC
 rw[hf]
 have e: ∀(x y:List UInt8) W,(Op.equalIn 9999 25 (str x) (str y)).run Tryz.prog W= .ok (decide (x=y)) W:=fun x y W=>by
  rw[run_equalIn_string W 9998 25 _ _ Tryz.underlying25,AW]
 by_cases h1:a=c<;>by_cases h2:b=d<;>simp[Op.eqFields,part,Tryz.isAgg25,e,h1,h2,n1,n2,t1,t2,o1,o2]
section
variable {r:Option Nat} {n:Nat} {N:Nat} {D:List Deferred} {ops:List Oper} {Q:Exit->Act->World->Prop} {o:Oper} {rest:List Oper} {env:Env} {A A2:World->Prop} {R:Act->World->Prop}
theorem RP (a b c d:List UInt8) {t:Nat} {u:TypeId} {x y:Operand} (hg:Aw ops N env o=some true) (hd:o.dst=some t) (ho:o.op= .binOp .eql 105 x y u)
  (hx:evO N env x=some (.agg #[str a,str b])) (hy:evO N env y=some (.agg #[str c,str d]))
  (h:WQ Tryz.prog N D ops A2 R rest ((t, .bool (decide (a=c/\b=d)))::env) A):WQ Tryz.prog N D ops A2 R (o::rest) env A:=
 Eh hg hd (fun c e=>by rw[ho] at e;cases e) (fun _ W hρ _=>by
  have hm:Tryz.prog.eqGuardType Tryz.prog.depth 105=false:=by kernel_rfl
  simp[execOp,ho,hρ _ _ hx,hρ _ _ hy,run_eqGuard_agg W .eql 105 x y _ _ hm,dW]) h
theorem Zt (a b c d:List UInt8) {t:Nat} {u:TypeId} {x y:Operand} (hg:Aw ops N env o=some true) (hd:o.dst=some t) (ho:o.op= .binOp .neq 105 x y u)
  (hx:evO N env x=some (.agg #[str a,str b])) (hy:evO N env y=some (.agg #[str c,str d]))
  (h:WQ Tryz.prog N D ops A2 R rest ((t, .bool (!decide (a=c/\b=d)))::env) A):WQ Tryz.prog N D ops A2 R (o::rest) env A:=
 Eh hg hd (fun c e=>by rw[ho] at e;cases e) (fun _ W hρ _=>by
  have hm:Tryz.prog.eqGuardType Tryz.prog.depth 105=false:=by kernel_rfl
  simp[execOp,ho,hρ _ _ hx,hρ _ _ hy,run_eqGuard_agg W .neq 105 x y _ _ hm,e9]) h
end
theorem Ym {N:Nat} {D:List Deferred} {Q:Exit->Act->World->Prop} {ex:Exit} {env:Env} {W0:World} {bxs bxs':List Bx} (e:bxs=bxs') (h:NE N D Q ex env (Hp W0 bxs')):NE N D Q ex env (Hp W0 bxs):=e▸h
theorem aJ:Ac 2=[50]:=(congrArg Ac (show(2:Rat)=q2 2 1 by decide+kernel)).trans ns2
structure fZ (p q:Ax):Prop where
 x:Sz2 p.1 q.2
 y:Sz2 q.1 p.2
 s:Sz2 (p.1*q.2) (q.1*p.2)
theorem SB (c:Nat) (p q:Ax) (hz:fZ p q) (W:World) (hc:DL W c) (hv:AH W) (ht:A9 W):
  Ae Tryz.prog 226 #[Ai c,sdV p q] W (fun _:Unit=>str (Ac (Wo p q))) (fun _=>True) (fun _=>[]):=by
 refine Ab Tryz.func226 I I I<|xb<|wF I I fun _=>wP I<|xl<|zU<|qP I<|BC Tryz.underlying270 Tryz.sizeOf105 I I I I I ⟨by decide,by decide⟩<|qP I<|qB 0 I I I<|BC Tryz.underlying270 Tryz.sizeOf105 I I I I I ⟨by decide,by decide⟩<|qP I<|qB 0 I I I<|qC I I (fun W hp=>CL c p.1 q.2 hz.x W (hc.hp hp) (hv.hp hp) (ht.hp hp))<|qP I<|BC Tryz.underlying270 Tryz.sizeOf105 I I I I I ⟨by decide,by decide⟩<|qP I<|qB 0 I I I<|BC Tryz.underlying270 Tryz.sizeOf105 I I I I I ⟨by decide,by decide⟩<|qP I<|qB 0 I I I<|?_
 exact qC I I (fun W hp=>CL c q.1 p.2 hz.y W (hc.hp hp) (hv.hp hp) (ht.hp hp))<|Ay I<|zD<|xf<|Ad I<|wC I I (fun W hp=>C8 c (p.1*q.2) (q.1*p.2) hz.s W (hc.hp hp) (hv.hp hp) (ht.hp hp))<|wP I<|xc<|wR1 I I I
def crK (l:List Ax) (k:Nat):Rat:=Up (fun i=>Wo (Az l i) (Az l (i+1))) k
theorem YZ (l:List Ax) (k:Nat):crK l (k+1)=crK l k+Wo (Az l k) (Az l (k+1)):=rfl
structure ArZ (l:List Ax):Prop where
 d: ∀i,i<l.length->fZ (Az l i) (Az l (i+1))
 s: ∀i,i<l.length->Sz2 (crK l i) (Wo (Az l i) (Az l (i+1)))
 h:Sz2 (Rh l) 2
abbrev caB (c:Nat):Bx:=⟨c,266,[.int .i64 0],true,none⟩
abbrev nuB (b:Nat) (q:Rat):Bx:=⟨b,25,[str (Ac q)],true,none⟩
theorem TY (l:List Ax) (hz:ArZ l) (p:Option Addr) (cap:Nat) (W:World) (h:Ny W p l):
  Ae Tryz.prog 147 #[slv p l.length cap] W (fun _:Unit=> .tuple #[str (Ac (Rh l/2)), .int .i64 0]) (fun _=>True) (fun _=>[]):=by
 have hn:=h.n
 refine Ab Tryz.func147 I I I<|xb<|Aa I<|xk<|wP I<|wC I I (fun W1 hp=>PI l p cap W1 (h.hp hp))<|wP I<|xf<|Aa I<|xa<|zS I<|xe<|?_
 refine xb<|An Tryz.hZ tH I I I I I I I I ?_
 refine wF I I fun _=>wG I I fun _=>wG I I fun _=>wS 1 I I I<|wS 2 I I I<|zC<|?_
 rename_i bC b5 b6
 refine Ym (bxs':=[caB bC,ckB b5 bC,nuB b6 (crK l 0)]) (by show _=[caB bC,ckB b5 bC,nuB b6 0];rw[nuB,BV];rfl) ?_
 refine zE<|xd<|wP I<|wD (X:=Nat) I I (fun W1 _=>FR p l.length cap W1) ?_
 intro bp _
 refine xa<|zH<|?_
 refine EZ (X:=Nat) (fun k=>[caB bC,ckB b5 bC,nuB b6 (crK l k),lsB bp (slv p l.length cap)])
  (fun j x=>x=j) (fun _ _=>False) 0 rfl (by kernel_rfl) (G2 l bp p cap (by omega)) (fun _=>rfl)
  rfl [] rfl (fun k x W1 _ hp=>⟨Aj.of_bx hp 3 rfl rfl,(h.hp hp).m⟩) ?_ ?_ (fun _ _ _ _ _ h=>h.elim)
 ·rintro k k' d l' rec L hk e1 hrec
  obtain rfl:k'=k:=e1
  have hk:k'<l.length:=hk
  have hsu:=YZ l k'
  refine zB<|wG I I fun _=>wS 7 I I I<|zC<|?_
  rename_i b8
  refine BU 6 hrec I ?_
  refine ID ?_
  refine AV (X:=Unit) [true,true,true,true,true,true,false] (fun _=>[(5,Ai b5)]) (fun _=>[Bd L,caB bC,ckB b5 bC,nuB b6 (crK l (k'+1)),lsB bp (slv p l.length cap),BL d,Bp l' rec .busy none])
   1 [Bd L,caB bC,ckB b5 bC,nuB b6 (crK l k'),lsB bp (slv p l.length cap),BL d,Bp l' rec .busy none,⟨b8,270,(sdV (Az l k') (Az l (k'+1))).cells.toList,true,none⟩] Tryz.mixed (by kernel_rfl) ?_ ?_
  ·refine qB 2 I I I<|qB 3 I I I<|qB 2 I I I<|qB 7 I I I<|qC I I (fun W1 hp=>SB bC (Az l k') (Az l (k'+1)) (hz.d k' hk) W1 (Fk hp 1 I) (h.hp hp).v (h.hp hp).t)<|qC I I (fun W1 hp=>Gc bC (crK l k') (Wo (Az l k') (Az l (k'+1))) (hz.s k' hk) W1 (Fk hp 1 I) (h.hp hp).v (h.hp hp).t)<|BR<|?_
   rw[<-hsu]
   refine wX<|wZ<|wS 3 I I I<|zC<|Ah<|AR I (by kernel_rfl) ?_
   exact A7 () ⟨I,tO⟩ [0,1,2,3,4,5,6] (by decide) I
  intro _
  exact zN<|By 6 (k'+1) hrec I I [] I
 ·rintro k' d l' rec e1
  obtain rfl:k'=l.length:=e1
  refine zN<|zE<|xd<|wB 1 I I I<|wB 2 I I I<|wC I I (fun W1 hp=>(by have:=NK bC (Rh l) 2 hz.h (by decide) W1 (Fk hp 0 I) (h.hp hp).v (h.hp hp).t;rwa [aJ] at this))<|wP I<|xf<|wB 1 I I I<|AQ I I I I ?_
  refine wP I<|wB 0 I I I<|wP I<|xa<|zR I<|xb<|Ad I<|xo<|Co 4 I ?_
  exact wR2 I I I
abbrev ptB (b:Nat) (a c:List UInt8):Bx:=⟨b,105,[str a,str c],true,none⟩
section
variable {P:Program} {W0:World} {N:Nat} {D:List Deferred} {ops:List Oper} {o:Oper} {rest:List Oper} {env:Env} {bxs:List Bx} {A2:World->Prop} {R:Act->World->Prop}
theorem Qt {ρ:Operand->Value} {c:Call} {f:Operand} {g:Nat} {first vs:List Value} {W:World} (ho:o.op= .call c) (hc:c.callee= .value f) (hf:ρ f= .func (.func g) first.toArray #[]) (ha:c.args.map ρ=vs.toArray) (hE:AS P g=true):
  (execOp ρ o).run P W= .ok (.enter g (first++vs).toArray) W:=by
 simp only[execOp,ho,resolve,hc,hf,ha,Sem.run_bind,Deferred.ofValue,Sem.run_pure,Result.andThen_ok,invoke,G9 hE]
 simp
theorem YJ {c:Call} {f:Operand} {g d:Nat} {first vs:List Value} {v:Value}
  (hg:Aw ops N env o=some true) (hd:o.dst=some d) (ho:o.op= .call c) (hc:c.callee= .value f) (hf:evO N env f=some (.func (.func g) first.toArray #[])) (ha:Cn (evO N env) c.args.toList=some vs) (hE:AS P g=true)
  (hC: ∀W,Hp W0 bxs W->Ae P g (first++vs).toArray W (fun _:Unit=>v) (fun _=>True) (fun _=>[]))
  (h:WQ P N D ops A2 R rest ((d,v)::env) (Hp W0 bxs)):WQ P N D ops A2 R (o::rest) env (Hp W0 bxs):=
 Nj hd (fun a W h1 _ hp=>by
  unfold OpS
  rw[Es h1 hg,if_pos rfl]
  refine⟨fun c e=>(by rw[ho] at e;cases e), .inr ⟨g,_,Qt ho hc (AB h1 _ _ hf) (E5 (AB h1) ha) hE,(hC W hp).out.mono ?_⟩⟩
  rintro e W' ⟨x,he,_,hb,_⟩
  exact⟨he,hp.grow hb,hb⟩) h
end
theorem UC (x:Nat) (h:x<=18446744073709551615) (W:World):Ae Tryz.prog 329 #[.int .u64 (x:Nat)] W (fun _:Unit=> .int .i64 (Lib.bitLen x)) (fun _=>True) (fun _=>[]):=by
 refine Ae.of1 ((Go.Proofs.Any.bits_Len (P:=Tryz.prog) (ρ:=Tryz.lays125_ren) { Tryz.lays125 with } (x:Int) W (by omega) (by omega)).mono ?_)
 rintro e w' ⟨rfl,rfl⟩
 exact⟨I,Below.refl _ _⟩
abbrev lsF (c:Nat):Value:= .func (.func 280) #[Ai c] #[]
abbrev BT (g:Nat) (l:List Ax) (junk:List Value):Bx:=⟨g,105,ptC l++junk,true,none⟩
def Io (x:Ax):List Ax->List Ax
 |[]=>[x]
 |y::l=>if F8 x y=true then x::y::l else y::Io x l
def CK (l:List Ax):List Ax:=l.foldl (fun s x=>Io x s) []
theorem TE (x:Ax): ∀l,(Io x l).length=l.length+1
 |[]=>rfl
 |y::l=>by
  unfold Io
  split
  ·rfl
  ·rw[List.length_cons,TE x l];rfl
theorem Pe {x y:Ax}: ∀ {l:List Ax},y∈Io x l↔y=x\/y∈l
 |[]=>by simp[Io]
 |z::l=>by
  unfold Io
  split
  ·simp
  ·rw[List.mem_cons,Pe (l:=l),List.mem_cons]
   constructor
   ·rintro(h|h|h)
    ·exact .inr (.inl h)
    ·exact .inl h
    ·exact .inr (.inr h)
   ·rintro(h|h|h)
    ·exact .inr (.inl h)
    ·exact .inl h
    ·exact .inr (.inr h)
theorem MI {a b c:Ax} (h1: ¬Cz b a) (h2: ¬Cz c b): ¬Cz c a:=fun h=>by
 rcases LX a b with d|d|d
 ·exact h2 (T2 h d)
 ·subst d;exact h2 h
 ·exact h1 d
abbrev SrC (l:List Ax):Prop:=l.Pairwise fun a b=> ¬Cz b a
theorem SV {x:Ax}: ∀ {l:List Ax},SrC l->SrC (Io x l)
 |[],_=>List.pairwise_cons.2 ⟨fun _ h=>absurd h List.not_mem_nil,List.Pairwise.nil⟩
 |y::l,h=>by
  have⟨h1,h2⟩:=List.pairwise_cons.1 h
  unfold Io
  split
  ·rename_i c
   have c:=D4.1 c
   refine List.pairwise_cons.2 ⟨fun z hz=> ?_,h⟩
   rcases List.mem_cons.1 hz with rfl|hz
   ·exact Ka c
   ·exact MI (Ka c) (h1 z hz)
  ·rename_i c
   refine List.pairwise_cons.2 ⟨fun z hz=> ?_,SV h2⟩
   rcases Pe.1 hz with rfl|hz
   ·exact fun d=>c (D4.2 d)
   ·exact h1 z hz
theorem Jr: ∀(l s:List Ax),SrC s->SrC (l.foldl (fun s x=>Io x s) s)/\(l.foldl (fun s x=>Io x s) s).length=s.length+l.length/\ ∀y,y∈l.foldl (fun s x=>Io x s) s↔y∈s\/y∈l
 |[],s,h=>⟨h,rfl,fun y=>by simp⟩
 |x::l,s,h=>by
  obtain⟨a,b,c⟩:=Jr l (Io x s) (SV h)
  refine⟨a,by rw[List.foldl_cons,b,TE,List.length_cons];omega,fun y=> ?_⟩
  rw[List.foldl_cons,c,Pe,List.mem_cons]
  constructor
  ·rintro((h|h)|h)
   ·exact .inr (.inl h)
   ·exact .inl h
   ·exact .inr (.inr h)
  ·rintro(h|h|h)
   ·exact .inl (.inr h)
   ·exact .inl (.inl h)
   ·exact .inr h
theorem SZ (l:List Ax):SrC (CK l):=(Jr l [] List.Pairwise.nil).1
theorem Pv (l:List Ax):(CK l).length=l.length:=by
 have:=(Jr l [] List.Pairwise.nil).2.1
 rw[List.length_nil,Nat.zero_add] at this;exact this
theorem S7 {l:List Ax} {y:Ax}:y∈CK l↔y∈l:=by
 have:=(Jr l [] List.Pairwise.nil).2.2 y
 exact this.trans (by simp)
theorem WK (l:List Ax) {i:Nat} (hi:i<l.length):CK (l.take (i+1))=Io l[i] (CK (l.take i)):=by
 rw[CK,List.take_add_one,List.getElem?_eq_getElem hi,List.foldl_append];rfl
theorem NL {x:Ax}: ∀(s:List Ax) (j:Nat),j<=s.length->(∀y∈s.take j, ¬Cz x y)->(∀y∈s.drop j,Cz x y)->Io x s=s.take j++x::s.drop j
 |[],j,hj,_,_=>by
  obtain rfl:j=0:=by simpa using hj
  rfl
 |y::l,0,_,_,h2=>by
  unfold Io
  rw[if_pos (D4.2 (h2 y (List.mem_cons_self ..)))];rfl
 |y::l,j+1,hj,h1,h2=>by
  unfold Io
  rw[if_neg (fun c=>h1 y (by simp) (D4.1 c)),NL l j (by simpa using hj) (fun z hz=>h1 z (by simp[hz])) (fun z hz=>h2 z (by simpa using hz))]
  rfl
theorem WF {x:Ax} {s:List Ax} {j:Nat} (hs:SrC s) (hj:j<=s.length) (h2: ∀y∈s.drop j,Cz x y) (h1: ∀(h:0<j), ¬Cz x s[j-1]):Io x s=s.take j++x::s.drop j:=by
 refine NL s j hj (fun y hy=> ?_) h2
 obtain⟨k,hk,rfl⟩:=List.getElem_of_mem hy
 have hk':k<j:=by simp at hk;omega
 rw[List.getElem_take]
 have h3:=h1 (by omega)
 by_cases e:k=j-1
 ·subst e;exact h3
 ·exact MI (List.pairwise_iff_getElem.1 hs k (j-1) (by omega) (by omega) (by omega)) h3
theorem Ux (l:List Ax):CK (l.take 1)++l.drop 1=l:=by
 cases l with
 |nil=>rfl
 |cons x l=>rfl
abbrev Me (c:Nat) (x y:Ax) (W:World):Prop:=Ae Tryz.prog 280 #[Ai c,cvV x,cvV y] W (fun _:Unit=> .int .i64 (LN x y)) (fun _=>True) (fun _=>[])
theorem UO (c:Nat) (W:World) (g cap:Nat) (l:List Ax) (junk:List Value) (hn:l.length<4611686018427387904) (hg:W.heap[g]? =some (.cells (ptC l++junk).toArray 105 (0,0)))
  (hf: ∀W',Ij W W' g-> ∀x∈l, ∀y∈l,Me c x y W'):
  Calls Tryz.prog 352 #[.slice (some ⟨g,0,none⟩) l.length cap, .int .i64 0, .int .i64 (l.length:Nat),lsF c] W fun e W'=> ∃x:Unit,e= .returned ((fun _=> .tuple #[]) x)/\True/\Pg W W' g ((fun _=>g) x) ((fun _=> .cells (ptC (CK l)++junk).toArray 105 (0,0)) x):=by
 have key:Calls Tryz.prog 352 [.slice (some ⟨g,0,none⟩) l.length cap, .int .i64 0, .int .i64 (l.length:Nat),lsF c].toArray W fun e W'=> ∃x:Unit,e= .returned ((fun _=> .tuple #[]) x)/\(fun _=>True) x/\Below (Bn W).heap.size (Bn W) W'/\Au (Bn W) W' ((fun _=>[Bd (A8 W g),BT g (CK l) junk]) x):=by
  refine CY (X:=Unit) (val:=fun _=> .tuple #[]) (Φ:=fun _=>True) (nb:=fun _=>[Bd (A8 W g),BT g (CK l) junk]) (Hp.enterT (B:=BT g l junk) I hg) Tryz.func352 I I I ?_
  refine xb<|Ad I<|xa<|zH<|?_
  refine Av (X:=Nat) (fun i=>[(0, .slice (some ⟨g,0,none⟩) l.length cap),(1, .int .i64 0),(2, .int .i64 (l.length:Nat)),(3,lsF c),(8, .int .i64 (i:Nat))]) (fun i=>[Bd (A8 W g),BT g (CK (l.take i)++l.drop i) junk])
   (fun i=>1<=i/\(i<=l.length\/i=1)) (fun i=>l.length+1-i) 1 ⟨Nat.le_refl _, .inr rfl⟩ ⟨rfl,rfl,rfl,rfl,rfl,trivial⟩ [] (by rw[Ux];rfl) ?_
  rintro i ⟨hi1,hi2⟩
  refine xd<|Ad I<|?_
  by_cases hlt:i<l.length
  rotate_left
  ·refine wU 14 false I (dF (by omega))<|xa<|zS I<|xg<|?_
   have e:CK (l.take i)++l.drop i=CK l:=by rw[List.take_of_length_le (by omega),List.drop_of_length_le (by omega),List.append_nil]
   refine Vz (X:=Unit) (val:=fun _=> .tuple #[]) (Φ:=fun _=>True) (nb:=fun _=>[Bd (A8 W g),BT g (CK l) junk]) (fn:=Tryz.f352) tH I () I tO fun W1 hp=> ?_
   rw[e] at hp
   exact(hp.pick (l:=[Bd (A8 W g),BT g (CK l) junk]) [0,1] (by decide) I).own
  refine wU 14 true I (dT (by omega))<|xa<|zR I<|xh<|Aa I<|xa<|zH<|?_
  obtain⟨s,hs⟩: ∃s,s=CK (l.take i):=⟨_,rfl⟩
  obtain⟨x,hx⟩: ∃x,x=l[i]:=⟨_,rfl⟩
  obtain⟨rr,hr⟩: ∃rr,rr=l.drop (i+1):=⟨_,rfl⟩
  have hsl:s.length=i:=by rw[hs,Pv,List.length_take];omega
  have hsort:SrC s:=hs▸SZ _
  have hdrop:l.drop i=x::rr:=by rw[hx,hr];exact List.drop_eq_getElem_cons hlt
  have hrl:rr.length=l.length-(i+1):=by rw[hr,List.length_drop]
  have hxl:x∈l:=hx▸List.getElem_mem hlt
  have hsm: ∀y∈s,y∈l:=fun y hy=>by rw[hs] at hy;exact List.mem_of_mem_take (S7.1 hy)
  have hnext: ∀j,j<=s.length->(∀y∈s.drop j,Cz x y)->(∀(h:0<j), ¬Cz x s[j-1]!)->s.take j++x::s.drop j++rr=CK (l.take (i+1))++l.drop (i+1):=fun j h1 h2 h3=>by
   rw[WK l hlt, <-hs, <-hx, <-hr,WF hsort h1 h2 fun h=>by have:=h3 h;rwa [getElem!_pos s (j-1) (by omega)] at this]
  refine Av (X:=Nat) (fun j=>[(0, .slice (some ⟨g,0,none⟩) l.length cap),(1, .int .i64 0),(2, .int .i64 (l.length:Nat)),(3,lsF c),(8, .int .i64 (i:Nat)),(9, .int .i64 (j:Nat))]) (fun j=>[Bd (A8 W g),BT g (s.take j++x::s.drop j++rr) junk])
   (fun j=>j<=s.length/\ ∀y∈s.drop j,Cz x y) (fun j=>j) i ⟨by omega,by rw[<-hsl,List.drop_length];exact fun y hy=>absurd hy List.not_mem_nil⟩ ⟨rfl,rfl,rfl,rfl,rfl,rfl,trivial⟩ [] (by rw[<-hs,hdrop, <-hsl,List.take_length,List.drop_length,List.append_assoc];rfl) ?_
  rintro j ⟨hj,hgt⟩
  have hj:j<=s.length:=hj
  have hgt: ∀y∈s.drop j,Cz x y:=hgt
  refine zA<|zA<|zU<|AY I<|?_
  cases j with
  |zero=>
   refine Fa 20 (.bool false) I I<|qP I<|?_
   iterate 12 refine Bi I I ?_
   refine qP I<|zD<|xa<|zS I<|xg<|xi<|Aa I<|wV 16 ((i+1:Nat):Int) I (A0 (by omega))<|wP I<|zC<|?_
   refine Al (i+1) ⟨by show 1<=i+1;omega, .inl hlt⟩ (by show l.length+1-(i+1)<l.length+1-i;omega) ⟨I,I,I,I,I,tO⟩ [] ?_
   rw[hnext 0 hj hgt fun h=>absurd h (by decide)];rfl
  |succ m=>
   have hm:m<s.length:=hj
   obtain⟨y,hy⟩: ∃y,y=s[m]:=⟨_,rfl⟩
   have hyl:y∈l:=hsm y (hy▸List.getElem_mem hm)
   have e1:s.take (m+1)=s.take m++[y]:=by rw[List.take_add_one,List.getElem?_eq_getElem hm,hy];rfl
   have e2:s.drop m=y::s.drop (m+1):=by rw[hy];exact List.drop_eq_getElem_cons hm
   have e3:s[m+1-1]! =y:=by rw[Nat.add_sub_cancel,getElem!_pos s m hm,hy]
   have hA:(ptC (s.take m)).length=m*2:=by rw[BK,List.length_take,Nat.min_eq_left (by omega)]
   obtain⟨C,hC⟩: ∃C,C=ptC (s.drop (m+1)++rr)++junk:=⟨_,rfl⟩
   have row1:ptC (s.take (m+1)++x::s.drop (m+1)++rr)++junk=ptC (s.take m)++([str (Ac y.1),str (Ac y.2),str (Ac x.1),str (Ac x.2)]++C):=by rw[e1,hC];simp[ptC,List.flatMap_append]
   have row2:ptC (s.take m++x::s.drop m++rr)++junk=ptC (s.take m)++([str (Ac x.1),str (Ac x.2),str (Ac y.1),str (Ac y.2)]++C):=by rw[e2,hC];simp[ptC,List.flatMap_append]
   refine qU 20 true I (dT (by omega))<|Cd I<|qJ ?_
   refine qL 0 I I (fun W1 hp=>show Aj W1 g (0+(m+1)*2) [str (Ac x.1),str (Ac x.2)] from H4 hp 1 (A:=ptC (s.take m)++[str (Ac y.1),str (Ac y.2)]) (C:=C) I (by rw[row1];simp) (by rw[List.length_append,hA];simp only[List.length_cons,List.length_nil];omega)) I<|AY I<|qV 29 (m:Nat) I (show w64 (((m+1:Nat):Int)-1)=_ by rw[Ar (by omega) (by omega)];omega)<|qJ ?_
   refine qL 0 I I (fun W1 hp=>show Aj W1 g (0+m*2) [str (Ac y.1),str (Ac y.2)] from H4 hp 1 (A:=ptC (s.take m)) (C:=[str (Ac x.1),str (Ac x.2)]++C) I (by rw[row1];simp) (by rw[hA];simp)) I<|YJ (first:=[Ai c]) I I I I I I (by kernel_rfl) (fun W1 hp=>hf W1 (KZ hg ⟨_,List.mem_cons_self ..⟩ hp) x hxl y hyl) ?_
   refine qP I<|qU 33 (F8 x y) I (Vv x y)<|qP I<|zD<|xa<|Ag I (fun h=> ?_) (fun h=> ?_)
   rotate_left
   ·have hc: ¬Cz x y:=fun d=>by rw[D4.2 d] at h;cases h
    refine xg<|xi<|Aa I<|wV 16 ((i+1:Nat):Int) I (A0 (by omega))<|wP I<|zC<|?_
    refine Al (i+1) ⟨by show 1<=i+1;omega, .inl hlt⟩ (by show l.length+1-(i+1)<l.length+1-i;omega) ⟨I,I,I,I,I,tO⟩ [] ?_
    rw[hnext (m+1) hj hgt fun _=>by rw[e3];exact hc];rfl
   have hc:Cz x y:=D4.1 h
   clear h
   refine f7 (bxs':=[Bd (A8 W g),⟨g,105,ptC (s.take m)++([str (Ac y.1),str (Ac y.2),str (Ac x.1),str (Ac x.2)]++C),true,none⟩]) (by rw[<-row1]) ?_
   refine xe<|zA<|zH<|?_
   repeat refine Ba ?_
   refine AV (X:=Unit) [true,true,false,false,false,true,true,true,true,true,true,true,true,true,true,false,false,false] (fun _=>[(0, .slice (some ⟨g,0,none⟩) l.length cap),(1, .int .i64 0),(2, .int .i64 (l.length:Nat)),(3,lsF c),(8, .int .i64 (i:Nat)),(9, .int .i64 ((m+1:Nat):Int))]) (fun _=>[Bd (A8 W g),⟨g,105,ptC (s.take m)++([str (Ac x.1),str (Ac x.2),str (Ac y.1),str (Ac y.2)]++C),true,none⟩])
    6 [Bd (A8 W g),⟨g,105,ptC (s.take m)++([str (Ac y.1),str (Ac y.2),str (Ac x.1),str (Ac x.2)]++C),true,none⟩] Tryz.mixed (by kernel_rfl) ?_ ?_
   ·refine GM I<|qV 44 (m:Nat) I (show w64 (((m+1:Nat):Int)-1)=_ by rw[Ar (by omega) (by omega)];omega)<|qJ ?_
    refine qL 0 I I (fun W1 hp=>show Aj W1 g (0+m*2) [str (Ac y.1),str (Ac y.2)] from H4 hp 1 (A:=ptC (s.take m)) (C:=[str (Ac x.1),str (Ac x.2)]++C) I (by simp) (by rw[hA];simp)) I<|Ay I<|qJ ?_
    refine qL 0 I I (fun W1 hp=>show Aj W1 g (0+(m+1)*2) [str (Ac x.1),str (Ac x.2)] from H4 hp 1 (A:=ptC (s.take m)++[str (Ac y.1),str (Ac y.2)]) (C:=C) I (by simp) (by rw[List.length_append,hA];simp only[List.length_cons,List.length_nil];omega)) I<|qJ ?_
    refine BR ?_
    have h1:BF (ptC (s.take m)++([str (Ac y.1),str (Ac y.2),str (Ac x.1),str (Ac x.2)]++C)) (0+(m+1)*2) (cvV y).cells.toList=ptC (s.take m)++([str (Ac y.1),str (Ac y.2),str (Ac y.1),str (Ac y.2)]++C):=by
     rw[show 0+(m+1)*2=(ptC (s.take m)).length+2 by rw[hA];omega,E6];rfl
    have h2:BF (ptC (s.take m)++([str (Ac y.1),str (Ac y.2),str (Ac y.1),str (Ac y.2)]++C)) (0+m*2) (cvV x).cells.toList=ptC (s.take m)++([str (Ac x.1),str (Ac x.2),str (Ac y.1),str (Ac y.2)]++C):=by
     rw[show 0+m*2=(ptC (s.take m)).length+0 by rw[hA];omega,E6];rfl
    have h3:0+(m+1)*2+2<=(ptC (s.take m)++([str (Ac y.1),str (Ac y.2),str (Ac x.1),str (Ac x.2)]++C)).length:=by rw[List.length_append,hA,List.length_append];simp only[List.length_cons,List.length_nil];omega
    have h4:0+m*2+2<=(ptC (s.take m)++([str (Ac y.1),str (Ac y.2),str (Ac y.1),str (Ac y.2)]++C)).length:=by rw[List.length_append,hA,List.length_append];simp only[List.length_cons,List.length_nil];omega
    refine wX<|RS.cons ?_ (RS.cons ?_ (RS.cons ?_ (RS.nil)))
    ·refine wP I<|zC<|Ah<|wX<|RS.cons ?_ (RS.cons ?_ (RS.nil))
     ·refine wP I<|zC<|Ah<|wX<|RS.cons ?_ (RS.cons ?_ (RS.nil))
      ·refine wP I<|zC<|Ah<|wX<|wZ<|AG 1 _ tH I I I I I I I I I I h3 h1 ?_
       refine zC<|Ah<|wY<|wZ<|?_
       refine wV 41 (m:Nat) I (show w64 (((m+1:Nat):Int)-1)=_ by rw[Ar (by omega) (by omega)];omega) ?_;(first|refine wJ ?_|refine qJ ?_)
       refine zC<|Ah<|wY<|wZ<|AG 1 _ tH I I I I I I I I I I h4 h2 ?_
       refine zC<|Ah<|AR I (by kernel_rfl) ?_
       exact A7 () ⟨I,I,I,I,I,I,tO⟩ [0,1] (by decide) I
      ·refine AG 1 _ tH I I I I I I I I I I h3 h1 ?_
       refine zC<|Ah<|wY<|wZ<|wP I<|zC<|Ah<|wY<|wZ<|?_
       refine wV 41 (m:Nat) I (show w64 (((m+1:Nat):Int)-1)=_ by rw[Ar (by omega) (by omega)];omega) ?_;(first|refine wJ ?_|refine qJ ?_)
       refine zC<|Ah<|wY<|wZ<|AG 1 _ tH I I I I I I I I I I h4 h2 ?_
       refine zC<|Ah<|AR I (by kernel_rfl) ?_
       exact A7 () ⟨I,I,I,I,I,I,tO⟩ [0,1] (by decide) I
     ·refine AG 1 _ tH I I I I I I I I I I h3 h1 ?_
      refine zC<|Ah<|wY<|wZ<|wP I<|zC<|Ah<|wY<|wZ<|wP I<|zC<|Ah<|wY<|wZ<|?_
      refine wV 41 (m:Nat) I (show w64 (((m+1:Nat):Int)-1)=_ by rw[Ar (by omega) (by omega)];omega) ?_;(first|refine wJ ?_|refine qJ ?_)
      refine zC<|Ah<|wY<|wZ<|AG 1 _ tH I I I I I I I I I I h4 h2 ?_
      refine zC<|Ah<|AR I (by kernel_rfl) ?_
      exact A7 () ⟨I,I,I,I,I,I,tO⟩ [0,1] (by decide) I
    ·refine wP I<|zC<|Ah<|wX<|RS.cons ?_ (RS.cons ?_ (RS.cons ?_ (RS.nil)))
     ·refine wP I<|zC<|Ah<|wX<|RS.cons ?_ (RS.cons ?_ (RS.nil))
      ·refine wP I<|zC<|Ah<|wX<|wZ<|AG 1 _ tH I I I I I I I I I I h3 h1 ?_
       refine zC<|Ah<|wY<|wZ<|?_
       refine wV 41 (m:Nat) I (show w64 (((m+1:Nat):Int)-1)=_ by rw[Ar (by omega) (by omega)];omega) ?_;(first|refine wJ ?_|refine qJ ?_)
       refine zC<|Ah<|wY<|wZ<|AG 1 _ tH I I I I I I I I I I h4 h2 ?_
       refine zC<|Ah<|AR I (by kernel_rfl) ?_
       exact A7 () ⟨I,I,I,I,I,I,tO⟩ [0,1] (by decide) I
      ·refine AG 1 _ tH I I I I I I I I I I h3 h1 ?_
       refine zC<|Ah<|wY<|wZ<|wP I<|zC<|Ah<|wY<|wZ<|?_
       refine wV 41 (m:Nat) I (show w64 (((m+1:Nat):Int)-1)=_ by rw[Ar (by omega) (by omega)];omega) ?_;(first|refine wJ ?_|refine qJ ?_)
       refine zC<|Ah<|wY<|wZ<|AG 1 _ tH I I I I I I I I I I h4 h2 ?_
       refine zC<|Ah<|AR I (by kernel_rfl) ?_
       exact A7 () ⟨I,I,I,I,I,I,tO⟩ [0,1] (by decide) I
     ·refine wP I<|zC<|Ah<|wX<|RS.cons ?_ (RS.cons ?_ (RS.nil))
      ·refine wP I<|zC<|Ah<|wX<|wZ<|AG 1 _ tH I I I I I I I I I I h3 h1 ?_
       refine zC<|Ah<|wY<|wZ<|?_
       refine wV 41 (m:Nat) I (show w64 (((m+1:Nat):Int)-1)=_ by rw[Ar (by omega) (by omega)];omega) ?_;(first|refine wJ ?_|refine qJ ?_)
       refine zC<|Ah<|wY<|wZ<|AG 1 _ tH I I I I I I I I I I h4 h2 ?_
       refine zC<|Ah<|AR I (by kernel_rfl) ?_
       exact A7 () ⟨I,I,I,I,I,I,tO⟩ [0,1] (by decide) I
      ·refine AG 1 _ tH I I I I I I I I I I h3 h1 ?_
       refine zC<|Ah<|wY<|wZ<|wP I<|zC<|Ah<|wY<|wZ<|?_
       refine wV 41 (m:Nat) I (show w64 (((m+1:Nat):Int)-1)=_ by rw[Ar (by omega) (by omega)];omega) ?_;(first|refine wJ ?_|refine qJ ?_)
       refine zC<|Ah<|wY<|wZ<|AG 1 _ tH I I I I I I I I I I h4 h2 ?_
       refine zC<|Ah<|AR I (by kernel_rfl) ?_
       exact A7 () ⟨I,I,I,I,I,I,tO⟩ [0,1] (by decide) I
     ·refine AG 1 _ tH I I I I I I I I I I h3 h1 ?_
      refine zC<|Ah<|wY<|RS.cons ?_ (RS.cons ?_ (RS.nil))
      ·refine wP I<|zC<|Ah<|wY<|wZ<|wP I<|zC<|Ah<|wY<|wZ<|?_
       refine wV 41 (m:Nat) I (show w64 (((m+1:Nat):Int)-1)=_ by rw[Ar (by omega) (by omega)];omega) ?_;(first|refine wJ ?_|refine qJ ?_)
       refine zC<|Ah<|wY<|wZ<|AG 1 _ tH I I I I I I I I I I h4 h2 ?_
       refine zC<|Ah<|AR I (by kernel_rfl) ?_
       exact A7 () ⟨I,I,I,I,I,I,tO⟩ [0,1] (by decide) I
      ·refine wP I<|zC<|Ah<|wY<|wZ<|wP I<|zC<|Ah<|wY<|wZ<|?_
       refine wV 41 (m:Nat) I (show w64 (((m+1:Nat):Int)-1)=_ by rw[Ar (by omega) (by omega)];omega) ?_;(first|refine wJ ?_|refine qJ ?_)
       refine zC<|Ah<|wY<|wZ<|AG 1 _ tH I I I I I I I I I I h4 h2 ?_
       refine zC<|Ah<|AR I (by kernel_rfl) ?_
       exact A7 () ⟨I,I,I,I,I,I,tO⟩ [0,1] (by decide) I
    ·refine AG 1 _ tH I I I I I I I I I I h3 h1 ?_
     refine zC<|Ah<|wY<|RS.cons ?_ (RS.cons ?_ (RS.nil))
     ·refine wP I<|zC<|Ah<|wY<|wZ<|wP I<|zC<|Ah<|wY<|wZ<|wP I<|zC<|Ah<|wY<|wZ<|?_
      refine wV 41 (m:Nat) I (show w64 (((m+1:Nat):Int)-1)=_ by rw[Ar (by omega) (by omega)];omega) ?_;(first|refine wJ ?_|refine qJ ?_)
      refine zC<|Ah<|wY<|wZ<|AG 1 _ tH I I I I I I I I I I h4 h2 ?_
      refine zC<|Ah<|AR I (by kernel_rfl) ?_
      exact A7 () ⟨I,I,I,I,I,I,tO⟩ [0,1] (by decide) I
     ·refine wP I<|zC<|Ah<|wY<|RS.cons ?_ (RS.cons ?_ (RS.nil))
      ·refine wP I<|zC<|Ah<|wY<|wZ<|wP I<|zC<|Ah<|wY<|wZ<|?_
       refine wV 41 (m:Nat) I (show w64 (((m+1:Nat):Int)-1)=_ by rw[Ar (by omega) (by omega)];omega) ?_;(first|refine wJ ?_|refine qJ ?_)
       refine zC<|Ah<|wY<|wZ<|AG 1 _ tH I I I I I I I I I I h4 h2 ?_
       refine zC<|Ah<|AR I (by kernel_rfl) ?_
       exact A7 () ⟨I,I,I,I,I,I,tO⟩ [0,1] (by decide) I
      ·refine wP I<|zC<|Ah<|wY<|wZ<|wP I<|zC<|Ah<|wY<|wZ<|?_
       refine wV 41 (m:Nat) I (show w64 (((m+1:Nat):Int)-1)=_ by rw[Ar (by omega) (by omega)];omega) ?_;(first|refine wJ ?_|refine qJ ?_)
       refine zC<|Ah<|wY<|wZ<|AG 1 _ tH I I I I I I I I I I h4 h2 ?_
       refine zC<|Ah<|AR I (by kernel_rfl) ?_
       exact A7 () ⟨I,I,I,I,I,I,tO⟩ [0,1] (by decide) I
   intro _
   refine xi<|Aa I<|wV 36 (m:Nat) I (show w64 (((m+1:Nat):Int)-1)=_ by rw[Ar (by omega) (by omega)];omega)<|wP I<|zC<|?_
   refine Al m ⟨by show m<=s.length;omega,fun z hz=> ?_⟩ (by show m<m+1;omega) ⟨I,I,I,I,I,I,tO⟩ [] (by rw[<-row2];rfl)
   rw[e2] at hz
   rcases List.mem_cons.1 hz with rfl|hz
   ·exact hc
   ·exact hgt z hz
 refine key.mono ?_
 rintro e W' ⟨x,he,_,hb,hn'⟩
 exact⟨x,he,tO,HP hg I hb hn'⟩
theorem Uo (c:Nat) (W:World) (g cap:Nat) (l:List Ax) (junk:List Value) (z:Int) (hn:l.length<=12) (hg:W.heap[g]? =some (.cells (ptC l++junk).toArray 105 (0,0)))
  (hf: ∀W',Ij W W' g-> ∀x∈l, ∀y∈l,Me c x y W'):
  Calls Tryz.prog 328 #[.slice (some ⟨g,0,none⟩) l.length cap, .int .i64 0, .int .i64 (l.length:Nat), .int .i64 z,lsF c] W fun e W'=> ∃x:Unit,e= .returned ((fun _=> .tuple #[]) x)/\True/\Pg W W' g ((fun _=>g) x) ((fun _=> .cells (ptC (CK l)++junk).toArray 105 (0,0)) x):=by
 have key:Calls Tryz.prog 328 [.slice (some ⟨g,0,none⟩) l.length cap, .int .i64 0, .int .i64 (l.length:Nat), .int .i64 z,lsF c].toArray W fun e W'=> ∃x:Unit,e= .returned ((fun _=> .tuple #[]) x)/\(fun _=>True) x/\Below (Bn W).heap.size (Bn W) W'/\Au (Bn W) W' ((fun _=>[Bd (A8 W g),BT g (CK l) junk]) x):=by
  refine CY (X:=Unit) (val:=fun _=> .tuple #[]) (Φ:=fun _=>True) (nb:=fun _=>[Bd (A8 W g),BT g (CK l) junk]) (Hp.enterT (B:=BT g l junk) I hg) Tryz.func328 I I I ?_
  refine xb<|wP I<|xf<|wP I<|xa<|zH<|Av (X:=Unit) (fun _=>[(0, .slice (some ⟨g,0,none⟩) l.length cap),(1, .int .i64 0),(2, .int .i64 (l.length:Nat)),(3, .int .i64 z),(4,lsF c)]) (fun _=>[Bd (A8 W g),BT g l junk]) (fun _=>True) (fun _=>0) () tO ⟨I,I,I,I,I,tO⟩ [] I ?_
  intro _ _
  refine zH<|xb<|Ad I<|wV 23 (l.length:Nat) I (show w64 ((l.length:Nat)-0)=_ by rw[Ar (by omega) (by omega)];omega)<|wP I<|xk<|Aa I<|wU 25 true I (dT (by omega))<|xa<|zR I<|xb<|At I<|?_
  refine F7 (X:=Unit) (val:=fun _=> .tuple #[]) (Φ:=fun _=>True) (capt:=[]) 1 (B:=BT g l junk) (L1:=[]) (L2:=[]) (b:=g) (ob:= .cells (ptC l++junk).toArray 105 (0,0)) (fun _=>BT g (CK l) junk) (g':=fun _=>g) (o':=fun _=> .cells (ptC (CK l)++junk).toArray 105 (0,0))
   rfl rfl rfl rfl rfl rfl (by kernel_rfl) rfl rfl (fun _ _=>rfl) (fun W1 hp=>UO c W1 g cap l junk (by omega) (hp.own.cell 1 _ rfl (g, .cells (ptC l++junk).toArray 105 (0,0)) (List.mem_cons_self ..)).1 (fun W2 hk=>hf W2 ((KZ hg ⟨_,List.mem_cons_self ..⟩ hp).trans hk))) (fun _ _=> ?_)
  refine xo<|zQ<|zP<|zQ<|aG (X:=Unit) (val:=fun _=> .tuple #[]) (Φ:=fun _=>True) (nb:=fun _=>[Bd (A8 W g),BT g (CK l) junk]) (fn:=Tryz.f328) tH I () I tO fun W1 hp=> ?_
  exact(hp.pick (l:=[Bd (A8 W g),BT g (CK l) junk]) [0,1] (by decide) I).own
 refine key.mono ?_
 rintro e W' ⟨x,he,_,hb,hn'⟩
 exact⟨x,he,tO,HP hg I hb hn'⟩
theorem dG {n:Nat} (h:n<=12):IntKind.u64.wrap (n:Nat)=(n:Int):=by
 simp only[IntKind.wrap,IntKind.signed,IntKind.bits]
 simp
 omega
theorem TX (c:Nat) (W:World) (g cap:Nat) (l:List Ax) (junk:List Value) (hn:l.length<=12) (hg:W.heap[g]? =some (.cells (ptC l++junk).toArray 105 (0,0)))
  (hf: ∀W',Ij W W' g-> ∀x∈l, ∀y∈l,Me c x y W'):
  Calls Tryz.prog 279 #[.slice (some ⟨g,0,none⟩) l.length cap,lsF c] W fun e W'=> ∃x:Unit,e= .returned ((fun _=> .tuple #[]) x)/\True/\Pg W W' g ((fun _=>g) x) ((fun _=> .cells (ptC (CK l)++junk).toArray 105 (0,0)) x):=by
 have key:Calls Tryz.prog 279 [.slice (some ⟨g,0,none⟩) l.length cap,lsF c].toArray W fun e W'=> ∃x:Unit,e= .returned ((fun _=> .tuple #[]) x)/\(fun _=>True) x/\Below (Bn W).heap.size (Bn W) W'/\Au (Bn W) W' ((fun _=>[Bd (A8 W g),BT g (CK l) junk]) x):=by
  refine CY (X:=Unit) (val:=fun _=> .tuple #[]) (Φ:=fun _=>True) (nb:=fun _=>[Bd (A8 W g),BT g (CK l) junk]) (Hp.enterT (B:=BT g l junk) I hg) Tryz.func279 I I I ?_
  refine xb<|Ad I<|xa<|zB<|Ad I<|LE (k:= .u64) (kt:= .i64) (by kernel_rfl) (by kernel_rfl) I I I I ?_
  refine Ap 10 (.int .u64 (l.length:Nat)) I (congrArg (Value.int .u64) (dG hn))<|Bz (capt:=[]) I I I I I I (by kernel_rfl) (fun W _=>UC l.length (by omega) W)<|wP I<|?_
  refine F7 (X:=Unit) (val:=fun _=> .tuple #[]) (Φ:=fun _=>True) (capt:=[]) 1 (B:=BT g l junk) (L1:=[]) (L2:=[]) (b:=g) (ob:= .cells (ptC l++junk).toArray 105 (0,0)) (fun _=>BT g (CK l) junk) (g':=fun _=>g) (o':=fun _=> .cells (ptC (CK l)++junk).toArray 105 (0,0))
   rfl rfl rfl rfl rfl rfl (by kernel_rfl) rfl rfl (fun _ _=>rfl) (fun W1 hp=>Uo c W1 g cap l junk _ hn (hp.own.cell 1 _ rfl (g, .cells (ptC l++junk).toArray 105 (0,0)) (List.mem_cons_self ..)).1 (fun W2 hk=>hf W2 ((KZ hg ⟨_,List.mem_cons_self ..⟩ hp).trans hk))) (fun _ _=> ?_)
  refine zC<|Vz (X:=Unit) (val:=fun _=> .tuple #[]) (Φ:=fun _=>True) (nb:=fun _=>[Bd (A8 W g),BT g (CK l) junk]) (fn:=Tryz.f279) tH I () I tO fun W1 hp=> ?_
  exact(hp.pick (l:=[Bd (A8 W g),BT g (CK l) junk]) [0,1] (by decide) I).own
 refine key.mono ?_
 rintro e W' ⟨x,he,_,hb,hn'⟩
 exact⟨x,he,tO,HP hg I hb hn'⟩
section
variable {r:Option Nat} {n:Nat} {P:Program} {W0:World} {N:Nat} {D:List Deferred} {ops:List Oper} {Q:Exit->Act->World->Prop} {o:Oper} {rest:List Oper} {env:Env} {bxs:List Bx}
theorem Zf (k:Nat) {t e:TypeId} {z:Value} (ht:P.underlying t=some (.slice e)) (hz: ∀W,(zeroValue e).run P W= .ok z W) {c:Call} {x:Operand} {B:Bx} {off m cp:Nat}
  (hg:Aw ops N env o=some true) (hd:o.dst=none) (ho:o.op= .call c) (hc:c.callee= .builtin .clear) (ha:c.args= #[x]) (hat:c.argTypes= #[t])
  (hk:nth bxs k=some B) (hon:B.row=true) (hx:evO N env x=some (.slice (some ⟨B.b,off,none⟩) m cp)) (h1:Dp (Cf z.cells.toList m)=true) (hfit:off+(Cf z.cells.toList m).length<=B.cells.length)
  (h:WL r n P N D ops Q rest env (Hp W0 (bxs.set k { B with cells:=BF B.cells off (Cf z.cells.toList m) }))):WL r n P N D ops Q (o::rest) env (Hp W0 bxs):= .mk fun a W ha' hd' hp=>by
 rw[Bv] at hk
 refine BO hg ha' (fun c e=>by rw[ho] at e;cases e) ?_
 have h3:=(hp.at_ _ _ hk (Bx.row_on hon).1).1
 rw[(Bx.row_on hon).2] at h3
 obtain⟨W',hr,hu⟩:=Gp (P:=P) (o:=off) (Cf z.cells.toList m) 0 B.cells W h3 (by omega) h1
 have e1:c.args.map (ov env a).eval= #[.slice (some ⟨B.b,off,none⟩) m cp]:=by rw[ha];simp[AB ha' _ _ hx]
 have hrun:(Builtin.clear_ #[t] o.type #[.slice (some ⟨B.b,off,none⟩) m cp]).run P W= .ok (.tuple #[]) W':=by
  cases m with
  |zero=>
   have e0:Cf z.cells.toList 0=[]:=rfl
   rw[e0] at hr
   simp[storeCells] at hr
   simp[Builtin.clear_,run_underlying ht,hr]
  |succ m=>simp[Builtin.clear_,run_underlying ht,hz,Hl,hr]
 have:(execOp (ov env a).eval o).run P W= .ok (.value (.tuple #[])) W':=by
  simp only[execOp,ho,resolve,hc,invoke,builtin,e1,hat,Sem.run_bind,Sem.run_pure,Result.andThen_ok,hrun]
 rw[this]
 simp only[Oper.uponIn,hd]
 rw[Nat.add_zero] at hu
 exact h.out a W' ha' hd' (hp.upd hk hon hu)
end
def ET (l:List Ax):Nat->List Ax
 |0=>[]
 |n+1=>if 0<n/\l[n]? =l[n-1]? then ET l n else ET l n++(l[n]?).toList
abbrev HG (l:List Ax):List Ax:=ET l l.length
theorem SQ (l:List Ax): ∀n,(ET l n).length<=n
 |0=>Nat.le_refl _
 |n+1=>by
  have ih:=SQ l n
  unfold ET
  split
  ·omega
  ·rw[List.length_append]
   have:(l[n]?).toList.length<=1:=by cases l[n]? <;>simp
   omega
theorem Md {l:List Ax} {n:Nat} (h0:0<n) (h:l[n]? =l[n-1]?):ET l (n+1)=ET l n:=by
 show(if 0<n/\l[n]? =l[n-1]? then ET l n else _)=_
 rw[if_pos ⟨h0,h⟩]
theorem O0 {l:List Ax} {n:Nat} (hn:n<l.length) (h: ¬(0<n/\l[n]? =l[n-1]?)):ET l (n+1)=ET l n++[l[n]]:=by
 show(if 0<n/\l[n]? =l[n-1]? then _ else ET l n++(l[n]?).toList)=_
 rw[if_neg h,List.getElem?_eq_getElem hn];rfl
theorem Sw (l:List Ax):ET l 1=l.take 1:=by
 cases l with
 |nil=>rfl
 |cons x l=>rfl
theorem Ql {l:List Ax} (hs:SrC l): ∀n,n<=l.length->(ET l n).Pairwise Cz/\(∀x,x∈ET l n↔x∈l.take n)
 |0,_=>⟨List.Pairwise.nil,fun x=>by simp[ET]⟩
 |n+1,hn=>by
  obtain⟨a,b⟩:=Ql hs n (by omega)
  have hn':n<l.length:=hn
  have et:l.take (n+1)=l.take n++[l[n]]:=by rw[List.take_add_one,List.getElem?_eq_getElem hn'];rfl
  by_cases h:0<n/\l[n]? =l[n-1]?
  ·rw[Md h.1 h.2]
   refine⟨a,fun x=> ?_⟩
   rw[b,et,List.mem_append,List.mem_singleton]
   refine⟨.inl,fun h2=> ?_⟩
   rcases h2 with h2|rfl
   ·exact h2
   ·have e:l[n]=l[n-1]'(by omega):=by
     have:=h.2
     rw[List.getElem?_eq_getElem hn',List.getElem?_eq_getElem (by omega)] at this
     exact Option.some.inj this
    rw[e]
    exact List.mem_iff_getElem.2 ⟨n-1,by rw[List.length_take];omega,by rw[List.getElem_take]⟩
  ·rw[O0 hn' h]
   refine⟨List.pairwise_append.2 ⟨a,List.pairwise_cons.2 ⟨fun _ h=>absurd h List.not_mem_nil,List.Pairwise.nil⟩,fun x hx y hy=> ?_⟩,fun x=> ?_⟩
   ·obtain rfl:=List.mem_singleton.1 hy
    obtain⟨i,hi,rfl⟩:=List.mem_iff_getElem.1 ((b x).1 hx)
    rw[List.length_take] at hi
    rw[List.getElem_take]
    have hp:=List.pairwise_iff_getElem.1 hs
    have h1:=hp i n (by omega) hn' (by omega)
    rcases LX l[i] l[n] with d|d|d
    ·exact d
    ·exfalso
     refine h ⟨by omega, ?_⟩
     rw[List.getElem?_eq_getElem hn',List.getElem?_eq_getElem (show n-1<l.length by omega)]
     congr 1
     by_cases ei:i=n-1
     ·subst ei;exact d.symm
     ·have h2:=hp i (n-1) (by omega) (by omega) (by omega)
      have h3:=hp (n-1) n (by omega) hn' (by omega)
      rw[d] at h2
      rcases LX l[n] (l[n-1]'(by omega)) with d2|d2|d2
      ·exact absurd d2 h3
      ·exact d2
      ·exact absurd d2 h2
    ·exact absurd d h1
   ·rw[et,List.mem_append,List.mem_append,b]
theorem Wr {l:List Ax} (hs:SrC l):(HG l).Pairwise Cz/\ ∀x,x∈HG l↔x∈l:=by
 have:=Ql hs l.length (Nat.le_refl _)
 rw[List.take_length] at this
 exact this
theorem Sb {x y:Ax}:decide (Ac x.1=Ac y.1/\Ac x.2=Ac y.2)=decide (x=y):=decide_eq_decide.2 ⟨fun h=>Prod.ext (K7.1 h.1) (K7.1 h.2),fun h=>by rw[h];exact⟨rfl,rfl⟩⟩
theorem QO {W0 W:World} {bxs:List Bx} (hp:Hp W0 bxs W) (k:Nat) {g:Nat} {l:List Ax} {junk:List Value} (hk:nth bxs k=some (BT g l junk)) {i:Nat} (hi:i<l.length):Aj W g (0+i*2) [str (Ac l[i].1),str (Ac l[i].2)]:=by
 obtain⟨g',off',e,h⟩:=(Cl.of_row (Aj.of_bx hp k hk rfl)).at_ hi
 cases e
 exact h i hi
theorem Vt: ∀m,Dp (Cf (Value.agg #[str [],str []]).cells.toList m)=true
 |0=>rfl
 |m+1=>by
  have ih:=Vt m
  show Dp (str []::str []::Cf _ m)=true
  exact ih
theorem Wh (m:Nat):(Cf (Value.agg #[str [],str []]).cells.toList m).length=m*2:=Fv _ m
theorem MH (W:World) (g cap:Nat) (l:List Ax) (junk:List Value) (hn:l.length<=100000) (hcap:l.length<=cap) (hg:W.heap[g]? =some (.cells (ptC l++junk).toArray 105 (0,0))):
  Calls Tryz.prog 217 #[.slice (some ⟨g,0,none⟩) l.length cap] W fun e W'=> ∃x:List Value,e= .returned ((fun _=> .slice (some ⟨g,0,none⟩) (HG l).length cap) x)/\True/\Pg W W' g ((fun _=>g) x) ((fun x=> .cells (ptC (HG l)++x).toArray 105 (0,0)) x):=by
 have key:Calls Tryz.prog 217 [.slice (some ⟨g,0,none⟩) l.length cap].toArray W fun e W'=> ∃x:List Value,e= .returned ((fun _=> .slice (some ⟨g,0,none⟩) (HG l).length cap) x)/\(fun _=>True) x/\Below (Bn W).heap.size (Bn W) W'/\Au (Bn W) W' ((fun x=>[Bd (A8 W g),BT g (HG l) x]) x):=by
  refine CY (X:=List Value) (val:=fun _=> .slice (some ⟨g,0,none⟩) (HG l).length cap) (Φ:=fun _=>True) (nb:=fun x=>[Bd (A8 W g),BT g (HG l) x]) (Hp.enterT (B:=BT g l junk) I hg) Tryz.func217 I I I ?_
  refine xb<|wP I<|xk<|Ad I<|?_
  by_cases hlt:l.length<2
  ·have e:HG l=l:=by
    rcases(show l.length=0\/l.length=1 by omega) with e|e
    ·rw[HG,e,List.length_eq_zero_iff.1 e];rfl
    ·rw[HG,e,Sw,List.take_of_length_le (by omega)]
   refine wU 8 true I (dT (by omega))<|xa<|zR I<|xb<|Aa I<|xo<|?_
   rw[e]
   exact A3 tH I (.tmp I) junk I tO fun W1 hp=>(hp.pick (l:=[Bd (A8 W g),BT g l junk]) [0,1] (by decide) I).own
  refine wU 8 false I (dF (by omega))<|xa<|zS I<|xe<|xd<|wP I<|xa<|zH<|Av (X:=Nat) (fun i=>[(0, .slice (some ⟨g,0,none⟩) l.length cap),(3, .int .i64 (i:Nat))]) (fun _=>[Bd (A8 W g),BT g l junk]) (fun i=>1<=i/\i<=l.length/\ET l i=l.take i) (fun i=>l.length-i) 1 ⟨Nat.le_refl _,by omega,Sw l⟩ ⟨I,I,tO⟩ [] I ?_
  rintro i ⟨hi1,hi2,hc⟩
  have hi1:1<=i:=hi1
  have hi2:i<=l.length:=hi2
  have hc:ET l i=l.take i:=hc
  refine xd<|At I<|?_
  by_cases hi:i<l.length
  rotate_left
  ·obtain rfl:i=l.length:=by omega
   have e:HG l=l:=by rw[HG,hc,List.take_length]
   refine wU 13 false I (dF (by omega))<|xa<|zS I<|xg<|xn<|Aa I<|xc<|?_
   rw[e]
   exact A3 tH I (.tmp I) junk I tO fun W1 hp=>(hp.pick (l:=[Bd (A8 W g),BT g l junk]) [0,1] (by decide) I).own
  refine wU 13 true I (dT (by omega))<|xa<|zR I<|xe<|zA<|zH<|zA<|zU<|?_
  have hm:i-1<l.length:=by omega
  obtain⟨x,hx⟩: ∃x,x=l[i]:=⟨_,rfl⟩
  obtain⟨y,hy⟩: ∃y,y=l[i-1]:=⟨_,rfl⟩
  have ex:l[i]? =some x:=by rw[List.getElem?_eq_getElem hi,hx]
  have ey:l[i-1]? =some y:=by rw[List.getElem?_eq_getElem hm,hy]
  have rx: ∀ {W1:World},Hp (Bn W) [Bd (A8 W g),BT g l junk] W1->Aj W1 g (0+i*2) [str (Ac x.1),str (Ac x.2)]:=fun hp=>by rw[hx];exact QO hp 1 rfl hi
  have ry: ∀ {W1:World},Hp (Bn W) [Bd (A8 W g),BT g l junk] W1->Aj W1 g (0+(i-1)*2) [str (Ac y.1),str (Ac y.2)]:=fun hp=>by rw[hy];exact QO hp 1 rfl hm
  refine Ay I<|qJ ?_
  refine qL 0 I I (fun W1 hp=>rx hp) I<|AY I<|qV 22 ((i-1:Nat):Int) I (show w64 ((i:Int)-1)=_ by rw[Ar (by omega) (by omega)];omega)<|qJ ?_
  refine qL 0 I I (fun W1 hp=>ry hp) I<|RP (Ac x.1) (Ac x.2) (Ac y.1) (Ac y.2) I I I I I ?_
  refine qU 25 (decide (x=y)) I Sb<|zD<|xa<|Ag I (fun hxy=> ?_) (fun hxy=> ?_)
  rotate_left
  ·have hne:x≠y:=of_decide_eq_false hxy
   refine zI<|xi<|Aa I<|wV 15 ((i+1:Nat):Int) I (A0 (by omega))<|wP I<|zC<|?_
   exact Al (i+1) ⟨by omega,hi,by
    rw[O0 hi (fun h=>hne (by rw[ex,ey] at h;exact Option.some.inj h.2)),hc,List.take_add_one,List.getElem?_eq_getElem hi];rfl⟩ (by show l.length-(i+1)<l.length-i;omega) ⟨rfl,rfl,trivial⟩ [] rfl
  have hxe:x=y:=of_decide_eq_true hxy
  have hsame:ET l (i+1)=l.take i:=by rw[Md (by omega) (by rw[ex,ey,hxe]),hc]
  refine xb<|Aa I<|Dv i tH I I I I I I I I (by omega) hcap ?_
  refine Ap 28 (.slice (some ⟨g,0+i*2,none⟩) (l.length-i) (cap-i)) I (by rw[if_neg (by omega)])<|wP I<|xk<|wP I<|xa<|zH<|?_
  refine Av (X:=Nat) (fun k=>[(0, .slice (some ⟨g,0,none⟩) l.length cap),(3, .int .i64 ((ET l (i+k)).length:Nat)),(4, .slice (some ⟨g,0+i*2,none⟩) (l.length-i) (cap-i)),(5, .int .i64 (k:Nat))]) (fun k=>[Bd (A8 W g),BT g (ET l (i+k)++l.drop (ET l (i+k)).length) junk])
   (fun k=>1<=k/\i+k<=l.length/\1<=(ET l (i+k)).length/\(ET l (i+k)).length+1<=i+k) (fun k=>l.length-i-k) 1 ⟨Nat.le_refl _,hi,by rw[hsame,List.length_take];omega,by rw[hsame,List.length_take];omega⟩ ⟨rfl,by rw[hsame,List.length_take,Nat.min_eq_left (by omega)];rfl,rfl,rfl,trivial⟩ [] (by rw[hsame,List.length_take,Nat.min_eq_left (by omega),List.take_append_drop];rfl) ?_
  rintro k ⟨hk1,hk2,hk3,hk4⟩
  have hk1:1<=k:=hk1
  have hk2:i+k<=l.length:=hk2
  have hk3:1<=(ET l (i+k)).length:=hk3
  have hk4:(ET l (i+k)).length+1<=i+k:=hk4
  obtain⟨C,hC⟩: ∃C,C=ET l (i+k):=⟨_,rfl⟩
  rw[<-hC] at hk3 hk4
  rw[<-hC]
  have hlen:(C++l.drop C.length).length=l.length:=by rw[List.length_append,List.length_drop];omega
  refine xd<|At I<|?_
  by_cases hlk:k<l.length-i
  ·refine wU 32 true I (dT (by omega))<|xa<|zR I<|xe<|zA<|zH<|zA<|zU<|?_
   have old: ∀j (hj:j<l.length),C.length<=j->(C++l.drop C.length)[j]'(by rw[hlen];exact hj)=l[j]:=fun j hj h=>by
    rw[List.getElem_append_right h,List.getElem_drop]
    congr 1;omega
   have h1:i+k<l.length:=by omega
   have h2:i+k-1<l.length:=by omega
   obtain⟨u,hu⟩: ∃u,u=l[i+k]:=⟨_,rfl⟩
   obtain⟨v,hv⟩: ∃v,v=l[i+k-1]:=⟨_,rfl⟩
   have eu:l[i+k]? =some u:=by rw[List.getElem?_eq_getElem h1,hu]
   have ev:l[i+k-1]? =some v:=by rw[List.getElem?_eq_getElem h2,hv]
   have ru: ∀ {W1:World},Hp (Bn W) [Bd (A8 W g),BT g (C++l.drop C.length) junk] W1->Aj W1 g (0+i*2+k*2) [str (Ac u.1),str (Ac u.2)]:=fun hp=>by
    have:=QO hp 1 rfl (i:=i+k) (by rw[hlen];exact h1)
    rw[old _ h1 (by omega), <-hu] at this
    rwa [show 0+i*2+k*2=0+(i+k)*2 by omega]
   have rv: ∀ {W1:World},Hp (Bn W) [Bd (A8 W g),BT g (C++l.drop C.length) junk] W1->Aj W1 g (0+i*2+(k-1)*2) [str (Ac v.1),str (Ac v.2)]:=fun hp=>by
    have:=QO hp 1 rfl (i:=i+k-1) (by rw[hlen];exact h2)
    rw[old _ h2 (by omega), <-hv] at this
    rwa [show 0+i*2+(k-1)*2=0+(i+k-1)*2 by omega]
   refine Ay I<|qJ ?_
   refine qL 0 I I (fun W1 hp=>ru hp) I<|AY I<|qV 41 ((k-1:Nat):Int) I (show w64 ((k:Int)-1)=_ by rw[Ar (by omega) (by omega)];omega)<|qJ ?_
   refine qL 0 I I (fun W1 hp=>rv hp) I<|Zt (Ac u.1) (Ac u.2) (Ac v.1) (Ac v.2) I I I I I ?_
   refine Fa 44 (.bool (!decide (u=v))) I (congrArg (fun b=>Value.bool (!b)) Sb)<|zD<|xa<|Ag I (fun huv=> ?_) (fun huv=> ?_)
   ·have hne:u≠v:=fun e=>by rw[e,dT rfl] at huv;cases huv
    have hnew:ET l (i+(k+1))=C++[u]:=by
     rw[show i+(k+1)=i+k+1 by omega,O0 h1 (fun h=>hne (by rw[eu,ev] at h;exact Option.some.inj h.2)), <-hC,hu]
    have hd:l.drop C.length=l[C.length]'(by omega)::l.drop (C.length+1):=List.drop_eq_getElem_cons (by omega)
    have hs1:BF (ptC (C++l.drop C.length)++junk) (0+C.length*2) (cvV u).cells.toList=ptC (C++[u]++l.drop (C++[u]).length)++junk:=by
     rw[hd,CZ,List.append_assoc,show 0+C.length*2=(ptC C).length+0 by rw[BK];omega,E6]
     simp only[List.length_append,List.length_cons,List.length_nil,Nat.zero_add,CZ,List.append_assoc]
     rfl
    have hs2:0+C.length*2+2<=(ptC (C++l.drop C.length)++junk).length:=by rw[List.length_append,BK,hlen];omega
    refine xb<|At I<|wJ ?_
    refine wL 0 I I (fun W1 hp=>ru hp) I<|wJ ?_
    refine AG 1 _ tH I I I I I I I I I I hs2 hs1 ?_
    exact xa<|zB<|Aa I<|wV 53 ((C.length+1:Nat):Int) I (A0 (by omega))<|wP I<|zC<|xi<|Aa I<|wV 34 ((k+1:Nat):Int) I (A0 (by omega))<|wP I<|zC<|Al (k+1) ⟨by omega,by omega,by rw[hnew,List.length_append];omega,by rw[hnew,List.length_append,List.length_singleton];omega⟩ (by show l.length-i-(k+1)<l.length-i-k;omega) ⟨I,by rw[hnew,List.length_append];rfl,I,I,tO⟩ [] (by rw[hnew];rfl)
   ·have he:u=v:=by
     cases hd:decide (u=v) with
     |true=>exact of_decide_eq_true hd
     |false=>rw[hd] at huv;cases huv
    have hsm:ET l (i+(k+1))=C:=by rw[show i+(k+1)=i+k+1 by omega,Md (by omega) (by rw[eu,ev,he]), <-hC]
    exact zI<|xi<|Aa I<|wV 34 ((k+1:Nat):Int) I (A0 (by omega))<|wP I<|zC<|Al (k+1) ⟨by omega,by omega,by rw[hsm];exact hk3,by rw[hsm];omega⟩ (by show l.length-i-(k+1)<l.length-i-k;omega) ⟨I,by rw[hsm];rfl,I,I,tO⟩ [] (by rw[hsm];rfl)
  have ek:i+k=l.length:=by omega
  rw[ek] at hC
  have hCC:HG l=C:=hC.symm
  refine wU 32 false I (dF (by omega))<|xa<|zS I<|xg<|xn<|?_
  have hd1:(ptC (l.drop C.length)).length=(l.length-C.length)*2:=by rw[BK,List.length_drop]
  refine Aa I<|Dv C.length tH I I I I I I I I (by omega) hcap ?_
  refine Ap 56 (.slice (some ⟨g,0+C.length*2,none⟩) (l.length-C.length) (cap-C.length)) I (by rw[if_neg (by omega)]) ?_
  refine Zf 1 (e:=105) (z:= .agg #[str [],str []]) Tryz.underlying132 Tryz.zeroValue105 I I I I I I I I I (Vt _) (by rw[Wh];show 0+C.length*2+_<=(ptC (C++l.drop C.length)++junk).length;rw[List.length_append,BK,hlen];omega) ?_
  refine xf<|Aa I<|BG C.length tH I I I I I I I I (by omega) ?_
  refine wP I<|xc<|xj<|zP<|?_
  have hs3:BF (ptC (C++l.drop C.length)++junk) (0+C.length*2) (Cf (Value.agg #[str [],str []]).cells.toList (l.length-C.length))=ptC C++(Cf (Value.agg #[str [],str []]).cells.toList (l.length-C.length)++junk):=by
   rw[CZ,List.append_assoc,show 0+C.length*2=(ptC C).length by rw[BK];omega]
   exact UP (ptC C) (ptC (l.drop C.length)) junk _ (by rw[hd1,Wh])
  rw[hCC]
  exact A3 tH I (.tmp I) (Cf (Value.agg #[str [],str []]).cells.toList (l.length-C.length)++junk) I tO fun W1 hp=>by
   rw[show[Bd (A8 W g),BT g (C++l.drop C.length) junk].set 1 _=[Bd (A8 W g),(⟨g,105,BF (ptC (C++l.drop C.length)++junk) (0+C.length*2) (Cf (Value.agg #[str [],str []]).cells.toList (l.length-C.length)),true,none⟩:Bx)] from rfl,hs3] at hp
   exact(hp.pick (l:=[Bd (A8 W g),BT g C (Cf (Value.agg #[str [],str []]).cells.toList (l.length-C.length)++junk)]) [0,1] (by decide) I).own
 refine key.mono ?_
 rintro e W' ⟨x,he,_,hb,hn'⟩
 exact⟨x,he,tO,HP hg I hb hn'⟩
theorem Cl.cells {W:World} {p:Option Addr} {l:List Ax} (h:Cl W p l):NO W p (ptC l):=by
 rcases h with rfl|⟨b,off,e,h⟩
 ·exact .inl I
 ·by_cases h0:l=[]
  ·exact .inl (by rw[h0];rfl)
  refine .inr ⟨b,off,e, ?_⟩
  have hpos:0<l.length:=List.length_pos_iff.2 h0
  refine⟨(h 0 hpos).lt,fun m u hu=> ?_⟩
  have hm:m<l.length*2:=by rw[<-BK];exact(List.getElem?_eq_some_iff.1 hu).1
  have hi:m/2<l.length:=by omega
  have hr:=h (m/2) hi
  have hd:=Zm hi
  rw[hd,List.getElem?_append_right (by rw[BK,List.length_take];omega),BK,List.length_take,Nat.min_eq_left (by omega),List.getElem?_append_left (by show _<2;omega)] at hu
  have:=hr.get (m-m/2*2) u hu
  rwa [show off+m/2*2+(m-m/2*2)=off+m by omega] at this
theorem PW (W:World) (p:Option Addr) (cap:Nat) (l:List Ax) (hn:l.length<=100000) (hA:Cl W p l) (hne:l≠[]):
  Ae Tryz.prog 278 #[slv p l.length cap] W (fun V:Vec=>V.val l.length) (fun V=>V.OK 2 l.length (ptC l)/\V.p≠none) (fun V=>[V.bx 105 (ptC l)]):=by
 have hc:=hA.cells
 obtain⟨b,off,rfl,hR⟩: ∃b off,p=some ⟨b,off,none⟩/\Aj W b off (ptC l):=by
  rcases hc with h|h
  ·exfalso
   have h2:l.length*2=0:=by rw[<-BK,h];rfl
   exact hne (List.length_eq_zero_iff.1 (by omega))
  ·exact h
 refine Ab Tryz.func278 I I I<|xb<|wP I<|xk<|wP I<|Yb tH I I I I I I I ?_
 refine xa<|zS I<|xm<|DT tH I I I I I ?_
 intro g
 refine wP I ?_
 refine EW (len:=0) (V:=⟨some g,0,[]⟩) (xs:=[]) 0 Tryz.vec132 rfl rfl rfl rfl rfl rfl rfl rfl rfl ⟨rfl,(fun h=>by cases h),fun _=>⟨Nat.le_refl _,Nat.zero_le _,rfl⟩⟩ (BK l) (fun W hp j u hj=> ?_) (FP _) (by simp only[maxLen];omega) (by omega) ?_
 ·rw[Addr.add_none]
  exact((hR.hp hp).get j u hj)
 intro V hV hp0
 refine wP I<|xc<|?_
 have e0:0+l.length=l.length:=Nat.zero_add _
 rw[e0,List.nil_append] at hV
 exact A3 tH I (.tmp I) V (by rw[e0]) ⟨hV,fun h=>hne (List.length_eq_zero_iff.1 (hp0 h))⟩ fun W hp=>Au.of_hp1 hp 0 I
theorem T9 (W:World) (g:Nat) (a b:Int) (h:Aj W g 0 [.int .i64 a, .int .i64 b]):
  Ae Tryz.prog 213 #[.slice (some ⟨g,0,none⟩) 2 2] W (fun _:Unit=> .int .i64 (if a=0 then b else a)) (fun _=>True) (fun _=>[]):=by
 refine Ab Tryz.func213 I I I ?_
 have h0:Aj W g (0+0*1) [.int .i64 a]:=⟨h.lt,fun j u hu=>h.get j u (by cases j with|zero=>exact hu|succ j=>cases hu)⟩
 have h1:Aj W g (0+1*1) [.int .i64 b]:=⟨h.lt,fun j u hu=>by
  cases j with
  |zero=>exact h.get 1 u hu
  |succ j=>cases hu⟩
 refine xb<|wP I<|xf<|wP I<|xk<|Ad I<|xa<|zH<|Av (X:=Nat) (fun k=>[(3, .int .i64 0),(6, .slice (some ⟨g,0,none⟩) 2 2),(7, .int .i64 2),(8, .int .i64 (k:Nat))]) (fun _=>[]) (fun k=>k<=2/\(0<k->a=0)/\(1<k->b=0)) (fun k=>2-k) 0 ⟨by omega,fun h=>absurd h (by omega),fun h=>absurd h (by omega)⟩ ⟨I,I,I,I,tO⟩ [] I ?_
 rintro k ⟨hk,ha,hb⟩
 refine xb<|wP I<|xl<|Ag I (fun h=> ?_) (fun h=> ?_)
 rotate_left
 ·have e:k=2:=by have h':decide ((k:Int)<2)=false:=h;rw[decide_eq_false_iff_not] at h';omega
  exact xg<|xn<|Aa I<|xc<|wR1 I I (by rw[if_pos (ha (by omega)),hb (by omega)])
 have hk:k<2:=by have h':decide ((k:Int)<2)=true:=h;rw[decide_eq_true_iff] at h';omega
 clear h
 rcases(show k=0\/k=1 by omega) with rfl|rfl
 ·refine xh<|wJ ?_
  refine wL 0 I I (fun W hp=>h0.hp hp) I<|wP I<|xf<|Ad I<|xa<|Ag I (fun hx=> ?_) (fun hx=> ?_)
  ·have hx:a≠0:=by have h':(a !=0)=true:=hx;simpa using h'
   exact xb<|Aa I<|xc<|xj<|zP<|wR1 I I (by rw[if_neg hx])
  ·have hx:a=0:=by have h':(a !=0)=false:=hx;simpa using h'
   exact zI<|xi<|Aa I<|zC<|Al 1 ⟨by omega,fun _=>hx,fun h=>absurd h (by omega)⟩ (by omega) ⟨I,I,I,I,tO⟩ [] I
 ·have ha:=ha (by omega)
  refine xh<|wJ ?_
  refine wL 0 I I (fun W hp=>h1.hp hp) I<|wP I<|xf<|Ad I<|xa<|Ag I (fun hx=> ?_) (fun hx=> ?_)
  ·exact xb<|Aa I<|xc<|xj<|zP<|wR1 I I (by rw[if_pos ha])
  ·have hx:b=0:=by have h':(b !=0)=false:=hx;simpa using h'
   exact zI<|xi<|Aa I<|zC<|Al 2 ⟨by omega,fun _=>ha,fun _=>hx⟩ (by omega) ⟨I,I,I,I,tO⟩ [] I
theorem Tc (p q:Ax) (zp:szQ p.1 8/\szQ p.2 8) (zq:szQ q.1 8/\szQ q.2 8) (W:World) (hv:AH W) (ht:A9 W):
  Ae Tryz.prog 212 #[cvV p,cvV q] W (fun _:Unit=> .int .i64 (LN p q)) (fun _=>True) (fun _=>[]):=by
 refine Ab Tryz.func212 I I I<|xb<|wF I I fun _=>wF I I fun _=>wP I<|zC<|?_
 rename_i b2 b3
 refine zE<|zA<|zU<|qP I<|qB 0 I I I<|qP I<|qB 1 I I I<|qC I I (fun W hp=>Dn p.1 q.1 (sz2 zp.1 zq.1 (by decide)) W (hv.hp hp) (ht.hp hp))<|qP I<|qB 0 I I I<|qP I<|qB 1 I I I<|qC I I (fun W hp=>Dn p.2 q.2 (sz2 zp.2 zq.2 (by decide)) W (hv.hp hp) (ht.hp hp))<|zD<|?_
 (refine As Tryz.hZ tH rfl rfl rfl rfl rfl rfl rfl rfl rfl rfl rfl ?_;intro)
 rename_i b15
 exact wC I I (fun W hp=>T9 W b15 (CT p.1 q.1) (CT p.2 q.2) (Aj.of_bx hp 2 I I))<|wP I<|xc<|wR1 I I I
theorem SF (l:List Ax) (h0:0<l.length) (hn:l.length<=4096) (hz: ∀x∈l,szQ x.1 8/\szQ x.2 8) (hm: ∀k (hk:k<l.length), ¬LN l[k] l[0]<0) (p:Option Addr) (cap:Nat) (W:World) (hA:Cl W p l) (hv:AH W) (ht:A9 W):
  Ae Tryz.prog 215 #[slv p l.length cap, .func (.func 212) #[] #[]] W (fun _:Unit=>cvV l[0]) (fun _=>True) (fun _=>[]):=by
 obtain⟨bq,oq,rfl,hrq⟩:=hA.at_ h0
 obtain⟨x,hx⟩: ∃x,x=l[0]:=⟨_,rfl⟩
 have hr0:=hrq 0 h0
 have zx:=hz _ (List.getElem_mem h0)
 rw[<-hx] at hr0 zx hm⊢
 refine Ab Tryz.func215 I I I<|xb<|wG I I fun _=>zC<|?_
 rename_i b4
 refine zE<|xd<|Ad I<|xa<|Ag I (fun h=> ?_) (fun h=> ?_)
 ·have h':decide (((l.length:Nat):Int)<1)=true:=h
  rw[decide_eq_true_iff] at h';omega
 clear h
 refine xm<|wP I<|wJ ?_
 refine wL 0 I I (fun W hp=>hr0.hp hp) I<|wG I I fun _=>wS 1 I I I<|zC<|?_
 rename_i b5
 refine zE<|xd<|wP I<|xa<|zH<|?_
 refine Av (X:=Nat) (fun k=>[(0,slv (some ⟨bq,oq,none⟩) l.length cap),(1, .func (.func 212) #[] #[]),(4, .pointer (some ⟨b4,0,none⟩)),(5, .pointer (some ⟨b5,0,none⟩)),(6, .int .i64 ((k+1:Nat):Int))]) (fun k=>[⟨b4,105,[str [],str []],true,none⟩,⟨b5,105,(cvV x).cells.toList,true,none⟩])
  (fun k=>k<l.length) (fun k=>l.length-k) 0 h0 ⟨rfl,rfl,rfl,rfl,rfl,trivial⟩ [] rfl ?_
 intro k hk
 refine xd<|At I<|xa<|Ag I (fun h=> ?_) (fun h=> ?_)
 rotate_left
 ·exact xg<|xn<|wB 1 I I I<|wS 0 I I I<|xc<|A3 tH I (.cell 0 I I I I I) () I tO fun W _=>Au.nil _ _
 have hk1:k+1<l.length:=by have h':decide (((k+1:Nat):Int)<(l.length:Nat))=true:=h;rw[decide_eq_true_iff] at h';omega
 clear h
 have zk:=hz _ (List.getElem_mem hk1)
 have hmk:=hm (k+1) hk1
 have hrk:=hrq (k+1) hk1
 obtain⟨y,hy⟩: ∃y,y=l[k+1]:=⟨_,rfl⟩
 rw[<-hy] at zk hmk hrk
 refine xe<|zA<|zH<|zA<|zU<|AY I<|qJ ?_
 refine qL 0 I I (fun W hp=>hrk.hp hp) I<|qB 1 I I I<|Ho (capt:=[]) I I I I I I (by kernel_rfl) (fun W hp=>Tc y x zk zx W (hv.hp hp) (ht.hp hp))<|qP I<|zD<|xa<|Ag I (fun hq=> ?_) (fun hq=> ?_)
 ·exact absurd (of_decide_eq_true hq) hmk
 exact zI<|xi<|Aa I<|wV 19 ((k+1+1:Nat):Int) I (A0 (by omega))<|wP I<|zC<|Al (k+1) hk1 (by show l.length-(k+1)<l.length-k;omega) ⟨I,I,I,I,I,tO⟩ [] I
theorem Od (l:List Ax) (h0:0<l.length) (hn:l.length<=100000) (p:Option Addr) (cap:Nat) (W:World) (hA:Cl W p l):
  Ae Tryz.prog 214 #[slv p l.length cap,cvV l[0]] W (fun _:Unit=> .int .i64 0) (fun _=>True) (fun _=>[]):=by
 obtain⟨g,off,rfl,hrow⟩:=hA.at_ h0
 have hr:=hrow 0 h0
 obtain⟨q,hq⟩: ∃q,q=l[0]:=⟨_,rfl⟩
 rw[<-hq] at hr⊢
 refine Ab Tryz.func214 I I I<|xb<|wF I I fun _=>wP I<|zC<|?_
 rename_i b3
 refine zE<|xd<|Ad I<|xa<|zH<|Av (X:=Unit) (fun _=>[(0,slv (some ⟨g,off,none⟩) l.length cap),(3,Ai b3),(7, .int .i64 (l.length:Nat)),(8, .int .i64 ((0:Nat):Int))]) (fun _=>[⟨b3,105,(cvV q).cells.toList,true,none⟩]) (fun _=>True) (fun _=>0) () tO ⟨I,I,I,I,tO⟩ [] I ?_
 intro _ _
 refine xb<|wP I<|wU 9 true I (dT (by omega))<|xl<|zR I<|xh<|Aa I<|xl<|zU<|qB 0 I I I<|Ay I<|qJ ?_
 refine qL 0 I I (fun W1 hp=>hr.hp hp) I<|RP (Ac q.1) (Ac q.2) (Ac q.1) (Ac q.2) I I I I I ?_
 exact qU 16 true I (by simp)<|zD<|xa<|zR I<|xb<|Aa I<|xc<|xj<|zP<|wR1 I I I
abbrev YW (ix:Nat->Nat) (P:Nat->Ax) (k:Nat):List Value:=[.int .i64 (ix k:Nat),cvV (P k)]
theorem UE (p:Option Addr) (n cap:Nat) (W:World):Ae Tryz.prog 283 #[slv p n cap] W (fun b:Nat=> .func (.func 330) #[] #[Ai b]) (fun _=>True) (fun b=>[⟨b,132,[slv p n cap],true,none⟩]):=by
 refine Ab Tryz.func283 I I I<|xb<|wF I I fun _=>wP I<|zC<|?_
 rename_i b
 exact xn<|Aa I<|xc<|A3 tH I (.tmp I) b I tO fun W1 hp=>Au.of_hp hp
theorem TG (p:Option Addr) (n cap:Nat) (W:World):Ae Tryz.prog 284 #[slv p n cap] W (fun b:Nat=> .func (.func 331) #[] #[Ai b]) (fun _=>True) (fun b=>[⟨b,132,[slv p n cap],true,none⟩]):=by
 refine Ab Tryz.func284 I I I<|xb<|wF I I fun _=>wP I<|zC<|?_
 rename_i b
 exact xn<|Aa I<|xc<|A3 tH I (.tmp I) b I tO fun W1 hp=>Au.of_hp hp
theorem W6 (l:List Ax) (b1:Nat) (p:Option Addr) (cap:Nat) (hn:l.length<1099511627776):Qq Tryz.prog 330 [Ai b1] l.length (YW (fun k=>k) (Az l)) (fun _=>YQ b1 p cap l):=by
 refine⟨fun y J Jx hN hB hA hU hY W hJ=> ?_⟩
 have hp0:=(hN _ _ W hJ).1.pts
 refine Da (args:=[.func (.yield y) #[] #[],Ai b1]) (J0:=J 0 []) (Jm:=fun W=> ∃L,J l.length L W) Tryz.func330 I I I hJ ?_
 refine xb<|wL 0 I I (fun W hp=>(hN _ _ W hp).1.var) I<|Aa I<|xa<|zH<|?_
 refine Di (X:=Nat×List (Nat×Obj)) (fun s=>[(0, .func (.yield y) #[] #[]),(1,Ai b1),(5,slv p l.length cap),(6, .int .i64 (l.length:Nat)),(7, .int .i64 (s.1:Nat))]) (fun s W=>J s.1 s.2 W)
  (fun s=>s.1<=l.length) (fun s=>l.length-s.1) (0,[]) (Nat.zero_le _) ⟨rfl,rfl,rfl,rfl,rfl,trivial⟩ (fun W hp=>hp) ?_
 rintro⟨i,L⟩ hi
 have hi:i<=l.length:=hi
 refine xb<|wP I<|?_
 by_cases hlt:i<l.length
 rotate_left
 ·refine wU 8 false I (dF (by omega))<|xl<|zS I<|xg<|?_
  exact FK I fun W hp=>⟨L,by
   have e:i=l.length:=by omega
   have hp:J i L W:=hp
   rw[e] at hp
   exact hp⟩
 refine wU 8 true I (dT (by omega))<|xl<|zR I<|xh<|?_
 obtain⟨g,off,hpe,hrow⟩: ∃g off,p=some ⟨g,off,none⟩/\ ∀W k L,J k L W-> ∀j,j<l.length->Aj W g (off+j*2) [str (Ac (Az l j).1),str (Ac (Az l j).2)]:=by
  obtain⟨g,off,e,_⟩:=hp0.at_ hlt
  refine⟨g,off,e,fun W1 k L1 h1 j hj=> ?_⟩
  obtain⟨g',off',e',h2⟩:=(hN _ _ W1 h1).1.pts.at_ hj
  rw[e] at e'
  cases e'
  rw[Dx hj]
  exact h2 j hj
 subst hpe
 refine wP I<|wJ ?_
 refine wL 0 I I (fun W hp=>hrow W _ _ hp i hlt) I<|LA (fun b W=>J i [(b, .cells (Value.agg #[str [],str []]).cells 105 (0,0))] W) I I I (Tryz.hZ.get I) (fun W W' b hp hb hl ho=>hA _ _ W W' b _ hp hb hl ho) fun b=> ?_
 refine wP I<|LU (cs:=[str [],str []]) (ty:=105) (fun W=>J i (PF b (Az l i)) W) tH I I I I I I (fun W hp=>(hN _ _ W hp).2 (b,_) (List.mem_cons_self ..)) I I I (fun W W' hp hu=>hU _ _ _ _ W W' hp hu) ?_
 refine xf<|Aa I<|wL 0 I I (fun W hp=>show Aj W b 0 (cvV (Az l i)).cells.toList from Aj.of_block ((hN _ _ W hp).2 (b,_) (List.mem_cons_self ..))) I<|?_
 have hYk: ∀W,J i (PF b (Az l i)) W->YieldAt (Fw none) 0 Tryz.prog y (YW (fun k=>k) (Az l) i).toArray W fun e W'=>(e= .returned (.bool true)/\J (i+1) (PF b (Az l i)) W')\/(e= .returned (.bool false)/\Jx W'):=fun W h=>hY _ _ W hlt h
 refine E7 (A1:=fun W=>J (i+1) (PF b (Az l i)) W) (A2:=Jx) I I I I I I hYk ?_ ?_
 rotate_left
 ·exact wP I<|xa<|zR I<|zO<|xj<|Cp I (fun W h=>h)
 exact wP I<|xa<|zS I<|zI<|xi<|wP I<|wV 17 ((i+1:Nat):Int) I (A0 (by omega))<|wP I<|zC<|Dh (i+1,PF b (Az l i)) hlt (by show l.length-(i+1)<l.length-i;omega) ⟨I,I,I,I,I,tO⟩ (fun W hp=>hp)
theorem Vn (l:List Ax) (b1:Nat) (p:Option Addr) (cap:Nat) (hn:l.length<1099511627776):Qq Tryz.prog 331 [Ai b1] l.length (YW (fun k=>l.length-1-k) (fun k=>Az l (l.length-1-k))) (fun _=>YQ b1 p cap l):=by
 refine⟨fun y J Jx hN hB hA hU hY W hJ=> ?_⟩
 have hp0:=(hN _ _ W hJ).1.pts
 refine Da (args:=[.func (.yield y) #[] #[],Ai b1]) (J0:=J 0 []) (Jm:=fun W=> ∃L,J l.length L W) Tryz.func331 I I I hJ ?_
 refine xb<|wL 0 I I (fun W hp=>(hN _ _ W hp).1.var) I<|Aa I<|wV 6 ((l.length:Int)-1-(0:Nat)) I (show w64 ((l.length:Int)-1)=_ by rw[Ar (by omega) (by omega)];omega)<|wP I<|xa<|zH<|?_
 refine Di (X:=Nat) (fun k=>[(0, .func (.yield y) #[] #[]),(1,Ai b1),(3, .int .i64 ((l.length:Int)-1-(k:Nat)))]) (fun k W=>J k [] W)
  (fun k=>k<=l.length) (fun k=>l.length-k) 0 (Nat.zero_le _) ⟨rfl,rfl,rfl,trivial⟩ (fun W hp=>hp) ?_
 intro k hk
 have hk:k<=l.length:=hk
 refine xd<|Aa I<|?_
 by_cases hlt:k<l.length
 rotate_left
 ·refine wU 8 false I (dF (by omega))<|xa<|zS I<|xg<|?_
  exact FK I fun W hp=>⟨[],by
   have e:k=l.length:=by omega
   have hp:J k [] W:=hp
   rw[e] at hp
   exact hp⟩
 refine wU 8 true I (dT (by omega))<|xa<|zR I<|xh<|?_
 obtain⟨g,off,hpe,hrow⟩: ∃g off,p=some ⟨g,off,none⟩/\ ∀W k L,J k L W-> ∀j,j<l.length->Aj W g (off+j*2) [str (Ac (Az l j).1),str (Ac (Az l j).2)]:=by
  obtain⟨g,off,e,_⟩:=hp0.at_ hlt
  refine⟨g,off,e,fun W1 k L1 h1 j hj=> ?_⟩
  obtain⟨g',off',e',h2⟩:=(hN _ _ W1 h1).1.pts.at_ hj
  rw[e] at e'
  cases e'
  rw[Dx hj]
  exact h2 j hj
 subst hpe
 have ej:(l.length:Int)-1-(k:Nat)=((l.length-1-k:Nat):Int):=by omega
 have hj:l.length-1-k<l.length:=by omega
 refine Aa I<|wV 12 ((l.length-1-k:Nat):Int) I ej<|wL 0 I I (fun W hp=>(hN _ _ W hp).1.var) I<|wP I<|wV 14 ((l.length-1-k:Nat):Int) I ej<|wJ ?_
 refine wL 0 I I (fun W hp=>hrow W _ _ hp (l.length-1-k) hj) I ?_
 have hYk: ∀W,J k [] W->YieldAt (Fw none) 0 Tryz.prog y (YW (fun k=>l.length-1-k) (fun k=>Az l (l.length-1-k)) k).toArray W fun e W'=>(e= .returned (.bool true)/\J (k+1) [] W')\/(e= .returned (.bool false)/\Jx W'):=fun W h=>hY _ _ W hlt h
 refine E7 (A1:=fun W=>J (k+1) [] W) (A2:=Jx) I I I I I I hYk ?_ ?_
 rotate_left
 ·exact wP I<|xa<|zR I<|zO<|xj<|Cp I (fun W h=>h)
 exact wP I<|xa<|zS I<|zI<|xi<|Aa I<|wV 10 ((l.length:Int)-1-((k+1:Nat):Int)) I (show w64 ((l.length:Int)-1-(k:Nat)-1)=_ by rw[Ar (by omega) (by omega)];omega)<|wP I<|zC<|Dh (k+1) hlt (by show l.length-(k+1)<l.length-k;omega) ⟨I,I,I,tO⟩ (fun W hp=>hp)
def D0 (P:Nat->Ax):Nat->List Ax
 |0=>[]
 |k+1=>P k::CO (P k) (D0 P k)
theorem Kk (p:Ax):CO p []=[]:=by simp[CO]
theorem Kb (p b:Ax):CO p [b]=[b]:=by simp[CO]
theorem JY {p a b:Ax} {t:List Ax} (h:F0 a b p<=0):CO p (b::a::t)=CO p (a::t):=by rw[CO,if_pos h]
theorem Jf {p a b:Ax} {t:List Ax} (h: ¬F0 a b p<=0):CO p (b::a::t)=b::a::t:=by rw[CO,if_neg h]
theorem Kp (p:Ax): ∀r,(CO p r).length<=r.length
 |[]=>by rw[Kk];exact Nat.le_refl _
 |[b]=>by rw[Kb];exact Nat.le_refl _
 |b::a::t=>by
  by_cases h:F0 a b p<=0
  ·rw[JY h]
   have:=Kp p (a::t)
   simp only[List.length_cons] at this⊢
   omega
  ·rw[Jf h];exact Nat.le_refl _
theorem Pm {p x:Ax}: ∀ {r:List Ax},x∈CO p r->x∈r
 |[],h=>by rwa [Kk] at h
 |[b],h=>by rwa [Kb] at h
 |b::a::t,h=>by
  by_cases c:F0 a b p<=0
  ·rw[JY c] at h
   exact List.mem_cons_of_mem _ (Pm h)
  ·rwa [Jf c] at h
theorem Jc (P:Nat->Ax): ∀k,(D0 P k).length<=k
 |0=>Nat.le_refl _
 |k+1=>by
  have h1:=Jc P k
  have h2:=Kp (P k) (D0 P k)
  show(CO (P k) (D0 P k)).length+1<=k+1
  omega
theorem SE {P:Nat->Ax} {x:Ax}: ∀ {k:Nat},x∈D0 P k-> ∃i,i<k/\x=P i
 |0,h=>absurd h List.not_mem_nil
 |k+1,h=>by
  rcases List.mem_cons.1 h with rfl|h
  ·exact⟨k,by omega,I⟩
  ·obtain⟨i,hi,e⟩:=SE (Pm h)
   exact⟨i,by omega,e⟩
theorem QL (l:List Ax): ∀(P:Nat->Ax),(∀i (h:i<l.length),P i=l[i])->D0 P l.length=EC l:=by
 have key: ∀(m:List Ax) (r:List Ax) (P:Nat->Ax) (j:Nat),D0 P j=r->(∀i (h:i<m.length),P (j+i)=m[i])->D0 P (j+m.length)=m.foldl (fun r p=>p::CO p r) r:=by
  intro m
  induction m with
  |nil=>exact fun r P j h _=>h
  |cons x m ih=>
   intro r P j h hP
   have e0:P j=x:=hP 0 (by simp)
   rw[List.length_cons,show j+(m.length+1)=j+1+m.length by omega]
   rw[List.foldl_cons]
   refine ih _ P (j+1) ?_ fun i hi=> ?_
   ·show P j::CO (P j) (D0 P j)=_
    rw[e0,h]
   ·have:=hP (i+1) (by rw[List.length_cons];omega)
    rw[show j+1+i=j+(i+1) by omega,this];rfl
 intro P hP
 have:=key l [] P 0 rfl (fun i h=>by rw[Nat.zero_add];exact hP i h)
 rwa [Nat.zero_add] at this
theorem TN (l:List Ax):D0 (Az l) l.length=EC l:=QL l _ fun _ h=>Dx h
theorem Tw (l:List Ax):D0 (fun k=>Az l (l.length-1-k)) l.length=EC l.reverse:=by
 have:=QL l.reverse (fun k=>Az l (l.length-1-k)) fun i h=>by
  rw[List.length_reverse] at h
  show Az l (l.length-1-i)=_
  rw[Dx (by omega),List.getElem_reverse]
 rwa [List.length_reverse] at this
theorem aV (p q r:Ax):decide (Vl p q r<=0)=decide (F0 p q r<=0):=by
 unfold Vl
 rw[Ro]
 exact decide_eq_decide.2 (by unfold F0;constructor<;>intro h<;>grind)
abbrev Ma (c:Nat) (x y z:Ax) (W:World):Prop:=Ae Tryz.prog 282 #[Ai c,cvV x,cvV y,cvV z] W (fun _:Unit=> .int .i64 (Vl x y z)) (fun _=>True) (fun _=>[])
theorem VA (a b:Ax) (t:List Ax) (j:List Value):ptC (b::a::t).reverse++j=ptC t.reverse++([str (Ac a.1),str (Ac a.2)]++([str (Ac b.1),str (Ac b.2)]++j)):=by
 rw[List.reverse_cons,List.reverse_cons,CZ,CZ,List.append_assoc,List.append_assoc];rfl
theorem VT (b:Ax) (t:List Ax) (j:List Value):ptC t.reverse++(ptC [b]++j)=ptC (b::t).reverse++j:=by
 rw[List.reverse_cons,CZ,List.append_assoc]
theorem VI {g cap:Nat} {j:List Value} {b:Ax} {t:List Ax} (h:(⟨some g,cap,j⟩:Vec).OK 2 (b::t).length (ptC (b::t).reverse)):(⟨some g,cap,ptC [b]++j⟩:Vec).OK 2 t.length (ptC t.reverse):=by
 obtain⟨h1,h2,h3⟩:=h.cap (by simp)
 refine⟨by rw[BK,List.length_reverse],(fun e=>by cases e),fun _=>⟨?_,h2, ?_⟩⟩
 ·have h1:t.length+1<=cap:=h1
  show t.length<=cap
  omega
 ·rw[BK,List.length_reverse] at h3
  show(ptC t.reverse).length+(ptC [b]++j).length=cap*2
  have h3:(t.length+1)*2+j.length=cap*2:=h3
  rw[BK,List.length_reverse,List.length_append]
  show t.length*2+(2+j.length)=cap*2
  omega
theorem MA (bk c gf:Nat) (lb:List Value) (hE:AS Tryz.prog gf=true) (m:Nat) (ix:Nat->Nat) (P:Nat->Ax) (Need:Nat->World->Prop) (hI:Qq Tryz.prog gf lb m (YW ix P) Need) (h0:0<m) (hm:m<=4096) (W:World) (hk:Aj W bk 0 [Ai c])
  (hN: ∀k W1,Below W.heap.size W W1->Need k W1) (hL: ∀i j k,i<m->j<m->k<m-> ∀W1,Below W.heap.size W W1->Ma c (P i) (P j) (P k) W1):
  Ae Tryz.prog 281 #[.func (.func gf) #[] lb.toArray,Ai bk] W (fun V:Vec=>V.val ((D0 P m).length-1)) (fun V=>V.OK 2 ((D0 P m).length-1) (ptC (D0 P m).tail.reverse)/\V.p≠none) (fun V=>[V.bx 105 (ptC (D0 P m).tail.reverse)]):=by
 obtain⟨S,hS⟩: ∃S,S=D0 P m:=⟨_,rfl⟩
 rw[<-hS]
 refine Ab Tryz.func281 I I I<|xb<|wP I<|xf<|wG I I fun _=>zC<|?_
 rename_i b4
 refine zE<|xd<|wP I<|xa<|zH<|C9 ?_
 refine EZ (X:=Nat×Vec) (fun x=>[lsB b4 (x.2.val (D0 P x.1).length),x.2.bx 105 (ptC (D0 P x.1).reverse)])
  (fun j x=>x.1=j/\x.2.OK 2 (D0 P x.1).length (ptC (D0 P x.1).reverse)) (fun _ _=>False) (0,Vec.empty) rfl hE hI (fun _=>rfl)
  ⟨rfl,Vec.OK.empty 2⟩ [] rfl (fun k x W1 _ hp=>hN k W1 hp.below) ?_ ?_ (fun _ _ _ _ _ h=>h.elim)
 ·rintro k ⟨k',O⟩ d l' rec L hk1 ⟨e1,hO⟩ hrec
  obtain rfl:k'=k:=e1
  have hk1:k'<m:=hk1
  have hO:O.OK 2 (D0 P k').length (ptC (D0 P k').reverse):=hO
  have hlen:=Jc P k'
  have hsu:D0 P (k'+1)=P k'::CO (P k') (D0 P k'):=rfl
  have hmem: ∀x∈D0 P k', ∃i,i<m/\x=P i:=fun x hx=>by
   obtain⟨i,hi,e⟩:=SE hx
   exact⟨i,by omega,e⟩
  obtain⟨r1,hr1⟩: ∃r1,r1=CO (P k') (D0 P k'):=⟨_,rfl⟩
  have hlr:r1.length<=(D0 P k').length:=by rw[hr1];exact Kp _ _
  rw[<-hr1] at hsu
  refine zB<|wG I I fun _=>wS 5 I I I<|zC<|?_
  rename_i b6
  refine BU 4 hrec I ?_
  refine zH<|GR (X:=Vec) (fun _=>[(1,Ai bk),(4,Ai b4),(6,Ai b6)]) (fun O=>[Bd L,lsB b4 (O.val r1.length),O.bx 105 (ptC r1.reverse),BL d,Bp l' rec .busy none,ptB b6 (Ac (P k').1) (Ac (P k').2)]) (fun O=>O.OK 2 r1.length (ptC r1.reverse)) ?_ ?_
  ·refine zH ?_
   refine Av (X:=List Ax×Vec) (fun _=>[(1,Ai bk),(4,Ai b4),(6,Ai b6)]) (fun s=>[Bd L,lsB b4 (s.2.val s.1.length),s.2.bx 105 (ptC s.1.reverse),BL d,Bp l' rec .busy none,ptB b6 (Ac (P k').1) (Ac (P k').2)])
    (fun s=>CO (P k') s.1=r1/\(∀x∈s.1,x∈D0 P k')/\s.1.length<=4096/\s.2.OK 2 s.1.length (ptC s.1.reverse)) (fun s=>s.1.length) (D0 P k',O) ⟨hr1.symm,fun _ h=>h,by show(D0 P k').length<=4096;omega,hO⟩ ⟨rfl,rfl,rfl,trivial⟩ [] rfl ?_
   rintro⟨r,⟨pO,cO,jO⟩⟩ ⟨i1,i2,i3,i4⟩
   have i1:CO (P k') r=r1:=i1
   have i2: ∀x∈r,x∈D0 P k':=i2
   have i3:r.length<=4096:=i3
   have i4:(⟨pO,cO,jO⟩:Vec).OK 2 r.length (ptC r.reverse):=i4
   rcases r with _|⟨b,_|⟨a,t⟩⟩
   ·obtain rfl:r1=[]:=by rw[<-i1,Kk]
    cases pO with
    |none=>
     refine zA<|zA<|zU<|qB 1 I I I<|Ay I<|Fa 12 (.bool false) I I<|qP I<|?_
     iterate 16 refine Bi I I ?_
     exact qP I<|zD<|xa<|zS I<|xg<|Ao (⟨none,cO,jO⟩:Vec) i4 ⟨I,I,I,tO⟩ [] I
    |some g=>
     refine zA<|zA<|zU<|qB 1 I I I<|Ay I<|Fa 12 (.bool false) I I<|qP I<|?_
     iterate 16 refine Bi I I ?_
     exact qP I<|zD<|xa<|zS I<|xg<|Ao (⟨some g,cO,jO⟩:Vec) i4 ⟨I,I,I,tO⟩ [] I
   ·obtain rfl:r1=[b]:=by rw[<-i1,Kb]
    cases pO with
    |none=>exact absurd (i4.nil rfl) (by simp)
    |some g=>
    refine zA<|zA<|zU<|qB 1 I I I<|Ay I<|Fa 12 (.bool false) I I<|qP I<|?_
    iterate 16 refine Bi I I ?_
    exact qP I<|zD<|xa<|zS I<|xg<|Ao (⟨some g,cO,jO⟩:Vec) i4 ⟨I,I,I,tO⟩ [] I
   ·cases pO with
    |none=>exact absurd (i4.nil rfl) (by simp)
    |some g=>
    have i3:t.length+1+1<=4096:=i3
    have el:(b::a::t).length=t.length+2:=rfl
    obtain⟨ia,ha,ea⟩:=hmem a (i2 a (by simp))
    obtain⟨ib,hb,eb⟩:=hmem b (i2 b (by simp))
    have hleft: ∀W1,Below W.heap.size W W1->Ma c a b (P k') W1:=fun W1 h=>by rw[ea,eb];exact hL ia ib k' ha hb hk1 W1 h
    have hA:(ptC t.reverse).length=t.length*2:=by rw[BK,List.length_reverse]
    refine zA<|zA<|zU<|qB 1 I I I<|Ay I<|qU 12 true I (dT (by rw[el];omega))<|qP I<|qL 0 I I (fun W1 hp=>hk.hp hp) I<|qB 1 I I I<|qB 1 I I I<|Ay I<|qV 18 ((t.length:Nat):Int) I (show w64 (((b::a::t).length:Int)-2)=_ by rw[el,Ar (by omega) (by omega)];omega)<|qI I I (by omega) (by rw[el];omega)<|qL 0 I I (fun W1 hp=>show Aj W1 g (0+t.length*2) [str (Ac a.1),str (Ac a.2)] from H4 hp 2 (A:=ptC t.reverse) (C:=[str (Ac b.1),str (Ac b.2)]++jO) I (VA a b t jO) (by rw[hA];omega)) I<|qB 1 I I I<|qB 1 I I I<|Ay I<|qV 24 ((t.length+1:Nat):Int) I (show w64 (((b::a::t).length:Int)-1)=_ by rw[el,Ar (by omega) (by omega)];omega)<|qI I I (by omega) (by rw[el];omega)<|qL 0 I I (fun W1 hp=>show Aj W1 g (0+(t.length+1)*2) [str (Ac b.1),str (Ac b.2)] from H4 hp 2 (A:=ptC t.reverse++[str (Ac a.1),str (Ac a.2)]) (C:=jO) I ((VA a b t jO).trans (by rw[List.append_assoc])) (by rw[List.length_append,hA];show 0+(t.length+1)*2=t.length*2+2;omega)) I<|qB 5 I I I<|?_
    refine qC I I (fun W1 hp=>hleft W1 hp.below)<|qP I<|qU 29 (decide (F0 a b (P k')<=0)) I (aV a b (P k'))<|qP I<|zD<|xa<|Ag I (fun hc=> ?_) (fun hc=> ?_)
    ·have hc':F0 a b (P k')<=0:=of_decide_eq_true hc
     refine xe<|zH<|zB<|wB 1 I I I<|wB 1 I I I<|Aa I<|wV 34 ((t.length+1:Nat):Int) I (show w64 (((b::a::t).length:Int)-1)=_ by rw[el,Ar (by omega) (by omega)];omega)<|?_
     refine BG (t.length+1) tH I I I I I I I I (by have h2:t.length+2<=cO:=(i4.cap (by simp)).1;show t.length+1<=cO;omega) ?_
     refine wS 1 I I I<|zC<|zN<|?_
     exact Al (a::t,(⟨some g,cO,ptC [b]++jO⟩:Vec)) ⟨by rw[<-i1,JY hc'],fun x hx=>i2 x (List.mem_cons_of_mem _ hx),by show t.length+1<=4096;omega,VI i4⟩ (by show t.length+1<t.length+1+1;omega) ⟨I,I,I,tO⟩ []
      (by show _=[Bd L,lsB b4 (.slice (some ⟨g,0,none⟩) (t.length+1) cO),(⟨g,105,ptC (a::t).reverse++(ptC [b]++jO),true,none⟩:Bx),BL d,Bp l' rec .busy none,ptB b6 (Ac (P k').1) (Ac (P k').2)];rw[VT];rfl)
    ·have hc': ¬F0 a b (P k')<=0:=of_decide_eq_false hc
     obtain rfl:r1=b::a::t:=by rw[<-i1,Jf hc']
     exact xg<|Ao (⟨some g,cO,jO⟩:Vec) i4 ⟨I,I,I,tO⟩ [] I
  ·intro O1 hO1
   have hO1:O1.OK 2 r1.length (ptC r1.reverse):=hO1
   refine zB<|wB 1 I I I<|wB 5 I I I<|As Tryz.hZ tH I I I I I I I I I I I fun bS=> ?_
   refine AN (V:=O1) (len:=r1.length) (xs:=ptC r1.reverse) 2 6 Tryz.vec132 (r1.length+1) (ptC (P k'::r1).reverse) I I I I I I I I I I I hO1 I I I (by rw[List.reverse_cons,CZ];rfl) (by simp only[maxLen];omega) (by omega) I ?_
   intro gO cO jO hO2
   exact wS 1 I I I<|zC<|zN<|By 4 (k'+1,(⟨some gO,cO,jO⟩:Vec)) hrec I ⟨I,by show(⟨some gO,cO,jO⟩:Vec).OK 2 (D0 P (k'+1)).length (ptC (D0 P (k'+1)).reverse);rw[hsu];exact hO2⟩ [_,_] (by rw[hsu];rfl)
 ·rintro⟨k',⟨pO,cO,jO⟩⟩ d l' rec ⟨e1,hO⟩
  obtain rfl:k'=m:=e1
  have hO:(⟨pO,cO,jO⟩:Vec).OK 2 (D0 P k').length (ptC (D0 P k').reverse):=hO
  have hlen:=Jc P k'
  have hne:S≠[]:=by
   obtain⟨j,rfl⟩: ∃j,k'=j+1:=⟨k'-1,by omega⟩
   rw[hS]
   exact List.cons_ne_nil _ _
  rw[<-hS] at hO hlen
  rw[<-hS]
  clear hS
  obtain⟨b,t,rfl⟩: ∃b t,S=b::t:=by
   cases S with
   |nil=>exact absurd rfl hne
   |cons b t=>exact⟨b,t,rfl⟩
  cases pO with
  |none=>exact absurd (hO.nil rfl) (by simp)
  |some g=>
  have hlen:t.length+1<=k':=hlen
  have el:(b::t).length=t.length+1:=rfl
  refine zN<|xn<|wB 0 I I I<|wB 0 I I I<|Aa I<|wV 43 (t.length:Nat) I (show w64 (((b::t).length:Int)-1)=_ by rw[el,Ar (by omega) (by omega)];omega)<|?_
  refine BG t.length tH I I I I I I I I (by have h2:t.length+1<=cO:=(hO.cap (by simp)).1;show t.length<=cO;omega) ?_
  refine wP I<|xc<|Co 2 I ?_
  exact A3 tH I (.tmp I) (⟨some g,cO,ptC [b]++jO⟩:Vec) I ⟨VI hO,by simp⟩ fun W1 hp=>by
   have h1:=hp.pick (l:=[(⟨g,105,ptC (b::t).reverse++jO,true,none⟩:Bx)]) [1] (by decide) rfl
   rw[<-VT] at h1
   exact Au.of_hp h1
theorem MM (p q:Rat) (hkp:okQ p) (hkq:okQ q) (h:Ch p q) (W0:World) (hv:AH W0) (ht:A9 W0):
  Ae Tryz.prog 63 #[str (Ac p),str (Ac q)] W0 (fun _:Unit=> .tuple #[.int .i64 (Hb (p.num*(q.den:Nat)) (q.num*(p.den:Nat))), .int .i64 0]) (fun _=>True) (fun _=>[]):=by
 have hlp:=AX hkp
 have hlq:=AX hkq
 refine Ab Tryz.func63 I I I<|xb<|Aa I<|xl<|AA (X:=Unit) (fun _=>[(0,str (Ac p)),(1,str (Ac q)),(4, .int .i64 0),(5, .int .i64 0)]) (fun _=>[]) (fun _=>True) ?_ ?_
 ·refine xb<|wP I<|?_
  by_cases hp:smQ p
  ·refine wC I I (fun W _=>(AT (Ac p) (by omega) W).cast ((BW p).trans (if_pos hp)))<|Ad I<|wG I I fun _=>wS 0 I I I<|wP I<|zC<|?_
   rename_i b6
   refine xn<|wP I<|xa<|zR I<|xb<|wP I<|?_
   by_cases hq:smQ q
   ·refine wC I I (fun W _=>(AT (Ac q) (by omega) W).cast ((BW q).trans (if_pos hq)))<|Ad I<|wG I I fun _=>wS 1 I I I<|wP I<|zC<|?_
    rename_i b8
    refine xn<|wP I<|xa<|zR I<|xb<|wP I<|wB 0 I I I<|wP I<|wB 1 I I I<|wP I<|wV 31 (p.num*(q.den:Nat)) I (CJ hp.1 (Dk q hq))<|wP I<|wB 1 I I I<|wP I<|wB 0 I I I<|wP I<|wV 36 (q.num*(p.den:Nat)) I (CJ hq.1 (Dk p hp))<|wC I I (fun W _=>Km _ _ W)<|Aa I<|?_
    exact xo<|wR2 I I I
   ·exact wC I I (fun W _=>(AT (Ac q) (by omega) W).cast ((BW q).trans (if_neg hq)))<|Ad I<|wG I I fun _=>wS 1 I I I<|wP I<|xf<|wP I<|xa<|zS I<|zI<|Ao () tO ⟨I,I,I,I,tO⟩ _ I
  ·exact wC I I (fun W _=>(AT (Ac p) (by omega) W).cast ((BW p).trans (if_neg hp)))<|Ad I<|wG I I fun _=>wS 0 I I I<|wP I<|xf<|wP I<|xa<|zS I<|zI<|Ao () tO ⟨I,I,I,I,tO⟩ _ I
 ·intro _ _
  refine xb<|wP I<|wC I I (fun W hp=>(Cu (Ac p) (by omega) W (hv.hp hp) (ht.hp hp)).cast (HU hkp))<|Ad I<|wG I I fun _=>wS 0 I I I<|wP I<|zC<|?_
  rename_i b10
  refine zE<|xd<|Aa I<|xa<|zS I<|xm<|wP I<|wC I I (fun W hp=>(Cu (Ac q) (by omega) W (hv.hp hp) (ht.hp hp)).cast (HU hkq))<|Ad I<|wG I I fun _=>wS 1 I I I<|wP I<|zC<|?_
  rename_i b12
  refine zE<|xd<|Aa I<|xa<|zS I<|xm<|wB 0 I I I<|wB 1 I I I<|wC I I (fun W hp=>Dm p q hkp hkq h.1 h.2 W (ht.hp hp))<|AE I<|wP I<|zC<|?_
  exact zE<|xd<|Aa I<|xa<|zS I<|xm<|Aa I<|wC I I (fun W _=>I8 _ _ h.1 h.2 W)<|At I<|xc<|wR2 I I I
theorem MT (p q:Rat) (hkp:okQ p) (hkq:okQ q) (hno: ¬Ch p q) (W0:World) (hv:AH W0) (ht:A9 W0):
  Ae Tryz.prog 63 #[str (Ac p),str (Ac q)] W0 (fun _:Unit=> .tuple #[.int .i64 0, .int .i64 4]) (fun _=>True) (fun _=>[]):=by
 obtain⟨s,hs⟩:=IH p q hkp hkq hno
 have hlp:=AX hkp
 have hlq:=AX hkq
 refine Ab Tryz.func63 I I I<|xb<|Aa I<|xl<|AA (X:=Unit) (fun _=>[(0,str (Ac p)),(1,str (Ac q)),(4, .int .i64 0),(5, .int .i64 0)]) (fun _=>[]) (fun _=>True) ?_ ?_
 ·refine xb<|wP I<|?_
  by_cases hp:smQ p
  ·refine wC I I (fun W _=>(AT (Ac p) (by omega) W).cast ((BW p).trans (if_pos hp)))<|Ad I<|wG I I fun _=>wS 0 I I I<|wP I<|zC<|?_
   rename_i b6
   refine xn<|wP I<|xa<|zR I<|xb<|wP I<|?_
   by_cases hq:smQ q
   ·exact absurd (UG ⟨hp,hq⟩).2.2.2 hno
   ·exact wC I I (fun W _=>(AT (Ac q) (by omega) W).cast ((BW q).trans (if_neg hq)))<|Ad I<|wG I I fun _=>wS 1 I I I<|wP I<|xf<|wP I<|xa<|zS I<|zI<|Ao () tO ⟨I,I,I,I,tO⟩ _ I
  ·exact wC I I (fun W _=>(AT (Ac p) (by omega) W).cast ((BW p).trans (if_neg hp)))<|Ad I<|wG I I fun _=>wS 0 I I I<|wP I<|xf<|wP I<|xa<|zS I<|zI<|Ao () tO ⟨I,I,I,I,tO⟩ _ I
 ·intro _ _
  refine xb<|wP I<|wC I I (fun W hp=>(Cu (Ac p) (by omega) W (hv.hp hp) (ht.hp hp)).cast (HU hkp))<|Ad I<|wG I I fun _=>wS 0 I I I<|wP I<|zC<|?_
  rename_i b10
  refine zE<|xd<|Aa I<|xa<|zS I<|xm<|wP I<|wC I I (fun W hp=>(Cu (Ac q) (by omega) W (hv.hp hp) (ht.hp hp)).cast (HU hkq))<|Ad I<|wG I I fun _=>wS 1 I I I<|wP I<|zC<|?_
  rename_i b12
  refine zE<|xd<|Aa I<|xa<|zS I<|xm<|wB 0 I I I<|wB 1 I I I<|wC I I (fun W hp=>hs W (ht.hp hp))<|AE I<|wP I<|zC<|?_
  exact zE<|xd<|Aa I<|xa<|zR I<|xb<|Ad I<|xo<|wR2 I I I
theorem MY (p q:Rat) (hkp:okQ p) (hkq:okQ q) (W0:World) (hv:AH W0) (ht:A9 W0):
  Ae Tryz.prog 63 #[str (Ac p),str (Ac q)] W0 (fun _:Unit=>cmV p q) (fun _=>True) (fun _=>[]):=by
 by_cases h:Ch p q
 ·exact(MM p q hkp hkq h W0 hv ht).cast (by rw[cmV,if_pos h,Mg])
 ·exact(MT p q hkp hkq h W0 hv ht).cast (by rw[cmV,if_neg h])
def erI:Bool->Int
 |true=>4
 |false=>0
abbrev caE (c:Nat) (s:Bool):Bx:=⟨c,266,[.int .i64 (erI s)],true,none⟩
abbrev caO (s:Bool):Obj:= .cells #[.int .i64 (erI s)] 266 (0,0)
structure KcP (c:Nat) (s:Bool) (W:World):Prop where
 o:W.heap[c]? =some (caO s)
 k: ∀W',Ij W W' c->AH W'/\A9 W'
theorem Ij.refl (W:World) (g:Nat):Ij W W g:=⟨rfl,rfl,rfl,Nat.le_refl _,fun _ _ _=>rfl⟩
theorem KcP.v {c:Nat} {s:Bool} {W:World} (h:KcP c s W):AH W:=(h.k W (Ij.refl W c)).1
theorem KcP.t {c:Nat} {s:Bool} {W:World} (h:KcP c s W):A9 W:=(h.k W (Ij.refl W c)).2
theorem KcP.at_ {c:Nat} {s s1:Bool} {W W1:World} {bs:List Bx} (h:KcP c s W) (hp:Hp (Bn W) (Bd (A8 W c)::caE c s1::bs) W1):KcP c s1 W1:=
 ⟨(hp.own.cell 1 (caE c s1) rfl (c,caO s1) (List.mem_cons_self ..)).1,fun _ h2=>h.k _ ((KZ h.o ⟨_,List.mem_cons_self ..⟩ (Hp.take (bxs:=[Bd (A8 W c),caE c s1]) (nb:=bs) hp)).trans h2)⟩
theorem KcP.of {c:Nat} {s:Bool} {W0 W:World} {bxs:List Bx} (hp:Hp W0 bxs W) (k:Nat) (hk:nth bxs k=some (caE c s)) (hv:AH W0) (ht:A9 W0):KcP c s W:=by
 rw[Bv] at hk
 have hc:=hp.own.cell k _ hk (c,caO s) (List.mem_cons_self ..)
 exact⟨hc.1,fun W2 h2=>⟨hv.below (h2.below hp.below hc.2),ht.below (h2.below hp.below hc.2)⟩⟩
theorem GV {c:Nat} {s1:Bool} {W W1:World} {bs:List Bx} (hp:Hp (Bn W) (Bd (A8 W c)::caE c s1::bs) W1):Au (Bn W) W1 [Bd (A8 W c),caE c s1]:=
 (Hp.take (bxs:=[Bd (A8 W c),caE c s1]) (nb:=bs) hp).own
structure CB (g:Nat) (vs:List Value) (c:Nat) {X:Type} (st:X->Bool) (val:X->Value) (Φ:X->Prop) (W:World):Prop where
 out:Calls Tryz.prog g vs.toArray W fun e W'=> ∃x,e= .returned (val x)/\Φ x/\Pg W W' c c (caO (st x))
theorem CB.enter {N c:Nat} {s:Bool} {f:Nat} {fn:Func} {cd:Code} {args:List Value} {X:Type} {st:X->Bool} {val:X->Value} {Φ:X->Prop} {W:World} (h:KcP c s W) (hf:Tryz.prog.funcs[f]? =some fn) (hb:fn.body=some cd) (hN:fn.ntmps=N) (hl:Nat.ble args.length N=true)
  (hw:WC none 0 Tryz.prog N [] cd (Hx Tryz.prog fn (Bn W) val Φ (fun x=>[Bd (A8 W c),caE c (st x)])) (LJ 0 args) (Hp (Bn W) [Bd (A8 W c),caE c s])):CB f args c st val Φ W:=by
 have key:=CY (X:=X) (val:=val) (Φ:=Φ) (nb:=fun x=>[Bd (A8 W c),caE c (st x)]) (Hp.enterT (B:=caE c s) rfl h.o) hf hb hN hl hw
 refine⟨key.mono ?_⟩
 rintro e W' ⟨x,he,hx,hb,hn⟩
 exact⟨x,he,hx,HP h.o I hb hn⟩
theorem CB.same {g c:Nat} {vs:List Value} {s:Bool} {v:Value} {W:World} (h:CB g vs c (fun _:Unit=>s) (fun _=>v) (fun _=>True) W) (ho:W.heap[c]? =some (caO s)):Ae Tryz.prog g vs.toArray W (fun _:Unit=>v) (fun _=>True) (fun _=>[]):=by
 refine⟨h.out.mono ?_⟩
 rintro e W' ⟨x,he,_,hn⟩
 refine⟨x,he,tO,⟨hn.os,hn.tape,hn.output,hn.size,fun i hi=> ?_⟩,Au.nil _ _⟩
 by_cases e:i=c
 ·subst e;exact hn.new.trans ho.symm
 ·exact hn.old i e hi
section
variable {r:Option Nat} {n:Nat} {W0:World} {N:Nat} {D:List Deferred} {ops:List Oper} {Q:Exit->Act->World->Prop} {o:Oper} {rest:List Oper} {env:Env} {bxs:List Bx}
theorem Tk (k c:Nat) {s:Bool} {cl:Call} {f:Operand} {g d:Nat} {vs:List Value} {X:Type} {st:X->Bool} {val:X->Value} {Φ:X->Prop} (hg:Aw ops N env o=some true) (hd:o.dst=some d) (ho:o.op= .call cl) (hc:cl.callee= .value f) (hf:evO N env f=some (.func (.func g) #[] #[])) (ha:Cn (evO N env) cl.args.toList=some vs) (hE:AS Tryz.prog g=true)
  (hk:nth bxs k=some (caE c s)) (hC: ∀W,Hp W0 bxs W->CB g vs c st val Φ W)
  (h: ∀x,Φ x->WL r n Tryz.prog N D ops Q rest ((d,val x)::env) (Hp W0 (bxs.set k (caE c (st x))))):WL r n Tryz.prog N D ops Q (o::rest) env (Hp W0 bxs):=
 F7 (X:=X) (val:=val) (Φ:=Φ) (capt:=[]) k (B:=caE c s) (L1:=[]) (L2:=[]) (b:=c) (ob:=caO s) (fun x=>caE c (st x)) (g':=fun _=>c) (o':=fun x=>caO (st x))
  hg hd ho hc hf ha hE hk rfl (fun _ _=>rfl) (fun W hp=>by rw[List.append_nil];exact(hC W hp).out) h
theorem CD (k c:Nat) {s s':Bool} {v:Value} {cl:Call} {f:Operand} {g d:Nat} {vs:List Value} (hg:Aw ops N env o=some true) (hd:o.dst=some d) (ho:o.op= .call cl) (hc:cl.callee= .value f) (hf:evO N env f=some (.func (.func g) #[] #[])) (ha:Cn (evO N env) cl.args.toList=some vs) (hE:AS Tryz.prog g=true)
  (hk:nth bxs k=some (caE c s)) (hC: ∀W,Hp W0 bxs W->CB g vs c (fun _:Unit=>s') (fun _=>v) (fun _=>True) W)
  (h:WL r n Tryz.prog N D ops Q rest ((d,v)::env) (Hp W0 (bxs.set k (caE c s')))):WL r n Tryz.prog N D ops Q (o::rest) env (Hp W0 bxs):=
 Tk k c hg hd ho hc hf ha hE hk hC (fun _ _=>h)
end
@[irreducible] def opR (ok : Prop) [Decidable ok] (r : Rat) (s : Bool) : Rat × Bool := match s with
 |true=>(0,true)
 |false=>if ok then(r,false) else(0,true)
theorem YC {ok:Prop} [Decidable ok] {r:Rat}:opR ok r true=(0,true):=by unfold opR;rfl
theorem Gi {ok:Prop} [Decidable ok] {r:Rat} (h:ok):opR ok r false=(r,false):=by unfold opR;exact if_pos h
theorem Zl {ok:Prop} [Decidable ok] {r:Rat} (h: ¬ok):opR ok r false=(0,true):=by unfold opR;exact if_neg h
theorem cI:okQ 0:=by
 have h:szQ 0 1:=by unfold szQ;decide+kernel
 exact h.ok (by decide)
theorem Zo {ok:Prop} [Decidable ok] {r:Rat} {s:Bool} (h:ok->okQ r):okQ (opR ok r s).1:=by
 cases s with
 |true=>rw[YC];exact cI
 |false=>
  by_cases c:ok
  ·rw[Gi c];exact h c
  ·rw[Zl c];exact cI
def kSb (s:Bool) (p q:Rat):Rat×Bool:=opR (M5 p q) (p-q) s
def kMu (s:Bool) (p q:Rat):Rat×Bool:=opR (If p q) (p*q) s
theorem Sj (s:Bool) (p q:Rat):okQ (kSb s p q).1:=Zo WY
theorem XU (s:Bool) (p q:Rat):okQ (kMu s p q).1:=Zo Xk
@[irreducible] def kOr (s : Bool) (p q : Rat) : Int × Bool := match s with
 |true=>(0,true)
 |false=>if Ch p q then(CT p q,false) else(0,true)
theorem cJ {p q:Rat}:kOr true p q=(0,true):=by unfold kOr;rfl
theorem Wb {p q:Rat} (h:Ch p q):kOr false p q=(CT p q,false):=by unfold kOr;exact if_pos h
theorem bW {p q:Rat} (h: ¬Ch p q):kOr false p q=(0,true):=by unfold kOr;exact if_neg h
theorem WX (c g:Nat) (a b:List UInt8) (W:World) (h:KcP c true W):
  CB 286 [Ai c, .func (.func g) #[] #[],str a,str b] c (fun _:Unit=>true) (fun _=>str [48]) (fun _=>True) W:=by
 refine CB.enter h Tryz.func286 I I I ?_
 refine xb<|wP I<|xk<|wP I<|AQ I I I I ?_
 exact wP I<|wB 1 I I I<|wP I<|xa<|zR I<|xb<|wP I<|xo<|A3 tH I (.tmp I) () I tO fun W1 hp=>GV hp
theorem T6 (c g:Nat) (a b v:List UInt8) (z:Bool) (W:World) (h:KcP c false W) (hE:AS Tryz.prog g=true)
  (hg: ∀W1,AH W1->A9 W1->Ae Tryz.prog g #[str a,str b] W1 (fun _:Unit=> .tuple #[str v, .int .i64 (erI z)]) (fun _=>True) (fun _=>[])):
  CB 286 [Ai c, .func (.func g) #[] #[],str a,str b] c (fun _:Unit=>z) (fun _=>if z=true then str [48] else str v) (fun _=>True) W:=by
 refine CB.enter h Tryz.func286 I I I ?_
 refine xb<|wP I<|xk<|wP I<|AQ I I I I ?_
 refine wP I<|wB 1 I I I<|wP I<|xa<|zS I<|xm<|Ad I<|Bz (capt:=[]) I I I I I I hE (fun W1 hp=>hg W1 (h.at_ (bs:=[]) hp).v (h.at_ (bs:=[]) hp).t)<|Ak I<|xk<|?_
 refine Aa I<|AQ I I I I ?_
 refine wP I<|wS 1 I I I<|xf<|?_
 cases z with
 |true=>
  exact Aa I<|xa<|zR I<|xb<|wP I<|xo<|A3 tH I (.tmp I) () I tO fun W1 hp=>GV hp
 |false=>
  exact Aa I<|xa<|zS I<|xm<|Aa I<|xc<|A3 tH I (.tmp I) () I tO fun W1 hp=>GV hp
theorem Oo (c g:Nat) (a b:List UInt8) (ok:Prop) [Decidable ok] (r:Rat) (s:Bool) (W:World) (h:KcP c s W) (hE:AS Tryz.prog g=true)
  (hg: ∀W1,AH W1->A9 W1->Ae Tryz.prog g #[str a,str b] W1 (fun _:Unit=>opV ok r) (fun _=>True) (fun _=>[])):
  CB 286 [Ai c, .func (.func g) #[] #[],str a,str b] c (fun _:Unit=>(opR ok r s).2) (fun _=>str (Ac (opR ok r s).1)) (fun _=>True) W:=by
 cases s with
 |true=>
  rw[YC]
  show CB _ _ c _ (fun _=>str (Ac 0)) _ W
  rw[BV]
  exact WX c g a b W h
 |false=>
  by_cases k:ok
  ·rw[Gi k]
   exact T6 c g a b (Ac r) false W h hE fun W1 hv ht=>(hg W1 hv ht).cast (O7 k)
  ·rw[Zl k]
   show CB _ _ c _ (fun _=>str (Ac 0)) _ W
   rw[BV]
   exact T6 c g a b [] true W h hE fun W1 hv ht=>(hg W1 hv ht).cast (UX k)
abbrev IP (g:Nat) (vs:List Value) (c:Nat) (x:Rat×Bool) (W:World):Prop:=CB g vs c (fun _:Unit=>x.2) (fun _=>str (Ac x.1)) (fun _=>True) W
theorem G4 (c:Nat) (s:Bool) (p q:Rat) (hp:okQ p) (hq:okQ q) (W:World) (h:KcP c s W):IP 221 [Ai c,str (Ac p),str (Ac q)] c (kSb s p q) W:=by
 refine CB.enter h Tryz.func221 I I I ?_
 refine xb<|wP I<|xf<|Ad I<|CD 1 c I I I I I I (by kernel_rfl) I (fun W1 hp1=>Oo c 37 (Ac p) (Ac q) (M5 p q) (p-q) s W1 (h.at_ (bs:=[]) hp1) (by kernel_rfl) (fun W2 hv ht=>Tj p q hp hq W2 hv ht)) ?_
 exact wP I<|xc<|A3 tH I (.tmp I) () I tO fun W1 hp=>GV hp
theorem M2 (c:Nat) (s:Bool) (p q:Rat) (hp:okQ p) (hq:okQ q) (W:World) (h:KcP c s W):IP 224 [Ai c,str (Ac p),str (Ac q)] c (kMu s p q) W:=by
 refine CB.enter h Tryz.func224 I I I ?_
 refine xb<|wP I<|xf<|Ad I<|CD 1 c I I I I I I (by kernel_rfl) I (fun W1 hp1=>Oo c 53 (Ac p) (Ac q) (If p q) (p*q) s W1 (h.at_ (bs:=[]) hp1) (by kernel_rfl) (fun W2 hv ht=>SS p q hp hq W2 hv ht)) ?_
 exact wP I<|xc<|A3 tH I (.tmp I) () I tO fun W1 hp=>GV hp
abbrev K0 (g:Nat) (vs:List Value) (c:Nat) (x:Int×Bool) (W:World):Prop:=CB g vs c (fun _:Unit=>x.2) (fun _=> .int .i64 x.1) (fun _=>True) W
theorem Fo (c:Nat) (s:Bool) (p q:Rat) (hp:okQ p) (hq:okQ q) (W:World) (h:KcP c s W):K0 327 [Ai c,str (Ac p),str (Ac q)] c (kOr s p q) W:=by
 cases s with
 |true=>
  rw[cJ]
  refine CB.enter h Tryz.func327 I I I ?_
  refine xb<|wP I<|xk<|wP I<|AQ I I I I ?_
  exact wP I<|wB 1 I I I<|wP I<|xa<|zR I<|xb<|wP I<|xo<|A3 tH I (.tmp I) () I tO fun W1 hp=>GV hp
 |false=>
  have one: ∀(v:Int) (z:Bool),cmV p q= .tuple #[.int .i64 v, .int .i64 (erI z)]->K0 327 [Ai c,str (Ac p),str (Ac q)] c (v,z) W:=fun v z hvz=>by
   refine CB.enter h Tryz.func327 I I I ?_
   refine xb<|wP I<|xk<|wP I<|AQ I I I I ?_
   refine wP I<|wB 1 I I I<|wP I<|xa<|zS I<|xm<|Aa I<|wC I I (fun W1 hp1=>(MY p q hp hq W1 (h.at_ (bs:=[]) hp1).v (h.at_ (bs:=[]) hp1).t).cast hvz)<|Ak I<|xf<|Aa I<|AQ I I I I ?_
   exact wP I<|wS 1 I I I<|xf<|Aa I<|xc<|A3 tH I (.tmp I) () I tO fun W1 hp=>GV hp
  by_cases k:Ch p q
  ·rw[Wb k]
   exact one (CT p q) false (if_pos k)
  ·rw[bW k]
   exact one 0 true (if_neg k)
theorem Xv {α:Type} {F:α->Bool} {l:List α} {i:Nat} (h:i<l.length):(l.drop i).any F=(F l[i]||(l.drop (i+1)).any F):=by
 rw[List.drop_eq_getElem_cons h,List.any_cons]
theorem PJ (g:Nat) (hE:AS Tryz.prog g=true) (F:PtS->Bool) (hg: ∀x W,Ae Tryz.prog g #[.agg #[str x.1,str x.2]] W (fun _:Unit=> .bool (F x)) (fun _=>True) (fun _=>[])) (xs:List PtS) (hn:xs.length<=100000) (p:Option Addr) (cap:Nat) (W:World) (hS:TD W p xs):
  Ae Tryz.prog 351 #[slv p xs.length cap, .func (.func g) #[] #[]] W (fun z:Int=> .int .i64 z) (fun z=>0<=z↔xs.any F=true) (fun _=>[]):=by
 refine Ab Tryz.func351 I I I<|xb<|wP I<|xk<|Ad I<|xa<|zH<|Av (X:=Nat) (fun i=>[(0,slv p xs.length cap),(1, .func (.func g) #[] #[]),(6,slv p xs.length cap),(7, .int .i64 (xs.length:Nat)),(8, .int .i64 (i:Nat))]) (fun _=>[]) (fun i=>i<=xs.length/\xs.any F=(xs.drop i).any F) (fun i=>xs.length-i) 0 ⟨Nat.zero_le _,by rw[List.drop_zero]⟩ ⟨I,I,I,I,I,tO⟩ [] I ?_
 intro i hi
 obtain⟨hi,hA⟩:i<=xs.length/\xs.any F=(xs.drop i).any F:=hi
 refine xb<|wP I<|?_
 by_cases hlt:i<xs.length
 rotate_left
 ·refine wU 9 false I (dF (by omega))<|xl<|zS I<|xg<|xn<|wP I<|xc<|?_
  rw[List.drop_of_length_le (by omega)] at hA
  exact A3 tH I (.tmp I) (-1:Int) I (by rw[hA];exact⟨fun h=>absurd h (by decide),fun h=>absurd (show false=true from h) (by decide)⟩) fun W _=>Au.nil _ _
 refine wU 9 true I (dT (by omega))<|xl<|zR I<|xh<|?_
 obtain⟨b,off,rfl,hrow⟩: ∃b off,p=some ⟨b,off,none⟩/\ ∀i (hi:i<xs.length),Aj W b (off+i*2) [str xs[i].1,str xs[i].2]:=by
  rcases hS with h|h
  ·rw[h] at hlt;exact absurd hlt (by simp)
  ·exact h
 have hr:=hrow i hlt
 rw[Xv hlt] at hA
 obtain⟨x,hq⟩: ∃x,x=xs[i]:=⟨_,rfl⟩
 rw[<-hq] at hr hA
 refine Aa I<|xf<|Ad I<|wJ ?_
 refine wL 0 I I (fun W1 hp=>hr.hp hp) I<|Bz (capt:=[]) I I I I I I hE (fun W1 _=>hg x W1)<|xa<|Ag I (fun hc=> ?_) (fun hc=> ?_)
 ·have hc:F x=true:=hc
  exact xb<|Aa I<|xc<|xj<|zP<|A3 tH I (.tmp I) ((i:Nat):Int) I ⟨fun _=>by rw[hA,hc];rfl,fun _=>by omega⟩ fun W _=>Au.nil _ _
 ·have hc:F x=false:=hc
  rw[hc,Bool.false_or] at hA
  exact zI<|xi<|wP I<|wV 18 ((i+1:Nat):Int) I (A0 (by omega))<|wP I<|zC<|Al (i+1) ⟨hlt,hA⟩ (by show xs.length-(i+1)<xs.length-i;omega) ⟨I,I,I,I,I,tO⟩ [] I
theorem L7 (g:Nat) (hE:AS Tryz.prog g=true) (F:PtS->Bool) (hg: ∀x W,Ae Tryz.prog g #[.agg #[str x.1,str x.2]] W (fun _:Unit=> .bool (F x)) (fun _=>True) (fun _=>[])) (xs:List PtS) (hn:xs.length<=100000) (p:Option Addr) (cap:Nat) (W:World) (hS:TD W p xs):
  Ae Tryz.prog 325 #[slv p xs.length cap, .func (.func g) #[] #[]] W (fun _:Unit=> .bool (xs.any F)) (fun _=>True) (fun _=>[]):=by
 refine Ab Tryz.func325 I I I<|xb<|wP I<|xf<|Aa I<|wD (X:=Int) I I (fun W1 hp=>PJ g hE F hg xs hn p cap W1 (hS.hp hp)) ?_
 intro z hz
 have hz:0<=z↔xs.any F=true:=hz
 refine wP I ?_
 refine Ap 8 (.bool (xs.any F)) I (congrArg Value.bool (by
  cases h:xs.any F with
  |true=>exact dT (hz.2 h)
  |false=>exact dF fun h2=>by rw[hz.1 h2] at h;cases h)) ?_
 exact wP I<|xc<|wR1 I I I
abbrev caF (c:Nat) (s:Bool):Bx:=⟨c,266,[.int .i64 (erI s)],false,none⟩
def kLf (s:Bool) (p q r:Ax):Int×Bool:=
 kOr (kMu (kMu (kSb (kSb (kSb (kSb s q.1 p.1).2 r.2 p.2).2 q.2 p.2).2 r.1 p.1).2 (kSb s q.1 p.1).1 (kSb (kSb s q.1 p.1).2 r.2 p.2).1).2 (kSb (kSb (kSb s q.1 p.1).2 r.2 p.2).2 q.2 p.2).1 (kSb (kSb (kSb (kSb s q.1 p.1).2 r.2 p.2).2 q.2 p.2).2 r.1 p.1).1).2
  (kMu (kSb (kSb (kSb (kSb s q.1 p.1).2 r.2 p.2).2 q.2 p.2).2 r.1 p.1).2 (kSb s q.1 p.1).1 (kSb (kSb s q.1 p.1).2 r.2 p.2).1).1
  (kMu (kMu (kSb (kSb (kSb (kSb s q.1 p.1).2 r.2 p.2).2 q.2 p.2).2 r.1 p.1).2 (kSb s q.1 p.1).1 (kSb (kSb s q.1 p.1).2 r.2 p.2).1).2 (kSb (kSb (kSb s q.1 p.1).2 r.2 p.2).2 q.2 p.2).1 (kSb (kSb (kSb (kSb s q.1 p.1).2 r.2 p.2).2 q.2 p.2).2 r.1 p.1).1).1
structure Qf (p q r:Ax):Prop where
 a:M5 q.1 p.1
 b:M5 r.2 p.2
 c:M5 q.2 p.2
 d:M5 r.1 p.1
 m:If (q.1-p.1) (r.2-p.2)
 n:If (q.2-p.2) (r.1-p.1)
 o:Ch ((q.1-p.1)*(r.2-p.2)) ((q.2-p.2)*(r.1-p.1))
theorem Q7 {ok:Prop} [Decidable ok] {r:Rat} {s:Bool}:(opR ok r s).2=false↔s=false/\ok:=by
 cases s with
 |true=>rw[YC];simp
 |false=>
  by_cases c:ok
  ·rw[Gi c];simp[c]
  ·rw[Zl c];simp[c]
theorem XZ {s:Bool} {p q:Rat}:(kOr s p q).2=false↔s=false/\Ch p q:=by
 cases s with
 |true=>rw[cJ];simp
 |false=>
  by_cases c:Ch p q
  ·rw[Wb c];simp[c]
  ·rw[bW c];simp[c]
theorem cQ {p q r:Ax} (h:Qf p q r):kLf false p q r=(Vl p q r,false):=by
 have a:kSb false q.1 p.1=(q.1-p.1,false):=Gi h.a
 have b:kSb false r.2 p.2=(r.2-p.2,false):=Gi h.b
 have c:kSb false q.2 p.2=(q.2-p.2,false):=Gi h.c
 have d:kSb false r.1 p.1=(r.1-p.1,false):=Gi h.d
 unfold kLf
 simp only[a,b,c,d]
 have m:kMu false (q.1-p.1) (r.2-p.2)=((q.1-p.1)*(r.2-p.2),false):=Gi h.m
 have n:kMu false (q.2-p.2) (r.1-p.1)=((q.2-p.2)*(r.1-p.1),false):=Gi h.n
 simp only[m,n]
 rw[Wb h.o];rfl
theorem fT {s:Bool} {p q r:Ax}:(kLf s p q r).2=false↔s=false/\Qf p q r:=by
 constructor
 ·intro h
  unfold kLf at h
  have h7:=XZ.1 h
  have h6:=Q7.1 h7.1
  have h5:=Q7.1 h6.1
  have h4:=Q7.1 h5.1
  have h3:=Q7.1 h4.1
  have h2:=Q7.1 h3.1
  have h1:=Q7.1 h2.1
  obtain⟨rfl,a⟩:=h1
  have ea:kSb false q.1 p.1=(q.1-p.1,false):=Gi a
  have b:=h2.2
  have c:=h3.2
  have d:=h4.2
  have eb:kSb false r.2 p.2=(r.2-p.2,false):=Gi b
  have ec:kSb false q.2 p.2=(q.2-p.2,false):=Gi c
  have ed:kSb false r.1 p.1=(r.1-p.1,false):=Gi d
  have m:=h5.2
  have n:=h6.2
  have o:=h7.2
  simp only[ea,eb,ec,ed] at m n o
  have em:kMu false (q.1-p.1) (r.2-p.2)=((q.1-p.1)*(r.2-p.2),false):=Gi m
  have en:kMu false (q.2-p.2) (r.1-p.1)=((q.2-p.2)*(r.1-p.1),false):=Gi n
  simp only[em,en] at o
  exact⟨I,a,b,c,d,m,n,o⟩
 ·rintro⟨rfl,h⟩
  rw[cQ h]
theorem KJ (c:Nat) (s:Bool) (p q r:Ax) (hp:okP p) (hq:okP q) (hr:okP r) (W:World) (h:KcP c s W):K0 282 [Ai c,cvV p,cvV q,cvV r] c (kLf s p q r) W:=by
 obtain⟨x1,e1⟩: ∃x,x=kSb s q.1 p.1:=⟨_,rfl⟩
 obtain⟨x2,e2⟩: ∃x,x=kSb x1.2 r.2 p.2:=⟨_,rfl⟩
 obtain⟨x3,e3⟩: ∃x,x=kSb x2.2 q.2 p.2:=⟨_,rfl⟩
 obtain⟨x4,e4⟩: ∃x,x=kSb x3.2 r.1 p.1:=⟨_,rfl⟩
 obtain⟨x5,e5⟩: ∃x,x=kMu x4.2 x1.1 x2.1:=⟨_,rfl⟩
 obtain⟨x6,e6⟩: ∃x,x=kMu x5.2 x3.1 x4.1:=⟨_,rfl⟩
 obtain⟨x7,e7⟩: ∃x,x=kOr x6.2 x5.1 x6.1:=⟨_,rfl⟩
 have eL:kLf s p q r=x7:=by rw[e7,e6,e5,e4,e3,e2,e1];rfl
 have o1:okQ x1.1:=by rw[e1];exact Sj _ _ _
 have o2:okQ x2.1:=by rw[e2];exact Sj _ _ _
 have o3:okQ x3.1:=by rw[e3];exact Sj _ _ _
 have o4:okQ x4.1:=by rw[e4];exact Sj _ _ _
 have o5:okQ x5.1:=by rw[e5];exact XU _ _ _
 have o6:okQ x6.1:=by rw[e6];exact XU _ _ _
 have c1: ∀W1,KcP c s W1->IP 221 [Ai c,str (Ac q.1),str (Ac p.1)] c x1 W1:=fun W1 h=>by rw[e1];exact G4 c s _ _ hq.1 hp.1 W1 h
 have c2: ∀W1,KcP c x1.2 W1->IP 221 [Ai c,str (Ac r.2),str (Ac p.2)] c x2 W1:=fun W1 h=>by rw[e2];exact G4 c _ _ _ hr.2 hp.2 W1 h
 have c3: ∀W1,KcP c x2.2 W1->IP 221 [Ai c,str (Ac q.2),str (Ac p.2)] c x3 W1:=fun W1 h=>by rw[e3];exact G4 c _ _ _ hq.2 hp.2 W1 h
 have c4: ∀W1,KcP c x3.2 W1->IP 221 [Ai c,str (Ac r.1),str (Ac p.1)] c x4 W1:=fun W1 h=>by rw[e4];exact G4 c _ _ _ hr.1 hp.1 W1 h
 have c5: ∀W1,KcP c x4.2 W1->IP 224 [Ai c,str (Ac x1.1),str (Ac x2.1)] c x5 W1:=fun W1 h=>by rw[e5];exact M2 c _ _ _ o1 o2 W1 h
 have c6: ∀W1,KcP c x5.2 W1->IP 224 [Ai c,str (Ac x3.1),str (Ac x4.1)] c x6 W1:=fun W1 h=>by rw[e6];exact M2 c _ _ _ o3 o4 W1 h
 have c7: ∀W1,KcP c x6.2 W1->K0 327 [Ai c,str (Ac x5.1),str (Ac x6.1)] c x7 W1:=fun W1 h=>by rw[e7];exact Fo c _ _ _ o5 o6 W1 h
 rw[eL]
 clear eL e1 e2 e3 e4 e5 e6 e7
 refine CB.enter h Tryz.func282 I I I ?_
 refine xb<|wF I I fun _=>wF I I fun _=>wF I I fun _=>wP I<|zC<|?_
 rename_i b5 b6 b7
 refine zE<|zA<|?_
 refine AV (X:=Unit) [true,true,true,true,true,false,true,true,true,true,true,false,false,false] (fun _=>[(0,Ai c),(5,Ai b5),(6,Ai b6),(7,Ai b7),(9,str (Ac x1.1)),(10,str (Ac x2.1))]) (fun _=>[Bd (A8 W c),caE c x2.2,ptB b5 (Ac p.1) (Ac p.2),ptB b6 (Ac q.1) (Ac q.2),ptB b7 (Ac r.1) (Ac r.2)])
  4 [Bd (A8 W c),caF c s,ptB b5 (Ac p.1) (Ac p.2),ptB b6 (Ac q.1) (Ac q.2),ptB b7 (Ac r.1) (Ac r.2)] Tryz.mixed (by kernel_rfl) ?_ ?_
 ·refine Ay I<|qB 3 I I I<|qP I<|qB 2 I I I<|Ay I<|qB 4 I I I<|qP I<|qB 2 I I I<|BR<|wX<|wZ<|CD 1 c I I I I I I (by kernel_rfl) I (fun W1 hp1=>c1 W1 (h.at_ (bs:=[ptB b5 (Ac p.1) (Ac p.2),ptB b6 (Ac q.1) (Ac q.2),ptB b7 (Ac r.1) (Ac r.2)]) hp1)) ?_
  refine zC<|Ah<|wX<|wZ<|CD 1 c I I I I I I (by kernel_rfl) I (fun W1 hp1=>c2 W1 (h.at_ (bs:=[ptB b5 (Ac p.1) (Ac p.2),ptB b6 (Ac q.1) (Ac q.2),ptB b7 (Ac r.1) (Ac r.2)]) hp1)) ?_
  refine zC<|Ah<|wX<|wZ<|wP I<|zC<|Ah<|wX<|wZ<|wP I<|zC<|Ah<|?_
  refine AF I (by((repeat (first|refine AK.same ?_|refine AK.off I ?_));exact tO)) ?_
  exact A7 () ⟨I,I,I,I,I,I,tO⟩ [0,1,2,3,4] (by decide) I
 intro _
 refine zE<|zA<|?_
 refine AV (X:=Unit) [true,true,true,true,true,false,true,true,true,true,true,false,false,false] (fun _=>[(0,Ai c),(9,str (Ac x1.1)),(10,str (Ac x2.1)),(11,str (Ac x3.1)),(12,str (Ac x4.1))]) (fun _=>[Bd (A8 W c),caE c x4.2])
  4 [Bd (A8 W c),caF c x2.2,ptB b5 (Ac p.1) (Ac p.2),ptB b6 (Ac q.1) (Ac q.2),ptB b7 (Ac r.1) (Ac r.2)] Tryz.mixed (by kernel_rfl) ?_ ?_
 ·refine Ay I<|qB 3 I I I<|qP I<|qB 2 I I I<|Ay I<|qB 4 I I I<|qP I<|qB 2 I I I<|BR<|wX<|wZ<|CD 1 c I I I I I I (by kernel_rfl) I (fun W1 hp1=>c3 W1 (h.at_ (bs:=[ptB b5 (Ac p.1) (Ac p.2),ptB b6 (Ac q.1) (Ac q.2),ptB b7 (Ac r.1) (Ac r.2)]) hp1)) ?_
  refine zC<|Ah<|wX<|wZ<|CD 1 c I I I I I I (by kernel_rfl) I (fun W1 hp1=>c4 W1 (h.at_ (bs:=[ptB b5 (Ac p.1) (Ac p.2),ptB b6 (Ac q.1) (Ac q.2),ptB b7 (Ac r.1) (Ac r.2)]) hp1)) ?_
  refine zC<|Ah<|wX<|wZ<|wP I<|zC<|Ah<|wX<|wZ<|wP I<|zC<|Ah<|?_
  refine AF I (by((repeat (first|refine AK.same ?_|refine AK.off I ?_));exact tO)) ?_
  exact A7 () ⟨I,I,I,I,I,tO⟩ [0,1] (by decide) I
 intro _
 refine xn<|At I<|CD 1 c I I I I I I (by kernel_rfl) I (fun W1 hp1=>c5 W1 (h.at_ (bs:=[]) hp1)) ?_
 refine Ad I<|CD 1 c I I I I I I (by kernel_rfl) I (fun W1 hp1=>c6 W1 (h.at_ (bs:=[]) hp1)) ?_
 refine CD 1 c I I I I I I (by kernel_rfl) I (fun W1 hp1=>c7 W1 (h.at_ (bs:=[]) hp1)) ?_
 exact wP I<|xc<|A3 tH I (.tmp I) () I tO fun W1 hp=>GV hp
theorem Ma.of {c:Nat} {p q r:Ax} (hp:okP p) (hq:okP q) (hr:okP r) (h:Qf p q r) {W:World} (hk:KcP c false W):Ma c p q r W:=by
 have:=KJ c false p q r hp hq hr W hk
 rw[cQ h] at this
 exact this.same hk.o
theorem Ia {c:Nat} {p q:Rat} (hp:okQ p) (hq:okQ q) (h:Ch p q) {W:World} (hk:KcP c false W):Ae Tryz.prog 327 #[Ai c,str (Ac p),str (Ac q)] W (fun _:Unit=> .int .i64 (CT p q)) (fun _=>True) (fun _=>[]):=by
 have:=Fo c false p q hp hq W hk
 rw[Wb h] at this
 exact this.same hk.o
theorem KcP.below {c:Nat} {s:Bool} {W W':World} (h:KcP c s W) (hb:Below W.heap.size W W'):KcP c s W':=
 ⟨(hb.block c (Array.getElem?_eq_some_iff.1 h.o).1).trans h.o,fun _ h2=>h.k _ (Ij.trans ⟨hb.os,hb.tape,hb.output,hb.size,fun x _ hx=>hb.block x hx⟩ h2)⟩
theorem KcP.hp {c:Nat} {s:Bool} {W0 W:World} {bxs:List Bx} (h:KcP c s W0) (hp:Hp W0 bxs W):KcP c s W:=h.below hp.below
theorem Me.of {c:Nat} {p q:Ax} (hp:okP p) (hq:okP q) (h1:Ch p.1 q.1) (h2:Ch p.2 q.2) {W:World} (hk:KcP c false W):Me c p q W:=by
 refine Ab Tryz.func280 I I I<|xb<|wF I I fun _=>wF I I fun _=>wP I<|xk<|Aa I<|wB 0 I I I<|wP I<|wB 1 I I I<|?_
 rcases HL p.1 q.1 with e|e|e
 ·exact wC I I (fun W hp1=>(Ia hp.1 hq.1 h1 (hk.hp hp1)).cast (congrArg (Value.int .i64) e))<|wP I<|xf<|Aa I<|xa<|zR I<|xb<|Aa I<|xo<|wR1 I I (by rw[LN,e,if_neg (by decide)])
 ·refine wC I I (fun W hp1=>(Ia hp.1 hq.1 h1 (hk.hp hp1)).cast (congrArg (Value.int .i64) e))<|wP I<|xf<|Aa I<|xa<|zS I<|xm<|Aa I<|wB 0 I I I<|wP I<|wB 1 I I I<|wC I I (fun W hp1=>Ia hp.2 hq.2 h2 (hk.hp hp1))<|wP I<|xa<|?_
  exact zO<|wR1 I I (by rw[LN,if_pos e])
 ·exact wC I I (fun W hp1=>(Ia hp.1 hq.1 h1 (hk.hp hp1)).cast (congrArg (Value.int .i64) e))<|wP I<|xf<|Aa I<|xa<|zR I<|xb<|Aa I<|xo<|wR1 I I (by rw[LN,e,if_neg (by decide)])
theorem Cl.keep {W W1:World} {p:Option Addr} {l:List Ax} {c:Nat} {s:Bool} (h:Cl W p l) (ho:W.heap[c]? =some (caO s)) (hK:Ij W W1 c):Cl W1 p l:=by
 rcases h with h|⟨b,off,e,h⟩
 ·exact .inl h
 refine .inr ⟨b,off,e,fun i hi=> ?_⟩
 have hr:=h i hi
 have hne:b≠c:=fun e=>by
  subst e
  have h0:=hr.get 0 (str (Ac l[i].1)) rfl
  simp only[World.cell?,ho] at h0
  generalize off+i*2+0=k at h0
  cases k with
  |zero=>simp at h0
  |succ k=>simp at h0
 refine⟨Nat.lt_of_lt_of_le hr.lt hK.size,fun j u hu=> ?_⟩
 have h1:=hr.get j u hu
 have h2:=hK.at_ b hne hr.lt
 simp only[World.cell?] at h1⊢
 rw[h2]
 exact h1
theorem Cl.kc {W W1:World} {p:Option Addr} {l:List Ax} {c:Nat} {s s1:Bool} {bs:List Bx} (h:Cl W p l) (ho:W.heap[c]? =some (caO s)) (hp:Hp (Bn W) (Bd (A8 W c)::caE c s1::bs) W1):Cl W1 p l:=
 h.keep ho (KZ ho ⟨_,List.mem_cons_self ..⟩ (Hp.take (bxs:=[Bd (A8 W c),caE c s1]) (nb:=bs) hp))
structure Y3 (l:List Ax) (a b:Nat):Prop where
 x:Ch (Az l a).1 (Az l b).1
 y:Ch (Az l a).2 (Az l b).2
 t: ∀d,d<l.length->Qf (Az l a) (Az l b) (Az l d)
def EU (l:List Ax):Prop:= ∀a,a<l.length-> ∀b,b<l.length->Y3 l a b
theorem PG (c:Nat) (l:List Ax) (h0:0<l.length) (hn:l.length<=4096) (hq: ∀p∈l,okP p) (p:Option Addr) (cap:Nat) (W:World) (hA:Cl W p l) (h:KcP c false W):
  CB 277 [Ai c,slv p l.length cap] c (fun s:Bool=>s) (fun s=> .int .i64 (erI s)) (fun s=>s=false↔EU l) W:=by
 obtain⟨g,off,hpe,_⟩:=hA.at_ h0
 have hrow: ∀ {W1:World} {s1:Bool} {bs:List Bx},Hp (Bn W) (Bd (A8 W c)::caE c s1::bs) W1-> ∀j,j<l.length->Aj W1 g (off+j*2) [str (Ac (Az l j).1),str (Ac (Az l j).2)]:=fun hp j hj=>by
  obtain⟨g',off',e',h2⟩:=(hA.kc h.o hp).at_ hj
  rw[hpe] at e'
  cases e'
  rw[Dx hj]
  exact h2 j hj
 have ok: ∀j,okP (Az l j):=fun j=>hq _ (J8 h0 j)
 subst hpe
 refine CB.enter h Tryz.func277 I I I ?_
 refine xb<|wP I<|xk<|Ad I<|xa<|zH<|Av (X:=Nat) (fun i=>[(0,Ai c),(1,slv (some ⟨g,off,none⟩) l.length cap),(11,slv (some ⟨g,off,none⟩) l.length cap),(12, .int .i64 (l.length:Nat)),(13, .int .i64 (i:Nat))]) (fun _=>[Bd (A8 W c),caE c false]) (fun i=>i<=l.length/\ ∀a,a<i-> ∀b,b<l.length->Y3 l a b) (fun i=>l.length-i) 0 ⟨Nat.zero_le _,fun _ h=>absurd h (Nat.not_lt_zero _)⟩ ⟨I,I,I,I,I,tO⟩ [] I ?_
 rintro i ⟨hi1,hi2⟩
 have hi1:i<=l.length:=hi1
 have hi2: ∀a,a<i-> ∀b,b<l.length->Y3 l a b:=hi2
 refine xb<|wP I<|?_
 by_cases hi:i<l.length
 rotate_left
 ·obtain rfl:i=l.length:=by omega
  exact wU 14 false I (dF (by omega))<|xl<|zS I<|xg<|xn<|wP I<|xc<|A3 tH I (.tmp I) false I ⟨fun _=>hi2,fun _=>rfl⟩ fun W1 hp=>GV hp
 refine wU 14 true I (dT (by omega))<|xl<|zR I<|xh<|?_
 obtain⟨P,hP⟩: ∃P,P=Az l i:=⟨_,rfl⟩
 have okPP:okP P:=hP▸ok i
 have rP: ∀ {W1:World} {s1:Bool} {bs:List Bx},Hp (Bn W) (Bd (A8 W c)::caE c s1::bs) W1->Aj W1 g (off+i*2) [str (Ac P.1),str (Ac P.2)]:=fun hp=>by rw[hP];exact hrow hp i hi
 refine wJ ?_
 refine wL 0 I I (fun W1 hp=>rP (s1:=false) (bs:=[]) hp) I<|wG I I fun _=>wS 2 I I I<|zC<|?_
 rename_i b6
 refine xn<|Ad I<|xa<|zH<|Av (X:=Nat) (fun k=>[(0,Ai c),(1,slv (some ⟨g,off,none⟩) l.length cap),(6,Ai b6),(11,slv (some ⟨g,off,none⟩) l.length cap),(12, .int .i64 (l.length:Nat)),(13, .int .i64 (i:Nat)),(17,slv (some ⟨g,off,none⟩) l.length cap),(18, .int .i64 (l.length:Nat)),(19, .int .i64 (k:Nat))]) (fun _=>[Bd (A8 W c),caE c false,ptB b6 (Ac P.1) (Ac P.2)]) (fun k=>k<=l.length/\ ∀b,b<k->Y3 l i b) (fun k=>l.length-k) 0 ⟨Nat.zero_le _,fun _ h=>absurd h (Nat.not_lt_zero _)⟩ ⟨I,I,I,I,I,I,I,I,I,tO⟩ [] I ?_
 rintro k ⟨hk1,hk2⟩
 have hk1:k<=l.length:=hk1
 have hk2: ∀b,b<k->Y3 l i b:=hk2
 refine xb<|wP I<|?_
 by_cases hk:k<l.length
 rotate_left
 ·obtain rfl:k=l.length:=by omega
  refine wU 20 false I (dF (by omega))<|xl<|zS I<|xg<|xi<|wP I<|wV 57 ((i+1:Nat):Int) I (A0 (by omega))<|wP I<|zC<|?_
  exact Al (i+1) ⟨hi,fun a ha=>by
   by_cases e:a=i
   ·subst e;exact hk2
   ·exact hi2 a (by omega)⟩ (by show l.length-(i+1)<l.length-i;omega) ⟨I,I,I,I,I,tO⟩ [_] I
 refine wU 20 true I (dT (by omega))<|xl<|zR I<|xh<|?_
 obtain⟨Q,hQ⟩: ∃Q,Q=Az l k:=⟨_,rfl⟩
 have okQQ:okP Q:=hQ▸ok k
 have rQ: ∀ {W1:World} {s1:Bool} {bs:List Bx},Hp (Bn W) (Bd (A8 W c)::caE c s1::bs) W1->Aj W1 g (off+k*2) [str (Ac Q.1),str (Ac Q.2)]:=fun hp=>by rw[hQ];exact hrow hp k hk
 refine wJ ?_
 refine wL 0 I I (fun W1 hp=>rQ (s1:=false) (bs:=[ptB b6 (Ac P.1) (Ac P.2)]) hp) I<|wG I I fun _=>wS 3 I I I<|zC<|?_
 rename_i b8
 obtain⟨x1,e1⟩: ∃x,x=kOr false P.1 Q.1:=⟨_,rfl⟩
 obtain⟨x2,e2⟩: ∃x,x=kOr x1.2 P.2 Q.2:=⟨_,rfl⟩
 have c1: ∀W1,KcP c false W1->K0 327 [Ai c,str (Ac P.1),str (Ac Q.1)] c x1 W1:=fun W1 h=>by rw[e1];exact Fo c _ _ _ okPP.1 okQQ.1 W1 h
 have c2: ∀W1,KcP c x1.2 W1->K0 327 [Ai c,str (Ac P.2),str (Ac Q.2)] c x2 W1:=fun W1 h=>by rw[e2];exact Fo c _ _ _ okPP.2 okQQ.2 W1 h
 have hx:x2.2=false↔Ch P.1 Q.1/\Ch P.2 Q.2:=by
  rw[e2,XZ,e1,XZ]
  exact⟨fun h=>⟨h.1.2,h.2⟩,fun h=>⟨⟨I,h.1⟩,h.2⟩⟩
 refine xn<|Aa I<|wB 2 I I I<|wP I<|wB 3 I I I<|CD 1 c I I I I I I (by kernel_rfl) I (fun W1 hp1=>c1 W1 (h.at_ (bs:=[ptB b6 (Ac P.1) (Ac P.2),ptB b8 (Ac Q.1) (Ac Q.2)]) hp1)) ?_
 refine xf<|Aa I<|wB 2 I I I<|wP I<|wB 3 I I I<|CD 1 c I I I I I I (by kernel_rfl) I (fun W1 hp1=>c2 W1 (h.at_ (bs:=[ptB b6 (Ac P.1) (Ac P.2),ptB b8 (Ac Q.1) (Ac Q.2)]) hp1)) ?_
 refine xf<|Ad I<|xa<|zH<|?_
 refine Av (X:=Nat×Bool) (fun s=>[(0,Ai c),(1,slv (some ⟨g,off,none⟩) l.length cap),(6,Ai b6),(8,Ai b8),(11,slv (some ⟨g,off,none⟩) l.length cap),(12, .int .i64 (l.length:Nat)),(13, .int .i64 (i:Nat)),(17,slv (some ⟨g,off,none⟩) l.length cap),(18, .int .i64 (l.length:Nat)),(19, .int .i64 (k:Nat)),(35,slv (some ⟨g,off,none⟩) l.length cap),(36, .int .i64 (l.length:Nat)),(37, .int .i64 (s.1:Nat))]) (fun s=>[Bd (A8 W c),caE c s.2,ptB b6 (Ac P.1) (Ac P.2),ptB b8 (Ac Q.1) (Ac Q.2)])
  (fun s=>s.1<=l.length/\(0<s.1->s.2=false)/\(s.2=false↔Ch P.1 Q.1/\Ch P.2 Q.2/\ ∀d,d<s.1->Qf P Q (Az l d))) (fun s=>l.length-s.1) (0,x2.2) ⟨Nat.zero_le _,fun h=>absurd h (Nat.not_lt_zero _),hx.trans ⟨fun h=>⟨h.1,h.2,fun _ hd=>absurd hd (Nat.not_lt_zero _)⟩,fun h=>⟨h.1,h.2.1⟩⟩⟩ ⟨rfl,rfl,rfl,rfl,rfl,rfl,rfl,rfl,rfl,rfl,rfl,rfl,rfl,trivial⟩ [] rfl ?_
 rintro⟨j,s⟩ ⟨hj1,hj2,hj3⟩
 have hj1:j<=l.length:=hj1
 have hj2:0<j->s=false:=hj2
 have hj3:s=false↔Ch P.1 Q.1/\Ch P.2 Q.2/\ ∀d,d<j->Qf P Q (Az l d):=hj3
 refine xb<|wP I<|?_
 by_cases hj:j<l.length
 rotate_left
 ·obtain rfl:j=l.length:=by omega
  obtain rfl:s=false:=hj2 h0
  have hall:=hj3.1 rfl
  refine wU 38 false I (dF (by omega))<|xl<|zS I<|xg<|xi<|wP I<|wV 56 ((k+1:Nat):Int) I (A0 (by omega))<|wP I<|zC<|?_
  exact Al (k+1) ⟨hk,fun b hb=>by
   by_cases e:b=k
   ·subst e;exact⟨by rw[<-hP, <-hQ];exact hall.1,by rw[<-hP, <-hQ];exact hall.2.1,by rw[<-hP, <-hQ];exact hall.2.2⟩
   ·exact hk2 b (by omega)⟩ (by show l.length-(k+1)<l.length-k;omega) ⟨I,I,I,I,I,I,I,I,I,tO⟩ [_] I
 refine wU 38 true I (dT (by omega))<|xl<|zR I<|xh<|?_
 obtain⟨Z,hZ⟩: ∃Z,Z=Az l j:=⟨_,rfl⟩
 have okZZ:okP Z:=hZ▸ok j
 have rZ: ∀ {W1:World} {s1:Bool} {bs:List Bx},Hp (Bn W) (Bd (A8 W c)::caE c s1::bs) W1->Aj W1 g (off+j*2) [str (Ac Z.1),str (Ac Z.2)]:=fun hp=>by rw[hZ];exact hrow hp j hj
 refine wJ ?_
 refine wL 0 I I (fun W1 hp=>rZ (s1:=s) (bs:=[ptB b6 (Ac P.1) (Ac P.2),ptB b8 (Ac Q.1) (Ac Q.2)]) hp) I<|wG I I fun _=>wS 4 I I I<|zC<|?_
 rename_i b10
 obtain⟨⟨v,s2⟩,e3⟩: ∃x,x=kLf s P Q Z:=⟨_,rfl⟩
 have hs2:s2=false↔s=false/\Qf P Q Z:=by
  have:=fT (s:=s) (p:=P) (q:=Q) (r:=Z)
  rw[<-e3] at this
  exact this
 have c3: ∀W1,KcP c s W1->K0 282 [Ai c,cvV P,cvV Q,cvV Z] c (v,s2) W1:=fun W1 h=>by rw[e3];exact KJ c _ _ _ _ okPP okQQ okZZ W1 h
 refine xn<|wP I<|wB 2 I I I<|wB 3 I I I<|wB 4 I I I<|CD 1 c I I I I I I (by kernel_rfl) I (fun W1 hp1=>c3 W1 (h.at_ (bs:=[ptB b6 (Ac P.1) (Ac P.2),ptB b8 (Ac Q.1) (Ac Q.2),ptB b10 (Ac Z.1) (Ac Z.2)]) hp1)) ?_
 refine Kj ?_
 cases s2 with
 |true=>
  have hno: ¬EU l:=fun ha=>by
   have hb:=ha i hi k hk
   have h1:Qf P Q Z:=by rw[hP,hQ,hZ];exact hb.t j hj
   have h2:s=false:=hj3.2 ⟨by rw[hP,hQ];exact hb.x,by rw[hP,hQ];exact hb.y,fun d hd=>by rw[hP,hQ];exact hb.t d (by omega)⟩
   exact absurd (hs2.2 ⟨h2,h1⟩) (by decide)
  refine xn<|wP I<|AQ I I I I ?_
  refine wP I<|wB 1 I I I<|wP I<|xa<|zR I<|xb<|wP I<|AQ I I I I ?_
  exact wP I<|wB 1 I I I<|wP I<|xc<|xj<|xj<|xj<|zP<|A3 tH I (.tmp I) true I ⟨fun h=>absurd h (by decide),fun h=>absurd h hno⟩ fun W1 hp=>GV hp
 |false=>
  obtain⟨rfl,htn⟩:=hs2.1 rfl
  have hall:=hj3.1 rfl
  refine xn<|wP I<|AQ I I I I ?_
  refine wP I<|wB 1 I I I<|wP I<|xa<|zS I<|zI<|xi<|wP I<|wV 55 ((j+1:Nat):Int) I (A0 (by omega))<|wP I<|zC<|?_
  exact Al (j+1,false) ⟨hj,fun _=>rfl,⟨fun _=>⟨hall.1,hall.2.1,fun d hd=>by
   by_cases e:d=j
   ·subst e;rw[<-hZ];exact htn
   ·exact hall.2.2 d (by have hd:d<j+1:=hd;omega)⟩,fun _=>rfl⟩⟩ (by show l.length-(j+1)<l.length-j;omega) ⟨I,I,I,I,I,I,I,I,I,I,I,I,I,tO⟩ [_] I
def N5 (x:PtS):Bool:=decide (30<x.1.length)||decide (30<x.2.length)
theorem RY (x:PtS) (W:World):Ae Tryz.prog 326 #[.agg #[str x.1,str x.2]] W (fun _:Unit=> .bool (N5 x)) (fun _=>True) (fun _=>[]):=by
 have e1: ∀a:List UInt8,decide (((⟨a.toArray⟩:ByteArray).size:Int)>30)=decide (30<a.length):=fun a=>decide_eq_decide.2 (by show((a.toArray.size:Nat):Int)>30↔_;rw[List.size_toArray];omega)
 refine Ab Tryz.func326 I I I<|xb<|wF I I fun _=>wP I<|xf<|wP I<|wB 0 I I I<|Aa I<|wU 6 (decide (30<x.1.length)) I (e1 x.1)<|?_
 cases hx:decide (30<x.1.length) with
 |true=>
  refine wP I ?_
  iterate 4 refine Af I I ?_
  exact Aa I<|xc<|wR1 I I (by rw[N5,hx];rfl)
 |false=>
  exact Aa I<|wB 0 I I I<|Aa I<|wU 11 (decide (30<x.2.length)) I (e1 x.2)<|Aa I<|xc<|wR1 I I (by rw[N5,hx];rfl)
theorem T5 (xs:List PtS) (hn:xs.length<=100000) (p:Option Addr) (cap:Nat) (W:World) (hS:TD W p xs):
  Ae Tryz.prog 276 #[slv p xs.length cap] W (fun _:Unit=> .bool (xs.any N5)) (fun _=>True) (fun _=>[]):=by
 exact Ab Tryz.func276 I I I<|xb<|wP I<|xf<|wP I<|wC I I (fun W1 hp=>L7 326 (by kernel_rfl) N5 RY xs hn p cap W1 (hS.hp hp))<|wP I<|xc<|wR1 I I I
theorem KcP.beside {c g:Nat} {s:Bool} {W0 W1 W2:World} {bxs:List Bx} {B:Bx} {o:Obj} (hp:Hp W0 bxs W1) (k j:Nat) (hk:nth bxs k=some (caE c s)) (hj:nth bxs j=some B) (hB:(g,o)∈B.blk) (hne:k≠j) (hv:AH W0) (ht:A9 W0) (h2:Ij W1 W2 g):KcP c s W2:=by
 rw[Bv] at hk hj
 have hc:=hp.own.cell k _ hk (c,caO s) (List.mem_cons_self ..)
 have hg:=hp.own.cell j _ hj (g,o) hB
 have ne:c≠g:=hp.own.apart k j _ _ hk hj hne (c,_) (List.mem_cons_self ..) (g,o) hB
 exact⟨(h2.at_ c ne (Array.getElem?_eq_some_iff.1 hc.1).1).trans hc.1,fun W3 h3=>⟨hv.below (h3.below (h2.below hp.below hg.2) hc.2),ht.below (h3.below (h2.below hp.below hg.2) hc.2)⟩⟩
def LS (l:List Ax):List Ax:=VU (HG (CK l))
def eK (l L:List Ax) (e:Int):Prop:=EU l/\3<=(LS l).length/\L=LS l/\e=0\/EU l/\(LS l).length<3/\L=[]/\e=12\/ ¬EU l/\L=[]/\e=4
theorem EU.tn {l:List Ax} (h:EU l) {x y z:Ax} (hx:x∈l) (hy:y∈l) (hz:z∈l):Qf x y z:=by
 obtain⟨i,hi,rfl⟩:=FX hx
 obtain⟨j,hj,rfl⟩:=FX hy
 obtain⟨k,hk,rfl⟩:=FX hz
 exact(h i hi j hj).t k hk
theorem EU.dv {l:List Ax} (h:EU l) {x y:Ax} (hx:x∈l) (hy:y∈l):Ch x.1 y.1/\Ch x.2 y.2:=by
 obtain⟨i,hi,rfl⟩:=FX hx
 obtain⟨j,hj,rfl⟩:=FX hy
 exact⟨(h i hi j hj).x,(h i hi j hj).y⟩
theorem XQ (l:List Ax) (x:Ax):x∈HG (CK l)↔x∈l:=((Wr (SZ l)).2 x).trans S7
theorem XR (l:List Ax):(HG (CK l)).length<=l.length:=by
 exact Nat.le_trans (SQ (CK l) (CK l).length) (Nat.le_of_eq (Pv l))
theorem TK (l L:List Ax) (e:Int) (hr:eK l L e) (hlong:EU l\/(l.map ptS).any N5=true) (h0:0<l.length) (h12:l.length<=12) (hq: ∀p∈l,okP p) (p:Option Addr) (cap:Nat) (W:World) (hA:Cl W p l) (hv:AH W) (ht:A9 W):
  Ae Tryz.prog 218 #[slv p l.length cap] W (fun V:Vec=> .tuple #[V.val L.length, .int .i64 e]) (fun V=>V.OK 2 L.length (ptC L)) (fun V=>[V.bx 105 (ptC L)]):=by
 have hne:l≠[]:=fun h=>by rw[h] at h0;exact absurd h0 (by decide)
 have nilR: ∀ {W1:World} {bs:List Bx},Hp W bs W1->Au W W1 [Vec.empty.bx 105 (ptC [])]:=fun _=>Own.one (fun p hp=>by cases hp) List.nodup_nil
 refine Ab Tryz.func218 I I I<|xb<|Aa I<|xl<|zH<|xb<|Ad I<|wU 13 false I (beq_eq_false_iff_ne.2 (by omega))<|wP I<|xa<|zS I<|xb<|Ad I<|?_
 refine wU 17 false I (dF (by omega))<|wP I<|xa<|zS I<|zI<|zN<|zE<|xd<|wP I<|wC I I (fun W1 hp=>Ie W1 p cap l (hA.hp hp) (by omega) hq (hv.hp hp) (ht.hp hp))<|wP I<|xf<|Aa I<|xa<|zS I<|zI<|?_
 refine xn<|An Tryz.hZ tH I I I I I I I I ?_
 refine wF I I fun _=>wG I I fun _=>wS 1 I I I<|zC<|?_
 rename_i bC b5
 refine zE<|xd<|wP I<|wC I I (fun W1 hp=>(by have:=T5 (l.map ptS) (by rw[List.length_map];omega) p cap W1 (hA.hp hp).b;rwa [List.length_map] at this))<|xa<|?_
 try refine Ba ?_
 refine AA (X:=Unit) (fun _=>[(0,slv p l.length cap),(5,Ai b5)]) (fun _=>[caE bC false,ckB b5 bC]) (fun _=>EU l) ?_ ?_
 ·cases hln:(l.map ptS).any N5 with
  |false=>
   have hok:EU l:=by
    rcases hlong with h|h
    ·exact h
    ·rw[hln] at h;cases h
   exact zS I<|zI<|Ao () hok ⟨I,I,tO⟩ [] I
  |true=>
   refine zR I<|xb<|wB 1 I I I<|wP I<|Tk 0 bC (s:=false) (X:=Bool) I I I I I I (by kernel_rfl) I (fun W1 hp=>PG bC l h0 (by omega) hq p cap W1 (hA.hp hp) (KcP.of hp 0 I hv ht)) ?_
   intro s hs
   have hs:s=false↔EU l:=hs
   cases s with
   |true=>
    have hno: ¬EU l:=fun h=>absurd (hs.2 h) (by decide)
    obtain⟨rfl,rfl⟩:L=[]/\e=4:=by
     rcases hr with h|h|h
     ·exact absurd h.1 hno
     ·exact absurd h.1 hno
     ·exact h.2
    exact wP I<|xf<|Aa I<|xa<|zR I<|xb<|Ad I<|xo<|A4 tH I (.tmp I) (.tmp I) Vec.empty I (Vec.OK.empty 2) fun W1 hp=>nilR hp
   |false=>
    exact wP I<|xf<|Aa I<|xa<|zS I<|zI<|Ao () (hs.1 I) ⟨I,I,tO⟩ [] I
 intro _ hok
 have hok:EU l:=hok
 refine xb<|wP I<|wD (X:=Vec) I I (fun W1 hp=>PW W1 p cap l (by omega) (hA.hp hp) hne) ?_
 rintro⟨pS,cS,jS⟩ ⟨hVS,hpS⟩
 obtain⟨gS,rfl⟩: ∃g,pS=some g:=Option.ne_none_iff_exists'.1 hpS
 have hcS:l.length<=cS:=(hVS.cap (by simp)).1
 refine wP I<|xf<|wP I<|wB 1 I I I<|wP I<|?_
 refine F7 (X:=Unit) (val:=fun _=> .tuple #[]) (Φ:=fun _=>True) (capt:=[]) 2 (B:=BT gS l jS) (L1:=[]) (L2:=[]) (b:=gS) (ob:= .cells (ptC l++jS).toArray 105 (0,0)) (fun _=>BT gS (CK l) jS) (g':=fun _=>gS) (o':=fun _=> .cells (ptC (CK l)++jS).toArray 105 (0,0))
  rfl rfl rfl rfl rfl rfl (by kernel_rfl) rfl rfl (fun _ _=>rfl) (fun W1 hp=> ?_) (fun _ _=> ?_)
 ·exact TX bC W1 gS cS l jS h12 (hp.own.cell 2 _ I (gS, .cells (ptC l++jS).toArray 105 (0,0)) (List.mem_cons_self ..)).1 fun W2 h2 x hx y hy=>Me.of (hq x hx) (hq y hy) (hok.dv hx hy).1 (hok.dv hx hy).2 (KcP.beside hp 0 2 I I (List.mem_cons_self ..) (by decide) hv ht h2)
 refine Kj ?_
 have hsl:=Pv l
 obtain⟨S,hS⟩: ∃S,S=HG (CK l):=⟨_,rfl⟩
 have hSm: ∀x,x∈S↔x∈l:=fun x=>by rw[hS];exact XQ l x
 have hSl:S.length<=l.length:=by rw[hS];exact XR l
 have hS0:0<S.length:=by
  have:Az l 0∈S:=(hSm _).2 (J8 h0 0)
  exact List.length_pos_of_mem this
 have hSP: ∀i,Az S i∈l:=fun i=>(hSm _).1 (J8 hS0 i)
 have hH:LS l=VU S:=by rw[hS];rfl
 refine xn<|wP I<|?_
 refine F7 (X:=List Value) (val:=fun _=> .slice (some ⟨gS,0,none⟩) S.length cS) (Φ:=fun _=>True) (capt:=[]) 2 (B:=BT gS (CK l) jS) (L1:=[]) (L2:=[]) (b:=gS) (ob:= .cells (ptC (CK l)++jS).toArray 105 (0,0)) (fun x=>BT gS S x) (g':=fun _=>gS) (o':=fun x=> .cells (ptC S++x).toArray 105 (0,0))
  rfl rfl rfl rfl rfl rfl (by kernel_rfl) rfl rfl (fun _ _=>rfl) (fun W1 hp=> ?_) ?_
 ·have:=MH W1 gS cS (CK l) jS (by omega) (by omega) (hp.own.cell 2 _ rfl (gS, .cells (ptC (CK l)++jS).toArray 105 (0,0)) (List.mem_cons_self ..)).1
  rw[<-hS,hsl] at this
  exact this
 intro jT _
 refine wP I<|xf<|Aa I<|zC<|?_
 have hleft: ∀ {c:Nat} (P:Nat->Ax),(∀i,P i∈l)-> ∀(i j k:Nat) {W1 W2:World},KcP c false W1->Below W1.heap.size W1 W2->Ma c (P i) (P j) (P k) W2:=fun {c} P hP i j k {W1 W2} hk hb=>Ma.of (hq _ (hP i)) (hq _ (hP j)) (hq _ (hP k)) (hok.tn (hP i) (hP j) (hP k)) (hk.below hb)
 refine xn<|Aa I<|wD (X:=Nat) I I (fun W1 _=>UE (some ⟨gS,0,none⟩) S.length cS W1) ?_
 intro b1 _
 refine wD (X:=Vec) (capt:=[Ai b5]) I I (fun W1 hp=>MA b5 bC 330 [Ai b1] (by kernel_rfl) S.length (fun k=>k) (Az S) (fun _=>YQ b1 (some ⟨gS,0,none⟩) cS S) (W6 S b1 (some ⟨gS,0,none⟩) cS (by omega)) hS0 (by omega) W1 (Aj.of_bx hp 1 I I)
  (fun _ W2 hb=>⟨(Aj.of_bx hp 3 rfl rfl).below (Nat.le_refl _) hb,(Cl.of_row (Aj.of_bx hp 2 rfl rfl)).below (Nat.le_refl _) hb⟩) (fun i j k _ _ _ W2 hb=>hleft (Az S) hSP i j k (KcP.of hp 0 rfl hv ht) hb)) ?_
 rintro⟨p1,c1,j1⟩ ⟨hV1,hp1⟩
 obtain⟨g1,rfl⟩: ∃g,p1=some g:=Option.ne_none_iff_exists'.1 hp1
 rw[TN] at hV1
 refine Aa I<|wD (X:=Nat) I I (fun W1 _=>TG (some ⟨gS,0,none⟩) S.length cS W1) ?_
 intro b2 _
 refine wD (X:=Vec) (capt:=[Ai b5]) I I (fun W1 hp=>MA b5 bC 331 [Ai b2] (by kernel_rfl) S.length (fun k=>S.length-1-k) (fun k=>Az S (S.length-1-k)) (fun _=>YQ b2 (some ⟨gS,0,none⟩) cS S) (Vn S b2 (some ⟨gS,0,none⟩) cS (by omega)) hS0 (by omega) W1 (Aj.of_bx hp 1 I I)
  (fun _ W2 hb=>⟨(Aj.of_bx hp 5 rfl rfl).below (Nat.le_refl _) hb,(Cl.of_row (Aj.of_bx hp 2 rfl rfl)).below (Nat.le_refl _) hb⟩) (fun i j k _ _ _ W2 hb=>hleft (fun k=>Az S (S.length-1-k)) (fun i=>hSP _) i j k (KcP.of hp 0 rfl hv ht) hb)) ?_
 rintro⟨p2,c2,j2⟩ ⟨hV2,hp2⟩
 obtain⟨g2,rfl⟩: ∃g,p2=some g:=Option.ne_none_iff_exists'.1 hp2
 rw[Tw] at hV2
 have sl1:=Jc (Az S) S.length
 have sl2:=Jc (fun k=>Az S (S.length-1-k)) S.length
 have q1:=TN S
 have q2:=Tw S
 refine As Tryz.hZ tH I I I I I I I I I I I fun bR=> ?_
 rw[q1] at sl1
 rw[q2] at sl2
 rw[q1,q2]
 obtain⟨A,eA⟩: ∃A,A=(EC S).tail.reverse:=⟨_,rfl⟩
 obtain⟨B,eB⟩: ∃B,B=(EC S.reverse).tail.reverse:=⟨_,rfl⟩
 have lA:(EC S).length-1=A.length:=by rw[eA,List.length_reverse,List.length_tail]
 have lB:(EC S.reverse).length-1=B.length:=by rw[eB,List.length_reverse,List.length_tail]
 have hHC:LS l=A++B:=by rw[hH,eA,eB];rfl
 rw[lA] at hV1
 rw[lB] at hV2
 rw[<-eA] at hV1
 rw[<-eB] at hV2
 rw[<-eA, <-eB,lA,lB]
 refine wD (X:=Vec) I I (fun W1 hp=>D2 W1 bR 2 (some ⟨g1,0,none⟩) (some ⟨g2,0,none⟩) A.length B.length c1 c2 (ptC A) (ptC B) (Aj.of_bx hp 7 I I) (.inr ⟨g1,0,I,D6 (Aj.of_bx hp 4 I I:Aj W1 g1 0 (ptC A++j1))⟩) (.inr ⟨g2,0,I,D6 (Aj.of_bx hp 6 I I:Aj W1 g2 0 (ptC B++j2))⟩) (BK A) (BK B) (FP _) (FP _) (by omega) (by omega)) ?_
 intro V hV
 have lAB:A.length+B.length=(LS l).length:=by rw[hHC,List.length_append]
 have hV:V.OK 2 (LS l).length (ptC (LS l)):=by
  have h1:V.OK 2 (A.length+B.length) (ptC A++ptC B):=hV
  rw[<-CZ, <-hHC,lAB] at h1
  exact h1
 have hAB:ptC A++ptC B=ptC (LS l):=by rw[hHC,CZ]
 rw[hAB,lAB]
 refine wP I<|xk<|wB 1 I I I<|AQ I I I I ?_
 refine wP I<|wB 0 I I I<|wP I<|xa<|zS I<|xe<|xd<|wP I<|?_
 obtain⟨pV,cV,jV⟩:=V
 by_cases hl3:(LS l).length<3
 ·obtain⟨rfl,rfl⟩:L=[]/\e=12:=by
   rcases hr with h|h|h
   ·exact absurd hl3 (by omega)
   ·exact h.2.2
   ·exact absurd hok h.1
  cases pV with
  |none=>
   have hz:=hV.nil rfl
   rw[hz]
   exact Aa I<|xa<|zR I<|xb<|Aa I<|xo<|A4 tH I (.tmp I) (.tmp I) Vec.empty I (Vec.OK.empty 2) fun W1 hp=>nilR hp
  |some gV=>
   exact Aa I<|wU 63 true I (dT (by omega))<|xa<|zR I<|xb<|Aa I<|xo<|A4 tH I (.tmp I) (.tmp I) Vec.empty I (Vec.OK.empty 2) fun W1 hp=>nilR hp
 ·obtain⟨rfl,rfl⟩:L=LS l/\e=0:=by
   rcases hr with h|h|h
   ·exact h.2.2
   ·exact absurd h.2.1 hl3
   ·exact absurd hok h.1
  cases pV with
  |none=>exact absurd (hV.nil rfl) (by omega)
  |some gV=>
   exact Aa I<|wU 63 false I (dF (by omega))<|xa<|zS I<|xm<|Ad I<|xc<|A4 tH I (.tmp I) (.tmp I) (⟨some gV,cV,jV⟩:Vec) I hV fun W1 hp=>Au.of_hp (hp.pick (l:=[(⟨some gV,cV,jV⟩:Vec).bx 105 (ptC (LS l))]) [8] (by decide) I)
abbrev f0:FrP:=⟨false,0,1,1,0⟩
abbrev S0:StR:=⟨0,5,0,10,5,5⟩
def GP:List Ax:=[(0,0),(10,0),(5,5),(5,5)]
def EF:List Ax:=[(0,0),(10,0),(5,5)]
theorem Ze:f0.OK:=⟨by decide,by decide, .inl rfl,by unfold szQ;decide+kernel,by unfold szQ;decide+kernel,by decide⟩
theorem Ud:f0.Go:=⟨Ze,by unfold szQ;decide+kernel,by unfold szQ;decide+kernel,by decide+kernel⟩
theorem cN:S0.OK:=⟨by unfold szQ;decide+kernel,by decide+kernel,by decide+kernel,by decide+kernel⟩
theorem aI: ∀x∈GP,szQ x.1 8/\szQ x.2 8:=by unfold szQ GP;decide+kernel
theorem YA: ∀k (hk:k<GP.length), ¬LN GP[k] GP[0]<0:=by decide+kernel
theorem Yp:HG GP=EF:=by decide+kernel
theorem HR (p q:Rat) (W:World):Ae Tryz.prog 209 #[str (Ac p),str (Ac q)] W (fun _:Unit=>cvV (q,p)) (fun _=>True) (fun _=>[]):=by
 refine Ab Tryz.func209 I I I<|xb<|wG I I fun _=>xf<|Aa I<|An Tryz.hZ tH I I I I I I I I ?_
 exact wS 0 I I I<|xc<|A3 tH I (.cell 0 I I I I I) () I tO fun W _=>Au.nil _ _
theorem Rs (W:World) (hv:AH W) (ht:A9 W):
  Ae Tryz.prog 144 #[frV f0,stV 0 S0] W (fun x:Nat×Nat×List Value=>slv (some ⟨x.1,0,none⟩) 3 x.2.1) (fun _=>True) (fun x=>[BT x.1 EF x.2.2]):=by
 have h40:0<GP.length:=by decide
 have a0:f0.at 0=0:=by decide+kernel
 have a5:f0.at 5=5:=by decide+kernel
 refine Ab Tryz.func144 I I I<|xb<|wF I I fun _=>wF I I fun _=>wP I<|zC<|?_
 rename_i b2 b3
 refine xn<|wB 0 I I I<|wP I<|wB 1 I I I<|wC I I (fun W1 hp=>(NS f0 Ze 0 (by unfold szQ;decide+kernel) W1 (hv.hp hp) (ht.hp hp)).cast (v':= .tuple #[str (Ac 0), .int .i64 0]) (by rw[a0]))<|Ak I<|xf<|wB 0 I I I<|wP I<|wB 1 I I I<|wC I I (fun W1 hp=>(NS f0 Ze 5 (by unfold szQ;decide+kernel) W1 (hv.hp hp) (ht.hp hp)).cast (v':= .tuple #[str (Ac 5), .int .i64 0]) (by rw[a5]))<|Ak I<|?_
 refine xf<|wP I<|xk<|wP I<|wB 0 I I I<|xa<|zS I<|xe<|zA<|zU<|AY I<|qB 1 I I I<|Ho (capt:=[]) I I I I I I (by kernel_rfl) (fun W1 _=>HR 0 0 W1)<|?_
 refine AY I<|qB 1 I I I<|Ho (capt:=[]) I I I I I I (by kernel_rfl) (fun W1 _=>HR 0 10 W1)<|AY I<|qB 1 I I I<|Ho (capt:=[]) I I I I I I (by kernel_rfl) (fun W1 _=>HR 5 5 W1)<|AY I<|qB 1 I I I<|Ho (capt:=[]) I I I I I I (by kernel_rfl) (fun W1 _=>HR 5 5 W1)<|zD<|?_
 (refine As Tryz.hZ tH rfl rfl rfl rfl rfl rfl rfl rfl rfl rfl rfl ?_;intro)
 rename_i bP
 refine wP I<|xk<|wP I<|wB 0 I I I<|wP I<|wB 0 I I I<|wP I<|EE Tryz.underlying4 I I I I I I ?_
 refine xa<|zS I<|xm<|wP I<|xf<|Ad I<|?_
 have hpts: ∀ {W0 W1:World} {bxs:List Bx},Hp W0 bxs W1->nth bxs 2=some (⟨bP,105,ptC GP,true,none⟩:Bx)->Cl W1 (some ⟨bP,0,none⟩) GP:=fun hp h1=>Cl.of_row (junk:=[]) (by rw[List.append_nil];exact Aj.of_bx hp 2 h1 rfl)
 refine wC I I (fun W1 hp=>(SF GP h40 (by decide) aI YA (some ⟨bP,0,none⟩) 4 W1 (hpts hp I) (hv.hp hp) (ht.hp hp)).cast (v':=cvV ((0:Rat),(0:Rat))) I)<|wC I I (fun W1 hp=>(show Ae Tryz.prog 214 #[slv (some ⟨bP,0,none⟩) 4 4,cvV ((0:Rat),(0:Rat))] W1 (fun _:Unit=> .int .i64 0) (fun _=>True) (fun _=>[]) from Od GP h40 (by decide) (some ⟨bP,0,none⟩) 4 W1 (hpts hp I)))<|wP I<|xl<|?_
 refine AV (X:= { V:Vec//V.OK 2 4 (ptC GP) }) [true,true,false,true,true,false,false,false,false] (fun V=>[(10,V.1.val 4)]) (fun V=>[V.1.bx 105 (ptC GP)])
  5 [⟨b2,59,(frV f0).cells.toList,true,none⟩,⟨b3,85,(stV 0 S0).cells.toList,true,none⟩,⟨bP,105,ptC GP,true,none⟩] Tryz.mixed (by kernel_rfl) ?_ ?_
 ·refine Cd I<|BR<|wX<|RS.cons ?_ (RS.cons ?_ (RS.nil))
  ·refine Dv 0 tH I I I I I I I I (by decide) (by decide) ?_;refine Ap 65 (.slice (some ⟨bP,0,none⟩) 4 4) I I ?_
   refine zC<|Ah<|wX<|wZ<|BG 0 tH I I I I I I I I (by decide) ?_
   refine zC<|Ah<|wX<|wZ<|As Tryz.hZ tH I I I I I I I I I I I fun bL1=> ?_
   refine zC<|Ah<|wX<|wZ<|?_
   refine wD (X:=Vec) rfl rfl (fun W1 hp=>D2 W1 bL1 2 (some ⟨bP,0,none⟩) (some ⟨bP,0,none⟩) 4 0 4 4 (ptC GP) [] (Aj.of_bx hp 3 rfl rfl) (Cl.cells (hpts hp rfl)) (.inl rfl) rfl rfl (FP _) (fun u hu=>absurd hu List.not_mem_nil) (by decide) (by decide)) ?_;intro V1 hV1
   refine zC<|Ah<|wX<|wZ<|wP I<|zC<|Ah<|?_
   rw[List.append_nil] at hV1;rw[List.append_nil];first|refine AF rfl (by((repeat (first|refine AK.same ?_|refine AK.off rfl ?_));exact trivial)) ?_|refine AR rfl (by kernel_rfl) ?_
   exact A7 ⟨V1,hV1⟩ ⟨I,tO⟩ [4] (by decide) I
  ·refine BG 0 tH I I I I I I I I (by decide) ?_
   refine zC<|Ah<|wX<|wZ<|?_
   refine Dv 0 tH I I I I I I I I (by decide) (by decide) ?_;refine Ap 65 (.slice (some ⟨bP,0,none⟩) 4 4) I I ?_
   refine zC<|Ah<|wX<|wZ<|As Tryz.hZ tH I I I I I I I I I I I fun bL1=> ?_
   refine zC<|Ah<|wX<|wZ<|?_
   refine wD (X:=Vec) rfl rfl (fun W1 hp=>D2 W1 bL1 2 (some ⟨bP,0,none⟩) (some ⟨bP,0,none⟩) 4 0 4 4 (ptC GP) [] (Aj.of_bx hp 3 rfl rfl) (Cl.cells (hpts hp rfl)) (.inl rfl) rfl rfl (FP _) (fun u hu=>absurd hu List.not_mem_nil) (by decide) (by decide)) ?_;intro V1 hV1
   refine zC<|Ah<|wX<|wZ<|wP I<|zC<|Ah<|?_
   rw[List.append_nil] at hV1;rw[List.append_nil];first|refine AF rfl (by((repeat (first|refine AK.same ?_|refine AK.off rfl ?_));exact trivial)) ?_|refine AR rfl (by kernel_rfl) ?_
   exact A7 ⟨V1,hV1⟩ ⟨I,tO⟩ [4] (by decide) I
 rintro⟨⟨pS,cS,jS⟩,hVS⟩
 have hVS:Vec.OK ⟨pS,cS,jS⟩ 2 4 (ptC GP):=hVS
 obtain⟨gS,rfl⟩: ∃g,pS=some g:=by
  cases pS with
  |none=>exact absurd (hVS.nil rfl) (by decide)
  |some g=>exact⟨g,rfl⟩
 have hcS:4<=cS:=(hVS.cap (by simp)).1
 refine xn<|wP I<|?_
 refine F7 (X:=List Value) (val:=fun _=> .slice (some ⟨gS,0,none⟩) 3 cS) (Φ:=fun _=>True) (capt:=[]) 0 (B:=BT gS GP jS) (L1:=[]) (L2:=[]) (b:=gS) (ob:= .cells (ptC GP++jS).toArray 105 (0,0)) (fun x=>BT gS EF x) (g':=fun _=>gS) (o':=fun x=> .cells (ptC EF++x).toArray 105 (0,0))
  rfl rfl rfl rfl rfl rfl (by kernel_rfl) rfl rfl (fun _ _=>rfl) (fun W1 hp=> ?_) ?_
 ·have:=MH W1 gS cS GP jS (by decide) hcS (hp.own.cell 0 _ rfl (gS, .cells (ptC GP++jS).toArray 105 (0,0)) (List.mem_cons_self ..)).1
  rw[Yp] at this
  exact this
 intro jT _
 refine wP I<|zC<|?_
 have hrow: ∀ {W0 W1:World} {bxs:List Bx},Hp W0 bxs W1->nth bxs 0=some (BT gS EF jT)-> ∀k (hk:k<3),Aj W1 gS (0+k*2) [str (Ac (EF[k]'hk).1),str (Ac (EF[k]'hk).2)]:=fun hp h1 k hk=>by
  obtain⟨g,o,e,h⟩:=(Cl.of_row (l:=EF) (junk:=jT) (Aj.of_bx hp 0 h1 rfl)).at_ (show 0<3 by decide)
  cases e
  exact h k hk
 refine zE<|zA<|zA<|zU<|qP I<|qI I I (by decide) (by decide)<|qL 0 I I (fun W1 hp=>hrow hp I 0 (by decide)) I<|Cd I<|qI I I (by decide) (by decide)<|qL 0 I I (fun W1 hp=>hrow hp I 2 (by decide)) I<|RP (Ac 0) (Ac 0) (Ac 5) (Ac 5) I I I I I ?_
 exact qU 82 false I ((Sb (x:=(0,0)) (y:=(5,5))).trans (by decide+kernel))<|zD<|xa<|zS I<|xm<|Aa I<|xc<|A3 tH I (.tmp I) (gS,cS,jT) I tO fun W1 hp=>Au.of_hp hp
theorem ML (W:World) (hv:AH W) (ht:A9 W):
  Ae Tryz.prog 82 #[frV f0,stV 0 S0] W (fun x:Nat×Nat×List Value=> .tuple #[slv (some ⟨x.1,0,none⟩) 3 x.2.1, .int .i64 0]) (fun _=>True) (fun x=>[BT x.1 EF x.2.2]):=by
 refine Ab Tryz.func82 I I I<|xb<|wF I I fun _=>wF I I fun _=>Aa I<|xk<|wB 0 I I I<|wB 1 I I I<|wC I I (fun W1 hp=>JK f0 Ud 0 S0 cN (by decide+kernel) W1 (hv.hp hp) (ht.hp hp))<|wP I<|xf<|Aa I<|xa<|?_
 refine zS I<|xm<|wB 0 I I I<|wB 1 I I I<|wD (X:=Nat×Nat×List Value) I I (fun W1 hp=>Rs W1 (hv.hp hp) (ht.hp hp)) ?_
 intro x _
 exact Aa I<|xc<|A4 tH I (.tmp I) (.tmp I) x I tO fun W1 hp=>Au.of_hp (hp.pick (l:=[BT x.1 EF x.2.2]) [2] (by decide) I)
abbrev fK (F S A:Value):Value:= .agg #[F,S,A]
theorem SL (p:Option Addr) (n cap:Nat) (S A:Value) (m:Nat) (hm:m<n) (l r lo hi:List UInt8) (W:World):
  Ae Tryz.prog 86 #[fK (slv p n cap) S A,Im m l r lo hi] W (fun _:Unit=> .int .i64 0) (fun _=>True) (fun _=>[]):=by
 refine Ab Tryz.func86 I I I<|xb<|wF I I fun _=>wF I I fun _=>wP I<|xk<|wP I<|wB 1 I I I<|wP I<|wU 7 false I (dF (by omega))<|Aa I<|wB 1 I I I<|wP I<|wB 0 I I I<|Aa I<|wU 14 false I (dF (by omega))<|wP I<|?_
 exact xa<|zS I<|xm<|wP I<|xc<|wR1 I I I
theorem JU (s:Int) (l r lo hi:Rat) (ol:okQ l) (or:okQ r) (oo:okQ lo) (oi:okQ hi) (ll:(Ac l).length<=8) (lr:(Ac r).length<=8) (llo:(Ac lo).length<=8) (lhi:(Ac hi).length<=8) (h1:l<r) (h2:lo<hi) (W:World) (hv:AH W) (ht:A9 W):
  Ae Tryz.prog 83 #[Im s (Ac l) (Ac r) (Ac lo) (Ac hi)] W (fun _:Unit=> .int .i64 0) (fun _=>True) (fun _=>[]):=by
 have zl:=Jo ll (by decide)
 have zr:=Jo lr (by decide)
 have zo:=Jo llo (by decide)
 have zi:=Jo lhi (by decide)
 have hner:ner [Ac l,Ac r,Ac lo,Ac hi]=0:=by
  unfold ner ner ner ner ner
  rw[Dt ol,Dt or,Dt oo,Dt oi]
  rfl
 refine Ab Tryz.func83 I I I<|xb<|wF I I fun _=>wP I<|xk<|wP I<|wB 0 I I I<|wP I<|wB 0 I I I<|wP I<|wB 0 I I I<|wP I<|wB 0 I I I<|As Tryz.hZ tH I I I I I I I I I I I fun bS=> ?_
 refine wC I I (fun W1 hp=>(TQ W1 (some ⟨bS,0,none⟩) 4 [Ac l,Ac r,Ac lo,Ac hi] (.inr ⟨bS,0,I,Aj.of_bx hp 1 I I⟩) (show 4<=100000 by decide) (fun y hy=>by
  simp only[List.mem_cons,List.not_mem_nil,or_false] at hy
  rcases hy with rfl|rfl|rfl|rfl<;>omega) (hv.hp hp) (ht.hp hp)).cast (v':= .int .i64 0) (by rw[hner])) ?_
 refine wP I<|xf<|Aa I<|xa<|zS I<|xe<|xd<|wP I<|wB 0 I I I<|wP I<|wB 0 I I I<|wC I I (fun W1 hp=>Cq l r (sz2 zl zr (by decide)) W1 (hv.hp hp) (ht.hp hp))<|wP I<|wU 22 false I ((L0 _ _).trans (dF (Rat.not_le.2 h1)))<|Aa I<|?_
 exact wB 0 I I I<|wP I<|wB 0 I I I<|wC I I (fun W1 hp=>Cq lo hi (sz2 zo zi (by decide)) W1 (hv.hp hp) (ht.hp hp))<|wP I<|wU 29 false I ((L0 _ _).trans (dF (Rat.not_le.2 h2)))<|wP I<|xa<|zS I<|xm<|wP I<|xc<|wR1 I I I
end
end Go.Proofs.YtlnjmcchddbogaaGreatDoor
