/-
  Lemmas that the theorem journalDamage_upto_card needs (part 2 of 8).
-/
import Derived.Test.YtidgbjcdppjknaaGreatDoorJda
import Derived.Lib.AppendZerosOnto
import Derived.Laws.AppendOwn
import Derived.Shelf.Strings.Trim
import Derived.Shelf.LaysM
import Derived.Shelf.Strconv.Itoa3
import Derived.Shelf.LaysC
import Derived.Shelf.Strconv.AtoiAll
import Derived.Shelf.Strings.Prefix
import Derived.Shelf.Strings.SlTrimAscii
import Derived.Shelf.Small.Wraps
import Derived.Test.YtidgbjcdppjknaaGreatDoorProg
import Derived.Lib.ItoaNum
import Derived.Lib.AtoiAll
import Derived.Lib.SlTrimSet
import Derived.Lib.Strings
import Derived.Lib.AppendIntMem
import Derived.Lib.ItoaLen
import Derived.Laws.Strings
import Derived.Laws.IdiomStrings
import Derived.Laws.Concat
import Derived.Shelf.Strings.BuilderK
import Derived.Shelf.Strings.Cut
import Derived.Shelf.Strings.Repeat
import Derived.Shelf.Strings.Builder1
import Derived.Shelf.Strings.OnBuilder
import Derived.Shelf.Strings.Split
import Derived.Shelf.Slices.Delete
import Derived.Shelf.Slices.Clone
import Derived.Lib.Builder
import Derived.Lib.AppendStr
import Derived.Lib.UnsafeStr
import Derived.Lib.IndexMore
import Derived.Lib.Join
import Derived.Lib.Split
import Derived.Lib.CountLaws
import Derived.Sort.EncStr
import Derived.Sort.Grow
import Derived.Lib.AtoiAllCases
set_option maxHeartbeats 64000000
namespace Go.Am
open Go Go.RowKit
structure Rt (W W':World) (g g':Nat) (o':Obj):Prop where
 os:W'.os=W.os
 tape:W'.tape=W.tape
 output:W'.output=W.output
 size:W.heap.size<=W'.heap.size
 new:W'.heap[g']? =some o'
 at_:g'=g\/W.heap.size<=g'
 old: ∀x,x≠g->x<W.heap.size->W'.heap[x]? =W.heap[x]?
theorem Upd.near {W W':World} {b:Nat} {o:Obj} (h:Upd W W' b o) (hlt:b<W.heap.size):Rt W W' b b o:=by
 refine⟨h.os,h.tape,h.output,by rw[h.heap,Array.size_setIfInBounds];exact Nat.le_refl _, ?_, .inl rfl,fun x hx _=> ?_⟩
 ·rw[h.heap,Array.getElem?_setIfInBounds,if_pos rfl,if_pos hlt]
 ·rw[h.heap,Array.getElem?_setIfInBounds,if_neg (fun e=>hx e.symm)]
theorem Oo {α:Type} {A C:List α} {b:α}:(A++b::C).Nodup↔(b∉A/\b∉C)/\(A++C).Nodup:=by
 simp only[List.nodup_append,List.nodup_cons]
 constructor
 ·rintro⟨h1,⟨h2,h3⟩,h4⟩
  exact⟨⟨fun h=>h4 b h b (List.mem_cons_self ..) rfl,h2⟩,h1,h3,fun x hx y hy=>h4 x hx y (List.mem_cons_of_mem _ hy)⟩
 ·rintro⟨⟨h1,h2⟩,h3,h4,h5⟩
  refine⟨h3,⟨h2,h4⟩,fun x hx y hy=> ?_⟩
  rcases List.mem_cons.1 hy with rfl|hy
  ·exact fun e=>h1 (e▸hx)
  ·exact h5 x hx y hy
theorem Hp.near {W0 W W':World} {bxs:List Bx} (h:Hp W0 bxs W) {k:Nat} {B B':Bx} {L1 L2:List (Nat×Obj)} {b g':Nat} {ob o':Obj} (hk:bxs[k]? =some B) (hB:B.blk=L1++(b,ob)::L2) (hB':B'.blk=L1++(g',o')::L2) (hN:Rt W W' b g' o'):Hp W0 (bxs.set k B') W':=by
 have hnd:=h.own.nd k B hk
 rw[hB,List.map_append,List.map_cons,Oo] at hnd
 obtain⟨⟨n1,n2⟩,n3⟩:=hnd
 have inB: ∀p,p∈L1\/p∈L2->p∈B.blk:=fun p hp=>by
  rw[hB]
  rcases hp with hp|hp
  ·exact List.mem_append_left _ hp
  ·exact List.mem_append_right _ (List.mem_cons_of_mem _ hp)
 have hb:(b,ob)∈B.blk:=by rw[hB];exact List.mem_append_right _ (List.mem_cons_self ..)
 have ne: ∀p,p∈L1\/p∈L2->p.1≠b:=fun p hp e=>by
  rcases hp with hp|hp
  ·exact n1 (List.mem_map.2 ⟨p,hp,e⟩)
  ·exact n2 (List.mem_map.2 ⟨p,hp,e⟩)
 have cases3: ∀p,p∈B'.blk->(p∈L1\/p∈L2)\/p=(g',o'):=fun p hp=>by
  rw[hB'] at hp
  rcases List.mem_append.1 hp with hp|hp
  ·exact .inl (.inl hp)
  ·rcases List.mem_cons.1 hp with hp|hp
   ·exact .inr hp
   ·exact .inl (.inr hp)
 refine h.turn hk (fun p hp=> ?_) ?_ hN.os hN.tape hN.output hN.size (fun p hp=> ?_) (fun x hx hlt=>hN.old x (fun e=>hx _ hb e.symm) hlt)
 ·rcases cases3 p hp with hp|rfl
  ·exact .inl ⟨p,inB p hp,rfl⟩
  ·rcases hN.at_ with e|e
   ·exact .inl ⟨_,hb,e.symm⟩
   ·exact .inr e
 ·rw[hB',List.map_append,List.map_cons,Oo]
  refine⟨?_,n3⟩
  rcases hN.at_ with e|e
  ·rw[show(g',o').1=b from e];exact⟨n1,n2⟩
  ·constructor<;>intro hm<;>obtain⟨p,hp,e2⟩:=List.mem_map.1 hm
   ·have:=h.own.lt hk (inB p (.inl hp));have e3:p.1=g':=e2;omega
   ·have:=h.own.lt hk (inB p (.inr hp));have e3:p.1=g':=e2;omega
 ·rcases cases3 p hp with hp|rfl
  ·rw[hN.old p.1 (ne p hp) (h.own.lt hk (inB p hp))]
   exact(h.own.cell k B hk p (inB p hp)).1
  ·exact hN.new
def Ez (W:World):World:= { W with heap:= #[] }
def BI (W:World) (g:Nat):List (Nat×Obj):=(List.range W.heap.size).filterMap fun i=>if i=g then none else(W.heap[i]?).map fun o=>(i,o)
theorem E4 {W:World} {g:Nat} {p:Nat×Obj}:p∈BI W g↔p.1≠g/\W.heap[p.1]? =some p.2:=by
 unfold BI
 rw[List.mem_filterMap]
 constructor
 ·rintro⟨i,hi,h⟩
  split at h
  ·cases h
  ·rename_i hne
   cases ho:W.heap[i]? with
   |none=>rw[ho] at h;cases h
   |some o=>rw[ho] at h;cases h;exact⟨hne,ho⟩
 ·rintro⟨h1,h2⟩
  refine⟨p.1,List.mem_range.2 (Array.getElem?_eq_some_iff.1 h2).1, ?_⟩
  rw[if_neg h1,h2];rfl
theorem OF (W:World) (g:Nat):((BI W g).map (·.1)).Nodup:=by
 unfold List.Nodup
 rw[List.pairwise_map]
 refine List.Pairwise.filterMap (R:=(· ≠ ·)) _ (fun a a' hne p hp q hq=> ?_) List.nodup_range
 have one: ∀(i:Nat) (p:Nat×Obj),(if i=g then none else(W.heap[i]?).map fun o=>(i,o))=some p->p.1=i:=fun i p h=>by
  split at h
  ·cases h
  ·cases ho:W.heap[i]? with
   |none=>rw[ho] at h;cases h
   |some o=>rw[ho] at h;cases h;rfl
 rw[one a p hp,one a' q hq];exact hne
theorem Hp.enterT {W:World} {g:Nat} {B:Bx} {o:Obj} (hB:B.blk=[(g,o)]) (ho:W.heap[g]? =some o):Hp (Ez W) [Ad (BI W g),B] W:=by
 have two: ∀ {k:Nat} {C:Bx},[Ad (BI W g),B][k]? =some C->(k=0/\C=Ad (BI W g))\/(k=1/\C=B):=fun {k C} h=>by
  cases k with
  |zero=>simp at h;exact .inl ⟨rfl,h.symm⟩
  |succ k=>cases k with
   |zero=>simp at h;exact .inr ⟨rfl,h.symm⟩
   |succ k=>simp at h
 refine⟨⟨rfl,rfl,rfl,Nat.zero_le _,fun k hk=>absurd hk (Nat.not_lt_zero _)⟩,fun k C hk p hp=> ?_,fun k C hk=> ?_,fun i j C E hi hj hne p hp q hq=> ?_⟩
 ·rcases two hk with⟨_,rfl⟩|⟨_,rfl⟩
  ·exact⟨(E4.1 (show p∈BI W g from hp)).2,Nat.zero_le _⟩
  ·rw[hB] at hp;obtain rfl:=List.mem_singleton.1 hp;exact⟨ho,Nat.zero_le _⟩
 ·rcases two hk with⟨_,rfl⟩|⟨_,rfl⟩
  ·exact OF W g
  ·rw[hB];exact List.nodup_cons.2 ⟨List.not_mem_nil,List.nodup_nil⟩
 ·rcases two hi with⟨rfl,rfl⟩|⟨rfl,rfl⟩<;>rcases two hj with⟨rfl,rfl⟩|⟨rfl,rfl⟩
  ·exact absurd rfl hne
  ·rw[hB] at hq;obtain rfl:=List.mem_singleton.1 hq
   exact(E4.1 (show p∈BI W g from hp)).1
  ·rw[hB] at hp;obtain rfl:=List.mem_singleton.1 hp
   exact fun e=>(E4.1 (show q∈BI W g from hq)).1 e.symm
  ·exact absurd rfl hne
theorem UC {W W':World} {g g':Nat} {o o':Obj} {B':Bx} (hg:W.heap[g]? =some o) (hB':B'.blk=[(g',o')]) (hb:Below (Ez W).heap.size (Ez W) W') (hn:As (Ez W) W' [Ad (BI W g),B']):Rt W W' g g' o':=by
 have c0: ∀p∈BI W g,W'.heap[p.1]? =some p.2:=fun p hp=>(hn.cell 0 _ rfl p hp).1
 have c1:W'.heap[g']? =some o':=(hn.cell 1 B' rfl (g',o') (by rw[hB'];exact List.mem_cons_self ..)).1
 have old: ∀x,x≠g->x<W.heap.size->W'.heap[x]? =W.heap[x]? :=fun x hx hlt=>by
  have h1:W.heap[x]? =some W.heap[x]:=Array.getElem?_eq_getElem hlt
  rw[h1]
  exact c0 (x,W.heap[x]) (E4.2 ⟨hx,h1⟩)
 have at_:g'=g\/W.heap.size<=g':=by
  by_cases e:g'=g
  ·exact .inl e
  ·refine .inr (Nat.le_of_not_lt fun hlt=> ?_)
   have h1:W.heap[g']? =some W.heap[g']:=Array.getElem?_eq_getElem hlt
   exact hn.apart 0 1 _ B' rfl rfl (by decide) (g',W.heap[g']) (E4.2 ⟨e,h1⟩) (g',o') (by rw[hB'];exact List.mem_cons_self ..) rfl
 have hlt:=(Array.getElem?_eq_some_iff.1 hg).1
 have hlt':=(Array.getElem?_eq_some_iff.1 c1).1
 refine⟨hb.os,hb.tape,hb.output, ?_,c1,at_,old⟩
 by_cases e:W.heap.size-1=g
 ·rcases at_ with h|h<;>omega
 ·have h1:=old (W.heap.size-1) e (by omega)
  rw[Array.getElem?_eq_getElem (show W.heap.size-1<W.heap.size by omega)] at h1
  have:=(Array.getElem?_eq_some_iff.1 h1).1
  omega
section
variable {r:Option Nat} {n:Nat} {P:Program} {W0:World} {N:Nat} {D:List Deferred} {ops:List Oper} {Q:Exit->Act->World->Prop} {o:Oper} {rest:List Oper} {env:Env} {bxs:List Bx}
theorem G6 {f:Nat} {fn:Func} {c:Code} {args:List Value} {X:Type} {val:X->Value} {Φ:X->Prop} {nb:X->List Bx} {W:World} (h0:Hp W0 bxs W)
  (hf:P.funcs[f]? =some fn) (hb:fn.body=some c) (hN:fn.ntmps=N) (hl:Nat.ble args.length N=true)
  (h:WC none 0 P N [] c (GF P fn W0 val Φ nb) (I8 0 args) (Hp W0 bxs)):Calls P f args.toArray W fun e W'=> ∃x,e= .returned (val x)/\Φ x/\Below W0.heap.size W0 W'/\As W0 W' (nb x):=by
 have hl:args.length<=N:=Nat.le_of_ble_eq_true hl
 have h1:=h.out { tmps:=args.toArray++Array.replicate (fn.ntmps-args.toArray.size) undef,defers:=[] } W (by simp[hN];omega) rfl h0
 rw[Fj] at h1
 ·refine callsIn_wide (n:=0)|>.1 (callsIn_of_wp_marks hf hb trivial (wpIn_mono (Q:=GF P fn W0 val Φ nb) h1 ?_))
  intro e a w h
  exact h.out
 ·intro p hp _
  obtain⟨_,h2⟩:=G4 args 0 p hp
  rw[Nat.sub_zero] at h2
  have hlt:=(List.getElem?_eq_some_iff.1 h2).1
  rw[Array.getElem?_append_left (by simpa using hlt)]
  simpa using h2
theorem Cj {fn:Func} {T:Tbl} {X:Type} {val:X->Value} {Φ:X->Prop} {nb:X->List Bx} (hT:okB P T=true) (hr:fn.results= #[])
  (x:X) (hv: .tuple #[]=val x) (hx:Φ x) (hnb: ∀W,Hp W0 bxs W->As W0 W (nb x)):NE N [] (GF P fn W0 val Φ nb) .normal env (Hp W0 bxs):= .mk fun a W ha hd hp=>by
 refine .mk ?_
 show LeavesInM (Fw none) 0 P fn (ov env a).tmps _ (ov env a).defers .returning W
 rw[Bl,hd]
 exact⟨_,Kw (rvs:=[]) (vs:=[]) hT hr rfl (fun i h _=>absurd h (Nat.not_lt_zero _)) ha hp,x,by rw[<-hv];rfl,hx,hp.below,hnb W hp⟩
theorem Mh (k:Nat) {c:Call} {f:Operand} {g d:Nat} {capt vs:List Value} {X:Type} {val:X->Value} {Φ:X->Prop} {B:Bx} {L1 L2:List (Nat×Obj)} {b:Nat} {ob:Obj} (B':X->Bx) {g':X->Nat} {o':X->Obj}
  (hg:Aj ops N env o=some true) (hd:o.dst=some d) (ho:o.op= .call c) (hc:c.callee= .value f) (hf:evO N env f=some (.func (.func g) #[] capt.toArray)) (ha:Cl (evO N env) c.args.toList=some vs) (hE:Bm P g=true)
  (hk:nth bxs k=some B) (hB:B.blk=L1++(b,ob)::L2) (hB': ∀x,Φ x->(B' x).blk=L1++(g' x,o' x)::L2)
  (hC: ∀W,Hp W0 bxs W->Calls P g (vs++capt).toArray W fun e W'=> ∃x,e= .returned (val x)/\Φ x/\Rt W W' b (g' x) (o' x))
  (h: ∀x,Φ x->WL r n P N D ops Q rest ((d,val x)::env) (Hp W0 (bxs.set k (B' x)))):WL r n P N D ops Q (o::rest) env (Hp W0 bxs):= .mk fun a W h1 h2 hp=>by
 rw[AT] at hk
 refine By hg h1 (fun c e=>by rw[ho] at e;cases e) ?_
 rw[F1 ho hc (A4 h1 _ _ hf) (DG (A4 h1) ha) hE]
 simp only[Oper.uponIn,hd]
 refine⟨fun hx=>(by cases hx),Dm ((hC W hp).mono ?_)⟩
 rintro e W' ⟨x,rfl,hx,hN⟩
 exact(h x hx).out a W' h1 h2 (hp.near hk hB (hB' x hx) hN)
theorem dV {c:Call} {f:Operand} {g d:Nat} {capt vs:List Value} {v:Value} {A:World->Prop}
  (hg:Aj ops N env o=some true) (hd:o.dst=some d) (ho:o.op= .call c) (hc:c.callee= .value f) (hf:evO N env f=some (.func (.func g) #[] capt.toArray)) (ha:Cl (evO N env) c.args.toList=some vs)
  (hrun: ∀W,A W->(callFunc g (vs++capt).toArray).run P W= .ok (.value v) W)
  (h:WL r n P N D ops Q rest ((d,v)::env) A):WL r n P N D ops Q (o::rest) env A:=
 Bf hg hd (fun c e=>by rw[ho] at e;cases e) (fun ρ W hρ hA=>by
  have:=hrun W hA
  simp only[execOp,ho,resolve,hc,hρ _ _ hf,DG hρ ha,Sem.run_bind,Deferred.ofValue,Sem.run_pure,Result.andThen_ok,invoke]
  simpa using this) h
theorem Ye {d:Nat} {t u:TypeId} {x:Operand} {k k' kt:IntKind} {z:Int} {A:World->Prop} (ht:P.underlying t=some (.int kt)) (hu:P.underlying u=some (.int k)) (hg:Aj ops N env o=some true) (hd:o.dst=some d) (ho:o.op= .convert t u x) (hx:evO N env x=some (.int k' z))
  (h:WL r n P N D ops Q rest ((d, .int k (k.wrap z))::env) A):WL r n P N D ops Q (o::rest) env A:=
 Bf hg hd (fun c e=>by rw[ho] at e;cases e) (fun ρ W hρ _=>by
  simp[execOp,ho,convert,hρ _ _ hx,run_underlying ht,run_underlying hu,Conv.intToInt]) h
theorem To (A B C X:List Value) (h:B.length=X.length):BD (A++(B++C)) A.length X=A++(X++C):=by
 have h1:=OH A (B++C) 0 X
 rw[Nat.add_zero] at h1
 rw[h1]
 simp[BD, <-h]
end
end Go.Am
namespace Go.Am
open Go Go.RowKit
section
variable {r:Option Nat} {n:Nat} {P:Program} {N:Nat} {D:List Deferred} {ops:List Oper} {Q:Exit->Act->World->Prop} {o:Oper} {rest:List Oper} {env:Env} {A A2:World->Prop} {R:Act->World->Prop}
def aO (A:World->Prop):Prop:= ∀W W',A W->Below W.heap.size W W'->A W'
theorem Mi {c:Call} {f:Operand} {g d:Nat} {capt vs:List Value} {v:Value} (hG:aO A)
  (hg:Aj ops N env o=some true) (hd:o.dst=some d) (ho:o.op= .call c) (hc:c.callee= .value f) (hf:evO N env f=some (.func (.func g) #[] capt.toArray)) (ha:Cl (evO N env) c.args.toList=some vs) (hE:Bm P g=true)
  (hC: ∀W,A W->Ag P g (vs++capt).toArray W (fun _:Unit=>v) (fun _=>True) (fun _=>[]))
  (h:WL r n P N D ops Q rest ((d,v)::env) A):WL r n P N D ops Q (o::rest) env A:= .mk fun a W h1 h2 hp=>by
 refine By hg h1 (fun c e=>by rw[ho] at e;cases e) ?_
 rw[F1 ho hc (A4 h1 _ _ hf) (DG (A4 h1) ha) hE]
 simp only[Oper.uponIn,hd]
 refine⟨fun hx=>(by cases hx),Dm ((hC W hp).out.mono ?_)⟩
 rintro e W' ⟨x,rfl,hx,hb,hn⟩
 exact h.out a W' h1 h2 (hG _ _ hp hb)
end
end Go.Am
namespace Go.Am
open Go Go.RowKit
structure aX (P:Program) (gf:Nat) (lb:List Value) (m:Nat) (enc:Nat->List Value) (Need:Nat->World->Prop):Prop where
 out: ∀(l:Nat) (J:Nat->List (Nat×Obj)->World->Prop) (Jx:World->Prop),
  (∀k L W,J k L W->Need k W/\ ∀p∈L,W.heap[p.1]? =some p.2)->(∀k L W W',J k L W->Below W.heap.size W W'->J k L W')->
  (∀k L W W' b o,J k L W->Below W.heap.size W W'->W.heap.size<=b->W'.heap[b]? =some o->J k [(b,o)] W')->
  (∀k b o o' W W',J k [(b,o)] W->Upd W W' b o'->J k [(b,o')] W')->
  (∀k L W,k<m->J k L W->YieldAt (Fw none) 0 P l (enc k).toArray W fun e W'=>(e= .returned (.bool true)/\J (k+1) L W')\/(e= .returned (.bool false)/\Jx W'))->
  ∀W,J 0 [] W->CallsIn (Fw none) 0 P gf (.func (.yield l) #[] #[]::lb).toArray W fun e W'=>(∃v,e= .returned v)/\((∃L,J m L W')\/Jx W')
theorem Hl {P:Program} {l:Nat} {R R':Ending->World->Prop} (h: ∀e W,R e W->R' e W): ∀ {e:Exit} {a:Act} {W:World},roundPost P l R e a W->roundPost P l R' e a W
 | .normal,_,_,⟨v,w',h1,h2⟩=>⟨v,w',h1,h _ _ h2⟩
 | .ret,_,_,⟨v,w',h1,h2⟩=>⟨v,w',h1,h _ _ h2⟩
 | .exit _,_,_,⟨v,w',h1,h2⟩=>⟨v,w',h1,h _ _ h2⟩
 | .goto _,_,_,⟨v,w',h1,h2⟩=>⟨v,w',h1,h _ _ h2⟩
theorem Hp.tail {W0 W:World} {b:Bx} {bs:List Bx} (h:Hp W0 (b::bs) W):Hp W0 bs W:=
 ⟨h.below,h.own.sub (fun k=>k+1) (fun k B hk _=>by rw[List.getElem?_cons_succ];exact hk) (fun _ _ _ _ _ _ h=>by omega)⟩
theorem Hp.rot {W0 W:World} {b:Bx} {bs:List Bx} (h:Hp W0 (bs++[b]) W):Hp W0 (b::bs) W:=by
 refine⟨h.below,h.own.sub (fun k=>if k=0 then bs.length else k-1) (fun k B hk _=> ?_) (fun i j B C hi hj e=> ?_)⟩
 ·cases k with
  |zero=>rw[if_pos rfl,List.getElem?_append_right (Nat.le_refl _),Nat.sub_self];simpa using hk
  |succ k=>
   rw[List.getElem?_cons_succ] at hk
   rw[if_neg (by omega),Nat.add_sub_cancel,List.getElem?_append_left (List.getElem?_eq_some_iff.1 hk).1];exact hk
 ·have lt: ∀ {k:Nat} {B:Bx},(b::bs)[k]? =some B->k≠0->k-1<bs.length:=fun {k B} h h0=>by
   have:=(List.getElem?_eq_some_iff.1 h).1
   simp at this;omega
  by_cases h1:i=0<;>by_cases h2:j=0
  ·omega
  ·have:=lt hj h2
   rw[if_pos h1,if_neg h2] at e;omega
  ·have:=lt hi h1
   rw[if_neg h1,if_pos h2] at e;omega
  ·rw[if_neg h1,if_neg h2] at e;omega
theorem Hp.nilGrp {W0 W:World} {bs:List Bx} (h:Hp W0 bs W):Hp W0 (Ad []::bs) W:=h.newGrp.rot
section
variable {r:Option Nat} {n:Nat} {P:Program} {W0:World} {N:Nat} {D:List Deferred} {ops:List Oper} {Q:Exit->Act->World->Prop} {o:Oper} {rest:List Oper} {env:Env} {A:World->Prop} {bxs:List Bx}
theorem VT {d:Nat} {t:TypeId} {z:Value} (A2:Nat->World->Prop) (hg:Aj ops N env o=some true) (hd:o.dst=some d) (ho:o.op= .alloc t) (hz: ∀W,(zeroValue t).run P W= .ok z W)
  (hA: ∀W W' b,A W->Below W.heap.size W W'->W.heap.size<=b->W'.heap[b]? =some (.cells z.cells t (0,0))->A2 b W')
  (h: ∀b,WL r n P N D ops Q rest ((d, .pointer (some ⟨b,0,none⟩))::env) (A2 b)):WL r n P N D ops Q (o::rest) env A:= .mk fun a W ha hd' hp=>by
 refine By hg ha (fun c e=>by rw[ho] at e;cases e) ?_
 have:(execOp (ov env a).eval o).run P W= .ok (.value (.pointer (some ⟨W.heap.size,0,none⟩))) (W.alloc (.cells z.cells t)):=by
  simp[execOp,ho,Instr.alloc,hz,newVar,newRow]
 rw[this]
 simp only[Oper.uponIn,hd]
 exact(h W.heap.size).out a _ ha hd' (hA W _ _ hp ((Below.refl _ W).alloc (Nat.le_refl _) _) (Nat.le_refl _) (World.alloc_heap_new W _))
theorem Ke {T:Tbl} {i:TI} {t:TypeId} {x y:Operand} {b:Nat} {ty:TypeId} {cs:List Value} {v:Value} (A2:World->Prop) (hT:okB P T=true) (hg:Aj ops N env o=some true) (hd:o.dst=none) (ho:o.op= .store t x y) (ht:find T t=some i)
  (hx:evO N env x=some (.pointer (some ⟨b,0,none⟩))) (hy:evO N env y=some v) (hb: ∀W,A W->W.heap[b]? =some (.cells cs.toArray ty (0,0)))
  (hs:Nat.beq v.cells.toList.length i.size=true) (hl:Nat.beq cs.length i.size=true) (h1:DI v.cells.toList=true)
  (hA: ∀W W',A W->Upd W W' b (.cells v.cells ty (0,0))->A2 W')
  (h:WL r n P N D ops Q rest env A2):WL r n P N D ops Q (o::rest) env A:= .mk fun a W ha hd' hp=>by
 refine By hg ha (fun c e=>by rw[ho] at e;cases e) ?_
 have el:=Nat.eq_of_beq_eq_true hl
 have es:=Nat.eq_of_beq_eq_true hs
 obtain⟨W',hr,hu⟩:=GR (P:=P) (B8 hT ht) (o:=0) (hb W hp) es (by omega) h1
 have:(execOp (ov env a).eval o).run P W= .ok .skip W':=by
  simp[execOp,ho,Instr.storeAt,Instr.sureAddr,A4 ha _ _ hx,A4 ha _ _ hy,hr]
 rw[this]
 simp only[Oper.uponIn,hd]
 refine h.out a W' ha hd' (hA W W' hp ?_)
 have e:BD cs 0 v.cells.toList=v.cells.toList:=by
  unfold BD
  simp[es,el]
 rw[e] at hu
 simpa using hu
end
section
variable {P:Program} {W0:World} {N:Nat} {D:List Deferred} {env:Env} {bxs:List Bx} {Q:Exit->Act->World->Prop}
variable {X:Type}
theorem W7 {f:Operand} {ps:Array Nat} {assign body:Code} {gf m:Nat} {lb:List Value} {enc:Nat->List Value} {Need:Nat->World->Prop} (B:X->List Bx) (Φ:Nat->X->Prop) (Ψ:Code->X->Prop) (x0:X)
  (hf:evO N env f=some (.func (.func gf) #[] lb.toArray)) (hE:Bm P gf=true) (hI:aX P gf lb m enc Need) (hps: ∀k,(enc k).length=ps.size)
  (h0:Φ 0 x0) (nb:List Bx) (hB:bxs=B x0++nb) (hN: ∀k x W,Φ k x->Hp W0 (B x) W->Need k W)
  (hbody: ∀(k:Nat) (x:X) (d l:Nat) (rec:LoopState->Option Code->Loop) (L:List (Nat×Obj)),k<m->Φ k x->Gd rec->
   WC (some l) 0 P N [] assign (Vu P W0 (fun x=>Ad L::B x) Φ Ψ d l rec k body) (CM ps.toList (enc k) env) (Hp W0 (Ad L::B x++[B7 d,Bc l rec .ready none])))
  (hdone: ∀(x:X) (d l:Nat) (rec:LoopState->Option Code->Loop),Φ m x->NE N (C7 d::D) Q .normal env (Hp W0 (B x++[B7 d,Bc l rec .exhausted none])))
  (hjump: ∀(x:X) (d l:Nat) (rec:LoopState->Option Code->Loop) (c:Code),Ψ c x->WC none 0 P N (C7 d::D) c Q env (Hp W0 (B x++[B7 d,Bc l rec .exhausted (some c)]))):
  WC none 0 P N D (.rangeFunc f ps assign body) Q env (Hp W0 bxs):= .mk fun a W ha hd hp=>by
 refine wpIn_rangeFunc ?_
 intro fn _
 obtain⟨rec,hr⟩: ∃rec:LoopState->Option Code->Loop,rec=fun s j=> { state:=s,pending:=j,fn,tmps:=(ov env a).tmps,params:=ps,assign,body,defers:=W.heap.size }:=⟨_,rfl⟩
 have hrec:Gd rec:=by subst hr;exact⟨fun _ _=>rfl,fun _ _=>rfl,fun _ _ _ _=>rfl⟩
 obtain⟨W1,hW1⟩: ∃W1,(W.alloc (.deferred (some []))).alloc (.loop (rec .ready none))=W1:=⟨_,rfl⟩
 have hpB:Hp W0 (B x0) W:=by rw[hB] at hp;exact hp.take
 have hp1:Hp W0 (B x0++[B7 W.heap.size,Bc (W.heap.size+1) rec .ready none]) W1:=by
  have hb:Below W.heap.size W W1:=by rw[<-hW1];exact((Below.refl _ W).alloc (Nat.le_refl _) _).alloc (by simp) _
  refine hpB.append hb (As.two ⟨?_,Nat.le_refl _⟩ ⟨?_,Nat.le_succ _⟩ (Nat.ne_of_lt (Nat.lt_succ_self _)))
  ·show W1.heap[W.heap.size]? =some (.deferred (some []))
   rw[<-hW1]
   exact(Below.heap_alloc _ _ _ (by simp)).trans (World.alloc_heap_new W _)
  ·show W1.heap[W.heap.size+1]? =some (.loop (rec .ready none))
   rw[<-hW1]
   have:=World.alloc_heap_new (W.alloc (.deferred (some []))) (.loop (rec .ready none))
   rwa [World.size_alloc] at this
 refine⟨W.heap.size+1,[C7 W.heap.size],W1, { target:= .fn (.func gf) lb.toArray,args:= #[.func (.yield (W.heap.size+1)) #[] #[]] },W1,gf,
  (.func (.yield (W.heap.size+1)) #[] #[]::lb).toArray,W1, ?_, ?_,fun _ _=>trivial, ?_,fun h=>(by cases h), ?_⟩
 ·rw[<-hW1,hr];exact run_enterLoop_outer _ _ _ _ _
 ·have hc: ∀v,(ov env a).eval (.const v)=v:=fun _=>rfl
  simp only[resolve]
  rw[A4 ha _ _ hf]
  simp[Deferred.ofValue,hc]
 ·simp only[invoke,FO hE]
  simp
 ·have split: ∀ {L:List (Nat×Obj)} {x:X} {W2:World},Hp W0 ((fun x=>Ad L::B x) x++[B7 W.heap.size,Bc (W.heap.size+1) rec .ready none]) W2->Hp W0 (B x++[B7 W.heap.size,Bc (W.heap.size+1) rec .ready none]) W2:=fun h=>h.tail
  refine(hI.out (W.heap.size+1) (fun k L=>JR W0 (fun x=>Ad L::B x) Φ W.heap.size (W.heap.size+1) rec k) (fun W'=> ∃L,JX W0 (fun x=>Ad L::B x) Ψ W.heap.size (W.heap.size+1) rec W')
   (fun k L W ⟨x,hx,hp⟩=>⟨hN k x W hx (split hp).take,fun p hp'=>(hp.own.cell 0 (Ad L) rfl p hp').1⟩) (fun k L W W2 ⟨x,hx,hp⟩ hb=>⟨x,hx,hp.grow hb⟩) ?_ ?_ ?_ W1 ⟨x0,h0,hp1.nilGrp⟩).mono ?_
  ·rintro k L W2 W3 b o ⟨x,hx,hp2⟩ hb hlt ho
   refine⟨x,hx,((split hp2).append hb (nb:=[Ad [(b,o)]]) (Own.one (fun p hp=> ?_) ?_)).rot⟩
   ·obtain rfl:=List.mem_singleton.1 (show p∈[(b,o)] from hp)
    exact⟨ho,hlt⟩
   ·exact List.nodup_cons.2 ⟨List.not_mem_nil,List.nodup_nil⟩
  ·rintro k b o o' W2 W3 ⟨x,hx,hp2⟩ hu
   have hc:=hp2.own.cell 0 (Ad [(b,o)]) rfl (b,o) (List.mem_cons_self ..)
   exact⟨x,hx,hp2.near (k:=0) (B:=Ad [(b,o)]) (B':=Ad [(b,o')]) (L1:=[]) (L2:=[]) rfl rfl rfl (hu.near (Array.getElem?_eq_some_iff.1 hc.1).1)⟩
  ·rintro k L W2 hk ⟨x,hx,hp2⟩
   have hL:=((split hp2).at_ ((B x).length+1) (Bc (W.heap.size+1) rec .ready none) (by rw[List.getElem?_append_right (by omega)];simp) rfl).1
   refine⟨fn,(ps.zip (enc k).toArray).foldl (fun tmps (x:Nat×Value)=>tmps.setIfInBounds x.1 x.2) (ov env a).tmps,assign,body, ?_, ?_⟩
   ·have:=run_yield (P:=P) (args:=(enc k).toArray) hL (by subst hr;simpa using hps k)
    subst hr
    exact this
   ·refine roundIn_of_wpIn (F:=Fw none) trivial ?_
    have hb:=(hbody k x W.heap.size (W.heap.size+1) rec L hk hx hrec).out { tmps:=a.tmps,defers:=[] } W2 ha rfl hp2
    have e:({ tmps:=(ps.zip (enc k).toArray).foldl (fun tmps (x:Nat×Value)=>tmps.setIfInBounds x.1 x.2) (ov env a).tmps,defers:=[] }:Act)=ov (CM ps.toList (enc k) env) { tmps:=a.tmps,defers:=[] }:=by
     have h1:=HV ps.toList (enc k) env { tmps:=a.tmps,defers:=[] }
     rw[Ib env { tmps:=a.tmps,defers:=[] } a rfl] at h1
     have h2:(ov (CM ps.toList (enc k) env) { tmps:=a.tmps,defers:=[] }).defers=[]:=Bl _ _
     cases hA:ov (CM ps.toList (enc k) env) { tmps:=a.tmps,defers:=[] }
     rw[hA] at h1 h2
     simp only at h1 h2
     subst h2
     congr 1
     rw[h1, <-Array.foldl_toList]
     simp
    have e':(rec .ready none).params=ps/\(rec .ready none).tmps=(ov env a).tmps:=by subst hr;exact⟨rfl,rfl⟩
    rw[<-e] at hb
    refine wpIn_mono hb ?_
    intro ex a2 W3 hq
    have hq:=hq.out
    cases ex with
    |normal=>
     obtain⟨w2,h1,h2⟩:=hq
     exact⟨w2,h1,wpIn_mono h2 fun _ _ _ h=>Hl (fun _ _ h=>h.imp id fun h=>⟨h.1,L,h.2⟩) h.out⟩
    |_=>exact hq
  ·rintro e W2 ⟨⟨v,rfl⟩,(⟨L,x,hx,hp2⟩|⟨L,c,x,hx,hp2⟩)⟩
   ·have hp2:=split hp2
    have hi:(B x++[B7 W.heap.size,Bc (W.heap.size+1) rec .ready none])[(B x).length+1]? =some (Bc (W.heap.size+1) rec .ready none):=by rw[List.getElem?_append_right (by omega)];simp
    have hL:=(hp2.at_ _ _ hi rfl).1
    refine⟨_,_,run_endLoop hL (by rw[hrec.st];simp), ?_⟩
    rw[hrec.pend]
    have hp3:=hp2.updO (W':=W2.putObj (W.heap.size+1) (.loop { rec .ready none with state:= .exhausted })) hi rfl (B':=Bc (W.heap.size+1) rec .exhausted none) rfl ⟨rfl,rfl,rfl,by rw[hrec.upd1];rfl⟩
    have hset:(B x++[B7 W.heap.size,Bc (W.heap.size+1) rec .ready none]).set ((B x).length+1) (Bc (W.heap.size+1) rec .exhausted none)=B x++[B7 W.heap.size,Bc (W.heap.size+1) rec .exhausted none]:=by
     rw[List.set_append_right _ _ (by omega)];simp
    rw[hset] at hp3
    have:=(hdone x W.heap.size (W.heap.size+1) rec hx).out { tmps:=a.tmps,defers:=C7 W.heap.size::D } _ ha rfl hp3
    rw[Ii, <-hd, <-Bl env a] at this
    simp only[hrec.pend] at this⊢
    exact this
   ·have hp2:Hp W0 (B x++[B7 W.heap.size,Bc (W.heap.size+1) rec .done (some c)]) W2:=hp2.tail
    have hi:(B x++[B7 W.heap.size,Bc (W.heap.size+1) rec .done (some c)])[(B x).length+1]? =some (Bc (W.heap.size+1) rec .done (some c)):=by rw[List.getElem?_append_right (by omega)];simp
    have hL:=(hp2.at_ _ _ hi rfl).1
    refine⟨_,_,run_endLoop hL (by rw[hrec.st];simp), ?_⟩
    rw[hrec.pend]
    have hp3:=hp2.updO (W':=W2.putObj (W.heap.size+1) (.loop { rec .done (some c) with state:= .exhausted })) hi rfl (B':=Bc (W.heap.size+1) rec .exhausted (some c)) rfl ⟨rfl,rfl,rfl,by rw[hrec.upd1];rfl⟩
    have hset:(B x++[B7 W.heap.size,Bc (W.heap.size+1) rec .done (some c)]).set ((B x).length+1) (Bc (W.heap.size+1) rec .exhausted (some c))=B x++[B7 W.heap.size,Bc (W.heap.size+1) rec .exhausted (some c)]:=by
     rw[List.set_append_right _ _ (by omega)];simp
    rw[hset] at hp3
    have:=(hjump x W.heap.size (W.heap.size+1) rec c hx).out { tmps:=a.tmps,defers:=C7 W.heap.size::D } _ ha rfl hp3
    rw[Ii, <-hd, <-Bl env a] at this
    simp only[hrec.pend] at this⊢
    exact this
end
end Go.Am
namespace Go.Am
open Go Go.RowKit
structure Xu (n:Nat) (W W':World) (L L':List (Nat×Obj)):Prop where
 os:W'.os=W.os
 tape:W'.tape=W.tape
 output:W'.output=W.output
 size:n<=W'.heap.size
 sub: ∀p∈L',(∃q∈L,q.1=p.1)\/W.heap.size<=p.1
 nd:(L'.map (·.1)).Nodup
 new: ∀p∈L',W'.heap[p.1]? =some p.2
 old: ∀x,(∀q∈L,q.1≠x)->x<W.heap.size->W'.heap[x]? =W.heap[x]?
theorem Hp.turnL {W0 W W':World} {bxs:List Bx} (h:Hp W0 bxs W) {k:Nat} {B B':Bx} (hk:bxs[k]? =some B) (hT:Xu W0.heap.size W W' B.blk B'.blk):Hp W0 (bxs.set k B') W':=by
 refine⟨⟨hT.os.trans h.below.os,hT.tape.trans h.below.tape,hT.output.trans h.below.output,hT.size,fun i hi=> ?_⟩,fun i C hi p hp=> ?_,fun i C hi=> ?_,fun i j C E hi hj hne p hp q hq=> ?_⟩
 ·refine(hT.old i (fun q hq e=> ?_) (Nat.lt_of_lt_of_le hi h.below.size)).trans (h.below.block i hi)
  have:=(h.own.cell k B hk q hq).2
  omega
 ·rcases Cw hi with⟨rfl,rfl⟩|⟨hne,hi⟩
  ·rcases hT.sub p hp with⟨q,hq,e⟩|e
   ·exact⟨hT.new p hp,e▸(h.own.cell i B hk q hq).2⟩
   ·exact⟨hT.new p hp,Nat.le_trans h.below.size e⟩
  ·have:=h.own.cell i C hi p hp
   exact⟨(hT.old p.1 (fun q hq=>h.own.apart k i B C hk hi (fun e=>hne e.symm) q hq p hp) (h.own.lt hi hp)).trans this.1,this.2⟩
 ·rcases Cw hi with⟨rfl,rfl⟩|⟨hne,hi⟩
  ·exact hT.nd
  ·exact h.own.nd i C hi
 ·rcases Cw hi with⟨ei,eC⟩|⟨hne1,hi'⟩<;>rcases Cw hj with⟨ej,eE⟩|⟨hne2,hj'⟩
  ·exact absurd (ei.trans ej.symm) hne
  ·subst eC;subst ei
   rcases hT.sub p hp with⟨p',hp',e⟩|e
   ·rw[<-e];exact h.own.apart _ j B E hk hj' hne p' hp' q hq
   ·have:=h.own.lt hj' hq;omega
  ·subst eE;subst ej
   rcases hT.sub q hq with⟨q',hq',e⟩|e
   ·rw[<-e];exact h.own.apart i _ C B hi' hk hne p hp q' hq'
   ·have:=h.own.lt hi' hp;omega
  ·exact h.own.apart i j C E hi' hj' hne p hp q hq
def Ay (n:Nat) (W:World) (L:List (Nat×Obj)):List (Nat×Obj):=(List.range W.heap.size).filterMap fun i=>if i<n\/i∈L.map (·.1) then none else(W.heap[i]?).map fun o=>(i,o)
theorem EB {n:Nat} {W:World} {L:List (Nat×Obj)} {p:Nat×Obj}:p∈Ay n W L↔ ¬(p.1<n\/p.1∈L.map (·.1))/\W.heap[p.1]? =some p.2:=by
 unfold Ay
 rw[List.mem_filterMap]
 constructor
 ·rintro⟨i,hi,h⟩
  split at h
  ·cases h
  ·rename_i hne
   cases ho:W.heap[i]? with
   |none=>rw[ho] at h;cases h
   |some o=>rw[ho] at h;cases h;exact⟨hne,ho⟩
 ·rintro⟨h1,h2⟩
  refine⟨p.1,List.mem_range.2 (Array.getElem?_eq_some_iff.1 h2).1, ?_⟩
  rw[if_neg h1,h2];rfl
theorem Nb (n:Nat) (W:World) (L:List (Nat×Obj)):((Ay n W L).map (·.1)).Nodup:=by
 unfold List.Nodup
 rw[List.pairwise_map]
 refine List.Pairwise.filterMap (R:=(· ≠ ·)) _ (fun a a' hne p hp q hq=> ?_) List.nodup_range
 have one: ∀(i:Nat) (p:Nat×Obj),(if i<n\/i∈L.map (·.1) then none else(W.heap[i]?).map fun o=>(i,o))=some p->p.1=i:=fun i p h=>by
  split at h
  ·cases h
  ·cases ho:W.heap[i]? with
   |none=>rw[ho] at h;cases h
   |some o=>rw[ho] at h;cases h;rfl
 rw[one a p hp,one a' q hq];exact hne
abbrev Ci (bs:List Bx):List (Nat×Obj):=bs.flatMap fun B=>B.blk
theorem Qr {bs:List Bx} {k:Nat} {B:Bx} (h:bs[k]? =some B) {p:Nat×Obj} (hp:p∈B.blk):p∈Ci bs:=List.mem_flatMap.2 ⟨B,List.mem_of_getElem? h,hp⟩
theorem Own.tail {n:Nat} {W:World} {b:Bx} {bs:List Bx} (h:Own n (b::bs) W):Own n bs W:=
 h.sub (fun k=>k+1) (fun k B hk _=>by rw[List.getElem?_cons_succ];exact hk) (fun _ _ _ _ _ _ h=>by omega)
theorem Own.nodup {n:Nat} {W:World}: ∀ {bs:List Bx},Own n bs W->((Ci bs).map (·.1)).Nodup
 |[],_=>List.nodup_nil
 |b::bs,h=>by
  show((b.blk++Ci bs).map (·.1)).Nodup
  rw[List.map_append,List.nodup_append]
  refine⟨h.nd 0 b rfl,h.tail.nodup,fun x hx y hy e=> ?_⟩
  obtain⟨p,hp,rfl⟩:=List.mem_map.1 hx
  obtain⟨q,hq,rfl⟩:=List.mem_map.1 hy
  obtain⟨C,hC,hq⟩:=List.mem_flatMap.1 hq
  obtain⟨j,hj⟩:=List.getElem?_of_mem hC
  exact h.apart 0 (j+1) b C rfl (by rw[List.getElem?_cons_succ];exact hj) (by omega) p hp q hq e
theorem Fo {n:Nat} {W:World}: ∀ {bs:List Bx},(∀p∈Ci bs,W.heap[p.1]? =some p.2/\n<=p.1)->((Ci bs).map (·.1)).Nodup->Own n bs W
 |[],_,_=>⟨fun k B hk=>(by simp at hk),fun k B hk=>(by simp at hk),fun i j B C hi=>(by simp at hi)⟩
 |b::bs,hc,hn=>by
  have hn:((b.blk++Ci bs).map (·.1)).Nodup:=hn
  rw[List.map_append,List.nodup_append] at hn
  obtain⟨n1,n2,n3⟩:=hn
  have ih:Own n bs W:=Fo (fun p hp=>hc p (List.mem_append_right _ hp)) n2
  have key: ∀ {m:Nat} {F:Bx},bs[m]? =some F-> ∀p∈b.blk, ∀q∈F.blk,p.1≠q.1:=fun hm p hp q hq=>n3 p.1 (List.mem_map.2 ⟨p,hp,rfl⟩) q.1 (List.mem_map.2 ⟨q,Qr hm hq,rfl⟩)
  refine⟨fun k C hk p hp=> ?_,fun k C hk=> ?_,fun i j C E hi hj hne p hp q hq=> ?_⟩
  ·cases k with
   |zero=>injection hk with hk;subst hk;exact hc p (List.mem_append_left _ hp)
   |succ k=>rw[List.getElem?_cons_succ] at hk;exact ih.cell k C hk p hp
  ·cases k with
   |zero=>injection hk with hk;subst hk;exact n1
   |succ k=>rw[List.getElem?_cons_succ] at hk;exact ih.nd k C hk
  ·cases i with
   |zero=>
    injection hi with hi
    subst hi
    cases j with
    |zero=>exact absurd rfl hne
    |succ j=>rw[List.getElem?_cons_succ] at hj;exact key hj p hp q hq
   |succ i=>
    rw[List.getElem?_cons_succ] at hi
    cases j with
    |zero=>injection hj with hj;subst hj;exact fun e=>key hi q hq p hp e.symm
    |succ j=>rw[List.getElem?_cons_succ] at hj;exact ih.apart i j C E hi hj (by omega) p hp q hq
theorem Own.regroup {n:Nat} {W:World} {bs bs':List Bx} (h:Own n bs W) (e:Ci bs'=Ci bs):Own n bs' W:=
 Fo (fun p hp=>by
  rw[e] at hp
  obtain⟨C,hC,hpC⟩:=List.mem_flatMap.1 hp
  obtain⟨j,hj⟩:=List.getElem?_of_mem hC
  exact h.cell j C hj p hpC) (by rw[e];exact h.nodup)
theorem Hp.regroup {W0 W:World} {bs l:List Bx} (bs':List Bx) (s:List Nat) (h:Hp W0 bs W) (hs:s.Nodup) (hp:Am.pick bs s=some l) (e:Ci bs'=Ci l):Hp W0 bs' W:=by
 have h1:=h.pick s hs hp
 exact⟨h1.below,h1.own.regroup e⟩
theorem Hp.enterG {W0 W:World} {bs:List Bx} (hb:Below W0.heap.size W0 W) (h:Own W0.heap.size bs W):Hp W0 (Ad (Ay W0.heap.size W (Ci bs))::bs) W:=by
 refine⟨hb,fun k C hk p hp=> ?_,fun k C hk=> ?_,fun i j C E hi hj hne p hp q hq=> ?_⟩
 ·cases k with
  |zero=>
   injection hk with hk
   subst hk
   obtain⟨h1,h2⟩:=EB.1 (show p∈Ay W0.heap.size W (Ci bs) from hp)
   exact⟨h2,Nat.le_of_not_lt fun e=>h1 (.inl e)⟩
  |succ k=>rw[List.getElem?_cons_succ] at hk;exact h.cell k C hk p hp
 ·cases k with
  |zero=>injection hk with hk;subst hk;exact Nb _ W _
  |succ k=>rw[List.getElem?_cons_succ] at hk;exact h.nd k C hk
 ·have key: ∀ {m:Nat} {F:Bx},bs[m]? =some F-> ∀p∈Ay W0.heap.size W (Ci bs), ∀q∈F.blk,p.1≠q.1:=fun hm p hp q hq e=>(EB.1 hp).1 (.inr (by rw[e];exact List.mem_map.2 ⟨q,Qr hm hq,rfl⟩))
  cases i with
  |zero=>
   injection hi with hi
   subst hi
   cases j with
   |zero=>exact absurd rfl hne
   |succ j=>rw[List.getElem?_cons_succ] at hj;exact key hj p hp q hq
  |succ i=>
   rw[List.getElem?_cons_succ] at hi
   cases j with
   |zero=>injection hj with hj;subst hj;exact fun e=>key hi q hq p hp e.symm
   |succ j=>rw[List.getElem?_cons_succ] at hj;exact h.apart i j C E hi hj (by omega) p hp q hq
def LB (W W1:World) (L:List (Nat×Obj)):Prop:= ∀x o,W.heap[x]? =some o->(∀q∈L,q.1≠x)->W1.heap[x]? =some o
theorem EL {W0 W W1:World} {L:List (Nat×Obj)} {bs:List Bx} (hb:Below W0.heap.size W0 W) (hp:Hp W0 (Ad (Ay W0.heap.size W L)::bs) W1):LB W W1 L:=fun x o ho hx=>by
 by_cases hlt:x<W0.heap.size
 ·rw[hp.below.block x hlt, <-hb.block x hlt];exact ho
 ·refine(hp.own.cell 0 _ rfl (x,o) (EB.2 ⟨?_,ho⟩)).1
  rintro(h|h)
  ·exact hlt h
  ·obtain⟨q,hq,e⟩:=List.mem_map.1 h
   exact hx q hq e
theorem LB.row {W W1:World} {L:List (Nat×Obj)} (h:LB W W1 L) {b off:Nat} {c:List Value} (hr:Al W b off c) (hne: ∀q∈L,q.1≠b):Al W1 b off c:=by
 have hb:W.heap[b]? =some (W.heap[b]'hr.lt):=Array.getElem?_eq_getElem hr.lt
 have h1:=h b _ hb hne
 refine⟨(Array.getElem?_eq_some_iff.1 h1).1,fun j x hx=> ?_⟩
 have h2:=hr.get j x hx
 simp only[World.cell?] at h2⊢
 rw[h1, <-hb]
 exact h2
theorem Z8 {W0 W W':World} {bs:List Bx} {L:List (Nat×Obj)} (hb0:Below W0.heap.size W0 W) (hb:Below W0.heap.size W0 W') (hn:As W0 W' (Ad (Ay W0.heap.size W L)::bs)) (hos:W'.os=W.os) (hta:W'.tape=W.tape) (hou:W'.output=W.output):Xu W0.heap.size W W' L (Ci bs):=by
 have ht:As W0 W' bs:=Own.tail hn
 refine⟨hos,hta,hou,hb.size,fun p hp=> ?_,ht.nodup,fun p hp=> ?_,fun x hx hlt=> ?_⟩
 ·obtain⟨B,hB,hpB⟩:=List.mem_flatMap.1 hp
  obtain⟨k,hk⟩:=List.getElem?_of_mem hB
  by_cases e:p.1∈L.map (·.1)
  ·obtain⟨q,hq,e⟩:=List.mem_map.1 e
   exact .inl ⟨q,hq,e⟩
  ·refine .inr (Nat.le_of_not_lt fun hlt=> ?_)
   have h1:W.heap[p.1]? =some W.heap[p.1]:=Array.getElem?_eq_getElem hlt
   have h0:=(ht.cell k B hk p hpB).2
   exact hn.apart 0 (k+1) _ B rfl (by rw[List.getElem?_cons_succ];exact hk) (by omega) (p.1,W.heap[p.1]) (EB.2 ⟨fun h=>h.elim (fun h=>Nat.not_lt_of_le h0 h) e,h1⟩) p hpB rfl
 ·obtain⟨B,hB,hpB⟩:=List.mem_flatMap.1 hp
  obtain⟨k,hk⟩:=List.getElem?_of_mem hB
  exact(ht.cell k B hk p hpB).1
 ·have h1:W.heap[x]? =some W.heap[x]:=Array.getElem?_eq_getElem hlt
  rw[h1]
  exact EL hb0 ⟨hb,hn⟩ x _ h1 hx
structure A0 (P:Program) (n g:Nat) (vs:List Value) (W:World) (L:List (Nat×Obj)) {X:Type} (val:X->Value) (Φ:X->Prop) (L':X->List (Nat×Obj)):Prop where
 out:Calls P g vs.toArray W fun e W'=> ∃x,e= .returned (val x)/\Φ x/\Xu n W W' L (L' x)
theorem A0.enter {P:Program} {N f:Nat} {fn:Func} {cd:Code} {args:List Value} {X:Type} {val:X->Value} {Φ:X->Prop} {W0 W:World} {bs:List Bx} {bs':X->List Bx} (hb0:Below W0.heap.size W0 W) (hO:Own W0.heap.size bs W)
  (hf:P.funcs[f]? =some fn) (hb:fn.body=some cd) (hN:fn.ntmps=N) (hl:Nat.ble args.length N=true)
  (hw:WC none 0 P N [] cd (GF P fn W0 val Φ (fun x=>Ad (Ay W0.heap.size W (Ci bs))::bs' x)) (I8 0 args) (Hp W0 (Ad (Ay W0.heap.size W (Ci bs))::bs))):A0 P W0.heap.size f args W (Ci bs) val Φ (fun x=>Ci (bs' x)):=by
 have key:=G6 (X:=X) (val:=val) (Φ:=Φ) (nb:=fun x=>Ad (Ay W0.heap.size W (Ci bs))::bs' x) (Hp.enterG hb0 hO) hf hb hN hl hw
 refine⟨key.mono ?_⟩
 rintro e W' ⟨x,he,hx,hb,hn⟩
 exact⟨x,he,hx,Z8 hb0 hb hn (hb.os.trans hb0.os.symm) (hb.tape.trans hb0.tape.symm) (hb.output.trans hb0.output.symm)⟩
theorem Ap (L:List (Nat×Obj)):Ci [Ad L]=L:=List.append_nil L
theorem A0.enterL {P:Program} {N f:Nat} {fn:Func} {cd:Code} {args:List Value} {X:Type} {val:X->Value} {Φ:X->Prop} {W0 W:World} {bs:List Bx} {bs':X->List Bx} {L:List (Nat×Obj)} {L':X->List (Nat×Obj)} (hb0:Below W0.heap.size W0 W) (hO:Own W0.heap.size bs W) (hL:Ci bs=L) (hL': ∀x,Ci (bs' x)=L' x)
  (hf:P.funcs[f]? =some fn) (hb:fn.body=some cd) (hN:fn.ntmps=N) (hl:Nat.ble args.length N=true)
  (hw:WC none 0 P N [] cd (GF P fn W0 val Φ (fun x=>Ad (Ay W0.heap.size W L)::bs' x)) (I8 0 args) (Hp W0 (Ad (Ay W0.heap.size W L)::bs))):A0 P W0.heap.size f args W L val Φ L':=by
 subst hL
 have key:=A0.enter hb0 hO hf hb hN hl hw
 rwa [show(fun x=>Ci (bs' x))=L' from funext hL'] at key
section
variable {r:Option Nat} {n:Nat} {P:Program} {W0:World} {N:Nat} {D:List Deferred} {ops:List Oper} {Q:Exit->Act->World->Prop} {o:Oper} {rest:List Oper} {env:Env} {bxs:List Bx}
theorem B2 {c:Code} {l:List Bx} (bs':List Bx) (s:List Nat) (hs:s.Nodup) (hp:Am.pick bxs s=some l) (e:Ci bs'=Ci l) (h:WC r n P N D c Q env (Hp W0 bs')):WC r n P N D c Q env (Hp W0 bxs):= .mk fun a W ha hd hq=>h.out a W ha hd (hq.regroup bs' s hs hp e)
theorem Ey {ex:Exit} {l:List Bx} (bs':List Bx) (s:List Nat) (hs:s.Nodup) (hp:Am.pick bxs s=some l) (e:Ci bs'=Ci l) (h:NE N D Q ex env (Hp W0 bs')):NE N D Q ex env (Hp W0 bxs):= .mk fun a W ha hd hq=>h.out a W ha hd (hq.regroup bs' s hs hp e)
theorem AM {ex:Exit} {bs':List Bx} (e:bxs=bs') (h:NE N D Q ex env (Hp W0 bs')):NE N D Q ex env (Hp W0 bxs):=e▸h
theorem Ah (k:Nat) {c:Call} {f:Operand} {g d:Nat} {capt vs:List Value} {X:Type} {val:X->Value} {Φ:X->Prop} {B:Bx} {L':X->List (Nat×Obj)} (B':X->Bx)
  (hg:Aj ops N env o=some true) (hd:o.dst=some d) (ho:o.op= .call c) (hc:c.callee= .value f) (hf:evO N env f=some (.func (.func g) #[] capt.toArray)) (ha:Cl (evO N env) c.args.toList=some vs) (hE:Bm P g=true)
  (hk:nth bxs k=some B) (hB': ∀x,Φ x->(B' x).blk=L' x) (hC: ∀W,Hp W0 bxs W->A0 P W0.heap.size g (vs++capt) W B.blk val Φ L')
  (h: ∀x,Φ x->WL r n P N D ops Q rest ((d,val x)::env) (Hp W0 (bxs.set k (B' x)))):WL r n P N D ops Q (o::rest) env (Hp W0 bxs):= .mk fun a W h1 h2 hp=>by
 rw[AT] at hk
 refine By hg h1 (fun c e=>by rw[ho] at e;cases e) ?_
 rw[F1 ho hc (A4 h1 _ _ hf) (DG (A4 h1) ha) hE]
 simp only[Oper.uponIn,hd]
 refine⟨fun hx=>(by cases hx),Dm ((hC W hp).out.mono ?_)⟩
 rintro e W' ⟨x,rfl,hx,hT⟩
 refine(h x hx).out a W' h1 h2 (hp.turnL hk ?_)
 rw[hB' x hx]
 exact hT
end
structure aR (P:Program) (gf:Nat) (lb:List Value) (m:Nat) (enc:Nat->List Value) (Need:Nat->World->Prop) (L0:List (Nat×Obj)):Prop where
 out: ∀(l:Nat) (J:Nat->List (Nat×Obj)->World->Prop) (Jx:World->Prop),
  (∀k L W,J k L W->Need k W/\ ∀p∈L,W.heap[p.1]? =some p.2)->(∀k L W W',J k L W->Below W.heap.size W W'->J k L W')->
  (∀k b o o' W W',J k [(b,o)] W->Upd W W' b o'->J k [(b,o')] W')->
  (∀k L W,k<m->J k L W->YieldAt (Fw none) 0 P l (enc k).toArray W fun e W'=>(e= .returned (.bool true)/\J (k+1) L W')\/(e= .returned (.bool false)/\Jx W'))->
  ∀W,J 0 L0 W->CallsIn (Fw none) 0 P gf (.func (.yield l) #[] #[]::lb).toArray W fun e W'=>(∃v,e= .returned v)/\((∃L,J m L W')\/Jx W')
section
variable {P:Program} {W0:World} {N:Nat} {D:List Deferred} {env:Env} {bxs:List Bx} {Q:Exit->Act->World->Prop}
variable {X:Type}
theorem Ol {f:Operand} {ps:Array Nat} {assign body:Code} {gf m:Nat} {lb:List Value} {enc:Nat->List Value} {Need:Nat->World->Prop} {L0:List (Nat×Obj)} (B:X->List Bx) (Φ:Nat->X->Prop) (Ψ:Code->X->Prop) (x0:X)
  (hf:evO N env f=some (.func (.func gf) #[] lb.toArray)) (hE:Bm P gf=true) (hI:aR P gf lb m enc Need L0) (hps: ∀k,(enc k).length=ps.size)
  (h0:Φ 0 x0) (nb:List Bx) (hB:bxs=Ad L0::B x0++nb) (hN: ∀k x W,Φ k x->Hp W0 (B x) W->Need k W)
  (hbody: ∀(k:Nat) (x:X) (d l:Nat) (rec:LoopState->Option Code->Loop) (L:List (Nat×Obj)),k<m->Φ k x->Gd rec->
   WC (some l) 0 P N [] assign (Vu P W0 (fun x=>Ad L::B x) Φ Ψ d l rec k body) (CM ps.toList (enc k) env) (Hp W0 (Ad L::B x++[B7 d,Bc l rec .ready none])))
  (hdone: ∀(x:X) (d l:Nat) (rec:LoopState->Option Code->Loop),Φ m x->NE N (C7 d::D) Q .normal env (Hp W0 (B x++[B7 d,Bc l rec .exhausted none])))
  (hjump: ∀(x:X) (d l:Nat) (rec:LoopState->Option Code->Loop) (c:Code),Ψ c x->WC none 0 P N (C7 d::D) c Q env (Hp W0 (B x++[B7 d,Bc l rec .exhausted (some c)]))):
  WC none 0 P N D (.rangeFunc f ps assign body) Q env (Hp W0 bxs):= .mk fun a W ha hd hp=>by
 refine wpIn_rangeFunc ?_
 intro fn _
 obtain⟨rec,hr⟩: ∃rec:LoopState->Option Code->Loop,rec=fun s j=> { state:=s,pending:=j,fn,tmps:=(ov env a).tmps,params:=ps,assign,body,defers:=W.heap.size }:=⟨_,rfl⟩
 have hrec:Gd rec:=by subst hr;exact⟨fun _ _=>rfl,fun _ _=>rfl,fun _ _ _ _=>rfl⟩
 obtain⟨W1,hW1⟩: ∃W1,(W.alloc (.deferred (some []))).alloc (.loop (rec .ready none))=W1:=⟨_,rfl⟩
 have hpB:Hp W0 (Ad L0::B x0) W:=by rw[hB] at hp;exact hp.take
 have hp1:Hp W0 ((Ad L0::B x0)++[B7 W.heap.size,Bc (W.heap.size+1) rec .ready none]) W1:=by
  have hb:Below W.heap.size W W1:=by rw[<-hW1];exact((Below.refl _ W).alloc (Nat.le_refl _) _).alloc (by simp) _
  refine hpB.append hb (As.two ⟨?_,Nat.le_refl _⟩ ⟨?_,Nat.le_succ _⟩ (Nat.ne_of_lt (Nat.lt_succ_self _)))
  ·show W1.heap[W.heap.size]? =some (.deferred (some []))
   rw[<-hW1]
   exact(Below.heap_alloc _ _ _ (by simp)).trans (World.alloc_heap_new W _)
  ·show W1.heap[W.heap.size+1]? =some (.loop (rec .ready none))
   rw[<-hW1]
   have:=World.alloc_heap_new (W.alloc (.deferred (some []))) (.loop (rec .ready none))
   rwa [World.size_alloc] at this
 refine⟨W.heap.size+1,[C7 W.heap.size],W1, { target:= .fn (.func gf) lb.toArray,args:= #[.func (.yield (W.heap.size+1)) #[] #[]] },W1,gf,
  (.func (.yield (W.heap.size+1)) #[] #[]::lb).toArray,W1, ?_, ?_,fun _ _=>trivial, ?_,fun h=>(by cases h), ?_⟩
 ·rw[<-hW1,hr];exact run_enterLoop_outer _ _ _ _ _
 ·have hc: ∀v,(ov env a).eval (.const v)=v:=fun _=>rfl
  simp only[resolve]
  rw[A4 ha _ _ hf]
  simp[Deferred.ofValue,hc]
 ·simp only[invoke,FO hE]
  simp
 ·have split: ∀ {L:List (Nat×Obj)} {x:X} {W2:World},Hp W0 ((fun x=>Ad L::B x) x++[B7 W.heap.size,Bc (W.heap.size+1) rec .ready none]) W2->Hp W0 (B x++[B7 W.heap.size,Bc (W.heap.size+1) rec .ready none]) W2:=fun h=>h.tail
  refine(hI.out (W.heap.size+1) (fun k L=>JR W0 (fun x=>Ad L::B x) Φ W.heap.size (W.heap.size+1) rec k) (fun W'=> ∃L,JX W0 (fun x=>Ad L::B x) Ψ W.heap.size (W.heap.size+1) rec W')
   (fun k L W ⟨x,hx,hp⟩=>⟨hN k x W hx (split hp).take,fun p hp'=>(hp.own.cell 0 (Ad L) rfl p hp').1⟩) (fun k L W W2 ⟨x,hx,hp⟩ hb=>⟨x,hx,hp.grow hb⟩) ?_ ?_ W1 ⟨x0,h0,hp1⟩).mono ?_
  ·rintro k b o o' W2 W3 ⟨x,hx,hp2⟩ hu
   have hc:=hp2.own.cell 0 (Ad [(b,o)]) rfl (b,o) (List.mem_cons_self ..)
   exact⟨x,hx,hp2.near (k:=0) (B:=Ad [(b,o)]) (B':=Ad [(b,o')]) (L1:=[]) (L2:=[]) rfl rfl rfl (hu.near (Array.getElem?_eq_some_iff.1 hc.1).1)⟩
  ·rintro k L W2 hk ⟨x,hx,hp2⟩
   have hL:=((split hp2).at_ ((B x).length+1) (Bc (W.heap.size+1) rec .ready none) (by rw[List.getElem?_append_right (by omega)];simp) rfl).1
   refine⟨fn,(ps.zip (enc k).toArray).foldl (fun tmps (x:Nat×Value)=>tmps.setIfInBounds x.1 x.2) (ov env a).tmps,assign,body, ?_, ?_⟩
   ·have:=run_yield (P:=P) (args:=(enc k).toArray) hL (by subst hr;simpa using hps k)
    subst hr
    exact this
   ·refine roundIn_of_wpIn (F:=Fw none) trivial ?_
    have hb:=(hbody k x W.heap.size (W.heap.size+1) rec L hk hx hrec).out { tmps:=a.tmps,defers:=[] } W2 ha rfl hp2
    have e:({ tmps:=(ps.zip (enc k).toArray).foldl (fun tmps (x:Nat×Value)=>tmps.setIfInBounds x.1 x.2) (ov env a).tmps,defers:=[] }:Act)=ov (CM ps.toList (enc k) env) { tmps:=a.tmps,defers:=[] }:=by
     have h1:=HV ps.toList (enc k) env { tmps:=a.tmps,defers:=[] }
     rw[Ib env { tmps:=a.tmps,defers:=[] } a rfl] at h1
     have h2:(ov (CM ps.toList (enc k) env) { tmps:=a.tmps,defers:=[] }).defers=[]:=Bl _ _
     cases hA:ov (CM ps.toList (enc k) env) { tmps:=a.tmps,defers:=[] }
     rw[hA] at h1 h2
     simp only at h1 h2
     subst h2
     congr 1
     rw[h1, <-Array.foldl_toList]
     simp
    have e':(rec .ready none).params=ps/\(rec .ready none).tmps=(ov env a).tmps:=by subst hr;exact⟨rfl,rfl⟩
    rw[<-e] at hb
    refine wpIn_mono hb ?_
    intro ex a2 W3 hq
    have hq:=hq.out
    cases ex with
    |normal=>
     obtain⟨w2,h1,h2⟩:=hq
     exact⟨w2,h1,wpIn_mono h2 fun _ _ _ h=>Hl (fun _ _ h=>h.imp id fun h=>⟨h.1,L,h.2⟩) h.out⟩
    |_=>exact hq
  ·rintro e W2 ⟨⟨v,rfl⟩,(⟨L,x,hx,hp2⟩|⟨L,c,x,hx,hp2⟩)⟩
   ·have hp2:=split hp2
    have hi:(B x++[B7 W.heap.size,Bc (W.heap.size+1) rec .ready none])[(B x).length+1]? =some (Bc (W.heap.size+1) rec .ready none):=by rw[List.getElem?_append_right (by omega)];simp
    have hL:=(hp2.at_ _ _ hi rfl).1
    refine⟨_,_,run_endLoop hL (by rw[hrec.st];simp), ?_⟩
    rw[hrec.pend]
    have hp3:=hp2.updO (W':=W2.putObj (W.heap.size+1) (.loop { rec .ready none with state:= .exhausted })) hi rfl (B':=Bc (W.heap.size+1) rec .exhausted none) rfl ⟨rfl,rfl,rfl,by rw[hrec.upd1];rfl⟩
    have hset:(B x++[B7 W.heap.size,Bc (W.heap.size+1) rec .ready none]).set ((B x).length+1) (Bc (W.heap.size+1) rec .exhausted none)=B x++[B7 W.heap.size,Bc (W.heap.size+1) rec .exhausted none]:=by
     rw[List.set_append_right _ _ (by omega)];simp
    rw[hset] at hp3
    have:=(hdone x W.heap.size (W.heap.size+1) rec hx).out { tmps:=a.tmps,defers:=C7 W.heap.size::D } _ ha rfl hp3
    rw[Ii, <-hd, <-Bl env a] at this
    simp only[hrec.pend] at this⊢
    exact this
   ·have hp2:Hp W0 (B x++[B7 W.heap.size,Bc (W.heap.size+1) rec .done (some c)]) W2:=hp2.tail
    have hi:(B x++[B7 W.heap.size,Bc (W.heap.size+1) rec .done (some c)])[(B x).length+1]? =some (Bc (W.heap.size+1) rec .done (some c)):=by rw[List.getElem?_append_right (by omega)];simp
    have hL:=(hp2.at_ _ _ hi rfl).1
    refine⟨_,_,run_endLoop hL (by rw[hrec.st];simp), ?_⟩
    rw[hrec.pend]
    have hp3:=hp2.updO (W':=W2.putObj (W.heap.size+1) (.loop { rec .done (some c) with state:= .exhausted })) hi rfl (B':=Bc (W.heap.size+1) rec .exhausted (some c)) rfl ⟨rfl,rfl,rfl,by rw[hrec.upd1];rfl⟩
    have hset:(B x++[B7 W.heap.size,Bc (W.heap.size+1) rec .done (some c)]).set ((B x).length+1) (Bc (W.heap.size+1) rec .exhausted (some c))=B x++[B7 W.heap.size,Bc (W.heap.size+1) rec .exhausted (some c)]:=by
     rw[List.set_append_right _ _ (by omega)];simp
    rw[hset] at hp3
    have:=(hjump x W.heap.size (W.heap.size+1) rec c hx).out { tmps:=a.tmps,defers:=C7 W.heap.size::D } _ ha rfl hp3
    rw[Ii, <-hd, <-Bl env a] at this
    simp only[hrec.pend] at this⊢
    exact this
end
end Go.Am
namespace Go.Proofs
open Go.Shelf
def Tryz.lays160_ren:Go.Shelf.Ren:=⟨fun|160=>62|232=>123|231=>76|227=>77|234=>124|233=>78|236=>125|235=>79|228=>132|271=>177|151=>134|197=>133|120=>221|152=>186|260=>185|137=>17|119=>228|224=>229|225=>230|217=>26|266=>47|n=>n,fun|9=>9|4=>4|3=>3|5=>5|117=>149|116=>148|0=>0|124=>152|21=>21|105=>198|46=>260|119=>294|139=>297|138=>296|n=>n,fun|3=>5|4=>6|n=>n⟩
theorem Tryz.lays160:Go.Proofs.Lays.n160 Tryz.prog Tryz.lays160_ren:= {
 mixed:=by kernel_rfl
 f119:=fTr Tryz.func228 (by kernel_rfl)
 f120:=fTr Tryz.func221 (by kernel_rfl)
 f137:=fTr Tryz.func17 (by kernel_rfl)
 f151:=fTr Tryz.func134 (by kernel_rfl)
 f152:=fTr Tryz.func186 (by kernel_rfl)
 f160:=fTr Tryz.func62 (by kernel_rfl)
 f197:=fTr Tryz.func133 (by kernel_rfl)
 f217:=fTr Tryz.func26 (by kernel_rfl)
 f224:=fTr Tryz.func229 (by kernel_rfl)
 f225:=fTr Tryz.func230 (by kernel_rfl)
 f227:=fTr Tryz.func77 (by kernel_rfl)
 f228:=fTr Tryz.func132 (by kernel_rfl)
 f231:=fTr Tryz.func76 (by kernel_rfl)
 f232:=fTr Tryz.func123 (by kernel_rfl)
 f233:=fTr Tryz.func78 (by kernel_rfl)
 f234:=fTr Tryz.func124 (by kernel_rfl)
 f235:=fTr Tryz.func79 (by kernel_rfl)
 f236:=fTr Tryz.func125 (by kernel_rfl)
 f260:=fTr Tryz.func185 (by kernel_rfl)
 f266:=fTr Tryz.func47 (by kernel_rfl)
 f271:=fTr Tryz.func177 (by kernel_rfl)
 t0:=Tryz.underlying0
 a0:=Tryz.isAgg0
 z0:=Tryz.sizeOf0
 v0:=Tryz.zeroValue0
 t3:=Tryz.underlying3
 a3:=Tryz.isAgg3
 z3:=Tryz.sizeOf3
 v3:=Tryz.zeroValue3
 t4:=Tryz.underlying4
 a4:=Tryz.isAgg4
 z4:=Tryz.sizeOf4
 v4:=Tryz.zeroValue4
 t5:=Tryz.underlying5
 a5:=Tryz.isAgg5
 z5:=Tryz.sizeOf5
 v5:=Tryz.zeroValue5
 t9:=Tryz.underlying9
 a9:=Tryz.isAgg9
 z9:=Tryz.sizeOf9
 v9:=Tryz.zeroValue9
 t21:=Tryz.underlying21
 a21:=Tryz.isAgg21
 z21:=Tryz.sizeOf21
 v21:=Tryz.zeroValue21
 t46:=Tryz.underlying260
 a46:=Tryz.isAgg260
 z46:=Tryz.sizeOf260
 v46:=Tryz.zeroValue260
 t105:=Tryz.underlying198
 a105:=Tryz.isAgg198
 z105:=Tryz.sizeOf198
 v105:=Tryz.zeroValue198
 t116:=Tryz.underlying148
 a116:=Tryz.isAgg148
 z116:=Tryz.sizeOf148
 t117:=Tryz.underlying149
 a117:=Tryz.isAgg149
 z117:=Tryz.sizeOf149
 v117:=Tryz.zeroValue149
 t119:=Tryz.underlying294
 a119:=Tryz.isAgg294
 z119:=Tryz.sizeOf294
 t124:=Tryz.underlying152
 a124:=Tryz.isAgg152
 z124:=Tryz.sizeOf152
 v124:=Tryz.zeroValue152
 t138:=Tryz.underlying296
 a138:=Tryz.isAgg296
 z138:=Tryz.sizeOf296
 v138:=Tryz.zeroValue296
 t139:=Tryz.underlying297
 a139:=Tryz.isAgg297
 z139:=Tryz.sizeOf297
 v139:=Tryz.zeroValue297
 g3:=by kernel_rfl
 g4:=by kernel_rfl }
def Tryz.lays103_ren:Go.Shelf.Ren:=⟨fun|103=>54|210=>84|206=>25|n=>n,fun|9=>9|4=>4|24=>109|3=>3|n=>n,fun|n=>n⟩
theorem Tryz.lays103:Go.Proofs.Lays.n103 Tryz.prog Tryz.lays103_ren:= {
 mixed:=by kernel_rfl
 f103:=fTr Tryz.func54 (by kernel_rfl)
 f206:=fTr Tryz.func25 (by kernel_rfl)
 f210:=fTr Tryz.func84 (by kernel_rfl)
 t3:=Tryz.underlying3
 a3:=Tryz.isAgg3
 z3:=Tryz.sizeOf3
 v3:=Tryz.zeroValue3
 t4:=Tryz.underlying4
 a4:=Tryz.isAgg4
 z4:=Tryz.sizeOf4
 v4:=Tryz.zeroValue4
 t9:=Tryz.underlying9
 a9:=Tryz.isAgg9
 z9:=Tryz.sizeOf9
 v9:=Tryz.zeroValue9
 t24:=Tryz.underlying109
 a24:=Tryz.isAgg109
 z24:=Tryz.sizeOf109
 v24:=Tryz.zeroValue109 }
open Go.RowKit in
theorem Tryz.strings_CutPrefix (s p:ByteArray) (w:World):
  Calls Tryz.prog 54 #[.string s, .string p] w fun e w'=>e= .returned (.tuple #[.string ⟨(Lib.trimPrefix s.data.toList p.data.toList).toArray⟩, .bool (Lib.hasPrefix s.data.toList p.data.toList)])/\w'=w:=Any.strings_CutPrefix Tryz.lays103 s p w
def Tryz.lays122_ren:Go.Shelf.Ren:=⟨fun|122=>319|215=>341|n=>n,fun|3=>3|4=>4|n=>n,fun|n=>n⟩
theorem Tryz.lays122:Go.Proofs.Lays.n122 Tryz.prog Tryz.lays122_ren:= {
 mixed:=by kernel_rfl
 f122:=fTr Tryz.func319 (by kernel_rfl)
 f215:=fTr Tryz.func341 (by kernel_rfl)
 t3:=Tryz.underlying3
 a3:=Tryz.isAgg3
 z3:=Tryz.sizeOf3
 v3:=Tryz.zeroValue3
 t4:=Tryz.underlying4
 a4:=Tryz.isAgg4
 z4:=Tryz.sizeOf4
 v4:=Tryz.zeroValue4 }
open Go.RowKit in
theorem Tryz.cmp_Compare_int (x y:Int) (w:World):
  Calls Tryz.prog 319 #[.int .i64 x, .int .i64 y] w fun e w'=>e= .returned (.int .i64 (Lib.compareInt x y))/\w'=w:=Any.cmp_Compare_int Tryz.lays122 x y w
def Tryz.laysM171_ren:Go.Shelf.Ren:=⟨fun|171=>46|243=>75|246=>131|283=>181|284=>182|285=>183|286=>184|129=>224|317=>223|318=>225|319=>226|320=>227|337=>272|338=>273|n=>n,fun|3=>3|9=>9|2=>2|4=>4|171=>251|0=>0|53=>252|37=>44|5=>5|173=>255|212=>290|51=>291|20=>20|213=>292|46=>260|232=>378|233=>379|n=>n,fun|17=>4|18=>7|19=>8|n=>n⟩
theorem Tryz.laysM171:Go.Proofs.LaysM.n171 Tryz.prog Tryz.laysM171_ren:= {
 mixed:=by kernel_rfl
 f129:=fTr Tryz.func224 (by kernel_rfl)
 f171:=fTr Tryz.func46 (by kernel_rfl)
 f243:=fTr Tryz.func75 (by kernel_rfl)
 f246:=fTr Tryz.func131 (by kernel_rfl)
 f283:=fTr Tryz.func181 (by kernel_rfl)
 f284:=fTr Tryz.func182 (by kernel_rfl)
 f285:=fTr Tryz.func183 (by kernel_rfl)
 f286:=fTr Tryz.func184 (by kernel_rfl)
 f317:=fTr Tryz.func223 (by kernel_rfl)
 f318:=fTr Tryz.func225 (by kernel_rfl)
 f319:=fTr Tryz.func226 (by kernel_rfl)
 f320:=fTr Tryz.func227 (by kernel_rfl)
 f337:=fTr Tryz.func272 (by kernel_rfl)
 f338:=fTr Tryz.func273 (by kernel_rfl)
 t0:=Tryz.underlying0
 a0:=Tryz.isAgg0
 z0:=Tryz.sizeOf0
 v0:=Tryz.zeroValue0
 t2:=Tryz.underlying2
 a2:=Tryz.isAgg2
 z2:=Tryz.sizeOf2
 v2:=Tryz.zeroValue2
 t3:=Tryz.underlying3
 a3:=Tryz.isAgg3
 z3:=Tryz.sizeOf3
 v3:=Tryz.zeroValue3
 t4:=Tryz.underlying4
 a4:=Tryz.isAgg4
 z4:=Tryz.sizeOf4
 v4:=Tryz.zeroValue4
 t5:=Tryz.underlying5
 a5:=Tryz.isAgg5
 z5:=Tryz.sizeOf5
 v5:=Tryz.zeroValue5
 t9:=Tryz.underlying9
 a9:=Tryz.isAgg9
 z9:=Tryz.sizeOf9
 v9:=Tryz.zeroValue9
 t20:=Tryz.underlying20
 a20:=Tryz.isAgg20
 z20:=Tryz.sizeOf20
 v20:=Tryz.zeroValue20
 t37:=Tryz.underlying44
 a37:=Tryz.isAgg44
 z37:=Tryz.sizeOf44
 v37:=Tryz.zeroValue44
 t46:=Tryz.underlying260
 a46:=Tryz.isAgg260
 z46:=Tryz.sizeOf260
 v46:=Tryz.zeroValue260
 t51:=Tryz.underlying291
 a51:=Tryz.isAgg291
 z51:=Tryz.sizeOf291
 v51:=Tryz.zeroValue291
 t53:=Tryz.underlying252
 a53:=Tryz.isAgg252
 z53:=Tryz.sizeOf252
 v53:=Tryz.zeroValue252
 t171:=Tryz.underlying251
 a171:=Tryz.isAgg251
 z171:=Tryz.sizeOf251
 v171:=Tryz.zeroValue251
 t173:=Tryz.underlying255
 a173:=Tryz.isAgg255
 z173:=Tryz.sizeOf255
 v173:=Tryz.zeroValue255
 t212:=Tryz.underlying290
 a212:=Tryz.isAgg290
 z212:=Tryz.sizeOf290
 v212:=Tryz.zeroValue290
 t213:=Tryz.underlying292
 a213:=Tryz.isAgg292
 z213:=Tryz.sizeOf292
 t232:=Tryz.underlying378
 a232:=Tryz.isAgg378
 z232:=Tryz.sizeOf378
 v232:=Tryz.zeroValue378
 t233:=Tryz.underlying379
 a233:=Tryz.isAgg379
 z233:=Tryz.sizeOf379
 v233:=Tryz.zeroValue379
 g17:=by kernel_rfl
 g18:=by kernel_rfl
 g19:=by kernel_rfl
 i0:=by kernel_rfl
 i2:=by kernel_rfl
 i3:=by kernel_rfl
 i4:=by kernel_rfl
 i5:=by kernel_rfl
 i9:=by kernel_rfl
 i20:=by kernel_rfl
 i37:=by kernel_rfl
 i46:=by kernel_rfl
 i51:=by kernel_rfl
 i53:=by kernel_rfl
 i171:=by kernel_rfl
 i173:=by kernel_rfl
 i212:=by kernel_rfl
 i232:=by kernel_rfl
 i233:=by kernel_rfl
 m17:=by kernel_rfl
 m18:=by kernel_rfl
 m19:=by kernel_rfl }
open Go.RowKit Go.Sort Go.Lib in
theorem Tryz.strconv_Itoa (n : Int) (h0 : -9223372036854775808 <= n) (h1 : n <= 9223372036854775807) (w : World) (htab : Lib.TabIs Tryz.prog w "internal/strconv.uint64pow10" .u64 Lib.pow10Tab) :
  Calls Tryz.prog 46 #[.int .i64 n] w fun e w'=>e= .returned (.string ⟨(Lib.itoa n).toArray⟩)/\ ∃k os,w'=grow (w.drewN k) os:=Any.strconv_Itoa Tryz.laysM171 n h0 h1 w htab
def Tryz.laysC172_ren:Go.Shelf.Ren:=⟨fun|172=>49|244=>80|245=>81|247=>135|279=>136|280=>137|281=>138|282=>139|287=>187|316=>188|171=>46|205=>189|321=>231|322=>232|243=>75|246=>131|283=>181|284=>182|285=>183|286=>184|129=>224|317=>223|318=>225|319=>226|320=>227|337=>272|338=>273|n=>n,fun|9=>9|3=>3|75=>104|76=>105|4=>4|5=>5|167=>201|37=>44|0=>0|85=>202|2=>2|168=>204|53=>252|175=>258|46=>260|210=>263|127=>241|145=>302|143=>300|21=>21|171=>251|173=>255|212=>290|51=>291|20=>20|213=>292|232=>378|233=>379|80=>171|n=>n,fun|15=>2|16=>3|17=>4|18=>7|19=>8|n=>n⟩
theorem Tryz.laysC172:Go.Proofs.LaysC.n172 Tryz.prog Tryz.laysC172_ren:= {
 mixed:=by kernel_rfl
 f129:=fTr Tryz.func224 (by kernel_rfl)
 f171:=fTr Tryz.func46 (by kernel_rfl)
 f172:=fTr Tryz.func49 (by kernel_rfl)
 f205:=fTr Tryz.func189 (by kernel_rfl)
 f243:=fTr Tryz.func75 (by kernel_rfl)
 f244:=fTr Tryz.func80 (by kernel_rfl)
 f245:=fTr Tryz.func81 (by kernel_rfl)
 f246:=fTr Tryz.func131 (by kernel_rfl)
 f247:=fTr Tryz.func135 (by kernel_rfl)
 f279:=fTr Tryz.func136 (by kernel_rfl)
 f280:=fTr Tryz.func137 (by kernel_rfl)
 f281:=fTr Tryz.func138 (by kernel_rfl)
 f282:=fTr Tryz.func139 (by kernel_rfl)
 f283:=fTr Tryz.func181 (by kernel_rfl)
 f284:=fTr Tryz.func182 (by kernel_rfl)
 f285:=fTr Tryz.func183 (by kernel_rfl)
 f286:=fTr Tryz.func184 (by kernel_rfl)
 f287:=fTr Tryz.func187 (by kernel_rfl)
 f316:=fTr Tryz.func188 (by kernel_rfl)
 f317:=fTr Tryz.func223 (by kernel_rfl)
 f318:=fTr Tryz.func225 (by kernel_rfl)
 f319:=fTr Tryz.func226 (by kernel_rfl)
 f320:=fTr Tryz.func227 (by kernel_rfl)
 f321:=fTr Tryz.func231 (by kernel_rfl)
 f322:=fTr Tryz.func232 (by kernel_rfl)
 f337:=fTr Tryz.func272 (by kernel_rfl)
 f338:=fTr Tryz.func273 (by kernel_rfl)
 t0:=Tryz.underlying0
 a0:=Tryz.isAgg0
 z0:=Tryz.sizeOf0
 v0:=Tryz.zeroValue0
 t2:=Tryz.underlying2
 a2:=Tryz.isAgg2
 z2:=Tryz.sizeOf2
 v2:=Tryz.zeroValue2
 t3:=Tryz.underlying3
 a3:=Tryz.isAgg3
 z3:=Tryz.sizeOf3
 v3:=Tryz.zeroValue3
 t4:=Tryz.underlying4
 a4:=Tryz.isAgg4
 z4:=Tryz.sizeOf4
 v4:=Tryz.zeroValue4
 t5:=Tryz.underlying5
 a5:=Tryz.isAgg5
 z5:=Tryz.sizeOf5
 v5:=Tryz.zeroValue5
 t9:=Tryz.underlying9
 a9:=Tryz.isAgg9
 z9:=Tryz.sizeOf9
 v9:=Tryz.zeroValue9
 t20:=Tryz.underlying20
 a20:=Tryz.isAgg20
 z20:=Tryz.sizeOf20
 v20:=Tryz.zeroValue20
 t21:=Tryz.underlying21
 a21:=Tryz.isAgg21
 z21:=Tryz.sizeOf21
 v21:=Tryz.zeroValue21
 t37:=Tryz.underlying44
 a37:=Tryz.isAgg44
 z37:=Tryz.sizeOf44
 v37:=Tryz.zeroValue44
 t46:=Tryz.underlying260
 a46:=Tryz.isAgg260
 z46:=Tryz.sizeOf260
 v46:=Tryz.zeroValue260
 t51:=Tryz.underlying291
 a51:=Tryz.isAgg291
 z51:=Tryz.sizeOf291
 v51:=Tryz.zeroValue291
 t53:=Tryz.underlying252
 a53:=Tryz.isAgg252
 z53:=Tryz.sizeOf252
 v53:=Tryz.zeroValue252
 t75:=Tryz.underlying104
 a75:=Tryz.isAgg104
 z75:=Tryz.sizeOf104
 v75:=Tryz.zeroValue104
 t76:=Tryz.underlying105
 a76:=Tryz.isAgg105
 z76:=Tryz.sizeOf105
 v76:=Tryz.zeroValue105
 t85:=Tryz.underlying202
 a85:=Tryz.isAgg202
 z85:=Tryz.sizeOf202
 v85:=Tryz.zeroValue202
 t127:=Tryz.underlying241
 a127:=Tryz.isAgg241
 z127:=Tryz.sizeOf241
 v127:=Tryz.zeroValue241
 t143:=Tryz.underlying300
 a143:=Tryz.isAgg300
 z143:=Tryz.sizeOf300
 v143:=Tryz.zeroValue300
 t145:=Tryz.underlying302
 a145:=Tryz.isAgg302
 z145:=Tryz.sizeOf302
 v145:=Tryz.zeroValue302
 t167:=Tryz.underlying201
 a167:=Tryz.isAgg201
 z167:=Tryz.sizeOf201
 v167:=Tryz.zeroValue201
 t168:=Tryz.underlying204
 a168:=Tryz.isAgg204
 z168:=Tryz.sizeOf204
 v168:=Tryz.zeroValue204
 t171:=Tryz.underlying251
 a171:=Tryz.isAgg251
 z171:=Tryz.sizeOf251
 v171:=Tryz.zeroValue251
 t173:=Tryz.underlying255
 a173:=Tryz.isAgg255
 z173:=Tryz.sizeOf255
 v173:=Tryz.zeroValue255
 t175:=Tryz.underlying258
 a175:=Tryz.isAgg258
 z175:=Tryz.sizeOf258
 v175:=Tryz.zeroValue258
 t210:=Tryz.underlying263
 a210:=Tryz.isAgg263
 z210:=Tryz.sizeOf263
 v210:=Tryz.zeroValue263
 t212:=Tryz.underlying290
 a212:=Tryz.isAgg290
 z212:=Tryz.sizeOf290
 v212:=Tryz.zeroValue290
 t213:=Tryz.underlying292
 a213:=Tryz.isAgg292
 z213:=Tryz.sizeOf292
 t232:=Tryz.underlying378
 a232:=Tryz.isAgg378
 z232:=Tryz.sizeOf378
 v232:=Tryz.zeroValue378
 t233:=Tryz.underlying379
 a233:=Tryz.isAgg379
 z233:=Tryz.sizeOf379
 v233:=Tryz.zeroValue379
 g15:=by kernel_rfl
 g16:=by kernel_rfl
 g17:=by kernel_rfl
 g18:=by kernel_rfl
 g19:=by kernel_rfl
 t80:=Tryz.underlying171
 a80:=Tryz.isAgg171
 z80:=Tryz.sizeOf171
 v80:=Tryz.zeroValue171
 i0:=by kernel_rfl
 i2:=by kernel_rfl
 i3:=by kernel_rfl
 i4:=by kernel_rfl
 i5:=by kernel_rfl
 i9:=by kernel_rfl
 i20:=by kernel_rfl
 i21:=by kernel_rfl
 i37:=by kernel_rfl
 i46:=by kernel_rfl
 i51:=by kernel_rfl
 i53:=by kernel_rfl
 i75:=by kernel_rfl
 i76:=by kernel_rfl
 i80:=by kernel_rfl
 i85:=by kernel_rfl
 i127:=by kernel_rfl
 i143:=by kernel_rfl
 i145:=by kernel_rfl
 i167:=by kernel_rfl
 i168:=by kernel_rfl
 i171:=by kernel_rfl
 i173:=by kernel_rfl
 i175:=by kernel_rfl
 i210:=by kernel_rfl
 i212:=by kernel_rfl
 i232:=by kernel_rfl
 i233:=by kernel_rfl
 m15:=by kernel_rfl
 m16:=by kernel_rfl
 m17:=by kernel_rfl
 m18:=by kernel_rfl
 m19:=by kernel_rfl
 c0:=by kernel_rfl
 c2:=by kernel_rfl
 c3:=by kernel_rfl
 c4:=by kernel_rfl
 c5:=by kernel_rfl
 c9:=by kernel_rfl
 c20:=by kernel_rfl
 c21:=by kernel_rfl
 c37:=by kernel_rfl
 c46:=by kernel_rfl
 c51:=by kernel_rfl
 c53:=by kernel_rfl
 c75:=by kernel_rfl
 c76:=by kernel_rfl
 c80:=by kernel_rfl
 c85:=by kernel_rfl
 c127:=by kernel_rfl
 c143:=by kernel_rfl
 c145:=by kernel_rfl
 c167:=by kernel_rfl
 c168:=by kernel_rfl
 c171:=by kernel_rfl
 c173:=by kernel_rfl
 c175:=by kernel_rfl
 c210:=by kernel_rfl
 c212:=by kernel_rfl
 c213:=by kernel_rfl
 c232:=by kernel_rfl
 c233:=by kernel_rfl }
open Go.RowKit in
theorem Tryz.strconv_Atoi_ok (s:ByteArray) (hmax:s.size<=9223372036854775806) (v:Int) (h:Lib.atoiAll s.data.toList= .ok v) (w:World):
  Calls Tryz.prog 49 #[.string s] w fun e w'=>e= .returned (.tuple #[.int .i64 v, .nilIface])/\(w'=w\/ ∃t,w'=Lib.bytesWorld w 5 t):=Any.strconv_Atoi_ok Tryz.laysC172 s hmax v h w
def Tryz.lays99_ren:Go.Shelf.Ren:=⟨fun|99=>16|206=>25|n=>n,fun|9=>9|4=>4|3=>3|n=>n,fun|n=>n⟩
theorem Tryz.lays99:Go.Proofs.Lays.n99 Tryz.prog Tryz.lays99_ren:= {
 mixed:=by kernel_rfl
 f99:=fTr Tryz.func16 (by kernel_rfl)
 f206:=fTr Tryz.func25 (by kernel_rfl)
 t3:=Tryz.underlying3
 a3:=Tryz.isAgg3
 z3:=Tryz.sizeOf3
 v3:=Tryz.zeroValue3
 t4:=Tryz.underlying4
 a4:=Tryz.isAgg4
 z4:=Tryz.sizeOf4
 v4:=Tryz.zeroValue4
 t9:=Tryz.underlying9
 a9:=Tryz.isAgg9
 z9:=Tryz.sizeOf9
 v9:=Tryz.zeroValue9 }
open Go.RowKit Go.Lib in
theorem Tryz.strings_HasPrefix (s p:ByteArray) (w:World):
  Calls Tryz.prog 16 #[.string s, .string p] w fun e w'=>e= .returned (.bool (Lib.hasPrefix s.data.toList p.data.toList))/\w'=w:=Any.strings_HasPrefix Tryz.lays99 s p w
def Tryz.lays101_ren:Go.Shelf.Ren:=⟨fun|101=>281|208=>305|206=>25|n=>n,fun|9=>9|4=>4|3=>3|n=>n,fun|n=>n⟩
theorem Tryz.lays101:Go.Proofs.Lays.n101 Tryz.prog Tryz.lays101_ren:= {
 mixed:=by kernel_rfl
 f101:=fTr Tryz.func281 (by kernel_rfl)
 f206:=fTr Tryz.func25 (by kernel_rfl)
 f208:=fTr Tryz.func305 (by kernel_rfl)
 t3:=Tryz.underlying3
 a3:=Tryz.isAgg3
 z3:=Tryz.sizeOf3
 v3:=Tryz.zeroValue3
 t4:=Tryz.underlying4
 a4:=Tryz.isAgg4
 z4:=Tryz.sizeOf4
 v4:=Tryz.zeroValue4
 t9:=Tryz.underlying9
 a9:=Tryz.isAgg9
 z9:=Tryz.sizeOf9
 v9:=Tryz.zeroValue9 }
open Go.RowKit Go.Lib in
theorem Tryz.strings_TrimPrefix (s p:ByteArray) (w:World):
  Calls Tryz.prog 281 #[.string s, .string p] w fun e w'=>e= .returned (.string ⟨(Lib.trimPrefix s.data.toList p.data.toList).toArray⟩)/\w'=w:=Any.strings_TrimPrefix Tryz.lays101 s p w
end Go.Proofs
namespace Go.Proofs.YtidgbjcdppjknaaGreatDoor
section
open Go Go.Lib
theorem Dv {d:Nat} (h:d<10):(UInt8.ofNat (48+d)).toNat=48+d:=by
 rw[UInt8.toNat_ofNat'];omega
theorem Eu (u:Nat): ∀b∈decDigits u,48<=b.toNat/\b.toNat<=57:=by
 induction u using Nat.strongRecOn with
 |_ u ih=>
  intro b hb
  rw[decDigits] at hb
  split at hb
  ·obtain rfl:=List.mem_singleton.1 hb
   rw[Dv (by omega)];omega
  ·rcases List.mem_append.1 hb with hb|hb
   ·exact ih (u/10) (by omega) b hb
   ·obtain rfl:=List.mem_singleton.1 hb
    rw[Dv (Nat.mod_lt _ (by omega))];omega
theorem Hd (u:Nat):decDigits u≠[]:=by
 rw[decDigits]
 split
 ·simp
 ·simp
theorem Ph (u:Nat) (hu:u≠0): ∃b r,decDigits u=b::r/\b.toNat≠48:=by
 induction u using Nat.strongRecOn with
 |_ u ih=>
  by_cases h:u<10
  ·exact⟨_,[],by rw[decDigits,dif_pos h],by rw[Dv h];omega⟩
  ·obtain⟨b,r,h1,h2⟩:=ih (u/10) (by omega) (by omega)
   exact⟨b,r++[UInt8.ofNat (48+u%10)],by rw[decDigits,dif_neg h,h1];rfl,h2⟩
theorem FK:decDigits 0=[48]:=by rw[decDigits,dif_pos (by omega)];rfl
theorem Fa: ∀(k u:Nat),1<=k->u<10^k->(decDigits u).length<=k
 |0,_,h,_=>by omega
 |1,u,_,h=>by rw[decDigits,dif_pos (by simpa using h)];simp
 |k+2,u,_,h=>by
  rw[decDigits]
  split
  ·simp
  ·rw[List.length_append]
   have:=Fa (k+1) (u/10) (by omega) (by rw[Nat.pow_succ] at h;omega)
   simp only[List.length_cons,List.length_nil];omega
theorem MB (c:UInt8): ∀(l:List UInt8) (acc:Nat),parseUint10 acc (l++[c])=match parseUint10 acc l with| .ok v=>parseUint10 v [c]|NumEnd.syntax=>NumEnd.syntax| .range=> .range
 |[],acc=>rfl
 |b::l,acc=>by
  show parseUint10 acc (b::(l++[c]))=_
  unfold parseUint10
  split
  ·split
   ·rfl
   ·split
    ·rfl
    ·exact MB c l _
  ·rfl
theorem ME (u:Nat) (h:u<18446744073709551610):parseUint10 0 (decDigits u)= .ok u:=by
 induction u using Nat.strongRecOn with
 |_ u ih=>
  by_cases hu:u<10
  ·rw[decDigits,dif_pos hu]
   simp only[parseUint10]
   rw[Dv hu,if_pos (by omega),if_neg (by omega),if_neg (by omega)]
   congr 1;omega
  ·rw[decDigits,dif_neg hu,MB,ih (u/10) (by omega) (by omega)]
   simp only[parseUint10]
   rw[Dv (Nat.mod_lt _ (by omega)),if_pos (by omega),if_neg (by omega),if_neg (by omega)]
   congr 1;omega
theorem Dc (u:Nat): ∃b r,decDigits u=b::r/\48<=b.toNat/\b.toNat<=57:=by
 cases hd:decDigits u with
 |nil=>exact absurd hd (Hd u)
 |cons b r=>exact⟨b,r,rfl,Eu u b (by rw[hd];exact List.mem_cons_self ..)⟩
theorem JZ (n:Int) (h1: -4611686018427387904<n) (h2:n<4611686018427387904):atoiAll (itoa n)= .ok n:=by
 unfold itoa
 split
 ·rename_i hn
  show(match parseMag (if (45:UInt8).toNat=43\/(45:UInt8).toNat=45 then decDigits n.natAbs else 45::decDigits n.natAbs) with|NumEnd.syntax=>_| .range=>_| .ok u=>_)=_
  rw[if_pos (by decide)]
  unfold parseMag
  rw[if_neg (Hd _),ME _ (by omega)]
  show(if ¬((45:UInt8).toNat=45)/\9223372036854775808<=n.natAbs then _ else if (45:UInt8).toNat=45/\9223372036854775808<n.natAbs then _ else _)=_
  rw[if_neg (fun h=>h.1 (by decide)),if_neg (by omega),if_pos (by decide)]
  congr 1;omega
 ·rename_i hn
  obtain⟨b,r,hb,h3,h4⟩:=Dc n.toNat
  have hp:=ME n.toNat (by omega)
  rw[hb] at hp⊢
  unfold atoiAll
  simp only
  rw[if_neg (by omega)]
  unfold parseMag
  rw[if_neg (by simp),hp]
  simp only
  rw[if_neg (by omega),if_neg (by omega),if_neg (by omega)]
  congr 1;omega
theorem Zr {l cs:List UInt8} (h: ∀b∈l,cs.contains b=true):l.dropWhile (cs.contains ·)=[]:=by
 induction l with
 |nil=>rfl
 |cons b l ih=>
  rw[List.dropWhile_cons,if_pos (h b (List.mem_cons_self ..))]
  exact ih fun x hx=>h x (List.mem_cons_of_mem _ hx)
def AJ:List UInt8:=[48,49,50,51,52,53,54,55,56,57]
theorem KW {b:UInt8} (h1:48<=b.toNat) (h2:b.toNat<=57):AJ.contains b=true:=by
 have: ∀n:Fin 10,AJ.contains (UInt8.ofNat (48+n.val))=true:=by decide
 have e:b=UInt8.ofNat (48+(b.toNat-48)):=by
  rw[show 48+(b.toNat-48)=b.toNat by omega];simp
 rw[e]
 exact this ⟨b.toNat-48,by omega⟩
theorem UD (u:Nat):trimS (decDigits u) AJ=[]:=by
 have h:trimRightS (decDigits u) AJ=[]:=by
  unfold trimRightS
  rw[Zr fun b hb=>by
   have:=Eu u b (List.mem_reverse.1 hb)
   exact KW this.1 this.2]
  rfl
 unfold trimS
 rw[h];rfl
theorem Ce (n:Int):trimPrefix (itoa n) [45]=decDigits n.natAbs:=by
 unfold itoa
 split
 ·rename_i hn
  rfl
 ·rename_i hn
  rw[show n.toNat=n.natAbs by omega]
  obtain⟨b,r,hb,h3,h4⟩:=Dc n.natAbs
  rw[hb]
  unfold trimPrefix hasPrefix
  have:([45]:List UInt8).isPrefixOf (b::r)=false:=by
   have:(45:UInt8)≠b:=fun e=>by rw[<-e] at h3;exact absurd h3 (by decide)
   simp[List.isPrefixOf,this]
  rw[this];rfl
end
end Go.Proofs.YtidgbjcdppjknaaGreatDoor
namespace Go.Proofs
open Go
def Tryz.T:Am.Tbl:=[
 (3, { size:=1 }),
 (4, { size:=1 }),
 (5, { size:=1 }),
 (9, { size:=1,kind:=1 }),
 (22, { size:=1,elem:=31,elemSize:=2,kind:=2 }),
 (27, { size:=1 }),
 (31, { agg:=true,size:=2,fields:=[(0,1,false),(1,1,false)],kind:=4 }),
 (43, { size:=1,elem:=3,elemSize:=1,kind:=2 }),
 (44, { size:=1,elem:=5,elemSize:=1,kind:=2 }),
 (49, { size:=1 }),
 (50, { agg:=true,size:=3,fields:=[(0,2,true),(2,1,false)],kind:=4 }),
 (55, { agg:=true,size:=2,fields:=[(0,1,false),(1,1,false)],kind:=4 }),
 (58, { size:=1,elem:=22,elemSize:=1,kind:=2 }),
 (64, { size:=1,elem:=208,elemSize:=1,kind:=2 }),
 (66, { agg:=true,size:=1,fields:=[(0,1,false)],kind:=4 }),
 (67, { size:=1,elem:=82,elemSize:=5,kind:=2 }),
 (68, { size:=1,elem:=84,elemSize:=3,kind:=2 }),
 (69, { size:=1,elem:=87,elemSize:=6,kind:=2 }),
 (71, { agg:=true,size:=4,fields:=[(0,1,false),(1,1,false),(2,1,false),(3,1,false)],kind:=4 }),
 (72, { size:=1,elem:=89,elemSize:=3,kind:=2 }),
 (73, { size:=1,elem:=91,elemSize:=5,kind:=2 }),
 (75, { agg:=true,size:=15,fields:=[(0,1,false),(1,1,true),(2,1,false),(3,1,false),(4,1,false),(5,1,false),(6,1,false),(7,1,false),(8,1,false),(9,4,true),(13,1,false),(14,1,false)],kind:=4 }),
 (79, { agg:=true,size:=7,fields:=[(0,1,false),(1,1,false),(2,1,false),(3,1,false),(4,1,false),(5,1,false),(6,1,false)],kind:=4 }),
 (80, { size:=1,kind:=1 }),
 (82, { agg:=true,size:=5,fields:=[(0,1,false),(1,1,false),(2,1,false),(3,1,false),(4,1,false)],kind:=4 }),
 (84, { agg:=true,size:=3,fields:=[(0,1,false),(1,1,false),(2,1,false)],kind:=4 }),
 (85, { size:=1,elem:=177,elemSize:=2,kind:=2 }),
 (87, { agg:=true,size:=6,fields:=[(0,1,false),(1,1,false),(2,1,false),(3,1,false),(4,1,false),(5,1,false)],kind:=4 }),
 (89, { agg:=true,size:=3,fields:=[(0,1,false),(1,1,false),(2,1,false)],kind:=4 }),
 (91, { agg:=true,size:=5,fields:=[(0,1,false),(1,1,false),(2,1,false),(3,1,false),(4,1,false)],kind:=4 }),
 (93, { agg:=true,size:=37,fields:=[(0,1,false),(1,1,false),(2,7,true),(9,5,true),(14,3,true),(17,6,true),(23,3,true),(26,5,true),(31,4,true),(35,1,false),(36,1,false)],kind:=4 }),
 (100, { agg:=true,size:=14,elem:=55,elemSize:=2,kind:=3 }),
 (104, { size:=1 }),
 (107, { size:=1 }),
 (108, { size:=1,elem:=107,elemSize:=1,kind:=2 }),
 (111, { size:=1 }),
 (113, { size:=1,elem:=118,elemSize:=3,kind:=2 }),
 (115, { size:=1 }),
 (116, { size:=1 }),
 (118, { agg:=true,size:=3,fields:=[(0,1,false),(1,1,false),(2,1,false)],kind:=4 }),
 (122, { size:=1,elem:=93,elemSize:=37,kind:=2 }),
 (123, { size:=1,elem:=4,elemSize:=1,kind:=2 }),
 (125, { agg:=true,size:=17,fields:=[(0,15,true),(15,1,false),(16,1,false)],kind:=4 }),
 (126, { size:=1,elem:=9,elemSize:=1,kind:=2 }),
 (128, { agg:=true,size:=20,fields:=[(0,17,true),(17,1,false),(18,1,false),(19,1,false)],kind:=4 }),
 (131, { agg:=true,size:=2,fields:=[(0,1,false),(1,1,false)],kind:=4 }),
 (148, { agg:=true,size:=256,elem:=4,elemSize:=1,kind:=3 }),
 (169, { size:=1 }),
 (177, { agg:=true,size:=2,fields:=[(0,1,false),(1,1,false)],kind:=4 }),
 (178, { size:=1 }),
 (181, { size:=1 }),
 (183, { agg:=true,size:=2,fields:=[(0,1,false),(1,1,false)],kind:=4 }),
 (185, { agg:=true,size:=4,fields:=[(0,2,true),(2,1,false),(3,1,false)],kind:=4 }),
 (208, { size:=1,elem:=79,elemSize:=7,kind:=2 }),
 (215, { size:=1 }),
 (217, { agg:=true,size:=13,elem:=9,elemSize:=1,kind:=3 }),
 (228, { size:=1 }),
 (230, { size:=1,elem:=228,elemSize:=1,kind:=2 }),
 (241, { size:=1 }),
 (246, { size:=1 }),
 (247, { size:=1,elem:=246,elemSize:=1,kind:=2 }),
 (251, { agg:=true,size:=24,elem:=5,elemSize:=1,kind:=3 }),
 (252, { size:=1 }),
 (263, { agg:=true,size:=3,fields:=[(0,1,false),(1,1,false),(2,1,false)],kind:=4 }),
 (273, { agg:=true,size:=13,elem:=4,elemSize:=1,kind:=3 }),
 (284, { size:=1,elem:=80,elemSize:=1,kind:=2 }),
 (286, { agg:=true,size:=13,elem:=285,elemSize:=1,kind:=3 }),
 (290, { agg:=true,size:=20,elem:=252,elemSize:=1,kind:=3 }),
 (292, { agg:=true,size:=65,elem:=5,elemSize:=1,kind:=3 }),
 (294, { agg:=true,size:=256,elem:=5,elemSize:=1,kind:=3 }),
 (296, { agg:=true,size:=2,fields:=[(0,1,false),(1,1,false)],kind:=4 }),
 (297, { agg:=true,size:=32,elem:=296,elemSize:=2,kind:=3 }),
 (302, { agg:=true,size:=1,fields:=[(0,1,false)],kind:=4 }),
 (310, { agg:=true,size:=21,fields:=[(0,7,true),(7,7,true),(14,7,true)],kind:=4 }),
 (312, { agg:=true,size:=2,fields:=[(0,1,false),(1,1,false)],kind:=4 }),
 (316, { size:=1,elem:=319,elemSize:=4,kind:=2 }),
 (317, { size:=1,elem:=322,elemSize:=2,kind:=2 }),
 (319, { agg:=true,size:=4,fields:=[(0,2,true),(2,2,true)],kind:=4 }),
 (322, { agg:=true,size:=2,fields:=[(0,1,false),(1,1,false)],kind:=4 }),
 (335, { agg:=true,size:=2,fields:=[(0,1,false),(1,1,false)],kind:=4 }),
 (356, { agg:=true,size:=2,fields:=[(0,1,false),(1,1,false)],kind:=4 }),
 (378, { agg:=true,size:=32,elem:=5,elemSize:=1,kind:=3 }),
 (379, { agg:=true,size:=64,elem:=5,elemSize:=1,kind:=3 }),
 (388, { agg:=true,size:=2,fields:=[(0,1,false),(1,1,false)],kind:=4 })]
theorem Tryz.hT:Am.okB Tryz.prog Tryz.T=true:=by kernel_rfl
def Tryz.Z:List (Nat×Value):=[
 (3, .int .i64 0),
 (4, .bool false),
 (5, .int .u8 0),
 (9, .string ⟨#[]⟩),
 (22, .slice none 0 0),
 (27, .int .i64 0),
 (31, .agg #[.int .i64 0, .string ⟨#[]⟩]),
 (43, .slice none 0 0),
 (44, .slice none 0 0),
 (49, .int .i64 0),
 (50, .agg #[.int .i64 0, .string ⟨#[]⟩, .int .i64 0]),
 (58, .slice none 0 0),
 (64, .slice none 0 0),
 (66, .agg #[.slice none 0 0]),
 (67, .slice none 0 0),
 (68, .slice none 0 0),
 (69, .slice none 0 0),
 (71, .agg #[.int .i64 0, .int .i64 0, .int .i64 0, .int .i64 0]),
 (72, .slice none 0 0),
 (73, .slice none 0 0),
 (75, .agg #[.string ⟨#[]⟩, .slice none 0 0, .int .i64 0, .int .i64 0, .slice none 0 0, .slice none 0 0, .slice none 0 0, .slice none 0 0, .int .i64 0, .int .i64 0, .int .i64 0, .int .i64 0, .int .i64 0, .slice none 0 0, .slice none 0 0]),
 (79, .agg #[.int .i64 0, .int .i64 0, .int .i64 0, .int .i64 0, .bool false, .int .i64 0, .int .i64 0]),
 (80, .string ⟨#[]⟩),
 (82, .agg #[.int .i64 0, .string ⟨#[]⟩, .string ⟨#[]⟩, .string ⟨#[]⟩, .string ⟨#[]⟩]),
 (84, .agg #[.int .i64 0, .int .i64 0, .int .i64 0]),
 (85, .slice none 0 0),
 (87, .agg #[.int .i64 0, .int .i64 0, .int .i64 0, .int .i64 0, .int .i64 0, .slice none 0 0]),
 (89, .agg #[.int .i64 0, .int .i64 0, .string ⟨#[]⟩]),
 (91, .agg #[.int .i64 0, .int .i64 0, .int .i64 0, .int .i64 0, .int .i64 0]),
 (93, .agg #[.int .i64 0, .int .i64 0, .int .i64 0, .int .i64 0, .int .i64 0, .int .i64 0, .bool false, .int .i64 0, .int .i64 0, .int .i64 0, .string ⟨#[]⟩, .string ⟨#[]⟩, .string ⟨#[]⟩, .string ⟨#[]⟩, .int .i64 0, .int .i64 0, .int .i64 0, .int .i64 0, .int .i64 0, .int .i64 0, .int .i64 0, .int .i64 0, .slice none 0 0, .int .i64 0, .int .i64 0, .string ⟨#[]⟩, .int .i64 0, .int .i64 0, .int .i64 0, .int .i64 0, .int .i64 0, .int .i64 0, .int .i64 0, .int .i64 0, .int .i64 0, .int .i64 0, .string ⟨#[]⟩]),
 (104, .nilIface),
 (108, .slice none 0 0),
 (111, .pointer none),
 (113, .slice none 0 0),
 (122, .slice none 0 0),
 (123, .slice none 0 0),
 (125, .agg #[.string ⟨#[]⟩, .slice none 0 0, .int .i64 0, .int .i64 0, .slice none 0 0, .slice none 0 0, .slice none 0 0, .slice none 0 0, .int .i64 0, .int .i64 0, .int .i64 0, .int .i64 0, .int .i64 0, .slice none 0 0, .slice none 0 0, .slice none 0 0, .slice none 0 0]),
 (126, .slice none 0 0),
 (128, .agg #[.string ⟨#[]⟩, .slice none 0 0, .int .i64 0, .int .i64 0, .slice none 0 0, .slice none 0 0, .slice none 0 0, .slice none 0 0, .int .i64 0, .int .i64 0, .int .i64 0, .int .i64 0, .int .i64 0, .slice none 0 0, .slice none 0 0, .slice none 0 0, .slice none 0 0, .slice none 0 0, .slice none 0 0, .slice none 0 0]),
 (131, .agg #[.slice none 0 0, .bool false]),
 (177, .agg #[.int .i64 0, .int .i64 0]),
 (181, .pointer none),
 (183, .agg #[.pointer none, .slice none 0 0]),
 (185, .agg #[.pointer none, .slice none 0 0, .int .i64 0, .int .i64 0]),
 (208, .slice none 0 0),
 (217, .agg #[.string ⟨#[]⟩, .string ⟨#[]⟩, .string ⟨#[]⟩, .string ⟨#[]⟩, .string ⟨#[]⟩, .string ⟨#[]⟩, .string ⟨#[]⟩, .string ⟨#[]⟩, .string ⟨#[]⟩, .string ⟨#[]⟩, .string ⟨#[]⟩, .string ⟨#[]⟩, .string ⟨#[]⟩]),
 (230, .slice none 0 0),
 (241, .pointer none),
 (246, .pointer none),
 (247, .slice none 0 0),
 (251, .agg #[.int .u8 0, .int .u8 0, .int .u8 0, .int .u8 0, .int .u8 0, .int .u8 0, .int .u8 0, .int .u8 0, .int .u8 0, .int .u8 0, .int .u8 0, .int .u8 0, .int .u8 0, .int .u8 0, .int .u8 0, .int .u8 0, .int .u8 0, .int .u8 0, .int .u8 0, .int .u8 0, .int .u8 0, .int .u8 0, .int .u8 0, .int .u8 0]),
 (252, .int .u64 0),
 (263, .agg #[.string ⟨#[]⟩, .string ⟨#[]⟩, .nilIface]),
 (273, .agg #[.bool false, .bool false, .bool false, .bool false, .bool false, .bool false, .bool false, .bool false, .bool false, .bool false, .bool false, .bool false, .bool false]),
 (284, .slice none 0 0),
 (290, .agg #[.int .u64 0, .int .u64 0, .int .u64 0, .int .u64 0, .int .u64 0, .int .u64 0, .int .u64 0, .int .u64 0, .int .u64 0, .int .u64 0, .int .u64 0, .int .u64 0, .int .u64 0, .int .u64 0, .int .u64 0, .int .u64 0, .int .u64 0, .int .u64 0, .int .u64 0, .int .u64 0]),
 (296, .agg #[.int .u8 0, .int .u8 0]),
 (297, .agg #[.int .u8 0, .int .u8 0, .int .u8 0, .int .u8 0, .int .u8 0, .int .u8 0, .int .u8 0, .int .u8 0, .int .u8 0, .int .u8 0, .int .u8 0, .int .u8 0, .int .u8 0, .int .u8 0, .int .u8 0, .int .u8 0, .int .u8 0, .int .u8 0, .int .u8 0, .int .u8 0, .int .u8 0, .int .u8 0, .int .u8 0, .int .u8 0, .int .u8 0, .int .u8 0, .int .u8 0, .int .u8 0, .int .u8 0, .int .u8 0, .int .u8 0, .int .u8 0]),
 (302, .agg #[.string ⟨#[]⟩]),
 (310, .agg #[.int .i64 0, .int .i64 0, .int .i64 0, .int .i64 0, .bool false, .int .i64 0, .int .i64 0, .int .i64 0, .int .i64 0, .int .i64 0, .int .i64 0, .bool false, .int .i64 0, .int .i64 0, .int .i64 0, .int .i64 0, .int .i64 0, .int .i64 0, .bool false, .int .i64 0, .int .i64 0]),
 (312, .agg #[.int .i64 0, .int .i64 0]),
 (316, .slice none 0 0),
 (317, .slice none 0 0),
 (319, .agg #[.int .i64 0, .int .i64 0, .int .i64 0, .int .i64 0]),
 (322, .agg #[.int .i64 0, .int .i64 0]),
 (335, .agg #[.string ⟨#[]⟩, .string ⟨#[]⟩]),
 (356, .agg #[.int .i64 0, .int .i64 0]),
 (378, .agg #[.int .u8 0, .int .u8 0, .int .u8 0, .int .u8 0, .int .u8 0, .int .u8 0, .int .u8 0, .int .u8 0, .int .u8 0, .int .u8 0, .int .u8 0, .int .u8 0, .int .u8 0, .int .u8 0, .int .u8 0, .int .u8 0, .int .u8 0, .int .u8 0, .int .u8 0, .int .u8 0, .int .u8 0, .int .u8 0, .int .u8 0, .int .u8 0, .int .u8 0, .int .u8 0, .int .u8 0, .int .u8 0, .int .u8 0, .int .u8 0, .int .u8 0, .int .u8 0]),
 (388, .agg #[.bool false, .slice none 0 0])]
theorem Tryz.hZ:Am.ZOk Tryz.prog Tryz.Z:=
 .cons (fun W=>by kernel_rfl)<|
 .cons (fun W=>by kernel_rfl)<|
 .cons (fun W=>by kernel_rfl)<|
 .cons (fun W=>by kernel_rfl)<|
 .cons (fun W=>by kernel_rfl)<|
 .cons (fun W=>by kernel_rfl)<|
 .cons (fun W=>by kernel_rfl)<|
 .cons (fun W=>by kernel_rfl)<|
 .cons (fun W=>by kernel_rfl)<|
 .cons (fun W=>by kernel_rfl)<|
 .cons (fun W=>by kernel_rfl)<|
 .cons (fun W=>by kernel_rfl)<|
 .cons (fun W=>by kernel_rfl)<|
 .cons (fun W=>by kernel_rfl)<|
 .cons (fun W=>by kernel_rfl)<|
 .cons (fun W=>by kernel_rfl)<|
 .cons (fun W=>by kernel_rfl)<|
 .cons (fun W=>by kernel_rfl)<|
 .cons (fun W=>by kernel_rfl)<|
 .cons (fun W=>by kernel_rfl)<|
 .cons (fun W=>by kernel_rfl)<|
 .cons (fun W=>by kernel_rfl)<|
 .cons (fun W=>by kernel_rfl)<|
 .cons (fun W=>by kernel_rfl)<|
 .cons (fun W=>by kernel_rfl)<|
 .cons (fun W=>by kernel_rfl)<|
 .cons (fun W=>by kernel_rfl)<|
 .cons (fun W=>by kernel_rfl)<|
 .cons (fun W=>by kernel_rfl)<|
 .cons (fun W=>by kernel_rfl)<|
 .cons (fun W=>by kernel_rfl)<|
 .cons (fun W=>by kernel_rfl)<|
 .cons (fun W=>by kernel_rfl)<|
 .cons (fun W=>by kernel_rfl)<|
 .cons (fun W=>by kernel_rfl)<|
 .cons (fun W=>by kernel_rfl)<|
 .cons (fun W=>by kernel_rfl)<|
 .cons (fun W=>by kernel_rfl)<|
 .cons (fun W=>by kernel_rfl)<|
 .cons (fun W=>by kernel_rfl)<|
 .cons (fun W=>by kernel_rfl)<|
 .cons (fun W=>by kernel_rfl)<|
 .cons (fun W=>by kernel_rfl)<|
 .cons (fun W=>by kernel_rfl)<|
 .cons (fun W=>by kernel_rfl)<|
 .cons (fun W=>by kernel_rfl)<|
 .cons (fun W=>by kernel_rfl)<|
 .cons (fun W=>by kernel_rfl)<|
 .cons (fun W=>by kernel_rfl)<|
 .cons (fun W=>by kernel_rfl)<|
 .cons (fun W=>by kernel_rfl)<|
 .cons (fun W=>by kernel_rfl)<|
 .cons (fun W=>by kernel_rfl)<|
 .cons (fun W=>by kernel_rfl)<|
 .cons (fun W=>by kernel_rfl)<|
 .cons (fun W=>by kernel_rfl)<|
 .cons (fun W=>by kernel_rfl)<|
 .cons (fun W=>by kernel_rfl)<|
 .cons (fun W=>by kernel_rfl)<|
 .cons (fun W=>by kernel_rfl)<|
 .cons (fun W=>by kernel_rfl)<|
 .cons (fun W=>by kernel_rfl)<|
 .cons (fun W=>by kernel_rfl)<|
 .cons (fun W=>by kernel_rfl)<|
 .cons (fun W=>by kernel_rfl)<|
 .cons (fun W=>by kernel_rfl)<|
 .cons (fun W=>by kernel_rfl)<|
 .cons (fun W=>by kernel_rfl)<|
 .cons (fun W=>by kernel_rfl)<|
 .nil
theorem Tryz.vec22:Am.VecTy Tryz.prog 22 31 2 24 (.agg #[.int .i64 0, .string ⟨#[]⟩]):=⟨by kernel_rfl,by kernel_rfl,by kernel_rfl,by kernel_rfl,rfl,by decide⟩
theorem Tryz.vec43:Am.VecTy Tryz.prog 43 3 1 8 (.int .i64 0):=⟨by kernel_rfl,by kernel_rfl,by kernel_rfl,by kernel_rfl,rfl,by decide⟩
theorem Tryz.vec44:Am.VecTy Tryz.prog 44 5 1 1 (.int .u8 0):=⟨by kernel_rfl,by kernel_rfl,by kernel_rfl,by kernel_rfl,rfl,by decide⟩
theorem Tryz.vec64:Am.VecTy Tryz.prog 64 208 1 24 (.slice none 0 0):=⟨by kernel_rfl,by kernel_rfl,by kernel_rfl,by kernel_rfl,rfl,by decide⟩
theorem Tryz.vec67:Am.VecTy Tryz.prog 67 82 5 72 (.agg #[.int .i64 0, .string ⟨#[]⟩, .string ⟨#[]⟩, .string ⟨#[]⟩, .string ⟨#[]⟩]):=⟨by kernel_rfl,by kernel_rfl,by kernel_rfl,by kernel_rfl,rfl,by decide⟩
theorem Tryz.vec68:Am.VecTy Tryz.prog 68 84 3 24 (.agg #[.int .i64 0, .int .i64 0, .int .i64 0]):=⟨by kernel_rfl,by kernel_rfl,by kernel_rfl,by kernel_rfl,rfl,by decide⟩
theorem Tryz.vec69:Am.VecTy Tryz.prog 69 87 6 64 (.agg #[.int .i64 0, .int .i64 0, .int .i64 0, .int .i64 0, .int .i64 0, .slice none 0 0]):=⟨by kernel_rfl,by kernel_rfl,by kernel_rfl,by kernel_rfl,rfl,by decide⟩
theorem Tryz.vec72:Am.VecTy Tryz.prog 72 89 3 32 (.agg #[.int .i64 0, .int .i64 0, .string ⟨#[]⟩]):=⟨by kernel_rfl,by kernel_rfl,by kernel_rfl,by kernel_rfl,rfl,by decide⟩
theorem Tryz.vec73:Am.VecTy Tryz.prog 73 91 5 40 (.agg #[.int .i64 0, .int .i64 0, .int .i64 0, .int .i64 0, .int .i64 0]):=⟨by kernel_rfl,by kernel_rfl,by kernel_rfl,by kernel_rfl,rfl,by decide⟩
theorem Tryz.vec85:Am.VecTy Tryz.prog 85 177 2 16 (.agg #[.int .i64 0, .int .i64 0]):=⟨by kernel_rfl,by kernel_rfl,by kernel_rfl,by kernel_rfl,rfl,by decide⟩
theorem Tryz.vec126:Am.VecTy Tryz.prog 126 9 1 16 (.string ⟨#[]⟩):=⟨by kernel_rfl,by kernel_rfl,by kernel_rfl,by kernel_rfl,rfl,by decide⟩
theorem Tryz.vec208:Am.VecTy Tryz.prog 208 79 7 56 (.agg #[.int .i64 0, .int .i64 0, .int .i64 0, .int .i64 0, .bool false, .int .i64 0, .int .i64 0]):=⟨by kernel_rfl,by kernel_rfl,by kernel_rfl,by kernel_rfl,rfl,by decide⟩
theorem Tryz.vec316:Am.VecTy Tryz.prog 316 319 4 32 (.agg #[.int .i64 0, .int .i64 0, .int .i64 0, .int .i64 0]):=⟨by kernel_rfl,by kernel_rfl,by kernel_rfl,by kernel_rfl,rfl,by decide⟩
theorem Tryz.vec317:Am.VecTy Tryz.prog 317 322 2 16 (.agg #[.int .i64 0, .int .i64 0]):=⟨by kernel_rfl,by kernel_rfl,by kernel_rfl,by kernel_rfl,rfl,by decide⟩
theorem Tryz.mixed:Tryz.prog.follows .mixedOrders=true:=by kernel_rfl
end Go.Proofs

namespace Go.Proofs
open Go Go.Am
section
variable {r:Option Nat} {n:Nat} {W0:World} {N:Nat} {D:List Deferred} {A A2:World->Prop} {ops:List Oper} {Q:Exit->Act->World->Prop} {R:Act->World->Prop} {o:Oper} {rest:List Oper} {env:Env} {bxs:List Bx}
theorem tH:Am.okB Tryz.prog Tryz.T=true:=Tryz.hT
theorem wP {d:Nat} {v:Value} (h:(Aj ops N env o,o.dst,AD Tryz.T (evO N env) o.op)=(some true,some d,some v)) (k:WL r n Tryz.prog N D ops Q rest ((d,v)::env) A):WL r n Tryz.prog N D ops Q (o::rest) env A:=BW Tryz.hT (congrArg (·.1) h) (congrArg (·.2.1) h) (congrArg (·.2.2) h) k
theorem wB (m:Nat) {i:TI} {d:Nat} {t:TypeId} {x:Operand} {B:Bx} {off:Nat} {v:Value} (h:(Aj ops N env o,o.dst,o.op)=(some true,some d, .load t x)) (h2:(find Tryz.T t,nth bxs m,evO N env x)=(some i,some B,some (.pointer (some ⟨B.b,off,none⟩)))) (h3:(B.row,DC B.cells off i)=(true,some v)) (k:WL r n Tryz.prog N D ops Q rest ((d,v)::env) (Hp W0 bxs)):WL r n Tryz.prog N D ops Q (o::rest) env (Hp W0 bxs):=VA m Tryz.hT (congrArg (·.1) h) (congrArg (·.2.1) h) (congrArg (·.2.2) h) (congrArg (·.1) h2) (congrArg (·.2.1) h2) (congrArg (·.2.2) h2) (congrArg (·.1) h3) (congrArg (·.2) h3) k
theorem wI {i:TI} {d:Nat} {t:TypeId} {x y:Operand} {k:IntKind} {b off len cap:Nat} {z:Int} (h:(Aj ops N env o,o.dst,o.op)=(some true,some d, .indexAddr t x y)) (h2:(find Tryz.T t,i.kind,evO N env x,evO N env y)=(some i,2,some (.slice (some ⟨b,off,none⟩) len cap),some (.int k z))) (h0:0<=z) (h1:z<len) (j:WL r n Tryz.prog N D ops Q rest ((d, .pointer (some ⟨b,off+z.toNat*i.elemSize,none⟩))::env) A):WL r n Tryz.prog N D ops Q (o::rest) env A:=Qn Tryz.hT (congrArg (·.1) h) (congrArg (·.2.1) h) (congrArg (·.2.2) h) (congrArg (·.1) h2) (congrArg (·.2.1) h2) (congrArg (·.2.2.1) h2) (congrArg (·.2.2.2) h2) h0 h1 j
theorem qP {d:Nat} {v:Value} (h:(Aj ops N env o,o.dst,AD Tryz.T (evO N env) o.op)=(some true,some d,some v)) (k:WQ Tryz.prog N D ops A2 R rest ((d,v)::env) A):WQ Tryz.prog N D ops A2 R (o::rest) env A:=BX Tryz.hT (congrArg (·.1) h) (congrArg (·.2.1) h) (congrArg (·.2.2) h) k
theorem qB (m:Nat) {i:TI} {d:Nat} {t:TypeId} {x:Operand} {B:Bx} {off:Nat} {v:Value} (h:(Aj ops N env o,o.dst,o.op)=(some true,some d, .load t x)) (h2:(find Tryz.T t,nth bxs m,evO N env x)=(some i,some B,some (.pointer (some ⟨B.b,off,none⟩)))) (h3:(B.row,DC B.cells off i)=(true,some v)) (k:WQ Tryz.prog N D ops A2 R rest ((d,v)::env) (Hp W0 bxs)):WQ Tryz.prog N D ops A2 R (o::rest) env (Hp W0 bxs):=Vo m Tryz.hT (congrArg (·.1) h) (congrArg (·.2.1) h) (congrArg (·.2.2) h) (congrArg (·.1) h2) (congrArg (·.2.1) h2) (congrArg (·.2.2) h2) (congrArg (·.1) h3) (congrArg (·.2) h3) k
theorem qI {i:TI} {d:Nat} {t:TypeId} {x y:Operand} {k:IntKind} {b off len cap:Nat} {z:Int} (h:(Aj ops N env o,o.dst,o.op)=(some true,some d, .indexAddr t x y)) (h2:(find Tryz.T t,i.kind,evO N env x,evO N env y)=(some i,2,some (.slice (some ⟨b,off,none⟩) len cap),some (.int k z))) (h0:0<=z) (h1:z<len) (j:WQ Tryz.prog N D ops A2 R rest ((d, .pointer (some ⟨b,off+z.toNat*i.elemSize,none⟩))::env) A):WQ Tryz.prog N D ops A2 R (o::rest) env A:=Qb Tryz.hT (congrArg (·.1) h) (congrArg (·.2.1) h) (congrArg (·.2.2) h) (congrArg (·.1) h2) (congrArg (·.2.1) h2) (congrArg (·.2.2.1) h2) (congrArg (·.2.2.2) h2) h0 h1 j
theorem wS (m:Nat) {i:TI} {t:TypeId} {x y:Operand} {B:Bx} {off:Nat} {v:Value} (h:(Aj ops N env o,o.dst,o.op)=(some true,none, .store t x y)) (h2:(find Tryz.T t,nth bxs m,evO N env x,evO N env y)=(some i,some B,some (.pointer (some ⟨B.b,off,none⟩)),some v)) (h3:(B.row,Nat.beq v.cells.toList.length i.size,Nat.ble (off+i.size) B.cells.length,DI v.cells.toList)=(true,true,true,true)) (k:WL r n Tryz.prog N D ops Q rest env (Hp W0 (bxs.set m { B with cells:=BD B.cells off v.cells.toList }))):WL r n Tryz.prog N D ops Q (o::rest) env (Hp W0 bxs):=Ug m Tryz.hT (congrArg (·.1) h) (congrArg (·.2.1) h) (congrArg (·.2.2) h) (congrArg (·.1) h2) (congrArg (·.2.1) h2) (congrArg (·.2.2.1) h2) (congrArg (·.1) h3) (congrArg (·.2.2.2) h2) (congrArg (·.2.1) h3) (congrArg (·.2.2.1) h3) (congrArg (·.2.2.2) h3) k
theorem wX {bxq:List Bx} {d:Nat} {L fl:List Bool} (h:RS r n Tryz.prog N D ops fl Q (Hp W0 bxq) d L env (Hp W0 bxs) (HR ops L)) (h1:R8 ops.length L=false:=by exact rfl) (h2:Nat.beq L.length ops.length=true:=by exact rfl) (h3:B3 bxq bxs:=by((repeat (first|refine B3.same ?_|refine B3.off rfl ?_));exact trivial)):WT r n Tryz.prog N D ops fl Q (Hp W0 bxq) (d+1) L env (Hp W0 bxs):=Zd h1 h2 h3 h
theorem wY {Aq:World->Prop} {d:Nat} {L fl:List Bool} (h:RS r n Tryz.prog N D ops fl Q Aq d L env (Hp W0 bxs) (HR ops L)) (h1:R8 ops.length L=false:=by exact rfl) (h2:Nat.beq L.length ops.length=true:=by exact rfl) (h3:K4 ops fl (fun i=>L.getD i false)=true:=by kernel_rfl):WT r n Tryz.prog N D ops fl Q Aq (d+1) L env (Hp W0 bxs):=XW h1 h2 h3 h
theorem wJ {i:TI} {d:Nat} {t:TypeId} {x y:Operand} {k:IntKind} {b off len cap:Nat} {z:Int} (j:WL r n Tryz.prog N D ops Q rest ((d, .pointer (some ⟨b,off+z.toNat*i.elemSize,none⟩))::env) A) (h:(Aj ops N env o,o.dst,o.op)=(some true,some d, .indexAddr t x y):=by exact rfl) (h2:(find Tryz.T t,i.kind,evO N env x,evO N env y)=(some i,2,some (.slice (some ⟨b,off,none⟩) len cap),some (.int k z)):=by exact rfl) (h0:0<=z:=by omega) (h1:z<len:=by omega):WL r n Tryz.prog N D ops Q (o::rest) env A:=wI h h2 h0 h1 j
theorem qJ {i:TI} {d:Nat} {t:TypeId} {x y:Operand} {k:IntKind} {b off len cap:Nat} {z:Int} (j:WQ Tryz.prog N D ops A2 R rest ((d, .pointer (some ⟨b,off+z.toNat*i.elemSize,none⟩))::env) A) (h:(Aj ops N env o,o.dst,o.op)=(some true,some d, .indexAddr t x y):=by exact rfl) (h2:(find Tryz.T t,i.kind,evO N env x,evO N env y)=(some i,2,some (.slice (some ⟨b,off,none⟩) len cap),some (.int k z)):=by exact rfl) (h0:0<=z:=by omega) (h1:z<len:=by omega):WQ Tryz.prog N D ops A2 R (o::rest) env A:=qI h h2 h0 h1 j
theorem wC {c:Call} {f:Operand} {g d:Nat} {capt vs:List Value} {v:Value} (h:(Aj ops N env o,o.dst,o.op)=(some true,some d, .call c)) (h2:(c.callee,evO N env f,Cl (evO N env) c.args.toList)=(.value f,some (.func (.func g) #[] capt.toArray),some vs)) (hC: ∀W,Hp W0 bxs W->Ag Tryz.prog g (vs++capt).toArray W (fun _:Unit=>v) (fun _=>True) (fun _=>[])) (k:WL r n Tryz.prog N D ops Q rest ((d,v)::env) (Hp W0 bxs)) (hE:Bm Tryz.prog g=true:=by kernel_rfl):WL r n Tryz.prog N D ops Q (o::rest) env (Hp W0 bxs):=BK (congrArg (·.1) h) (congrArg (·.2.1) h) (congrArg (·.2.2) h) (congrArg (·.1) h2) (congrArg (·.2.1) h2) (congrArg (·.2.2) h2) hE hC k
theorem wU (t:Nat) (c:Bool) {l:List Oper} {b:Bool} (h:evO N env (.tmp t)=some (.bool b)) (e:b=c) (k:WL r n Tryz.prog N D ops Q l ((t, .bool c)::env) A):WL r n Tryz.prog N D ops Q l env A:=Ao t (.bool c) h (congrArg Value.bool e) k
theorem wV (t:Nat) (z:Int) {l:List Oper} {y:Int} (h:evO N env (.tmp t)=some (.int .i64 y)) (e:y=z) (k:WL r n Tryz.prog N D ops Q l ((t, .int .i64 z)::env) A):WL r n Tryz.prog N D ops Q l env A:=Ao t (.int .i64 z) h (congrArg (Value.int .i64) e) k
theorem wL (k:Nat) {i:TI} {d:Nat} {t:TypeId} {x:Operand} {a:Addr} {b off:Nat} {c:List Value} {v:Value} (h:(Aj ops N env o,o.dst,o.op)=(some true,some d, .load t x)) (h2:(evO N env x,find Tryz.T t)=(some (.pointer (some a)),some i)) (hr: ∀W,A W->Al W b off c) (hv:DC c k i=some v) (K:WL r n Tryz.prog N D ops Q rest ((d,v)::env) A) (ha:a=⟨b,off+k,none⟩:=by exact rfl):WL r n Tryz.prog N D ops Q (o::rest) env A:=OU (congrArg (·.1) h) (congrArg (·.2.1) h) (congrArg (·.2.2) h) (congrArg (·.1) h2) (fun W hp=>by rw[ha];exact Al.load k Tryz.hT (congrArg (·.2) h2) (hr W hp) hv) K
theorem qC {c:Call} {f:Operand} {g d:Nat} {capt vs:List Value} {v:Value} (h:(Aj ops N env o,o.dst,o.op)=(some true,some d, .call c)) (h2:(c.callee,evO N env f,Cl (evO N env) c.args.toList)=(.value f,some (.func (.func g) #[] capt.toArray),some vs)) (hC: ∀W,Hp W0 bxs W->Ag Tryz.prog g (vs++capt).toArray W (fun _:Unit=>v) (fun _=>True) (fun _=>[])) (k:WQ Tryz.prog N D ops A2 R rest ((d,v)::env) (Hp W0 bxs)) (hE:Bm Tryz.prog g=true:=by kernel_rfl):WQ Tryz.prog N D ops A2 R (o::rest) env (Hp W0 bxs):=L9 (congrArg (·.1) h) (congrArg (·.2.1) h) (congrArg (·.2.2) h) (congrArg (·.1) h2) (congrArg (·.2.1) h2) (congrArg (·.2.2) h2) hE hC k
theorem qU (t:Nat) (c:Bool) {l:List Oper} {b:Bool} (h:evO N env (.tmp t)=some (.bool b)) (e:b=c) (k:WQ Tryz.prog N D ops A2 R l ((t, .bool c)::env) A):WQ Tryz.prog N D ops A2 R l env A:=DO t (.bool c) h (congrArg Value.bool e) k
theorem qV (t:Nat) (z:Int) {l:List Oper} {y:Int} (h:evO N env (.tmp t)=some (.int .i64 y)) (e:y=z) (k:WQ Tryz.prog N D ops A2 R l ((t, .int .i64 z)::env) A):WQ Tryz.prog N D ops A2 R l env A:=DO t (.int .i64 z) h (congrArg (Value.int .i64) e) k
theorem qL (k:Nat) {i:TI} {d:Nat} {t:TypeId} {x:Operand} {a:Addr} {b off:Nat} {c:List Value} {v:Value} (h:(Aj ops N env o,o.dst,o.op)=(some true,some d, .load t x)) (h2:(evO N env x,find Tryz.T t)=(some (.pointer (some a)),some i)) (hr: ∀W,A W->Al W b off c) (hv:DC c k i=some v) (K:WQ Tryz.prog N D ops A2 R rest ((d,v)::env) A) (ha:a=⟨b,off+k,none⟩:=by exact rfl):WQ Tryz.prog N D ops A2 R (o::rest) env A:=Jf (congrArg (·.1) h) (congrArg (·.2.1) h) (congrArg (·.2.2) h) (congrArg (·.1) h2) (fun W hp=>by rw[ha];exact Al.load k Tryz.hT (congrArg (·.2) h2) (hr W hp) hv) K
theorem wD {c:Call} {f:Operand} {g d:Nat} {capt vs:List Value} {X:Type} {val:X->Value} {Φ:X->Prop} {nb:X->List Bx} (h:(Aj ops N env o,o.dst,o.op)=(some true,some d, .call c)) (h2:(c.callee,evO N env f,Cl (evO N env) c.args.toList)=(.value f,some (.func (.func g) #[] capt.toArray),some vs)) (hC: ∀W,Hp W0 bxs W->Ag Tryz.prog g (vs++capt).toArray W val Φ nb) (k: ∀x,Φ x->WL r n Tryz.prog N D ops Q rest ((d,val x)::env) (Hp W0 (bxs++nb x))) (hE:Bm Tryz.prog g=true:=by kernel_rfl):WL r n Tryz.prog N D ops Q (o::rest) env (Hp W0 bxs):=Ul (congrArg (·.1) h) (congrArg (·.2.1) h) (congrArg (·.2.2) h) (congrArg (·.1) h2) (congrArg (·.2.1) h2) (congrArg (·.2.2) h2) hE hC k
theorem zU {id:Nat} (hq:WQ Tryz.prog N D ops (Hp W0 bxs) (wpListIn (Fw r) n Tryz.prog ops.toArray Q (ops.drop (FZ ops))) (ops.take (FZ ops)) env (Hp W0 bxs)) (ho:R7 ops (FZ ops)=true:=by kernel_rfl):WC r n Tryz.prog N D (.region id ops.toArray true) Q env (Hp W0 bxs):=RV Tryz.mixed ho hq
theorem wF {d:Nat} {t:TypeId} {x:Operand} {v:Value} (h:(Aj ops N env o,o.dst,o.op)=(some true,some d, .box t x)) (h2:evO N env x=some v) (k: ∀b,WL r n Tryz.prog N D ops Q rest ((d, .pointer (some ⟨b,0,none⟩))::env) (Hp W0 (bxs++[⟨b,t,v.cells.toList,true,none⟩]))):WL r n Tryz.prog N D ops Q (o::rest) env (Hp W0 bxs):=Lr (congrArg (·.1) h) (congrArg (·.2.1) h) (congrArg (·.2.2) h) h2 k
theorem wG {d:Nat} {t:TypeId} {z:Value} (h:(Aj ops N env o,o.dst,o.op)=(some true,some d, .alloc t)) (h2:JN Tryz.Z t=some z) (k: ∀b,WL r n Tryz.prog N D ops Q rest ((d, .pointer (some ⟨b,0,none⟩))::env) (Hp W0 (bxs++[⟨b,t,z.cells.toList,true,none⟩]))):WL r n Tryz.prog N D ops Q (o::rest) env (Hp W0 bxs):=VQ Tryz.hZ (congrArg (·.1) h) (congrArg (·.2.1) h) (congrArg (·.2.2) h) h2 k
theorem wZ {fl:List Bool} {Aq:World->Prop} {d j:Nat} {L:List Bool} (h:WL r n Tryz.prog N D ops (QK D (FQ r n Tryz.prog D ops fl Q Aq d (fun i=>(L.set j true).getD i false))) [o] env A):RS r n Tryz.prog N D ops fl Q Aq d L env A [(o,j)]:=RS.cons h RS.nil
theorem wR1 {fn:Func} {r1:Nat} {v1:Value} {val:Unit->Value} (hr:fn.results= #[.tmp r1]) (hh:(evO N env (.tmp r1))=(some v1)) (hv:v1=val ()):NE N [] (GF Tryz.prog fn W0 val (fun _=>True) (fun _=>[])) .ret env (Hp W0 bxs):=Ar Tryz.hT hr (.tmp hh) () hv trivial fun _ _=>As.nil _ _
theorem wR2 {fn:Func} {r1 r2:Nat} {v1 v2:Value} {val:Unit->Value} (hr:fn.results= #[.tmp r1, .tmp r2]) (hh:(evO N env (.tmp r1),evO N env (.tmp r2))=(some v1,some v2)) (hv: .tuple #[v1,v2]=val ()):NE N [] (GF Tryz.prog fn W0 val (fun _=>True) (fun _=>[])) .ret env (Hp W0 bxs):=An Tryz.hT hr (.tmp (congrArg (·.1) hh)) (.tmp (congrArg (·.2) hh)) () hv trivial fun _ _=>As.nil _ _
theorem wR3 {fn:Func} {r1 r2 r3:Nat} {v1 v2 v3:Value} {val:Unit->Value} (hr:fn.results= #[.tmp r1, .tmp r2, .tmp r3]) (hh:(evO N env (.tmp r1),evO N env (.tmp r2),evO N env (.tmp r3))=(some v1,some v2,some v3)) (hv: .tuple #[v1,v2,v3]=val ()):NE N [] (GF Tryz.prog fn W0 val (fun _=>True) (fun _=>[])) .ret env (Hp W0 bxs):=DF Tryz.hT hr (.tmp (congrArg (·.1) hh)) (.tmp (congrArg (·.2.1) hh)) (.tmp (congrArg (·.2.2) hh)) () hv trivial fun _ _=>As.nil _ _
theorem xa {o8:List Oper} {c12:Code} {Q9:Exit->Act->World->Prop} {Q10:Exit->Act->World->Prop} (h:WC r n Tryz.prog N D c12 Q9 env A):WL r n Tryz.prog N D o8 (Exit.then ((c12:Code).wpIn (Fw r) n Tryz.prog Q9) Q10) ([]) env A:=zC (zE h)
theorem xb {i14:Nat} {l15:List Oper} {c5:Code} {Q1:Exit->Act->World->Prop} (h:WL r n Tryz.prog N D l15 (Exit.then ((c5:Code).wpIn (Fw r) n Tryz.prog Q1) Q1) l15 env A):WC r n Tryz.prog N D (Code.seq (Code.region i14 (l15:List Oper).toArray false) c5) Q1 env A:=zA (zB h)
theorem xc {o8:List Oper} {Q17:Exit->Act->World->Prop} {Q10:Exit->Act->World->Prop} (h:NE N D Q17 (Exit.ret) env A):WL r n Tryz.prog N D o8 (Exit.then ((Code.ret:Code).wpIn (Fw r) n Tryz.prog Q17) Q10) ([]) env A:=zC (zE (zO h))
theorem xd {i22:Nat} {l23:List Oper} {c13:Code} {c5:Code} {Q1:Exit->Act->World->Prop} (h:WL r n Tryz.prog N D l23 (Exit.then ((c13:Code).wpIn (Fw r) n Tryz.prog (Exit.then ((c5:Code).wpIn (Fw r) n Tryz.prog Q1) Q1)) (Exit.then ((c5:Code).wpIn (Fw r) n Tryz.prog Q1) Q1)) l23 env A):WC r n Tryz.prog N D (Code.seq (Code.seq (Code.region i22 (l23:List Oper).toArray false) c13) c5) Q1 env A:=zA (zA (zB h))
theorem xe {i22:Nat} {l23:List Oper} {c13:Code} {Q9:Exit->Act->World->Prop} {Q2:Exit->Act->World->Prop} (h:WL r n Tryz.prog N D l23 (Exit.then ((c13:Code).wpIn (Fw r) n Tryz.prog Q9) Q9) l23 env A):NE N D (Exit.then ((Code.seq (Code.region i22 (l23:List Oper).toArray false) c13:Code).wpIn (Fw r) n Tryz.prog Q9) Q2) (Exit.normal) env A:=zE (zA (zB h))
theorem xf {i30:Nat} {K11:Act->World->Prop} {K19:Act->World->Prop} {Q25:Exit->Act->World->Prop} (h:NE N D Q25 (Exit.normal) env A):WC r n Tryz.prog N D (Code.exit i30) (Exit.then K11 (Exit.then K19 (Exit.inBlock i30 Q25))) env A:=zJ (zK (zK (zL h)))
theorem xg {o8:List Oper} {i30:Nat} {l31:List Oper} {c21:Code} {Q17:Exit->Act->World->Prop} {Q10:Exit->Act->World->Prop} (h:WL r n Tryz.prog N D l31 (Exit.then ((c21:Code).wpIn (Fw r) n Tryz.prog Q17) Q17) l31 env A):WL r n Tryz.prog N D o8 (Exit.then ((Code.seq (Code.region i30 (l31:List Oper).toArray false) c21:Code).wpIn (Fw r) n Tryz.prog Q17) Q10) ([]) env A:=zC (zE (zA (zB h)))
theorem xh {i30:Nat} {i46:Nat} {l47:List Oper} {c37:Code} {c21:Code} {Q17:Exit->Act->World->Prop} {Q10:Exit->Act->World->Prop} (h:WL r n Tryz.prog N D l47 (Exit.then ((c37:Code).wpIn (Fw r) n Tryz.prog (Exit.inBlock i30 (Exit.then ((c21:Code).wpIn (Fw r) n Tryz.prog Q17) Q17))) (Exit.inBlock i30 (Exit.then ((c21:Code).wpIn (Fw r) n Tryz.prog Q17) Q17))) l47 env A):WC r n Tryz.prog N D (Code.skip) (Exit.then ((Code.seq (Code.block i30 (Code.seq (Code.region i46 (l47:List Oper).toArray false) c37)) c21:Code).wpIn (Fw r) n Tryz.prog Q17) Q10) env A:=zI (zE (zA (zH (zA (zB h)))))
theorem xi {i6:Nat} {K11:Act->World->Prop} {K19:Act->World->Prop} {i30:Nat} {K35:Act->World->Prop} {Q33:Exit->Act->World->Prop} (h:NE N D Q33 (Exit.ret) env A):NE N D (Exit.inBlock i6 (Exit.then K11 (Exit.then K19 (Exit.inBlock i30 (Exit.then K35 Q33))))) (Exit.ret) env A:=zQ (zP (zP (zQ (zP h))))
theorem xj {i6:Nat} {i22:Nat} {l23:List Oper} {Q17:Exit->Act->World->Prop} {Q10:Exit->Act->World->Prop} (h:WL r n Tryz.prog N D l23 Q17 l23 env A):NE N D (Exit.inBlock i6 (Exit.then ((Code.region i22 (l23:List Oper).toArray false:Code).wpIn (Fw r) n Tryz.prog Q17) Q10)) (Exit.normal) env A:=zN (zE (zB h))
theorem Aa {o1 o2:Oper} {d1 d2:Nat} {v1 v2:Value} (h:(Aj ops N env o1,o1.dst,AD Tryz.T (evO N env) o1.op,Aj ops N ((d1,v1)::env) o2,o2.dst,AD Tryz.T (evO N (((d1,v1)::env))) o2.op)=(some true,some d1,some v1,some true,some d2,some v2)) (k:WL r n Tryz.prog N D ops Q rest ((d2,v2)::((d1,v1)::env)) A):WL r n Tryz.prog N D ops Q (o1::o2::rest) env A:=BW Tryz.hT (congrArg (fun p=>p.1) h) (congrArg (fun p=>p.2.1) h) (congrArg (fun p=>p.2.2.1) h) (BW Tryz.hT (congrArg (fun p=>p.2.2.2.1) h) (congrArg (fun p=>p.2.2.2.2.1) h) (congrArg (fun p=>p.2.2.2.2.2) h) k)
theorem Ae {o1 o2 o3:Oper} {d1 d2 d3:Nat} {v1 v2 v3:Value} (h:(Aj ops N env o1,o1.dst,AD Tryz.T (evO N env) o1.op,Aj ops N ((d1,v1)::env) o2,o2.dst,AD Tryz.T (evO N (((d1,v1)::env))) o2.op,Aj ops N ((d2,v2)::((d1,v1)::env)) o3,o3.dst,AD Tryz.T (evO N (((d2,v2)::((d1,v1)::env)))) o3.op)=(some true,some d1,some v1,some true,some d2,some v2,some true,some d3,some v3)) (k:WL r n Tryz.prog N D ops Q rest ((d3,v3)::((d2,v2)::((d1,v1)::env))) A):WL r n Tryz.prog N D ops Q (o1::o2::o3::rest) env A:=BW Tryz.hT (congrArg (fun p=>p.1) h) (congrArg (fun p=>p.2.1) h) (congrArg (fun p=>p.2.2.1) h) (BW Tryz.hT (congrArg (fun p=>p.2.2.2.1) h) (congrArg (fun p=>p.2.2.2.2.1) h) (congrArg (fun p=>p.2.2.2.2.2.1) h) (BW Tryz.hT (congrArg (fun p=>p.2.2.2.2.2.2.1) h) (congrArg (fun p=>p.2.2.2.2.2.2.2.1) h) (congrArg (fun p=>p.2.2.2.2.2.2.2.2) h) k))
theorem A3 {o1 o2 o3 o4:Oper} {d1 d2 d3 d4:Nat} {v1 v2 v3 v4:Value} (h:(Aj ops N env o1,o1.dst,AD Tryz.T (evO N env) o1.op,Aj ops N ((d1,v1)::env) o2,o2.dst,AD Tryz.T (evO N (((d1,v1)::env))) o2.op,Aj ops N ((d2,v2)::((d1,v1)::env)) o3,o3.dst,AD Tryz.T (evO N (((d2,v2)::((d1,v1)::env)))) o3.op,Aj ops N ((d3,v3)::((d2,v2)::((d1,v1)::env))) o4,o4.dst,AD Tryz.T (evO N (((d3,v3)::((d2,v2)::((d1,v1)::env))))) o4.op)=(some true,some d1,some v1,some true,some d2,some v2,some true,some d3,some v3,some true,some d4,some v4)) (k:WL r n Tryz.prog N D ops Q rest ((d4,v4)::((d3,v3)::((d2,v2)::((d1,v1)::env)))) A):WL r n Tryz.prog N D ops Q (o1::o2::o3::o4::rest) env A:=BW Tryz.hT (congrArg (fun p=>p.1) h) (congrArg (fun p=>p.2.1) h) (congrArg (fun p=>p.2.2.1) h) (BW Tryz.hT (congrArg (fun p=>p.2.2.2.1) h) (congrArg (fun p=>p.2.2.2.2.1) h) (congrArg (fun p=>p.2.2.2.2.2.1) h) (BW Tryz.hT (congrArg (fun p=>p.2.2.2.2.2.2.1) h) (congrArg (fun p=>p.2.2.2.2.2.2.2.1) h) (congrArg (fun p=>p.2.2.2.2.2.2.2.2.1) h) (BW Tryz.hT (congrArg (fun p=>p.2.2.2.2.2.2.2.2.2.1) h) (congrArg (fun p=>p.2.2.2.2.2.2.2.2.2.2.1) h) (congrArg (fun p=>p.2.2.2.2.2.2.2.2.2.2.2) h) k)))
theorem A8 {o1 o2 o3 o4 o5:Oper} {d1 d2 d3 d4 d5:Nat} {v1 v2 v3 v4 v5:Value} (h:(Aj ops N env o1,o1.dst,AD Tryz.T (evO N env) o1.op,Aj ops N ((d1,v1)::env) o2,o2.dst,AD Tryz.T (evO N (((d1,v1)::env))) o2.op,Aj ops N ((d2,v2)::((d1,v1)::env)) o3,o3.dst,AD Tryz.T (evO N (((d2,v2)::((d1,v1)::env)))) o3.op,Aj ops N ((d3,v3)::((d2,v2)::((d1,v1)::env))) o4,o4.dst,AD Tryz.T (evO N (((d3,v3)::((d2,v2)::((d1,v1)::env))))) o4.op,Aj ops N ((d4,v4)::((d3,v3)::((d2,v2)::((d1,v1)::env)))) o5,o5.dst,AD Tryz.T (evO N (((d4,v4)::((d3,v3)::((d2,v2)::((d1,v1)::env)))))) o5.op)=(some true,some d1,some v1,some true,some d2,some v2,some true,some d3,some v3,some true,some d4,some v4,some true,some d5,some v5)) (k:WL r n Tryz.prog N D ops Q rest ((d5,v5)::((d4,v4)::((d3,v3)::((d2,v2)::((d1,v1)::env))))) A):WL r n Tryz.prog N D ops Q (o1::o2::o3::o4::o5::rest) env A:=BW Tryz.hT (congrArg (fun p=>p.1) h) (congrArg (fun p=>p.2.1) h) (congrArg (fun p=>p.2.2.1) h) (BW Tryz.hT (congrArg (fun p=>p.2.2.2.1) h) (congrArg (fun p=>p.2.2.2.2.1) h) (congrArg (fun p=>p.2.2.2.2.2.1) h) (BW Tryz.hT (congrArg (fun p=>p.2.2.2.2.2.2.1) h) (congrArg (fun p=>p.2.2.2.2.2.2.2.1) h) (congrArg (fun p=>p.2.2.2.2.2.2.2.2.1) h) (BW Tryz.hT (congrArg (fun p=>p.2.2.2.2.2.2.2.2.2.1) h) (congrArg (fun p=>p.2.2.2.2.2.2.2.2.2.2.1) h) (congrArg (fun p=>p.2.2.2.2.2.2.2.2.2.2.2.1) h) (BW Tryz.hT (congrArg (fun p=>p.2.2.2.2.2.2.2.2.2.2.2.2.1) h) (congrArg (fun p=>p.2.2.2.2.2.2.2.2.2.2.2.2.2.1) h) (congrArg (fun p=>p.2.2.2.2.2.2.2.2.2.2.2.2.2.2) h) k))))
theorem Bb {o1 o2 o3 o4 o5 o6:Oper} {d1 d2 d3 d4 d5 d6:Nat} {v1 v2 v3 v4 v5 v6:Value} (h:(Aj ops N env o1,o1.dst,AD Tryz.T (evO N env) o1.op,Aj ops N ((d1,v1)::env) o2,o2.dst,AD Tryz.T (evO N (((d1,v1)::env))) o2.op,Aj ops N ((d2,v2)::((d1,v1)::env)) o3,o3.dst,AD Tryz.T (evO N (((d2,v2)::((d1,v1)::env)))) o3.op,Aj ops N ((d3,v3)::((d2,v2)::((d1,v1)::env))) o4,o4.dst,AD Tryz.T (evO N (((d3,v3)::((d2,v2)::((d1,v1)::env))))) o4.op,Aj ops N ((d4,v4)::((d3,v3)::((d2,v2)::((d1,v1)::env)))) o5,o5.dst,AD Tryz.T (evO N (((d4,v4)::((d3,v3)::((d2,v2)::((d1,v1)::env)))))) o5.op,Aj ops N ((d5,v5)::((d4,v4)::((d3,v3)::((d2,v2)::((d1,v1)::env))))) o6,o6.dst,AD Tryz.T (evO N (((d5,v5)::((d4,v4)::((d3,v3)::((d2,v2)::((d1,v1)::env))))))) o6.op)=(some true,some d1,some v1,some true,some d2,some v2,some true,some d3,some v3,some true,some d4,some v4,some true,some d5,some v5,some true,some d6,some v6)) (k:WL r n Tryz.prog N D ops Q rest ((d6,v6)::((d5,v5)::((d4,v4)::((d3,v3)::((d2,v2)::((d1,v1)::env)))))) A):WL r n Tryz.prog N D ops Q (o1::o2::o3::o4::o5::o6::rest) env A:=BW Tryz.hT (congrArg (fun p=>p.1) h) (congrArg (fun p=>p.2.1) h) (congrArg (fun p=>p.2.2.1) h) (BW Tryz.hT (congrArg (fun p=>p.2.2.2.1) h) (congrArg (fun p=>p.2.2.2.2.1) h) (congrArg (fun p=>p.2.2.2.2.2.1) h) (BW Tryz.hT (congrArg (fun p=>p.2.2.2.2.2.2.1) h) (congrArg (fun p=>p.2.2.2.2.2.2.2.1) h) (congrArg (fun p=>p.2.2.2.2.2.2.2.2.1) h) (BW Tryz.hT (congrArg (fun p=>p.2.2.2.2.2.2.2.2.2.1) h) (congrArg (fun p=>p.2.2.2.2.2.2.2.2.2.2.1) h) (congrArg (fun p=>p.2.2.2.2.2.2.2.2.2.2.2.1) h) (BW Tryz.hT (congrArg (fun p=>p.2.2.2.2.2.2.2.2.2.2.2.2.1) h) (congrArg (fun p=>p.2.2.2.2.2.2.2.2.2.2.2.2.2.1) h) (congrArg (fun p=>p.2.2.2.2.2.2.2.2.2.2.2.2.2.2.1) h) (BW Tryz.hT (congrArg (fun p=>p.2.2.2.2.2.2.2.2.2.2.2.2.2.2.2.1) h) (congrArg (fun p=>p.2.2.2.2.2.2.2.2.2.2.2.2.2.2.2.2.1) h) (congrArg (fun p=>p.2.2.2.2.2.2.2.2.2.2.2.2.2.2.2.2.2) h) k)))))
theorem AO {o1 o2:Oper} {d1 d2:Nat} {v1 v2:Value} (h:(Aj ops N env o1,o1.dst,AD Tryz.T (evO N env) o1.op,Aj ops N ((d1,v1)::env) o2,o2.dst,AD Tryz.T (evO N (((d1,v1)::env))) o2.op)=(some true,some d1,some v1,some true,some d2,some v2)) (k:WQ Tryz.prog N D ops A2 R rest ((d2,v2)::((d1,v1)::env)) A):WQ Tryz.prog N D ops A2 R (o1::o2::rest) env A:=BX Tryz.hT (congrArg (fun p=>p.1) h) (congrArg (fun p=>p.2.1) h) (congrArg (fun p=>p.2.2.1) h) (BX Tryz.hT (congrArg (fun p=>p.2.2.2.1) h) (congrArg (fun p=>p.2.2.2.2.1) h) (congrArg (fun p=>p.2.2.2.2.2) h) k)
theorem Ct {o1 o2 o3:Oper} {d1 d2 d3:Nat} {v1 v2 v3:Value} (h:(Aj ops N env o1,o1.dst,AD Tryz.T (evO N env) o1.op,Aj ops N ((d1,v1)::env) o2,o2.dst,AD Tryz.T (evO N (((d1,v1)::env))) o2.op,Aj ops N ((d2,v2)::((d1,v1)::env)) o3,o3.dst,AD Tryz.T (evO N (((d2,v2)::((d1,v1)::env)))) o3.op)=(some true,some d1,some v1,some true,some d2,some v2,some true,some d3,some v3)) (k:WQ Tryz.prog N D ops A2 R rest ((d3,v3)::((d2,v2)::((d1,v1)::env))) A):WQ Tryz.prog N D ops A2 R (o1::o2::o3::rest) env A:=BX Tryz.hT (congrArg (fun p=>p.1) h) (congrArg (fun p=>p.2.1) h) (congrArg (fun p=>p.2.2.1) h) (BX Tryz.hT (congrArg (fun p=>p.2.2.2.1) h) (congrArg (fun p=>p.2.2.2.2.1) h) (congrArg (fun p=>p.2.2.2.2.2.1) h) (BX Tryz.hT (congrArg (fun p=>p.2.2.2.2.2.2.1) h) (congrArg (fun p=>p.2.2.2.2.2.2.2.1) h) (congrArg (fun p=>p.2.2.2.2.2.2.2.2) h) k))
theorem E7 {o1 o2 o3 o4:Oper} {d1 d2 d3 d4:Nat} {v1 v2 v3 v4:Value} (h:(Aj ops N env o1,o1.dst,AD Tryz.T (evO N env) o1.op,Aj ops N ((d1,v1)::env) o2,o2.dst,AD Tryz.T (evO N (((d1,v1)::env))) o2.op,Aj ops N ((d2,v2)::((d1,v1)::env)) o3,o3.dst,AD Tryz.T (evO N (((d2,v2)::((d1,v1)::env)))) o3.op,Aj ops N ((d3,v3)::((d2,v2)::((d1,v1)::env))) o4,o4.dst,AD Tryz.T (evO N (((d3,v3)::((d2,v2)::((d1,v1)::env))))) o4.op)=(some true,some d1,some v1,some true,some d2,some v2,some true,some d3,some v3,some true,some d4,some v4)) (k:WQ Tryz.prog N D ops A2 R rest ((d4,v4)::((d3,v3)::((d2,v2)::((d1,v1)::env)))) A):WQ Tryz.prog N D ops A2 R (o1::o2::o3::o4::rest) env A:=BX Tryz.hT (congrArg (fun p=>p.1) h) (congrArg (fun p=>p.2.1) h) (congrArg (fun p=>p.2.2.1) h) (BX Tryz.hT (congrArg (fun p=>p.2.2.2.1) h) (congrArg (fun p=>p.2.2.2.2.1) h) (congrArg (fun p=>p.2.2.2.2.2.1) h) (BX Tryz.hT (congrArg (fun p=>p.2.2.2.2.2.2.1) h) (congrArg (fun p=>p.2.2.2.2.2.2.2.1) h) (congrArg (fun p=>p.2.2.2.2.2.2.2.2.1) h) (BX Tryz.hT (congrArg (fun p=>p.2.2.2.2.2.2.2.2.2.1) h) (congrArg (fun p=>p.2.2.2.2.2.2.2.2.2.2.1) h) (congrArg (fun p=>p.2.2.2.2.2.2.2.2.2.2.2) h) k)))
theorem Mf {o1 o2 o3 o4 o5:Oper} {d1 d2 d3 d4 d5:Nat} {v1 v2 v3 v4 v5:Value} (h:(Aj ops N env o1,o1.dst,AD Tryz.T (evO N env) o1.op,Aj ops N ((d1,v1)::env) o2,o2.dst,AD Tryz.T (evO N (((d1,v1)::env))) o2.op,Aj ops N ((d2,v2)::((d1,v1)::env)) o3,o3.dst,AD Tryz.T (evO N (((d2,v2)::((d1,v1)::env)))) o3.op,Aj ops N ((d3,v3)::((d2,v2)::((d1,v1)::env))) o4,o4.dst,AD Tryz.T (evO N (((d3,v3)::((d2,v2)::((d1,v1)::env))))) o4.op,Aj ops N ((d4,v4)::((d3,v3)::((d2,v2)::((d1,v1)::env)))) o5,o5.dst,AD Tryz.T (evO N (((d4,v4)::((d3,v3)::((d2,v2)::((d1,v1)::env)))))) o5.op)=(some true,some d1,some v1,some true,some d2,some v2,some true,some d3,some v3,some true,some d4,some v4,some true,some d5,some v5)) (k:WQ Tryz.prog N D ops A2 R rest ((d5,v5)::((d4,v4)::((d3,v3)::((d2,v2)::((d1,v1)::env))))) A):WQ Tryz.prog N D ops A2 R (o1::o2::o3::o4::o5::rest) env A:=BX Tryz.hT (congrArg (fun p=>p.1) h) (congrArg (fun p=>p.2.1) h) (congrArg (fun p=>p.2.2.1) h) (BX Tryz.hT (congrArg (fun p=>p.2.2.2.1) h) (congrArg (fun p=>p.2.2.2.2.1) h) (congrArg (fun p=>p.2.2.2.2.2.1) h) (BX Tryz.hT (congrArg (fun p=>p.2.2.2.2.2.2.1) h) (congrArg (fun p=>p.2.2.2.2.2.2.2.1) h) (congrArg (fun p=>p.2.2.2.2.2.2.2.2.1) h) (BX Tryz.hT (congrArg (fun p=>p.2.2.2.2.2.2.2.2.2.1) h) (congrArg (fun p=>p.2.2.2.2.2.2.2.2.2.2.1) h) (congrArg (fun p=>p.2.2.2.2.2.2.2.2.2.2.2.1) h) (BX Tryz.hT (congrArg (fun p=>p.2.2.2.2.2.2.2.2.2.2.2.2.1) h) (congrArg (fun p=>p.2.2.2.2.2.2.2.2.2.2.2.2.2.1) h) (congrArg (fun p=>p.2.2.2.2.2.2.2.2.2.2.2.2.2.2) h) k))))
theorem PQ {o1 o2 o3 o4 o5 o6:Oper} {d1 d2 d3 d4 d5 d6:Nat} {v1 v2 v3 v4 v5 v6:Value} (h:(Aj ops N env o1,o1.dst,AD Tryz.T (evO N env) o1.op,Aj ops N ((d1,v1)::env) o2,o2.dst,AD Tryz.T (evO N (((d1,v1)::env))) o2.op,Aj ops N ((d2,v2)::((d1,v1)::env)) o3,o3.dst,AD Tryz.T (evO N (((d2,v2)::((d1,v1)::env)))) o3.op,Aj ops N ((d3,v3)::((d2,v2)::((d1,v1)::env))) o4,o4.dst,AD Tryz.T (evO N (((d3,v3)::((d2,v2)::((d1,v1)::env))))) o4.op,Aj ops N ((d4,v4)::((d3,v3)::((d2,v2)::((d1,v1)::env)))) o5,o5.dst,AD Tryz.T (evO N (((d4,v4)::((d3,v3)::((d2,v2)::((d1,v1)::env)))))) o5.op,Aj ops N ((d5,v5)::((d4,v4)::((d3,v3)::((d2,v2)::((d1,v1)::env))))) o6,o6.dst,AD Tryz.T (evO N (((d5,v5)::((d4,v4)::((d3,v3)::((d2,v2)::((d1,v1)::env))))))) o6.op)=(some true,some d1,some v1,some true,some d2,some v2,some true,some d3,some v3,some true,some d4,some v4,some true,some d5,some v5,some true,some d6,some v6)) (k:WQ Tryz.prog N D ops A2 R rest ((d6,v6)::((d5,v5)::((d4,v4)::((d3,v3)::((d2,v2)::((d1,v1)::env)))))) A):WQ Tryz.prog N D ops A2 R (o1::o2::o3::o4::o5::o6::rest) env A:=BX Tryz.hT (congrArg (fun p=>p.1) h) (congrArg (fun p=>p.2.1) h) (congrArg (fun p=>p.2.2.1) h) (BX Tryz.hT (congrArg (fun p=>p.2.2.2.1) h) (congrArg (fun p=>p.2.2.2.2.1) h) (congrArg (fun p=>p.2.2.2.2.2.1) h) (BX Tryz.hT (congrArg (fun p=>p.2.2.2.2.2.2.1) h) (congrArg (fun p=>p.2.2.2.2.2.2.2.1) h) (congrArg (fun p=>p.2.2.2.2.2.2.2.2.1) h) (BX Tryz.hT (congrArg (fun p=>p.2.2.2.2.2.2.2.2.2.1) h) (congrArg (fun p=>p.2.2.2.2.2.2.2.2.2.2.1) h) (congrArg (fun p=>p.2.2.2.2.2.2.2.2.2.2.2.1) h) (BX Tryz.hT (congrArg (fun p=>p.2.2.2.2.2.2.2.2.2.2.2.2.1) h) (congrArg (fun p=>p.2.2.2.2.2.2.2.2.2.2.2.2.2.1) h) (congrArg (fun p=>p.2.2.2.2.2.2.2.2.2.2.2.2.2.2.1) h) (BX Tryz.hT (congrArg (fun p=>p.2.2.2.2.2.2.2.2.2.2.2.2.2.2.2.1) h) (congrArg (fun p=>p.2.2.2.2.2.2.2.2.2.2.2.2.2.2.2.2.1) h) (congrArg (fun p=>p.2.2.2.2.2.2.2.2.2.2.2.2.2.2.2.2.2) h) k)))))
end
end Go.Proofs
namespace Go.Proofs.YtidgbjcdppjknaaGreatDoor
section
open Go Go.RowKit Go.Am Go.Lib
set_option maxRecDepth 10000
abbrev w64 (x:Int):Int:=IntKind.i64.wrap x
theorem AC {x:Int} (h1: -9223372036854775808<=x) (h2:x<9223372036854775808):w64 x=x:=BO h1 h2
theorem VZ (x:Int): -9223372036854775808<=w64 x/\w64 x<9223372036854775808:=SU x
abbrev slv (p:Option Addr) (n cap:Nat):Value:= .slice p n cap
abbrev Af (b:Nat):Value:= .pointer (some ⟨b,0,none⟩)
abbrev str (l:List UInt8):Value:= .string ⟨l.toArray⟩
theorem Ag.of1 {P:Program} {g:Nat} {args:Array Value} {W:World} {v:Value} (h:Calls P g args W fun e w'=>e= .returned v/\Below W.heap.size W w'):Ag P g args W (fun _:Unit=>v) (fun _=>True) (fun _=>[]):=
 ⟨h.mono fun _ _ ⟨he,hb⟩=>⟨(),he,trivial,hb,As.nil _ _⟩⟩
def AZ (W : World) : Prop := TabIs Tryz.prog W "internal/strconv.uint64pow10" .u64 pow10Tab
theorem AZ.hp {W0 W:World} {bxs:List Bx} (h:AZ W0) (hp:Hp W0 bxs W):AZ W:=tabBelow_of_tabIs h W hp.below
theorem GS (w:World) (k:Nat) (os:Array Obj):Below w.heap.size w (Sort.grow (w.drewN k) os):=by
 refine⟨I,I,I,by simp[Sort.grow,World.drewN],fun i hi=> ?_⟩
 simp only[Sort.grow,World.drewN]
 rw[Array.getElem?_append_left hi]
theorem AF (n:Int) (h0: -9223372036854775808<=n) (h1:n<=9223372036854775807) (W:World) (ht:AZ W):Ag Tryz.prog 46 #[.int .i64 n] W (fun _:Unit=>str (itoa n)) (fun _=>True) (fun _=>[]):=by
 refine Ag.of1 ((Tryz.strconv_Itoa n h0 h1 W ht).mono ?_)
 rintro e w' ⟨rfl,k,os,rfl⟩
 exact⟨I,GS W k os⟩
theorem LM (n:Int) (h0: -4611686018427387904<n) (h1:n<4611686018427387904):Cd Tryz.prog 49 [str (itoa n)] (.tuple #[.int .i64 n, .nilIface]):=by
 intro W
 refine Ag.of1 ((Tryz.strconv_Atoi_ok ⟨(itoa n).toArray⟩ ?_ n (by simpa using JZ n h0 h1) W).mono ?_)
 ·have:=itoa_length_le n (by omega) (by omega)
  show(itoa n).toArray.size<=_
  rw[List.size_toArray];omega
 ·rintro e w' ⟨rfl,rfl|⟨t,rfl⟩⟩
  ·exact⟨I,Below.refl _ _⟩
  ·exact⟨I,bytesWorld_below _ _ _⟩
theorem Jo (l p:List UInt8):Cd Tryz.prog 16 [str l,str p] (.bool (hasPrefix l p)):=by
 intro W
 refine Ag.of1 ((Tryz.strings_HasPrefix ⟨l.toArray⟩ ⟨p.toArray⟩ W).mono ?_)
 rintro e w' ⟨rfl,rfl⟩
 exact⟨I,Below.refl _ _⟩
theorem CE (l p:List UInt8):Cd Tryz.prog 281 [str l,str p] (str (trimPrefix l p)):=by
 intro W
 refine Ag.of1 ((Tryz.strings_TrimPrefix ⟨l.toArray⟩ ⟨p.toArray⟩ W).mono ?_)
 rintro e w' ⟨rfl,rfl⟩
 exact⟨I,Below.refl _ _⟩
theorem I9 (l:List UInt8) (hl:l.length<=9223372036854775807):Cd Tryz.prog 62 [str l,str AJ] (str (trimS l AJ)):=by
 intro W
 refine Ag.of1 ((Any.strings_Trim_laid Tryz.lays160 (by kernel_rfl) ⟨l.toArray⟩ ⟨AJ.toArray⟩ W ?_ (by decide) ?_).mono ?_)
 ·show l.toArray.size<=_
  rw[List.size_toArray];exact hl
 ·intro j b hb
  have hm:b∈AJ:=List.mem_of_getElem? hb
  have: ∀x∈AJ,x.toNat<128:=by decide
  exact this b hm
 ·rintro e w' ⟨rfl,hb⟩
  exact⟨I,hb⟩
section
variable {r:Option Nat} {n:Nat} {P:Program} {W0:World} {N:Nat} {D:List Deferred} {ops:List Oper} {Q:Exit->Act->World->Prop} {o:Oper} {rest:List Oper} {env:Env} {A:World->Prop}
theorem CA {T:Tbl} {i:TI} {d:Nat} {t:TypeId} {x y:Operand} {k:IntKind} {l:List UInt8} {z:Int} (j:Nat) {b:UInt8} (hT:okB P T=true) (hg:Aj ops N env o=some true) (hd:o.dst=some d) (ho:o.op= .index t x y) (ht:find T t=some i) (hk:i.kind=1)
  (hx:evO N env x=some (str l)) (hy:evO N env y=some (.int k z)) (hz:z=j) (hb:l[j]? =some b)
  (h:WL r n P N D ops Q rest ((d, .int .u8 b.toNat)::env) A):WL r n P N D ops Q (o::rest) env A:=
 Bf hg hd (fun c e=>by rw[ho] at e;cases e) (fun ρ W hρ _=>by
  have hu:=E1 (B8 hT ht) hk
  subst hz
  have hb':(⟨l.toArray⟩:ByteArray)[j]? =some b:=by
   obtain⟨h1,h2⟩:=List.getElem?_eq_some_iff.1 hb
   have h3:j<(⟨l.toArray⟩:ByteArray).size:=by show j<l.toArray.size;rw[List.size_toArray];exact h1
   rw[getElem?_pos _ j h3]
   exact congrArg some h2
  simp[execOp,ho,Instr.index,hρ _ _ hx,hρ _ _ hy,asIntOf,run_underlying hu,hb']) h
end
theorem AL (l:List UInt8):(⟨l.toArray⟩:ByteArray).toList=l:=by rw[ByteArray.toList_eq]
theorem NX:itoa 0=[48]:=by unfold itoa;rw[if_neg (by omega)];exact FK
theorem TC (W:World):(binOp .eql 104 .nilIface .nilIface).run Tryz.prog W= .ok (.bool true) W:=by
 simp only[binOp,Op.equal,Op.maxDepth]
 rw[show(10000:Nat)=9999+1 from rfl]
 unfold Op.equalIn
 simp only[Sem.run_bind,run_underlying Tryz.underlying104,Result.andThen_ok,Sem.run_pure]
section
variable {N:Nat} {D:List Deferred} {ops:List Oper} {o:Oper} {rest:List Oper} {env:Env} {A A2:World->Prop} {R:Act->World->Prop}
theorem Ov {d:Nat} {u:TypeId} {x:Operand} {c:Value} (hg:Aj ops N env o=some true) (hd:o.dst=some d) (ho:o.op= .binOp .eql 104 x (.const c) u) (hc:c= .nilIface)
  (hx:evO N env x=some .nilIface) (h:WQ Tryz.prog N D ops A2 R rest ((d, .bool true)::env) A):WQ Tryz.prog N D ops A2 R (o::rest) env A:=
 CD hg hd (fun c e=>by rw[ho] at e;cases e) (fun ρ W hρ _=>by
  subst hc
  have hgd:(eqGuard .eql 104 x (.const .nilIface) .nilIface .nilIface).run Tryz.prog W= .ok () W:=by rw[eqGuard_nil_constR];rfl
  have h2:ρ (.const .nilIface)= .nilIface:=hρ _ _ rfl
  simp only[execOp,ho,hρ _ _ hx,h2,Sem.run_bind,hgd,TC W,Result.andThen_ok,Sem.run_pure]) h
end
theorem A5 (l:List UInt8):(⟨l.toArray⟩:ByteArray).size=l.length:=by show l.toArray.size=_;simp
theorem Fx {n:Nat} (h:n<10):itoa (n:Nat)=[UInt8.ofNat (48+n)]:=by
 unfold itoa
 rw[if_neg (by omega)]
 exact decDigits_one h
theorem XT:itoa 2=[50]:=Fx (n:=2) (by decide)
section
variable {r:Option Nat} {n:Nat} {P:Program} {W0:World} {N:Nat} {D:List Deferred} {ops:List Oper} {Q:Exit->Act->World->Prop} {o:Oper} {rest:List Oper} {env:Env} {bxs:List Bx} {A:World->Prop}
theorem Eg {c:Call} {f:Operand} {g d:Nat} {capt vs:List Value} {X:Type} {val:X->Value} {Φ:X->Prop} (nb:X->List Bx)
  (hg:Aj ops N env o=some true) (hd:o.dst=some d) (ho:o.op= .call c) (hc:c.callee= .value f) (hf:evO N env f=some (.func (.func g) #[] capt.toArray)) (ha:Cl (evO N env) c.args.toList=some vs) (hE:Bm P g=true)
  (hC: ∀W,Hp W0 bxs W->Calls P g (vs++capt).toArray W fun e W'=> ∃x,e= .returned (val x)/\Φ x/\Below W0.heap.size W0 W'/\As W0 W' (nb x))
  (h: ∀x,Φ x->WL r n P N D ops Q rest ((d,val x)::env) (Hp W0 (nb x))):WL r n P N D ops Q (o::rest) env (Hp W0 bxs):= .mk fun a W h1 h2 hp=>by
 refine By hg h1 (fun c e=>by rw[ho] at e;cases e) ?_
 rw[F1 ho hc (A4 h1 _ _ hf) (DG (A4 h1) ha) hE]
 simp only[Oper.uponIn,hd]
 refine⟨fun hx=>(by cases hx),Dm ((hC W hp).mono ?_)⟩
 rintro e W' ⟨x,rfl,hx,hb,hn⟩
 exact(h x hx).out a W' h1 h2 ⟨hb,hn⟩
end
section
variable {r:Option Nat} {n:Nat} {P:Program} {N:Nat} {D:List Deferred} {ops:List Oper} {Q:Exit->Act->World->Prop} {o:Oper} {rest:List Oper} {env:Env} {A:World->Prop} {W0:World} {bxs:List Bx}
theorem DR {d:Nat} {t u:TypeId} {x y:Operand} {a b:List UInt8} (hg:Aj ops N env o=some true) (hd:o.dst=some d) (ho:o.op= .binOp .add t x y u) (hx:evO N env x=some (str a)) (hy:evO N env y=some (str b)) (ha:a.length<=8388608) (hb:b.length<=8388608)
  (h:WL r n P N D ops Q rest ((d,str (a++b))::env) A):WL r n P N D ops Q (o::rest) env A:=
 Bf hg hd (fun c e=>by rw[ho] at e;cases e) (fun ρ W hρ _=>by
  have hs:=run_string_add_lists (P:=P) W a b (by omega) (by omega)
  simp[execOp,ho,hρ _ _ hx,hρ _ _ hy,eqGuard,binOp,hs]) h
theorem XP {d:Nat} {t u:TypeId} {x:Operand} {k k' kt:IntKind} {z:Int} (ht:P.underlying t=some (.int kt)) (hu:P.underlying u=some (.int k)) (hg:Aj ops N env o=some true) (hd:o.dst=some d) (ho:o.op= .convert t u x) (hx:evO N env x=some (.int k' z))
  (h:WL r n P N D ops Q rest ((d, .int k (k.wrap z))::env) A):WL r n P N D ops Q (o::rest) env A:=
 Bf hg hd (fun c e=>by rw[ho] at e;cases e) (fun ρ W hρ _=>by
  simp[execOp,ho,convert,hρ _ _ hx,run_underlying ht,run_underlying hu,Conv.intToInt]) h
end
theorem Vb {x:Int} (h1:0<=x) (h2:x<256):IntKind.u8.wrap x=x:=by
 simp only[IntKind.wrap,IntKind.signed,IntKind.bits]
 simp
 omega
section
variable {r:Option Nat} {n:Nat} {P:Program} {W0:World} {N:Nat} {D:List Deferred} {Q:Exit->Act->World->Prop} {env:Env} {bxs:List Bx}
theorem Bz {x y:Code} {X:Type} (L:X->Env) (B:X->List Bx) (Φ:X->Prop) (h1:WC r n P N D x (Exit.then (Wo N D W0 L B Φ) Q) env (Hp W0 bxs))
  (h2: ∀z,Φ z->WC r n P N D y Q (L z) (Hp W0 (B z))):WC r n P N D x (Exit.then (y.wpIn (Fw r) n P Q) Q) env (Hp W0 bxs):= .mk fun a W ha hd hp=>by
 refine wpIn_mono (h1.out a W ha hd hp) ?_
 intro e a' W' hq
 cases e with
 |normal=>
  obtain⟨z,hz,hl,hp'⟩:=Wo.out hq
  have:=(h2 z hz).out a' W' hl.size hl.defers hp'
  rw[Fj (fun p hp _=>hl.get p hp)] at this
  exact this
 |_=>exact hq
end
section
variable {r:Option Nat} {n:Nat} {P:Program} {N:Nat} {D:List Deferred} {ops:List Oper} {Q:Exit->Act->World->Prop} {o:Oper} {rest:List Oper} {env:Env} {A:World->Prop}
theorem Ja (l:Nat) {T:Tbl} {i:TI} {a:List UInt8} {d:Nat} {t:TypeId} {x y':Operand} {k':IntKind} {z':Int} (hT:okB P T=true) (hg:Aj ops N env o=some true) (hd:o.dst=some d) (ho:o.op= .slice t x (some y') none none) (ht:find T t=some i) (hk:i.kind=1)
  (hx:evO N env x=some (str a)) (hy':evO N env y'=some (.int k' z')) (hz':z'=l) (h1:l<=a.length)
  (hn:WL r n P N D ops Q rest ((d,str (a.drop l))::env) A):WL r n P N D ops Q (o::rest) env A:=
 Bf hg hd (fun c e=>by rw[ho] at e;cases e) (fun ρ W hρ _=>by
  have hu:=E1 (B8 hT ht) hk
  subst hz'
  have hsz:(⟨a.toArray⟩:ByteArray).size=a.length:=by show a.toArray.size=_;simp
  have e:(⟨a.toArray⟩:ByteArray).extract l a.length=⟨(a.drop l).toArray⟩:=by
   apply ByteArray.ext
   rw[ByteArray.data_extract]
   apply Array.toList_inj.1
   simp only[List.extract_toArray,List.extract_eq_take_drop]
   exact List.take_of_length_le (by rw[List.length_drop];exact Nat.le_refl _)
  simp[execOp,ho,Instr.sliceAt,Instr.slice,Instr.sliceBounds,Instr.sliceBound,hρ _ _ hx,hρ _ _ hy',asIntOf,run_underlying hu,hsz,h1,e]) hn
theorem Ld (l:Nat) {A2:World->Prop} {R:Act->World->Prop} {T:Tbl} {i:TI} {a:List UInt8} {d:Nat} {t:TypeId} {x y':Operand} {k':IntKind} {z':Int} (hT:okB P T=true) (hg:Aj ops N env o=some true) (hd:o.dst=some d) (ho:o.op= .slice t x (some y') none none) (ht:find T t=some i) (hk:i.kind=1)
  (hx:evO N env x=some (str a)) (hy':evO N env y'=some (.int k' z')) (hz':z'=l) (h1:l<=a.length)
  (hn:WQ P N D ops A2 R rest ((d,str (a.drop l))::env) A):WQ P N D ops A2 R (o::rest) env A:=
 CD hg hd (fun c e=>by rw[ho] at e;cases e) (fun ρ W hρ _=>by
  have hu:=E1 (B8 hT ht) hk
  subst hz'
  have hsz:(⟨a.toArray⟩:ByteArray).size=a.length:=by show a.toArray.size=_;simp
  have e:(⟨a.toArray⟩:ByteArray).extract l a.length=⟨(a.drop l).toArray⟩:=by
   apply ByteArray.ext
   rw[ByteArray.data_extract]
   apply Array.toList_inj.1
   simp only[List.extract_toArray,List.extract_eq_take_drop]
   exact List.take_of_length_le (by rw[List.length_drop];exact Nat.le_refl _)
  simp[execOp,ho,Instr.sliceAt,Instr.slice,Instr.sliceBounds,Instr.sliceBound,hρ _ _ hx,hρ _ _ hy',asIntOf,run_underlying hu,hsz,h1,e]) hn
end
end
end Go.Proofs.YtidgbjcdppjknaaGreatDoor
namespace Go.Proofs
open Go.Shelf
def Tryz.lays169_ren:Go.Shelf.Ren:=⟨fun|169=>118|n=>n,fun|70=>181|9=>9|0=>0|72=>183|37=>44|127=>241|3=>3|5=>5|n=>n,fun|n=>n⟩
theorem Tryz.lays169:Go.Proofs.Lays.n169 Tryz.prog Tryz.lays169_ren:= {
 mixed:=by kernel_rfl
 f169:=fTr Tryz.func118 (by kernel_rfl)
 t0:=Tryz.underlying0
 a0:=Tryz.isAgg0
 z0:=Tryz.sizeOf0
 v0:=Tryz.zeroValue0
 t3:=Tryz.underlying3
 a3:=Tryz.isAgg3
 z3:=Tryz.sizeOf3
 v3:=Tryz.zeroValue3
 t9:=Tryz.underlying9
 a9:=Tryz.isAgg9
 z9:=Tryz.sizeOf9
 v9:=Tryz.zeroValue9
 t37:=Tryz.underlying44
 a37:=Tryz.isAgg44
 z37:=Tryz.sizeOf44
 v37:=Tryz.zeroValue44
 t70:=Tryz.underlying181
 a70:=Tryz.isAgg181
 z70:=Tryz.sizeOf181
 v70:=Tryz.zeroValue181
 t72:=Tryz.underlying183
 a72:=Tryz.isAgg183
 z72:=Tryz.sizeOf183
 v72:=Tryz.zeroValue183
 t127:=Tryz.underlying241
 a127:=Tryz.isAgg241
 z127:=Tryz.sizeOf241
 v127:=Tryz.zeroValue241 }
theorem Tryz.Builder_Extra_169:Builder.Extra Tryz.prog Tryz.lays169_ren:= {
 sizeBuilder:=by kernel_rfl
 liesBuilder:=by kernel_rfl
 t5:=Tryz.underlying5
 a5:=Tryz.isAgg5
 z5:=Tryz.sizeOf5
 v5:=Tryz.zeroValue5
 infoByte:=by kernel_rfl
 cellsByte:=by kernel_rfl
 sizeByte:=by kernel_rfl
 neB5:=by decide }
open Go.RowKit in
theorem Tryz.Builder_String_any_k (B b:Nat) (l:List UInt8) (w:World) (h:Lib.IsBuilderF 183 5 B b (Lib.byteCells l) w) (hBw:B<=w.heap.size):
  Calls Tryz.prog 118 #[.pointer (some ⟨b,0,none⟩)] w fun e w'=>e= .returned (.string ⟨l.toArray⟩)/\(Lib.IsBuilderF 183 5 B b (Lib.byteCells l) w'/\Below B w w'/\Lib.OthersKept 5 (some b) w w'):=Any.Builder_String_any_k Tryz.lays169 Tryz.Builder_Extra_169 B b l w h hBw
def Tryz.lays145_ren:Go.Shelf.Ren:=⟨fun|145=>82|220=>140|219=>190|217=>26|225=>230|224=>229|267=>233|266=>47|314=>274|n=>n,fun|9=>9|4=>4|59=>119|3=>3|5=>5|46=>260|146=>344|51=>291|n=>n,fun|1=>0|n=>n⟩
theorem Tryz.lays145:Go.Proofs.Lays.n145 Tryz.prog Tryz.lays145_ren:= {
 mixed:=by kernel_rfl
 f145:=fTr Tryz.func82 (by kernel_rfl)
 f217:=fTr Tryz.func26 (by kernel_rfl)
 f219:=fTr Tryz.func190 (by kernel_rfl)
 f220:=fTr Tryz.func140 (by kernel_rfl)
 f224:=fTr Tryz.func229 (by kernel_rfl)
 f225:=fTr Tryz.func230 (by kernel_rfl)
 f266:=fTr Tryz.func47 (by kernel_rfl)
 f267:=fTr Tryz.func233 (by kernel_rfl)
 f314:=fTr Tryz.func274 (by kernel_rfl)
 t3:=Tryz.underlying3
 a3:=Tryz.isAgg3
 z3:=Tryz.sizeOf3
 v3:=Tryz.zeroValue3
 t4:=Tryz.underlying4
 a4:=Tryz.isAgg4
 z4:=Tryz.sizeOf4
 v4:=Tryz.zeroValue4
 t5:=Tryz.underlying5
 a5:=Tryz.isAgg5
 z5:=Tryz.sizeOf5
 v5:=Tryz.zeroValue5
 t9:=Tryz.underlying9
 a9:=Tryz.isAgg9
 z9:=Tryz.sizeOf9
 v9:=Tryz.zeroValue9
 t46:=Tryz.underlying260
 a46:=Tryz.isAgg260
 z46:=Tryz.sizeOf260
 v46:=Tryz.zeroValue260
 t51:=Tryz.underlying291
 a51:=Tryz.isAgg291
 z51:=Tryz.sizeOf291
 v51:=Tryz.zeroValue291
 t59:=Tryz.underlying119
 a59:=Tryz.isAgg119
 z59:=Tryz.sizeOf119
 v59:=Tryz.zeroValue119
 t146:=Tryz.underlying344
 a146:=Tryz.isAgg344
 z146:=Tryz.sizeOf344
 v146:=Tryz.zeroValue344
 g1:=by kernel_rfl }
open Go.RowKit Go.Lib in
theorem Tryz.strings_Cut (s sep:ByteArray) (m:Int) (w:World) (hs:s.size<4294967281) (hm:w.cell? ⟨0,0,none⟩=some (.int .i64 m)):
  Calls Tryz.prog 82 #[.string s, .string sep] w fun e w'=>e= .returned (.tuple #[.string ⟨(Lib.cut s.data.toList sep.data.toList).1.toArray⟩, .string ⟨(Lib.cut s.data.toList sep.data.toList).2.1.toArray⟩, .bool (Lib.cut s.data.toList sep.data.toList).2.2])/\ ∃n,w'=w.drewN n:=Any.strings_Cut Tryz.lays145 s sep m w hs hm
def Tryz.lays105_ren:Go.Shelf.Ren:=⟨fun|105=>349|212=>355|99=>16|165=>202|166=>142|170=>154|169=>118|263=>356|264=>357|206=>25|240=>201|241=>248|276=>247|277=>277|n=>n,fun|9=>9|3=>3|4=>4|20=>20|0=>0|46=>260|109=>423|5=>5|72=>183|76=>105|51=>291|146=>344|53=>252|148=>427|70=>181|37=>44|75=>104|127=>241|164=>326|80=>171|n=>n,fun|n=>n⟩
theorem Tryz.lays105:Go.Proofs.Lays.n105 Tryz.prog Tryz.lays105_ren:= {
 mixed:=by kernel_rfl
 f99:=fTr Tryz.func16 (by kernel_rfl)
 f105:=fTr Tryz.func349 (by kernel_rfl)
 f165:=fTr Tryz.func202 (by kernel_rfl)
 f166:=fTr Tryz.func142 (by kernel_rfl)
 f169:=fTr Tryz.func118 (by kernel_rfl)
 f170:=fTr Tryz.func154 (by kernel_rfl)
 f206:=fTr Tryz.func25 (by kernel_rfl)
 f212:=fTr Tryz.func355 (by kernel_rfl)
 f240:=fTr Tryz.func201 (by kernel_rfl)
 f241:=fTr Tryz.func248 (by kernel_rfl)
 f263:=fTr Tryz.func356 (by kernel_rfl)
 f264:=fTr Tryz.func357 (by kernel_rfl)
 f276:=fTr Tryz.func247 (by kernel_rfl)
 f277:=fTr Tryz.func277 (by kernel_rfl)
 t0:=Tryz.underlying0
 a0:=Tryz.isAgg0
 z0:=Tryz.sizeOf0
 v0:=Tryz.zeroValue0
 t3:=Tryz.underlying3
 a3:=Tryz.isAgg3
 z3:=Tryz.sizeOf3
 v3:=Tryz.zeroValue3
 t4:=Tryz.underlying4
 a4:=Tryz.isAgg4
 z4:=Tryz.sizeOf4
 v4:=Tryz.zeroValue4
 t5:=Tryz.underlying5
 a5:=Tryz.isAgg5
 z5:=Tryz.sizeOf5
 v5:=Tryz.zeroValue5
 t9:=Tryz.underlying9
 a9:=Tryz.isAgg9
 z9:=Tryz.sizeOf9
 v9:=Tryz.zeroValue9
 t20:=Tryz.underlying20
 a20:=Tryz.isAgg20
 z20:=Tryz.sizeOf20
 v20:=Tryz.zeroValue20
 t37:=Tryz.underlying44
 a37:=Tryz.isAgg44
 z37:=Tryz.sizeOf44
 v37:=Tryz.zeroValue44
 t46:=Tryz.underlying260
 a46:=Tryz.isAgg260
 z46:=Tryz.sizeOf260
 v46:=Tryz.zeroValue260
 t51:=Tryz.underlying291
 a51:=Tryz.isAgg291
 z51:=Tryz.sizeOf291
 v51:=Tryz.zeroValue291
 t53:=Tryz.underlying252
 a53:=Tryz.isAgg252
 z53:=Tryz.sizeOf252
 v53:=Tryz.zeroValue252
 t70:=Tryz.underlying181
 a70:=Tryz.isAgg181
 z70:=Tryz.sizeOf181
 v70:=Tryz.zeroValue181
 t72:=Tryz.underlying183
 a72:=Tryz.isAgg183
 z72:=Tryz.sizeOf183
 v72:=Tryz.zeroValue183
 t75:=Tryz.underlying104
 a75:=Tryz.isAgg104
 z75:=Tryz.sizeOf104
 v75:=Tryz.zeroValue104
 t76:=Tryz.underlying105
 a76:=Tryz.isAgg105
 z76:=Tryz.sizeOf105
 v76:=Tryz.zeroValue105
 t109:=Tryz.underlying423
 a109:=Tryz.isAgg423
 z109:=Tryz.sizeOf423
 v109:=Tryz.zeroValue423
 t127:=Tryz.underlying241
 a127:=Tryz.isAgg241
 z127:=Tryz.sizeOf241
 v127:=Tryz.zeroValue241
 t146:=Tryz.underlying344
 a146:=Tryz.isAgg344
 z146:=Tryz.sizeOf344
 v146:=Tryz.zeroValue344
 t148:=Tryz.underlying427
 a148:=Tryz.isAgg427
 z148:=Tryz.sizeOf427
 v148:=Tryz.zeroValue427
 t164:=Tryz.underlying326
 a164:=Tryz.isAgg326
 z164:=Tryz.sizeOf326
 v164:=Tryz.zeroValue326 }
theorem Tryz.Builder_Extra_105:Builder.Extra Tryz.prog Tryz.lays105_ren:= {
 sizeBuilder:=by kernel_rfl
 liesBuilder:=by kernel_rfl
 t5:=Tryz.underlying5
 a5:=Tryz.isAgg5
 z5:=Tryz.sizeOf5
 v5:=Tryz.zeroValue5
 infoByte:=by kernel_rfl
 cellsByte:=by kernel_rfl
 sizeByte:=by kernel_rfl
 neB5:=by decide }
open Go.RowKit Go.Lib in
theorem Tryz.strings_Repeat (s:ByteArray) (c:Nat) (w:World) (hc:c<=9223372036854775807) (hlen:s.size*c<=140737488355328):
  Calls Tryz.prog 349 #[.string s, .int .i64 c] w fun e w'=>e= .returned (.string ⟨(Lib.repeatL s.data.toList c).toArray⟩)/\Below w.heap.size w w':=Any.strings_Repeat Tryz.lays105 Tryz.Builder_Extra_105 s c w hc hlen
def Tryz.lays166_ren:Go.Shelf.Ren:=⟨fun|166=>142|240=>201|276=>247|n=>n,fun|0=>0|3=>3|4=>4|5=>5|9=>9|20=>20|37=>44|70=>181|72=>183|75=>104|80=>171|164=>326|n=>n,fun n=>n⟩
theorem Tryz.lays166:Go.Proofs.Lays.n166 Tryz.prog Tryz.lays166_ren:= {
 mixed:=by kernel_rfl
 f166:=fTr Tryz.func142 (by kernel_rfl)
 f240:=fTr Tryz.func201 (by kernel_rfl)
 f276:=fTr Tryz.func247 (by kernel_rfl)
 t0:=Tryz.underlying0
 a0:=Tryz.isAgg0
 z0:=Tryz.sizeOf0
 v0:=Tryz.zeroValue0
 t3:=Tryz.underlying3
 a3:=Tryz.isAgg3
 z3:=Tryz.sizeOf3
 v3:=Tryz.zeroValue3
 t4:=Tryz.underlying4
 a4:=Tryz.isAgg4
 z4:=Tryz.sizeOf4
 v4:=Tryz.zeroValue4
 t9:=Tryz.underlying9
 a9:=Tryz.isAgg9
 z9:=Tryz.sizeOf9
 v9:=Tryz.zeroValue9
 t20:=Tryz.underlying20
 a20:=Tryz.isAgg20
 z20:=Tryz.sizeOf20
 v20:=Tryz.zeroValue20
 t37:=Tryz.underlying44
 a37:=Tryz.isAgg44
 z37:=Tryz.sizeOf44
 v37:=Tryz.zeroValue44
 t70:=Tryz.underlying181
 a70:=Tryz.isAgg181
 z70:=Tryz.sizeOf181
 v70:=Tryz.zeroValue181
 t72:=Tryz.underlying183
 a72:=Tryz.isAgg183
 z72:=Tryz.sizeOf183
 v72:=Tryz.zeroValue183
 t75:=Tryz.underlying104
 a75:=Tryz.isAgg104
 z75:=Tryz.sizeOf104
 v75:=Tryz.zeroValue104
 t164:=Tryz.underlying326
 a164:=Tryz.isAgg326
 z164:=Tryz.sizeOf326
 v164:=Tryz.zeroValue326 }
theorem Tryz.Builder_Extra_166:Builder.Extra Tryz.prog Tryz.lays166_ren:= {
 sizeBuilder:=by kernel_rfl
 liesBuilder:=by kernel_rfl
 t5:=Tryz.underlying5
 a5:=Tryz.isAgg5
 z5:=Tryz.sizeOf5
 v5:=Tryz.zeroValue5
 infoByte:=by kernel_rfl
 cellsByte:=by kernel_rfl
 sizeByte:=by kernel_rfl
 neB5:=by decide }
def Tryz.lays167_ren:Go.Shelf.Ren:=⟨fun|167=>144|240=>201|276=>247|n=>n,fun|0=>0|4=>4|5=>5|9=>9|20=>20|37=>44|70=>181|72=>183|75=>104|80=>171|164=>326|n=>n,fun n=>n⟩
theorem Tryz.lays167:Go.Proofs.Lays.n167 Tryz.prog Tryz.lays167_ren:= {
 mixed:=by kernel_rfl
 f167:=fTr Tryz.func144 (by kernel_rfl)
 f240:=fTr Tryz.func201 (by kernel_rfl)
 f276:=fTr Tryz.func247 (by kernel_rfl)
 t0:=Tryz.underlying0
 a0:=Tryz.isAgg0
 z0:=Tryz.sizeOf0
 v0:=Tryz.zeroValue0
 t4:=Tryz.underlying4
 a4:=Tryz.isAgg4
 z4:=Tryz.sizeOf4
 v4:=Tryz.zeroValue4
 t5:=Tryz.underlying5
 a5:=Tryz.isAgg5
 z5:=Tryz.sizeOf5
 v5:=Tryz.zeroValue5
 t9:=Tryz.underlying9
 a9:=Tryz.isAgg9
 z9:=Tryz.sizeOf9
 v9:=Tryz.zeroValue9
 t20:=Tryz.underlying20
 a20:=Tryz.isAgg20
 z20:=Tryz.sizeOf20
 v20:=Tryz.zeroValue20
 t37:=Tryz.underlying44
 a37:=Tryz.isAgg44
 z37:=Tryz.sizeOf44
 v37:=Tryz.zeroValue44
 t70:=Tryz.underlying181
 a70:=Tryz.isAgg181
 z70:=Tryz.sizeOf181
 v70:=Tryz.zeroValue181
 t72:=Tryz.underlying183
 a72:=Tryz.isAgg183
 z72:=Tryz.sizeOf183
 v72:=Tryz.zeroValue183
 t75:=Tryz.underlying104
 a75:=Tryz.isAgg104
 z75:=Tryz.sizeOf104
 v75:=Tryz.zeroValue104
 t164:=Tryz.underlying326
 a164:=Tryz.isAgg326
 z164:=Tryz.sizeOf326
 v164:=Tryz.zeroValue326 }
theorem Tryz.Builder_Extra_167:Builder.Extra Tryz.prog Tryz.lays167_ren:= {
 sizeBuilder:=by kernel_rfl
 liesBuilder:=by kernel_rfl
 t5:=Tryz.underlying5
 a5:=Tryz.isAgg5
 z5:=Tryz.sizeOf5
 v5:=Tryz.zeroValue5
 infoByte:=by kernel_rfl
 cellsByte:=by kernel_rfl
 sizeByte:=by kernel_rfl
 neB5:=by decide }
theorem Tryz.Builder_WriteByte_k (B b:Nat) (bs:List Value) (c:Int) (w:World) (h:Lib.IsBuilderF 183 5 B b bs w) (hlen:bs.length+1<=140737488355328) (hBw:B<=w.heap.size):
  Calls Tryz.prog 144 #[.pointer (some ⟨b,0,none⟩), .int .u8 c] w fun e w'=>e= .returned .nilIface/\(Lib.BuilderAtF 183 5 B b (.pointer (some ⟨b,0,none⟩)) (bs++[.int .u8 c]) w'/\Go.RowKit.Below B w w'/\Lib.OthersKept 5 (some b) w w'):=Any.Builder_WriteByte_k Tryz.lays167 Tryz.Builder_Extra_167 B b bs c w h hlen hBw
theorem Tryz.Builder_WriteString_k (B b:Nat) (bs:List Value) (s:ByteArray) (w:World) (h:Lib.IsBuilderF 183 5 B b bs w) (hlen:bs.length+s.size<=140737488355328) (hBw:B<=w.heap.size):
  Calls Tryz.prog 142 #[.pointer (some ⟨b,0,none⟩), .string s] w fun e w'=>e= .returned (.tuple #[.int .i64 s.size, .nilIface])/\(Lib.BuilderAtF 183 5 B b (.pointer (some ⟨b,0,none⟩)) (bs++Lib.strCells s) w'/\Go.RowKit.Below B w w'/\Lib.OthersKept 5 (some b) w w'):=Any.Builder_WriteString_k Tryz.lays166 Tryz.Builder_Extra_166 B b bs s w h hlen hBw
end Go.Proofs
namespace Go.Proofs
open Go.Shelf
open Go.Shelf
def Tryz.lays170_ren:Go.Shelf.Ren:=⟨fun|170=>154|n=>n,fun|70=>181|3=>3|0=>0|72=>183|37=>44|5=>5|n=>n,fun|n=>n⟩
theorem Tryz.lays170:Go.Proofs.Lays.n170 Tryz.prog Tryz.lays170_ren:= {
 mixed:=by kernel_rfl
 f170:=fTr Tryz.func154 (by kernel_rfl)
 t0:=Tryz.underlying0
 a0:=Tryz.isAgg0
 z0:=Tryz.sizeOf0
 v0:=Tryz.zeroValue0
 t3:=Tryz.underlying3
 a3:=Tryz.isAgg3
 z3:=Tryz.sizeOf3
 v3:=Tryz.zeroValue3
 t37:=Tryz.underlying44
 a37:=Tryz.isAgg44
 z37:=Tryz.sizeOf44
 v37:=Tryz.zeroValue44
 t70:=Tryz.underlying181
 a70:=Tryz.isAgg181
 z70:=Tryz.sizeOf181
 v70:=Tryz.zeroValue181
 t72:=Tryz.underlying183
 a72:=Tryz.isAgg183
 z72:=Tryz.sizeOf183
 v72:=Tryz.zeroValue183 }
open Go.RowKit in
theorem Tryz.Builder_String_any (B b:Nat) (l:List UInt8) (w:World) (h:Lib.IsBuilder 183 5 B b (Lib.byteCells l) w) (hBw:B<=w.heap.size):
  Calls Tryz.prog 118 #[.pointer (some ⟨b,0,none⟩)] w fun e w'=>e= .returned (.string ⟨l.toArray⟩)/\Below B w w':=Any.Builder_String_any Tryz.lays169 Tryz.Builder_Extra_169 B b l w h hBw
def Tryz.lays137_ren:Go.Shelf.Ren:=⟨fun|137=>17|217=>26|266=>47|n=>n,fun|9=>9|5=>5|3=>3|n=>n,fun|n=>n⟩
theorem Tryz.lays137:Go.Proofs.Lays.n137 Tryz.prog Tryz.lays137_ren:= {
 mixed:=by kernel_rfl
 f137:=fTr Tryz.func17 (by kernel_rfl)
 f217:=fTr Tryz.func26 (by kernel_rfl)
 f266:=fTr Tryz.func47 (by kernel_rfl)
 t3:=Tryz.underlying3
 a3:=Tryz.isAgg3
 z3:=Tryz.sizeOf3
 v3:=Tryz.zeroValue3
 t5:=Tryz.underlying5
 a5:=Tryz.isAgg5
 z5:=Tryz.sizeOf5
 v5:=Tryz.zeroValue5
 t9:=Tryz.underlying9
 a9:=Tryz.isAgg9
 z9:=Tryz.sizeOf9
 v9:=Tryz.zeroValue9 }
open Go.RowKit in
theorem Tryz.strings_IndexByte (s:ByteArray) (c:Int) (w:World):
  Calls Tryz.prog 17 #[.string s, .int .u8 c] w fun e w'=>e= .returned (.int .i64 (Lib.indexByte s.data.toList c.toNat.toUInt8))/\w'=w:=Any.strings_IndexByte Tryz.lays137 s c w
def Tryz.lays104_ren:Go.Shelf.Ren:=⟨fun|104=>156|211=>210|207=>27|n=>n,fun|9=>9|4=>4|24=>109|3=>3|n=>n,fun|n=>n⟩
theorem Tryz.lays104:Go.Proofs.Lays.n104 Tryz.prog Tryz.lays104_ren:= {
 mixed:=by kernel_rfl
 f104:=fTr Tryz.func156 (by kernel_rfl)
 f207:=fTr Tryz.func27 (by kernel_rfl)
 f211:=fTr Tryz.func210 (by kernel_rfl)
 t3:=Tryz.underlying3
 a3:=Tryz.isAgg3
 z3:=Tryz.sizeOf3
 v3:=Tryz.zeroValue3
 t4:=Tryz.underlying4
 a4:=Tryz.isAgg4
 z4:=Tryz.sizeOf4
 v4:=Tryz.zeroValue4
 t9:=Tryz.underlying9
 a9:=Tryz.isAgg9
 z9:=Tryz.sizeOf9
 v9:=Tryz.zeroValue9
 t24:=Tryz.underlying109
 a24:=Tryz.isAgg109
 z24:=Tryz.sizeOf109
 v24:=Tryz.zeroValue109 }
open Go.RowKit in
theorem Tryz.strings_CutSuffix (s p:ByteArray) (w:World) (hs:s.size<=9223372036854775807):
  Calls Tryz.prog 156 #[.string s, .string p] w fun e w'=>e= .returned (.tuple #[.string ⟨(Lib.trimSuffix s.data.toList p.data.toList).toArray⟩, .bool (Lib.hasSuffix s.data.toList p.data.toList)])/\w'=w:=Any.strings_CutSuffix Tryz.lays104 s p w hs
open Go.RowKit in
theorem Tryz.Builder_Len_f (B b:Nat) (bs:List Value) (w:World) (h:Lib.IsBuilderF 183 5 B b bs w):
  Calls Tryz.prog 154 #[.pointer (some ⟨b,0,none⟩)] w fun e w'=>e= .returned (.int .i64 bs.length)/\w'=w:=Any.Builder_Len_f Tryz.lays170 B b bs w h
open Go.RowKit in
theorem Tryz.strconv_Atoi_syntax (s:ByteArray) (hlim:s.size<=281474976710656) (h:Lib.atoiAll s.data.toList=Lib.NumEnd.syntax) (ev:Value) (w:World) (hv:w.cell? ⟨2,0,none⟩=some ev) (hev:ev= .nilIface\/ ∃te pe,ev= .iface te pe):
  Calls Tryz.prog 49 #[.string s] w fun e w'=> ∃N,e= .returned (.tuple #[.int .i64 (0), .iface 204 (.pointer (some ⟨N,0,none⟩))])/\w.heap.size<=N/\w'.heap[N]? =some (.cells #[.string ⟨#[65,116,111,105]⟩, .string s,ev] 263 (0,0))/\Below w.heap.size w w':=Any.strconv_Atoi_syntax Tryz.laysC172 s hlim h ev w hv hev
open Go.RowKit in
theorem Tryz.strconv_Atoi_range (s:ByteArray) (hlim:s.size<=281474976710656) (h:Lib.atoiAll s.data.toList= .range) (ev:Value) (w:World) (hv:w.cell? ⟨3,0,none⟩=some ev) (hev:ev= .nilIface\/ ∃te pe,ev= .iface te pe):
  Calls Tryz.prog 49 #[.string s] w fun e w'=> ∃N,e= .returned (.tuple #[.int .i64 (Lib.atoiSat s.data.toList), .iface 204 (.pointer (some ⟨N,0,none⟩))])/\w.heap.size<=N/\w'.heap[N]? =some (.cells #[.string ⟨#[65,116,111,105]⟩, .string s,ev] 263 (0,0))/\Below w.heap.size w w':=Any.strconv_Atoi_range Tryz.laysC172 s hlim h ev w hv hev
def Tryz.lays100_ren:Go.Shelf.Ren:=⟨fun|100=>18|207=>27|n=>n,fun|9=>9|4=>4|3=>3|n=>n,fun|n=>n⟩
theorem Tryz.lays100:Go.Proofs.Lays.n100 Tryz.prog Tryz.lays100_ren:= {
 mixed:=by kernel_rfl
 f100:=fTr Tryz.func18 (by kernel_rfl)
 f207:=fTr Tryz.func27 (by kernel_rfl)
 t3:=Tryz.underlying3
 a3:=Tryz.isAgg3
 z3:=Tryz.sizeOf3
 v3:=Tryz.zeroValue3
 t4:=Tryz.underlying4
 a4:=Tryz.isAgg4
 z4:=Tryz.sizeOf4
 v4:=Tryz.zeroValue4
 t9:=Tryz.underlying9
 a9:=Tryz.isAgg9
 z9:=Tryz.sizeOf9
 v9:=Tryz.zeroValue9 }
open Go.RowKit Go.Lib in
theorem Tryz.strings_HasSuffix (s p:ByteArray) (w:World) (hs:s.size<=9223372036854775807):
  Calls Tryz.prog 18 #[.string s, .string p] w fun e w'=>e= .returned (.bool (Lib.hasSuffix s.data.toList p.data.toList))/\w'=w:=Any.strings_HasSuffix Tryz.lays100 s p w hs
def Tryz.lays102_ren:Go.Shelf.Ren:=⟨fun|102=>204|209=>249|207=>27|n=>n,fun|9=>9|4=>4|3=>3|n=>n,fun|n=>n⟩
theorem Tryz.lays102:Go.Proofs.Lays.n102 Tryz.prog Tryz.lays102_ren:= {
 mixed:=by kernel_rfl
 f102:=fTr Tryz.func204 (by kernel_rfl)
 f207:=fTr Tryz.func27 (by kernel_rfl)
 f209:=fTr Tryz.func249 (by kernel_rfl)
 t3:=Tryz.underlying3
 a3:=Tryz.isAgg3
 z3:=Tryz.sizeOf3
 v3:=Tryz.zeroValue3
 t4:=Tryz.underlying4
 a4:=Tryz.isAgg4
 z4:=Tryz.sizeOf4
 v4:=Tryz.zeroValue4
 t9:=Tryz.underlying9
 a9:=Tryz.isAgg9
 z9:=Tryz.sizeOf9
 v9:=Tryz.zeroValue9 }
open Go.RowKit Go.Lib in
theorem Tryz.strings_TrimSuffix (s p:ByteArray) (w:World) (hs:s.size<=9223372036854775807):
  Calls Tryz.prog 204 #[.string s, .string p] w fun e w'=>e= .returned (.string ⟨(Lib.trimSuffix s.data.toList p.data.toList).toArray⟩)/\w'=w:=Any.strings_TrimSuffix Tryz.lays102 s p w hs
def Tryz.lays146_ren:Go.Shelf.Ren:=⟨fun|146=>58|221=>108|268=>167|138=>168|143=>169|195=>217|197=>133|218=>218|219=>190|260=>185|217=>26|225=>230|224=>229|267=>233|266=>47|314=>274|n=>n,fun|9=>9|31=>126|3=>3|4=>4|0=>0|105=>198|21=>21|5=>5|46=>260|119=>294|139=>297|138=>296|146=>344|51=>291|n=>n,fun|1=>0|3=>5|4=>6|n=>n⟩
theorem Tryz.lays146:Go.Proofs.Lays.n146 Tryz.prog Tryz.lays146_ren:= {
 mixed:=by kernel_rfl
 f138:=fTr Tryz.func168 (by kernel_rfl)
 f143:=fTr Tryz.func169 (by kernel_rfl)
 f146:=fTr Tryz.func58 (by kernel_rfl)
 f195:=fTr Tryz.func217 (by kernel_rfl)
 f197:=fTr Tryz.func133 (by kernel_rfl)
 f217:=fTr Tryz.func26 (by kernel_rfl)
 f218:=fTr Tryz.func218 (by kernel_rfl)
 f219:=fTr Tryz.func190 (by kernel_rfl)
 f221:=fTr Tryz.func108 (by kernel_rfl)
 f224:=fTr Tryz.func229 (by kernel_rfl)
 f225:=fTr Tryz.func230 (by kernel_rfl)
 f260:=fTr Tryz.func185 (by kernel_rfl)
 f266:=fTr Tryz.func47 (by kernel_rfl)
 f267:=fTr Tryz.func233 (by kernel_rfl)
 f268:=fTr Tryz.func167 (by kernel_rfl)
 f314:=fTr Tryz.func274 (by kernel_rfl)
 t0:=Tryz.underlying0
 a0:=Tryz.isAgg0
 z0:=Tryz.sizeOf0
 v0:=Tryz.zeroValue0
 t3:=Tryz.underlying3
 a3:=Tryz.isAgg3
 z3:=Tryz.sizeOf3
 v3:=Tryz.zeroValue3
 t4:=Tryz.underlying4
 a4:=Tryz.isAgg4
 z4:=Tryz.sizeOf4
 v4:=Tryz.zeroValue4
 t5:=Tryz.underlying5
 a5:=Tryz.isAgg5
 z5:=Tryz.sizeOf5
 v5:=Tryz.zeroValue5
 t9:=Tryz.underlying9
 a9:=Tryz.isAgg9
 z9:=Tryz.sizeOf9
 v9:=Tryz.zeroValue9
 t21:=Tryz.underlying21
 a21:=Tryz.isAgg21
 z21:=Tryz.sizeOf21
 v21:=Tryz.zeroValue21
 t31:=Tryz.underlying126
 a31:=Tryz.isAgg126
 z31:=Tryz.sizeOf126
 v31:=Tryz.zeroValue126
 t46:=Tryz.underlying260
 a46:=Tryz.isAgg260
 z46:=Tryz.sizeOf260
 v46:=Tryz.zeroValue260
 t51:=Tryz.underlying291
 a51:=Tryz.isAgg291
 z51:=Tryz.sizeOf291
 v51:=Tryz.zeroValue291
 t105:=Tryz.underlying198
 a105:=Tryz.isAgg198
 z105:=Tryz.sizeOf198
 v105:=Tryz.zeroValue198
 t119:=Tryz.underlying294
 a119:=Tryz.isAgg294
 z119:=Tryz.sizeOf294
 t138:=Tryz.underlying296
 a138:=Tryz.isAgg296
 z138:=Tryz.sizeOf296
 v138:=Tryz.zeroValue296
 t139:=Tryz.underlying297
 a139:=Tryz.isAgg297
 z139:=Tryz.sizeOf297
 v139:=Tryz.zeroValue297
 t146:=Tryz.underlying344
 a146:=Tryz.isAgg344
 z146:=Tryz.sizeOf344
 v146:=Tryz.zeroValue344
 g1:=by kernel_rfl
 g3:=by kernel_rfl
 g4:=by kernel_rfl }
open Go.RowKit Go.Lib in
theorem Tryz.strings_Split (s sep:ByteArray) (m:Int) (w:World) (hs:s.size<4294967281) (hm:w.cell? ⟨0,0,none⟩=some (.int .i64 m)) (h1:1<=sep.size):
  Calls Tryz.prog 58 #[.string s, .string sep] w fun e w'=>
   e= .returned (.slice (some ⟨w.heap.size,0,none⟩) (Lib.countB s sep+1) (Lib.countB s sep+1))/\w'=w.alloc (.cells ((Lib.splitB sep 0 (Lib.countB s sep) s).map Value.string).toArray 9):=Any.strings_Split Tryz.lays146 (by kernel_rfl) s sep m w hs hm h1
def Tryz.laysNm216_ren:Go.Shelf.Ren:=⟨fun|16=>67|n=>n,fun|24=>126|9=>9|4=>4|n=>n,fun|n=>n⟩
theorem Tryz.laysNm216:Go.Proofs.Lays2.n16 Tryz.prog Tryz.laysNm216_ren:= {
 mixed:=by kernel_rfl
 f16:=fTr Tryz.func67 (by kernel_rfl)
 t4:=Tryz.underlying4
 a4:=Tryz.isAgg4
 z4:=Tryz.sizeOf4
 v4:=Tryz.zeroValue4
 t9:=Tryz.underlying9
 a9:=Tryz.isAgg9
 z9:=Tryz.sizeOf9
 v9:=Tryz.zeroValue9
 t24:=Tryz.underlying126
 a24:=Tryz.isAgg126
 z24:=Tryz.sizeOf126
 v24:=Tryz.zeroValue126
 i9:=by kernel_rfl }
open Go.RowKit Go.Lib in
theorem Tryz.slices_Clone_string (b off n c:Nat) (zs:List ByteArray) (w:World) (hz:n<=zs.length) (hbig:n*16<=140737488355328) (hc: ∀j,j<zs.length->w.cell? ⟨b,off+j,none⟩=some (.string (zs.getD j ByteArray.empty))):
  Calls Tryz.prog 67 #[.slice (some ⟨b,off,none⟩) n c] w fun e w'=> ∃v',e= .returned v'/\w'.ownsRow w.heap.size 9 1 v' n ((zs.take n).map (Value.string))/\v'≠ .slice none 0 0/\Below w.heap.size w w':=Any.slices_Clone_string Tryz.laysNm216 b off n c zs w hz hbig hc
def Tryz.laysNm224_ren:Go.Shelf.Ren:=⟨fun|24=>203|n=>n,fun|24=>126|9=>9|3=>3|4=>4|0=>0|n=>n,fun|n=>n⟩
theorem Tryz.laysNm224:Go.Proofs.Lays2.n24 Tryz.prog Tryz.laysNm224_ren:= {
 mixed:=by kernel_rfl
 f24:=fTr Tryz.func203 (by kernel_rfl)
 t0:=Tryz.underlying0
 a0:=Tryz.isAgg0
 z0:=Tryz.sizeOf0
 v0:=Tryz.zeroValue0
 t3:=Tryz.underlying3
 a3:=Tryz.isAgg3
 z3:=Tryz.sizeOf3
 v3:=Tryz.zeroValue3
 t4:=Tryz.underlying4
 a4:=Tryz.isAgg4
 z4:=Tryz.sizeOf4
 v4:=Tryz.zeroValue4
 t9:=Tryz.underlying9
 a9:=Tryz.isAgg9
 z9:=Tryz.sizeOf9
 v9:=Tryz.zeroValue9
 t24:=Tryz.underlying126
 a24:=Tryz.isAgg126
 z24:=Tryz.sizeOf126
 v24:=Tryz.zeroValue126
 i9:=by kernel_rfl }
open Go.RowKit Go.Lib Go.Sort in
theorem Tryz.slices_Delete_string (blk off cap i j:Nat) (zs:List (List UInt8)) (w:World) (hH:Holds encStr w blk off zs.toArray) (hcap:zs.length<=cap) (hm:cap<=9223372036854775807) (hij:i<=j) (hj:j<=zs.length):
  Calls Tryz.prog 203 #[.slice (some ⟨blk,off,none⟩) zs.length cap, .int .i64 i, .int .i64 j] w fun e w'=>e= .returned (.slice (some ⟨blk,off,none⟩) (zs.length-(j-i)) cap)/\ ∃q,w'=putRow encStr (Sort.ahead w q) blk off (zs.take i++zs.drop j++List.replicate (j-i) []).toArray:=Any.slices_Delete_string Tryz.laysNm224 blk off cap i j zs w hH hcap hm hij hj
def Tryz.lays156_ren:Go.Shelf.Ren:=⟨fun|156=>143|165=>202|166=>142|169=>118|240=>201|241=>248|276=>247|277=>277|n=>n,fun|0=>0|3=>3|4=>4|5=>5|9=>9|20=>20|31=>126|37=>44|70=>181|72=>183|75=>104|76=>105|80=>171|127=>241|164=>326|n=>n,fun n=>n⟩
theorem Tryz.lays156:Go.Proofs.Lays.n156 Tryz.prog Tryz.lays156_ren:= {
 mixed:=by kernel_rfl
 f156:=fTr Tryz.func143 (by kernel_rfl)
 f165:=fTr Tryz.func202 (by kernel_rfl)
 f166:=fTr Tryz.func142 (by kernel_rfl)
 f169:=fTr Tryz.func118 (by kernel_rfl)
 f240:=fTr Tryz.func201 (by kernel_rfl)
 f241:=fTr Tryz.func248 (by kernel_rfl)
 f276:=fTr Tryz.func247 (by kernel_rfl)
 f277:=fTr Tryz.func277 (by kernel_rfl)
 t0:=Tryz.underlying0
 a0:=Tryz.isAgg0
 z0:=Tryz.sizeOf0
 v0:=Tryz.zeroValue0
 t3:=Tryz.underlying3
 a3:=Tryz.isAgg3
 z3:=Tryz.sizeOf3
 v3:=Tryz.zeroValue3
 t4:=Tryz.underlying4
 a4:=Tryz.isAgg4
 z4:=Tryz.sizeOf4
 v4:=Tryz.zeroValue4
 t9:=Tryz.underlying9
 a9:=Tryz.isAgg9
 z9:=Tryz.sizeOf9
 v9:=Tryz.zeroValue9
 t20:=Tryz.underlying20
 a20:=Tryz.isAgg20
 z20:=Tryz.sizeOf20
 v20:=Tryz.zeroValue20
 t31:=Tryz.underlying126
 a31:=Tryz.isAgg126
 z31:=Tryz.sizeOf126
 v31:=Tryz.zeroValue126
 t37:=Tryz.underlying44
 a37:=Tryz.isAgg44
 z37:=Tryz.sizeOf44
 v37:=Tryz.zeroValue44
 t70:=Tryz.underlying181
 a70:=Tryz.isAgg181
 z70:=Tryz.sizeOf181
 v70:=Tryz.zeroValue181
 t72:=Tryz.underlying183
 a72:=Tryz.isAgg183
 z72:=Tryz.sizeOf183
 v72:=Tryz.zeroValue183
 t75:=Tryz.underlying104
 a75:=Tryz.isAgg104
 z75:=Tryz.sizeOf104
 v75:=Tryz.zeroValue104
 t76:=Tryz.underlying105
 a76:=Tryz.isAgg105
 z76:=Tryz.sizeOf105
 v76:=Tryz.zeroValue105
 t127:=Tryz.underlying241
 a127:=Tryz.isAgg241
 z127:=Tryz.sizeOf241
 v127:=Tryz.zeroValue241
 t164:=Tryz.underlying326
 a164:=Tryz.isAgg326
 z164:=Tryz.sizeOf326
 v164:=Tryz.zeroValue326 }
theorem Tryz.Builder_Extra_156:Builder.Extra Tryz.prog Tryz.lays156_ren:= {
 sizeBuilder:=by kernel_rfl
 liesBuilder:=by kernel_rfl
 t5:=Tryz.underlying5
 a5:=Tryz.isAgg5
 z5:=Tryz.sizeOf5
 v5:=Tryz.zeroValue5
 infoByte:=by kernel_rfl
 cellsByte:=by kernel_rfl
 sizeByte:=by kernel_rfl
 neB5:=by decide }
def Tryz.lays161_ren:Go.Shelf.Ren:=⟨fun|119=>228|137=>17|151=>134|152=>186|161=>48|197=>133|217=>26|224=>229|225=>230|227=>77|228=>132|231=>76|233=>78|235=>79|260=>185|266=>47|n=>n,fun|0=>0|3=>3|4=>4|5=>5|9=>9|21=>21|46=>260|105=>198|116=>148|117=>149|119=>294|124=>152|138=>296|139=>297|n=>n,fun|3=>5|4=>6|n=>n⟩
theorem Tryz.lays161:Go.Proofs.Lays.n161 Tryz.prog Tryz.lays161_ren:= {
 mixed:=by kernel_rfl
 f119:=fTr Tryz.func228 (by kernel_rfl)
 f137:=fTr Tryz.func17 (by kernel_rfl)
 f151:=fTr Tryz.func134 (by kernel_rfl)
 f152:=fTr Tryz.func186 (by kernel_rfl)
 f161:=fTr Tryz.func48 (by kernel_rfl)
 f197:=fTr Tryz.func133 (by kernel_rfl)
 f217:=fTr Tryz.func26 (by kernel_rfl)
 f224:=fTr Tryz.func229 (by kernel_rfl)
 f225:=fTr Tryz.func230 (by kernel_rfl)
 f227:=fTr Tryz.func77 (by kernel_rfl)
 f228:=fTr Tryz.func132 (by kernel_rfl)
 f231:=fTr Tryz.func76 (by kernel_rfl)
 f233:=fTr Tryz.func78 (by kernel_rfl)
 f235:=fTr Tryz.func79 (by kernel_rfl)
 f260:=fTr Tryz.func185 (by kernel_rfl)
 f266:=fTr Tryz.func47 (by kernel_rfl)
 t0:=Tryz.underlying0
 a0:=Tryz.isAgg0
 z0:=Tryz.sizeOf0
 v0:=Tryz.zeroValue0
 t3:=Tryz.underlying3
 a3:=Tryz.isAgg3
 z3:=Tryz.sizeOf3
 v3:=Tryz.zeroValue3
 t4:=Tryz.underlying4
 a4:=Tryz.isAgg4
 z4:=Tryz.sizeOf4
 v4:=Tryz.zeroValue4
 t5:=Tryz.underlying5
 a5:=Tryz.isAgg5
 z5:=Tryz.sizeOf5
 v5:=Tryz.zeroValue5
 t9:=Tryz.underlying9
 a9:=Tryz.isAgg9
 z9:=Tryz.sizeOf9
 v9:=Tryz.zeroValue9
 t21:=Tryz.underlying21
 a21:=Tryz.isAgg21
 z21:=Tryz.sizeOf21
 v21:=Tryz.zeroValue21
 t46:=Tryz.underlying260
 a46:=Tryz.isAgg260
 z46:=Tryz.sizeOf260
 v46:=Tryz.zeroValue260
 t105:=Tryz.underlying198
 a105:=Tryz.isAgg198
 z105:=Tryz.sizeOf198
 v105:=Tryz.zeroValue198
 t116:=Tryz.underlying148
 a116:=Tryz.isAgg148
 z116:=Tryz.sizeOf148
 t117:=Tryz.underlying149
 a117:=Tryz.isAgg149
 z117:=Tryz.sizeOf149
 v117:=Tryz.zeroValue149
 t119:=Tryz.underlying294
 a119:=Tryz.isAgg294
 z119:=Tryz.sizeOf294
 t124:=Tryz.underlying152
 a124:=Tryz.isAgg152
 z124:=Tryz.sizeOf152
 v124:=Tryz.zeroValue152
 t138:=Tryz.underlying296
 a138:=Tryz.isAgg296
 z138:=Tryz.sizeOf296
 v138:=Tryz.zeroValue296
 t139:=Tryz.underlying297
 a139:=Tryz.isAgg297
 z139:=Tryz.sizeOf297
 v139:=Tryz.zeroValue297
 g3:=by kernel_rfl
 g4:=by kernel_rfl }
theorem Tryz.Builder_WriteByte (B b:Nat) (bs:List Value) (c:Int) (w:World) (h:Lib.IsBuilder 183 5 B b bs w) (hlen:bs.length+1<=140737488355328) (hBw:B<=w.heap.size):
  Calls Tryz.prog 144 #[.pointer (some ⟨b,0,none⟩), .int .u8 c] w fun e w'=>e= .returned .nilIface/\(Lib.BuilderAt 183 5 B b (.pointer (some ⟨b,0,none⟩)) (bs++[.int .u8 c]) w'/\Go.RowKit.Below B w w'):=Any.Builder_WriteByte Tryz.lays167 Tryz.Builder_Extra_167 B b bs c w h hlen hBw
theorem Tryz.Builder_WriteString (B b:Nat) (bs:List Value) (s:ByteArray) (w:World) (h:Lib.IsBuilder 183 5 B b bs w) (hlen:bs.length+s.size<=140737488355328) (hBw:B<=w.heap.size):
  Calls Tryz.prog 142 #[.pointer (some ⟨b,0,none⟩), .string s] w fun e w'=>e= .returned (.tuple #[.int .i64 s.size, .nilIface])/\(Lib.BuilderAt 183 5 B b (.pointer (some ⟨b,0,none⟩)) (bs++Lib.strCells s) w'/\Go.RowKit.Below B w w'):=Any.Builder_WriteString Tryz.lays166 Tryz.Builder_Extra_166 B b bs s w h hlen hBw
theorem Tryz.strings_Join (bk o c:Nat) (xs:List ByteArray) (sep:ByteArray) (w:World) (hcells: ∀(j:Nat) x,xs[j]? =some x->w.cell? ⟨bk,o+j,none⟩=some (.string x)) (hbk:bk<w.heap.size) (hN:xs.length<=140737488355328) (hcap:xs.length<=c) (hlen:(Lib.join (xs.map (·.data.toList)) sep.data.toList).length<=140737488355328):
  Calls Tryz.prog 143 #[.slice (some ⟨bk,o,none⟩) xs.length c, .string sep] w fun e w'=>e= .returned (.string ⟨(Lib.join (xs.map (·.data.toList)) sep.data.toList).toArray⟩)/\Go.RowKit.Below w.heap.size w w':=Any.strings_Join Tryz.lays156 Tryz.Builder_Extra_156 bk o c xs sep w hcells hbk hN hcap hlen
end Go.Proofs
namespace Go.Proofs.YtidgbjcdppjknaaGreatDoor
section
open Go Go.RowKit Go.Am Go.Lib
set_option maxRecDepth 10000
abbrev bc (l:List UInt8):List Value:=l.map fun b=>Value.int .u8 b.toNat
abbrev FR (b:Nat) (p v:Value):Bx:=⟨b,183,[p,v],true,none⟩
theorem SO {W0 W:World} {b:Nat} {p:Value} {V:Vec} {l:List UInt8} (hp:p= .pointer none\/p=Af b) (h:Hp W0 [FR b p (V.val l.length),V.bx 5 (bc l)] W) (hV:V.OK 1 l.length (bc l)):Lib.IsBuilder 183 5 W0.heap.size b (Lib.byteCells l) W:=by
 have h0:=h.at_ 0 _ rfl rfl
 have hb1:W.heap[b]? =some (.cells #[p,V.val l.length] 183 (0,0)):=h0.1
 have hown:W.ownsRow W0.heap.size 5 1 (V.val l.length) l.length (bc l):=by
  refine⟨by simp, ?_⟩
  obtain⟨q,cap,junk⟩:=V
  cases q with
  |none=>exact .inl ⟨rfl,hV.nil rfl⟩
  |some g=>
   obtain⟨h3,h4,h5⟩:=hV.cap (by simp)
   have hb:W.heap[g]? =some (.cells (bc l++junk).toArray 5 (0,0))/\W0.heap.size<=g:=h.at_ 1 _ rfl rfl
   refine .inr ⟨g,cap,_,I,hb.2,hb.1,h3,h4,by simpa using h5, ?_⟩
   simp
 have hat:Lib.BuilderAt 183 5 W0.heap.size b p (Lib.byteCells l) W:=⟨h0.2,V.val l.length,hb1,by rw[Lib.byteCells_length];exact hown,ownBlock_ne hown hb1 (by decide)⟩
 rcases hp with rfl|rfl
 ·exact .inl hat
 ·exact .inr hat
theorem Y5 {W0 W:World} {b:Nat} {p:Value} {l:List UInt8} (h:Lib.BuilderAt 183 5 W0.heap.size b p (Lib.byteCells l) W) (hb:Below W0.heap.size W0 W): ∃V:Vec,V.OK 1 l.length (bc l)/\Below W0.heap.size W0 W/\As W0 W [FR b p (V.val l.length),V.bx 5 (bc l)]:=by
 obtain⟨hB,v,hbk,hown,hne⟩:=h
 rw[Lib.byteCells_length] at hown
 have hpb:Hp W0 [FR b p v] W:=⟨hb,Own.one_sole rfl ⟨hbk,hB⟩⟩
 rcases hown.2 with⟨rfl,hn⟩|⟨g,cap,cur,rfl,hbg,hg,hnc,hcm,hcs,htake⟩
 ·have hl:l=[]:=List.length_eq_zero_iff.1 hn
  subst hl
  exact⟨Vec.empty,Vec.OK.empty 1,hb,(hpb.newGone).own⟩
 ·have hcur:cur.toList=bc l++cur.toList.drop (l.length*1):=by
   conv=>lhs;rw[<-List.take_append_drop (l.length*1) cur.toList]
   rw[htake];rfl
  have hgb:b≠g:=fun e=>hne (by rw[e];rfl)
  refine⟨⟨some g,cap,cur.toList.drop (l.length*1)⟩,⟨by simp,fun h=>by simp at h,fun _=>⟨hnc,hcm, ?_⟩⟩,hb, ?_⟩
  ·have:=congrArg List.length hcur
   rw[List.length_append] at this
   simp only[Array.length_toList] at this
   rw[<-this,hcs]
  ·refine As.two (A:=FR b p (.slice (some ⟨g,0,none⟩) l.length cap)) (B:=⟨g,5,bc l++cur.toList.drop (l.length*1),true,none⟩) ⟨hbk,hB⟩ ⟨?_,hbg⟩ hgb
   show W.heap[g]? =some (.cells (bc l++cur.toList.drop (l.length*1)).toArray 5 (0,0))
   rw[<-hcur]
   exact hg
theorem G5 {W0 W:World} {b:Nat} {p:Value} {V:Vec} {l:List UInt8} (s:List UInt8) (hp:p= .pointer none\/p=Af b) (h:Hp W0 [FR b p (V.val l.length),V.bx 5 (bc l)] W) (hV:V.OK 1 l.length (bc l)) (hl:l.length+s.length<=500000000):
  Calls Tryz.prog 142 #[Af b,str s] W fun e W'=> ∃x:Vec,e= .returned ((fun _=> .tuple #[.int .i64 s.length, .nilIface]) x)/\x.OK 1 (l++s).length (bc (l++s))/\Below W0.heap.size W0 W'/\As W0 W' [FR b (Af b) (x.val (l++s).length),x.bx 5 (bc (l++s))]:=by
 have hsz:(⟨s.toArray⟩:ByteArray).size=s.length:=by show s.toArray.size=_;simp
 refine(Tryz.Builder_WriteString W0.heap.size b (Lib.byteCells l) ⟨s.toArray⟩ W (SO hp h hV) (by rw[Lib.byteCells_length,hsz];omega) h.below.size).mono ?_
 rintro e W' ⟨rfl,hat,hb⟩
 have e1:Lib.byteCells l++strCells ⟨s.toArray⟩=Lib.byteCells (l++s):=by simp[Lib.byteCells,strCells]
 rw[e1] at hat
 obtain⟨x,h1,h2,h3⟩:=Y5 hat (h.below.trans hb)
 exact⟨x,by rw[hsz],h1,h2,h3⟩
theorem Re {W0 W:World} {b:Nat} {p:Value} {V:Vec} {l:List UInt8} (c:UInt8) (hp:p= .pointer none\/p=Af b) (h:Hp W0 [FR b p (V.val l.length),V.bx 5 (bc l)] W) (hV:V.OK 1 l.length (bc l)) (hl:l.length+1<=500000000):
  Calls Tryz.prog 144 #[Af b, .int .u8 c.toNat] W fun e W'=> ∃x:Vec,e= .returned ((fun _=> .nilIface) x)/\x.OK 1 (l++[c]).length (bc (l++[c]))/\Below W0.heap.size W0 W'/\As W0 W' [FR b (Af b) (x.val (l++[c]).length),x.bx 5 (bc (l++[c]))]:=by
 refine(Tryz.Builder_WriteByte W0.heap.size b (Lib.byteCells l) c.toNat W (SO hp h hV) (by rw[Lib.byteCells_length];omega) h.below.size).mono ?_
 rintro e W' ⟨rfl,hat,hb⟩
 have e1:Lib.byteCells l++[.int .u8 (c.toNat:Int)]=Lib.byteCells (l++[c]):=by simp[Lib.byteCells]
 rw[e1] at hat
 obtain⟨x,h1,h2,h3⟩:=Y5 hat (h.below.trans hb)
 exact⟨x,I,h1,h2,h3⟩
theorem I1 {W0 W:World} {b:Nat} {p:Value} {V:Vec} {l:List UInt8} (hp:p= .pointer none\/p=Af b) (h:Hp W0 [FR b p (V.val l.length),V.bx 5 (bc l)] W) (hV:V.OK 1 l.length (bc l)):
  Calls Tryz.prog 118 #[Af b] W fun e W'=> ∃x:Unit,e= .returned ((fun _=>str l) x)/\True/\Below W0.heap.size W0 W'/\As W0 W' ((fun _=>[]) x):=by
 refine(Tryz.Builder_String_any W0.heap.size b l W (SO hp h hV) h.below.size).mono ?_
 rintro e W' ⟨rfl,hb⟩
 exact⟨(),I,tO,h.below.trans hb,As.nil _ _⟩
end
section
open Go Go.Lib
theorem E9 (c:UInt8): ∀s:List UInt8,c∉s\/ ∃a b,s=a++c::b/\c∉a
 |[]=> .inl List.not_mem_nil
 |x::s=>by
  by_cases e:x=c
  ·subst e;exact .inr ⟨[],s,rfl,List.not_mem_nil⟩
  ·rcases E9 c s with h|⟨a,b,h,h2⟩
   ·exact .inl fun hm=>by
     rcases List.mem_cons.1 hm with e'|hm
     ·exact e e'.symm
     ·exact h hm
   ·refine .inr ⟨x::a,b,by rw[h];rfl,fun hm=> ?_⟩
    rcases List.mem_cons.1 hm with e'|hm
    ·exact e e'.symm
    ·exact h2 hm
theorem IK {c:UInt8}: ∀ {s:List UInt8},c∉s->index s [c]= -1
 |[],_=>rfl
 |x::s,h=>by
  have hx:(c==x)=false:=beq_false_of_ne fun e=>h (e▸List.mem_cons_self ..)
  unfold index
  rw[if_neg (by simp[List.isPrefixOf,hx]),IK fun h'=>h (List.mem_cons_of_mem _ h')];rfl
theorem Md {c:UInt8} (b:List UInt8): ∀ {a:List UInt8},c∉a->index (a++c::b) [c]=a.length
 |[],_=>by
  show index (c::b) [c]=_
  unfold index
  rw[if_pos (by simp[List.isPrefixOf])];rfl
 |x::a,h=>by
  have hx:(c==x)=false:=beq_false_of_ne fun e=>h (e▸List.mem_cons_self ..)
  have ih:=Md b (a:=a) fun h'=>h (List.mem_cons_of_mem _ h')
  show index (x::(a++c::b)) [c]=_
  unfold index
  rw[if_neg (by simp[List.isPrefixOf,hx]),ih,if_neg (by simp),List.length_cons];omega
theorem Hs {c:UInt8} {s:List UInt8} (h:c∉s):cut s [c]=(s,[],false):=by
 unfold cut
 rw[IK h,if_neg (by decide)]
theorem IT {c:UInt8} {a:List UInt8} (b:List UInt8) (h:c∉a):cut (a++c::b) [c]=(a,b,true):=by
 unfold cut
 rw[Md b h,if_pos (by omega)]
 have e:(a++c::b).drop (a.length+1)=b:=by
  rw[show a++c::b=(a++[c])++b by simp]
  exact List.drop_left' (by simp)
 rw[show((a.length:Nat):Int).toNat=a.length by omega,show([c]:List UInt8).length=1 from rfl,e,List.take_left]
end
section
open Go Go.RowKit Go.Am
set_option maxRecDepth 10000
structure Sd where
 x:Int
 y:Int
 rise:Int
 run:Int
 gable:Bool
 plate:Int
 over:Int
 deriving DecidableEq,Inhabited
abbrev Sd.cells (s:Sd):List Value:=[.int .i64 s.x, .int .i64 s.y, .int .i64 s.rise, .int .i64 s.run, .bool s.gable, .int .i64 s.plate, .int .i64 s.over]
abbrev Sd.val (s:Sd):Value:= .agg #[.int .i64 s.x, .int .i64 s.y, .int .i64 s.rise, .int .i64 s.run, .bool s.gable, .int .i64 s.plate, .int .i64 s.over]
abbrev spot (x y:Int):Value:= .agg #[.int .i64 x, .int .i64 y]
abbrev Hb (s t u:Sd):Value:= .agg #[.int .i64 s.x, .int .i64 s.y, .int .i64 s.rise, .int .i64 s.run, .bool s.gable, .int .i64 s.plate, .int .i64 s.over, .int .i64 t.x, .int .i64 t.y, .int .i64 t.rise, .int .i64 t.run, .bool t.gable, .int .i64 t.plate, .int .i64 t.over, .int .i64 u.x, .int .i64 u.y, .int .i64 u.rise, .int .i64 u.run, .bool u.gable, .int .i64 u.plate, .int .i64 u.over]
theorem B9 (s:Sd):Cd Tryz.prog 239 [s.val] (spot s.x s.y):=by
 intro W
 refine Ab Tryz.func239 I I I<|xb<|wF I I fun _=>AY (z:=spot 0 0) I I I (fun W=>by kernel_rfl) fun b3=> ?_
 refine xg<|wP I<|wB 0 I I I<|wP I<|wB 0 I I I<|EJ (spot 0 0) tH I I I I I (fun W=>by kernel_rfl) I I ?_
 exact wS 1 I I I<|xc<|Ar tH I (.cell 1 I I I I I) () I tO fun W _=>As.nil _ _
theorem LF (x y u v:Int):Cd Tryz.prog 240 [spot x y,spot u v] (spot (w64 (u-x)) (w64 (v-y))):=by
 intro W
 refine Ab Tryz.func240 I I I<|xb<|wF I I fun _=>wF I I fun _=>AY (z:=spot 0 0) I I I (fun W=>by kernel_rfl) fun b3=> ?_
 refine xg<|wP I<|wB 1 I I I<|wP I<|wB 0 I I I<|Aa I<|wB 1 I I I<|wP I<|wB 0 I I I<|wP I<|EJ (spot 0 0) tH I I I I I (fun W=>by kernel_rfl) I I ?_
 exact wS 2 I I I<|xc<|Ar tH I (.cell 2 I I I I I) () I tO fun W _=>As.nil _ _
theorem K9 (x y u v:Int):Cd Tryz.prog 276 [spot x y,spot u v] (.int .i64 (w64 (w64 (x*v)-w64 (y*u)))):=by
 intro W
 refine Ab Tryz.func276 I I I<|xb<|wF I I fun _=>wF I I fun _=>wP I<|xg<|wP I<|wB 0 I I I<|wP I<|wB 1 I I I<|Aa I<|wB 0 I I I<|wP I<|wB 1 I I I<|Ae I<|xa<|?_
 exact zO<|wR1 I I I
theorem Kd (s t u:Sd):Cd Tryz.prog 241 [Hb s t u] (spot (w64 (u.x-t.x)) (w64 (u.y-t.y))):=by
 intro W
 refine Ab Tryz.func241 I I I<|xb<|wF I I fun _=>AY (z:=spot 0 0) I I I (fun W=>by kernel_rfl) fun b3=> ?_
 exact xa<|zA<|zU<|qP I<|qB 0 I I I<|qC I I (fun W _=>B9 t W)<|qP I<|qB 0 I I I<|qC I I (fun W _=>B9 u W)<|qC I I (fun W _=>LF t.x t.y u.x u.y W)<|zD<|wS 1 I I I<|xc<|Ar tH I (.cell 1 I I I I I) () I tO fun W _=>As.nil _ _
theorem Ue (s t u:Sd):Cd Tryz.prog 246 [Hb s t u] (.bool (decide (w64 (w64 (w64 (t.x-s.x)*w64 (u.y-t.y))-w64 (w64 (t.y-s.y)*w64 (u.x-t.x)))>0))):=by
 intro W
 refine Ab Tryz.func246 I I I<|xb<|wF I I fun _=>wP I<|xa<|zA<|zU<|qP I<|qB 0 I I I<|qC I I (fun W _=>B9 s W)<|qP I<|qB 0 I I I<|qC I I (fun W _=>B9 t W)<|qC I I (fun W _=>LF s.x s.y t.x t.y W)<|qB 0 I I I<|qC I I (fun W _=>Kd s t u W)<|qC I I (fun W _=>K9 _ _ _ _ W)<|AO I<|zD<|xa<|?_
 exact zO<|wR1 I I I
structure H1 (W:World) (b off:Nat) (l:List Sd):Prop where
 get: ∀(i:Nat) (s:Sd),l[i]? =some s->Al W b (off+i*7) s.cells
def Dk (W:World) (p:Option Addr) (l:List Sd):Prop:=l=[]\/ ∃b off,p=some ⟨b,off,none⟩/\H1 W b off l
theorem Dk.below {W W':World} {p:Option Addr} {l:List Sd} {n:Nat} (h:Dk W p l) (hn:W.heap.size<=n) (hb:Below n W W'):Dk W' p l:=by
 rcases h with h|⟨b,off,h1,h2⟩
 ·exact .inl h
 ·exact .inr ⟨b,off,h1,⟨fun i s hs=>(h2.get i s hs).below hn hb⟩⟩
theorem Dk.hp {W0 W:World} {bxs:List Bx} {p:Option Addr} {l:List Sd} (h:Dk W0 p l) (hp:Hp W0 bxs W):Dk W p l:=h.below (Nat.le_refl _) hp.below
def sd (l:List Sd) (i:Nat):Sd:=l.getD i default
theorem LD {l:List Sd} {i:Nat} (h:i<l.length):l[i]? =some (sd l i):=by simp[sd,h]
theorem Dk.row {W:World} {p:Option Addr} {l:List Sd} (h:Dk W p l) {i:Nat} (hi:i<l.length): ∃b off,p=some ⟨b,off,none⟩/\ ∀k,k<l.length->Al W b (off+k*7) (sd l k).cells:=by
 rcases h with rfl|⟨b,off,h1,h2⟩
 ·simp at hi
 ·exact⟨b,off,h1,fun k hk=>h2.get k _ (LD hk)⟩
theorem EN (p:Option Addr) (n cap:Nat) (W:World):Ag Tryz.prog 238 #[slv p n cap] W (fun b:Nat=> .func (.func 275) #[] #[.pointer (some ⟨b,0,none⟩)]) (fun _=>True) (fun b=>[⟨b,208,[slv p n cap],true,none⟩]):=by
 refine Ab Tryz.func238 I I I<|xb<|?_
 refine Lr rfl rfl rfl rfl ?_;intro b
 exact wP I<|xg<|Aa I<|xc<|Ar tH I (.tmp I) b I tO fun W hp=>As.of_hp hp
def prv (n i:Nat):Nat:=(i+n-1)%n
def nxt (n i:Nat):Nat:=(i+1)%n
abbrev YN (l:List Sd) (k:Nat):List Value:=[.int .i64 k,Hb (sd l (prv l.length k)) (sd l k) (sd l (nxt l.length k))]
structure DS (b:Nat) (p:Option Addr) (cap:Nat) (l:List Sd) (W:World):Prop where
 var:Al W b 0 [slv p l.length cap]
 ring:Dk W p l
theorem Ft (b:Nat) (p:Option Addr) (cap:Nat) (l:List Sd) (hn:l.length<4611686018427387904):
  Vq Tryz.prog 275 [.pointer (some ⟨b,0,none⟩)] l.length (YN l) (DS b p cap l):=by
 refine⟨fun y J Jx hNeed hdr hY W hJ=> ?_⟩
 refine E2 (args:=[.func (.yield y) #[] #[], .pointer (some ⟨b,0,none⟩)]) (J0:=J 0) Tryz.func275 I I I hJ ?_
 refine xb<|wL 0 I I (fun W hp=>(hNeed 0 W hp).var) I<|Aa I<|xg<|wL 0 I I (fun W hp=>(hNeed 0 W hp).var) I<|Aa I<|xa<|zH<|En (X:=Nat) (fun k=>[(0, .func (.yield y) #[] #[]),(1, .pointer (some ⟨b,0,none⟩)),(3, .int .i64 (l.length:Nat)),(8, .int .i64 (l.length:Nat)),(9, .int .i64 (k:Nat))]) J (fun k=>k<=l.length) (fun k=>l.length-k) 0 (Nat.zero_le _) ⟨I,I,I,I,I,tO⟩ (fun W h=>h) ?_
 intro k hk
 refine xb<|wP I<|xa<|zA<|Av I ?_ ?_
 rotate_left
 ·intro h
  refine xf<|?_
  have:k=l.length:=by simp at h;omega
  subst this
  exact Io I fun W h=>h
 intro h
 have hk:k<l.length:=by simp at h;omega
 clear h
 refine xh<|Aa I<|xa<|zA<|?_
 have hz:(l.length:Int)≠0:=by omega
 have e1:(w64 (w64 ((k:Int)+(l.length:Int))-1)).tmod (l.length:Int)=((prv l.length k:Nat):Int):=by
  rw[AC (x:=(k:Int)+l.length) (by omega) (by omega),AC (by omega) (by omega)]
  have:(k:Int)+l.length-1=((k+l.length-1:Nat):Int):=by omega
  rw[this];rfl
 have e2:(w64 ((k:Int)+1)).tmod (l.length:Int)=((nxt l.length k:Nat):Int):=by
  rw[AC (x:=(k:Int)+1) (by omega) (by omega)]
  rfl
 have l1:prv l.length k<l.length:=Nat.mod_lt _ (by omega)
 have l2:nxt l.length k<l.length:=Nat.mod_lt _ (by omega)
 refine Pg 23 (hdr k) Tryz.mixed (by kernel_rfl) I ?_
 refine AO I<|qL 0 I I (fun W hp=>(hNeed k W hp).var) I<|Mf I<|Kc I I I I I hz ?_
 refine DO 20 _ I (congrArg (Value.int .i64) e1) ?_
 obtain⟨b2,off,rfl,hrow⟩: ∃b2 off,p=some ⟨b2,off,none⟩/\ ∀i,i<l.length-> ∀W,J k W->Al W b2 (off+i*7) (sd l i).cells:=by
  obtain⟨b2,off,e,_⟩:=(hNeed 0 W hJ).ring.row hk
  refine⟨b2,off,e,fun i hi W hW=> ?_⟩
  obtain⟨b3,off3,e',h⟩:=(hNeed k W hW).ring.row hk
  rw[e] at e'
  cases e'
  exact h i hi
 refine qJ ?_
 refine Jf I I I I (fun W hp=>Al.load 0 tH I ((hrow _ l1) W hp) I)<|qL 0 I I (fun W hp=>(hNeed k W hp).var) I<|qP I<|qJ ?_
 refine Jf I I I I (fun W hp=>Al.load 0 tH I ((hrow _ hk) W hp) I)<|qL 0 I I (fun W hp=>(hNeed k W hp).var) I<|Ct I<|Kc I I I I I hz ?_
 refine DO 31 _ I (congrArg (Value.int .i64) e2)<|qJ ?_
 refine Jf I I I I (fun W hp=>Al.load 0 tH I ((hrow _ l2) W hp) I)<|Sx (Hb default default default) tH I I I I I (fun W=>by kernel_rfl) I I ?_
 refine zD<|F6 (A1:=J (k+1)) (A2:=Jx) I I I I I I (fun W hp=>hY k W hk hp) ?_ ?_
 ·exact wP I<|xa<|zS I<|zI<|xj<|Aa I<|zC<|D5 (k+1) hk (by omega) ⟨I,I,I,I,congrArg (fun z=>some (Value.int .i64 z)) (BO (x:=(k:Int)+1) (by omega) (by omega)),tO⟩ (fun W h=>h)
 ·exact wP I<|xa<|zR I<|zO<|zQ<|zP<|zP<|zQ<|CP I (fun W h=>h)
theorem DS.mk' {W0 W:World} {bxs:List Bx} {b:Nat} {p:Option Addr} {cap:Nat} {l:List Sd} (h:Dk W0 p l) (hp:Hp W0 bxs W) (k:Nat) (hk:nth bxs k=some ⟨b,208,[slv p l.length cap],true,none⟩):DS b p cap l W:=
 ⟨Al.of_bx hp k hk rfl,h.hp hp⟩
def JT (l:List Sd):Nat->Int
 |0=>0
 |k+1=>w64 (JT l k+w64 (w64 ((sd l k).x*(sd l (nxt l.length k)).y)-w64 ((sd l k).y*(sd l (nxt l.length k)).x)))
theorem Uh (W:World) (p:Option Addr) (cap:Nat) (l:List Sd) (hn:l.length<4611686018427387904) (hR:Dk W p l):
  Ag Tryz.prog 244 #[slv p l.length cap] W (fun _:Unit=> .int .i64 (JT l l.length)) (fun _=>True) (fun _=>[]):=by
 refine Ab Tryz.func244 I I I<|xb<|wP I<|xg<|AY (z:= .int .i64 0) I I I (fun W=>by kernel_rfl) fun b3=> ?_
 refine wS 0 I I I<|xa<|xd<|wP I<|wD (X:=Nat) I I (fun W _=>EN p l.length cap W) ?_
 intro b _
 refine xa<|zH<|Eh (X:=Nat) (fun k=>[⟨b3,3,[.int .i64 (JT l k)],true,none⟩,⟨b,208,[slv p l.length cap],true,none⟩]) (fun k x=>x=k) (fun _ _=>False) 0 I (by kernel_rfl) (Ft b p cap l hn) (fun _=>rfl) I [] I (fun k x W _ hp=>DS.mk' hR hp 1 I) ?_ ?_ (fun _ _ _ _ _ h=>h.elim)
 ·intro k x d L rec hk hx hrec
  subst hx
  refine zB<|AY (z:=Hb default default default) I I I (fun W=>by kernel_rfl) fun b5=> ?_
  refine wS 4 I I I<|zC<|CJ 3 hrec I ?_
  exact zH<|zU<|qB 0 I I I<|qP I<|qB 4 I I I<|qC I I (fun W _=>B9 (sd l x) W)<|qP I<|qB 4 I I I<|qC I I (fun W _=>B9 (sd l (nxt l.length x)) W)<|qC I I (fun W _=>K9 _ _ _ _ W)<|qP I<|zD<|wS 0 I I I<|zC<|zN<|BQ 3 (x+1) hrec I I [_] I
 ·intro x d L rec hx
  subst hx
  refine zN<|xe<|wB 0 I I I<|wP I<|xc<|C2 2 I ?_
  exact wR1 I I I
structure YR (W:World) (b off:Nat) (rs:List (List Sd)):Prop where
 get: ∀(i:Nat) (l:List Sd),rs[i]? =some l-> ∃p cap,Al W b (off+i*1) [slv p l.length cap]/\Dk W p l
def C6 (W:World) (p:Option Addr) (rs:List (List Sd)):Prop:=rs=[]\/ ∃b off,p=some ⟨b,off,none⟩/\YR W b off rs
def rg (rs:List (List Sd)) (i:Nat):List Sd:=rs.getD i []
theorem CO {rs:List (List Sd)} {i:Nat} (h:i<rs.length):rs[i]? =some (rg rs i):=by simp[rg,h]
theorem C6.row {W:World} {p:Option Addr} {rs:List (List Sd)} (h:C6 W p rs) {i:Nat} (hi:i<rs.length):
  ∃b off,p=some ⟨b,off,none⟩/\ ∀k,k<rs.length-> ∃q cap,Al W b (off+k*1) [slv q (rg rs k).length cap]/\Dk W q (rg rs k):=by
 rcases h with rfl|⟨b,off,h1,h2⟩
 ·simp at hi
 ·exact⟨b,off,h1,fun k hk=>h2.get k _ (CO hk)⟩
theorem C6.below {W W':World} {p:Option Addr} {rs:List (List Sd)} {n:Nat} (h:C6 W p rs) (hn:W.heap.size<=n) (hb:Below n W W'):C6 W' p rs:=by
 rcases h with h|⟨b,off,h1,h2⟩
 ·exact .inl h
 ·refine .inr ⟨b,off,h1,⟨fun i l hl=> ?_⟩⟩
  obtain⟨q,cap,h3,h4⟩:=h2.get i l hl
  exact⟨q,cap,h3.below hn hb,h4.below hn hb⟩
end
section
open Go Go.Lib
def AI (c:UInt8):List UInt8->List (List UInt8)
 |[]=>[[]]
 |b::l=>if b=c then[]::AI c l else(b::(AI c l).headD [])::(AI c l).tail
theorem Gv (c:UInt8): ∀l,AI c l=(AI c l).headD []::(AI c l).tail
 |[]=>rfl
 |b::l=>by
  have e:AI c (b::l)=if b=c then[]::AI c l else(b::(AI c l).headD [])::(AI c l).tail:=rfl
  rw[e]
  split<;>rfl
theorem J9 {c:UInt8} (l:List UInt8): ∀ {w:List UInt8},c∉w->AI c (w++c::l)=w::AI c l
 |[],_=>by show(if c=c then _ else _)=_;rw[if_pos rfl]
 |b::w,h=>by
  have hb:b≠c:=fun e=>h (e▸List.mem_cons_self ..)
  show(if b=c then[]::AI c (w++c::l) else(b::(AI c (w++c::l)).headD [])::(AI c (w++c::l)).tail)=_
  rw[if_neg hb,J9 l fun h'=>h (List.mem_cons_of_mem _ h')];rfl
theorem HM {c:UInt8}: ∀ {w:List UInt8},c∉w->AI c w=[w]
 |[],_=>rfl
 |b::w,h=>by
  have hb:b≠c:=fun e=>h (e▸List.mem_cons_self ..)
  show(if b=c then _ else _)=_
  rw[if_neg hb,HM fun h'=>h (List.mem_cons_of_mem _ h')];rfl
theorem Gm (x y:List UInt8) (r:List (List UInt8)) (c:UInt8):join (x::y::r) [c]=x++c::join (y::r) [c]:=by
 rw[join_cons,join_cons]
 simp[joinTail]
theorem HZ (c:UInt8): ∀s,join (AI c s) [c]=s
 |[]=>by show join [[]] [c]=[];rw[join_one]
 |b::l=>by
  have ih:=HZ c l
  have hc:=Gv c l
  show join (if b=c then _ else _) [c]=_
  split
  ·rename_i e
   subst e
   rw[hc,Gm, <-hc,ih];rfl
  ·generalize (AI c l).headD []=w at hc⊢
   generalize (AI c l).tail=r at hc⊢
   rw[hc] at ih
   rw[join_cons] at ih⊢
   rw[<-ih];rfl
theorem Kz {c:UInt8}: ∀(k:Nat) (s:List UInt8),count s [c]<=k->splitK [c] 0 k s=AI c s
 |k,s,h=>by
  rcases E9 c s with hm|⟨a,b,rfl,ha⟩
  ·rw[HM hm]
   cases k with
   |zero=>rfl
   |succ k=>unfold splitK;rw[IK hm];rfl
  ·have hi:=Md b ha
   have hc:=count_hit (sub:=[c]) (by simp) hi
   have e:(a++c::b).drop (a.length+([c]:List UInt8).length)=b:=by
    rw[show a++c::b=(a++[c])++b by simp]
    exact List.drop_left' (by simp)
   rw[e] at hc
   cases k with
   |zero=>omega
   |succ k=>
    unfold splitK
    rw[hi,if_neg (by simp),show((a.length:Nat):Int).toNat=a.length by omega,e,J9 b ha,Kz k b (by omega),Nat.add_zero,List.take_left]
theorem Py: ∀(k u:Nat),(decDigits u).length<=k->u<10^k
 |0,u,h=>absurd (List.length_eq_zero_iff.1 (Nat.le_zero.1 h)) (Hd u)
 |k+1,u,h=>by
  by_cases hu:u<10
  ·exact Nat.lt_of_lt_of_le hu (by rw[Nat.pow_succ];have:=Nat.pow_pos (n:=k) (show 0<10 by decide);omega)
  ·rw[decDigits,dif_neg hu,List.length_append,List.length_singleton] at h
   have:=Py k (u/10) (by omega)
   rw[Nat.pow_succ];omega
def D3 (w:List UInt8):Option Int:=match atoiAll w with
 | .ok n=>if n<0\/9<w.length\/itoa n≠w then none else some n
 |_=>none
def okI (n:Int):Prop:=0<=n/\(itoa n).length<=9
theorem Su {w:List UInt8} {n:Int}:D3 w=some n↔w=itoa n/\okI n:=by
 unfold D3 okI
 constructor
 ·intro h
  split at h
  ·split at h
   ·cases h
   ·rename_i m hm hn
    injection h with h
    subst h
    refine⟨?_,by omega, ?_⟩
    ·exact Classical.byContradiction fun e=>hn (.inr (.inr fun e'=>e e'.symm))
    ·have:itoa m=w:=Classical.byContradiction fun e=>hn (.inr (.inr e))
     rw[this];exact Nat.le_of_not_lt fun e=>hn (.inr (.inl e))
  ·cases h
 ·rintro⟨rfl,h0,h9⟩
  have hb:n.toNat<10^9:=Py 9 _ (by unfold itoa at h9;rwa [if_neg (by omega)] at h9)
  rw[JZ n (by omega) (by omega)]
  show(if n<0\/9<(itoa n).length\/itoa n≠itoa n then none else some n)=_
  rw[if_neg]
  rintro(h|h|h)
  ·omega
  ·omega
  ·exact h I
def Fb:List UInt8:=[103,97,98,108,101]
def HI:List UInt8:=[114,105,110,103]
def C0 (s:Sd):List (List UInt8):=if s.gable then[itoa s.x,itoa s.y,Fb,itoa s.plate,itoa s.over] else[itoa s.x,itoa s.y,itoa s.rise,itoa s.run,itoa s.plate,itoa s.over]
def DJ (s:Sd):List UInt8:=join (C0 s) [32]
def Ed:List (List UInt8)->Option (List Int)
 |[]=>some []
 |w::ws=>match D3 w,Ed ws with
  |some n,some ns=>some (n::ns)
  |_,_=>none
theorem Kj: ∀ {ws:List (List UInt8)} {ns:List Int},Ed ws=some ns↔ws=ns.map itoa/\ ∀n∈ns,okI n
 |[],ns=>by
  constructor
  ·intro h
   injection h with h
   subst h
   exact⟨I,fun n h=>absurd h List.not_mem_nil⟩
  ·rintro⟨h,_⟩
   cases ns with
   |nil=>rfl
   |cons=>cases h
 |w::ws,ns=>by
  unfold Ed
  constructor
  ·intro h
   split at h
   ·rename_i n ms h1 h2
    injection h with h
    subst h
    obtain⟨e1,o1⟩:=Su.1 h1
    obtain⟨e2,o2⟩:=Kj.1 h2
    refine⟨by rw[e1,e2];rfl,fun m hm=> ?_⟩
    rcases List.mem_cons.1 hm with rfl|hm
    ·exact o1
    ·exact o2 m hm
   ·cases h
  ·rintro⟨h,ho⟩
   cases ns with
   |nil=>cases h
   |cons n ms=>
    injection h with h1 h2
    rw[Su.2 ⟨h1,ho n (List.mem_cons_self ..)⟩,Kj.2 ⟨h2,fun m hm=>ho m (List.mem_cons_of_mem _ hm)⟩]
def fG (s:Sd):Prop:=okI s.x/\okI s.y/\(s.gable=true->s.rise=0/\s.run=0)/\(s.gable=false->okI s.rise/\okI s.run)/\okI s.plate/\okI s.over
def FI (line:List UInt8):Option Sd:=
 if (AI 32 line).length=5/\(AI 32 line)[2]? =some Fb then
  match Ed ((AI 32 line).take 2++(AI 32 line).drop 3) with
  |some [a,b,c,d]=>some ⟨a,b,0,0,true,c,d⟩
  |_=>none
 else match Ed (AI 32 line) with
  |some [a,b,c,d,e,f]=>some ⟨a,b,c,d,false,e,f⟩
  |_=>none
def lns (l:List Sd):List (List UInt8):=HI::l.map DJ
def If (rs:List (List Sd)):List (List UInt8):=(rs.map lns).flatten
def unl (ls:List (List UInt8)):List UInt8:=(ls.map (· ++[10])).flatten
def Bj (rs:List (List Sd)):List UInt8:=unl (If rs)
def SD:List (List Sd)->List (List UInt8)->Option (List (List Sd))
 |rs,[]=>some rs
 |rs,[last]=>if last=[] then some rs else none
 |rs,line::next::ls=>if line=HI then SD (rs++[[]]) (next::ls) else match FI line with
  |none=>none
  |some x=>if rs=[] then none else SD (rs.dropLast++[rs.getLastD []++[x]]) (next::ls)
def DP (rs:List (List Sd)) (s:List UInt8):Option (List (List Sd)):=SD rs (AI 10 s)
theorem Uc (rs:List (List Sd)):DP rs []=some rs:=rfl
theorem QW {rs:List (List Sd)} {s:List UInt8} (h:(10:UInt8)∉s) (h0:s≠[]):DP rs s=none:=by
 unfold DP
 rw[HM h]
 show(if s=[] then _ else _)=_
 rw[if_neg h0]
theorem VP {rs:List (List Sd)} {a:List UInt8} (b:List UInt8) (h:(10:UInt8)∉a):DP rs (a++10::b)=if a=HI then DP (rs++[[]]) b else match FI a with
  |none=>none
  |some x=>if rs=[] then none else DP (rs.dropLast++[rs.getLastD []++[x]]) b:=by
 unfold DP
 rw[J9 b h,Gv 10 b]
 rfl
theorem Qt (l:List UInt8) (ls:List (List UInt8)):unl (l::ls)=l++10::unl ls:=by simp[unl]
theorem UK (a b:List (List UInt8)):unl (a++b)=unl a++unl b:=by simp[unl]
theorem P8 (a b:List (List Sd)):Bj (a++b)=Bj a++Bj b:=by simp[Bj,If,unl]
def EY (l:List UInt8):Bool:=decide ((AI 32 l).length=5/\(AI 32 l)[2]? =some Fb)
def BJ (G:Bool):List Nat:=if G then[0,1,5,6] else[0,1,2,3,5,6]
def wsG (G:Bool) (ws:List (List UInt8)):List (List UInt8):=if G then ws.take 2++ws.drop 3 else ws
def Vl (s:Sd) (j:Nat) (v:Int):Sd:=match j with
 |0=> { s with x:=v }
 |1=> { s with y:=v }
 |2=> { s with rise:=v }
 |3=> { s with run:=v }
 |5=> { s with plate:=v }
 |6=> { s with over:=v }
 |_=>s
def G2 (G:Bool) (ws:List (List UInt8)):Nat->Sd
 |0=>⟨0,0,0,0,G,0,0⟩
 |k+1=>Vl (G2 G ws k) ((BJ G).getD k 0) ((D3 (ws.getD k [])).getD 0)
theorem N4: ∀ {ws:List (List UInt8)} {ns:List Int},Ed ws=some ns->ns.length=ws.length:=fun h=>by
 rw[(Kj.1 h).1,List.length_map]
theorem MK: ∀ {ws:List (List UInt8)} {k:Nat},k<ws.length->D3 (ws.getD k [])=none->Ed ws=none
 |[],_,h,_=>absurd h (Nat.not_lt_zero _)
 |w::ws,0,_,h=>by
  have h':D3 w=none:=h
  show(match D3 w,Ed ws with|some n,some ns=>some (n::ns)|_,_=>none)=none
  rw[h']
 |w::ws,k+1,hk,h=>by
  have ih:=MK (ws:=ws) (k:=k) (by simpa using hk) h
  show(match D3 w,Ed ws with|some n,some ns=>some (n::ns)|_,_=>none)=none
  rw[ih]
  cases D3 w<;>rfl
def mkG (G:Bool):List Int->Option Sd
 |[a,b,c,d]=>if G then some ⟨a,b,0,0,true,c,d⟩ else none
 |[a,b,c,d,e,f]=>if G then none else some ⟨a,b,c,d,false,e,f⟩
 |_=>none
theorem Mr (l:List UInt8):FI l=(Ed (wsG (EY l) (AI 32 l))).bind (mkG (EY l)):=by
 unfold FI
 by_cases h:(AI 32 l).length=5/\(AI 32 l)[2]? =some Fb
 ·have hg:EY l=true:=dT h
  rw[if_pos h,hg]
  show _=(Ed ((AI 32 l).take 2++(AI 32 l).drop 3)).bind (mkG true)
  have hlen:((AI 32 l).take 2++(AI 32 l).drop 3).length=4:=by rw[List.length_append,List.length_take,List.length_drop];omega
  cases hn:Ed ((AI 32 l).take 2++(AI 32 l).drop 3) with
  |none=>rfl
  |some ns=>
   have:=N4 hn
   rw[hlen] at this
   match ns,this with
   |[a,b,c,d],_=>rfl
 ·have hg:EY l=false:=dF h
  rw[if_neg h,hg]
  show _=(Ed (AI 32 l)).bind (mkG false)
  cases hn:Ed (AI 32 l) with
  |none=>rfl
  |some ns=>
   match ns with
   |[]=>rfl
   |[_]=>rfl
   |[_,_]=>rfl
   |[_,_,_]=>rfl
   |[_,_,_,_]=>rfl
   |[_,_,_,_,_]=>rfl
   |[_,_,_,_,_,_]=>rfl
   |_::_::_::_::_::_::_::_=>rfl
theorem VJ {l:List UInt8} (h:(wsG (EY l) (AI 32 l)).length≠(BJ (EY l)).length):FI l=none:=by
 rw[Mr]
 generalize wsG (EY l) (AI 32 l)=ws at*
 cases hn:Ed ws with
 |none=>rfl
 |some ns=>
  have hl:=N4 hn
  rw[<-hl] at h
  cases hg:EY l<;>rw[hg] at h
  ·match ns,h with
   |[],_=>rfl
   |[_],_=>rfl
   |[_,_],_=>rfl
   |[_,_,_],_=>rfl
   |[_,_,_,_],_=>rfl
   |[_,_,_,_,_],_=>rfl
   |[_,_,_,_,_,_],h=>exact absurd rfl h
   |_::_::_::_::_::_::_::_,_=>rfl
  ·match ns,h with
   |[],_=>rfl
   |[_],_=>rfl
   |[_,_],_=>rfl
   |[_,_,_],_=>rfl
   |[_,_,_,_],h=>exact absurd rfl h
   |[_,_,_,_,_],_=>rfl
   |[_,_,_,_,_,_],_=>rfl
   |_::_::_::_::_::_::_::_,_=>rfl
theorem W5 {l:List UInt8} {k:Nat} (hk:k<(wsG (EY l) (AI 32 l)).length) (h:D3 ((wsG (EY l) (AI 32 l)).getD k [])=none):FI l=none:=by
 rw[Mr,MK hk h];rfl
theorem Wv {l:List UInt8} (hlen:(wsG (EY l) (AI 32 l)).length=(BJ (EY l)).length) (hall: ∀k,k<(BJ (EY l)).length->D3 ((wsG (EY l) (AI 32 l)).getD k [])≠none):
  FI l=some (G2 (EY l) (wsG (EY l) (AI 32 l)) (BJ (EY l)).length):=by
 rw[Mr]
 generalize wsG (EY l) (AI 32 l)=ws at*
 have get: ∀k,k<(BJ (EY l)).length-> ∃n,D3 (ws.getD k [])=some n:=fun k hk=>by
  cases h:D3 (ws.getD k []) with
  |none=>exact absurd h (hall k hk)
  |some n=>exact⟨n,rfl⟩
 generalize EY l=G at*
 cases G
 ·have hl:ws.length=6:=hlen
  match ws,hl with
  |[w0,w1,w2,w3,w4,w5],_=>
   obtain⟨n0,e0⟩:=get 0 (by decide)
   obtain⟨n1,e1⟩:=get 1 (by decide)
   obtain⟨n2,e2⟩:=get 2 (by decide)
   obtain⟨n3,e3⟩:=get 3 (by decide)
   obtain⟨n4,e4⟩:=get 4 (by decide)
   obtain⟨n5,e5⟩:=get 5 (by decide)
   have a0:D3 w0=some n0:=e0
   have a1:D3 w1=some n1:=e1
   have a2:D3 w2=some n2:=e2
   have a3:D3 w3=some n3:=e3
   have a4:D3 w4=some n4:=e4
   have a5:D3 w5=some n5:=e5
   have h1:Ed [w0,w1,w2,w3,w4,w5]=some [n0,n1,n2,n3,n4,n5]:=by simp only[Ed,a0,a1,a2,a3,a4,a5]
   have h2:G2 false [w0,w1,w2,w3,w4,w5] 6=⟨n0,n1,n2,n3,false,n4,n5⟩:=by
    simp[G2,Vl,BJ,a0,a1,a2,a3,a4,a5]
   rw[h1,show(BJ false).length=6 from rfl,h2];rfl
 ·have hl:ws.length=4:=hlen
  match ws,hl with
  |[w0,w1,w2,w3],_=>
   obtain⟨n0,e0⟩:=get 0 (by decide)
   obtain⟨n1,e1⟩:=get 1 (by decide)
   obtain⟨n2,e2⟩:=get 2 (by decide)
   obtain⟨n3,e3⟩:=get 3 (by decide)
   have a0:D3 w0=some n0:=e0
   have a1:D3 w1=some n1:=e1
   have a2:D3 w2=some n2:=e2
   have a3:D3 w3=some n3:=e3
   have h1:Ed [w0,w1,w2,w3]=some [n0,n1,n2,n3]:=by simp only[Ed,a0,a1,a2,a3]
   have h2:G2 true [w0,w1,w2,w3] 4=⟨n0,n1,0,0,true,n2,n3⟩:=by
    simp[G2,Vl,BJ,a0,a1,a2,a3]
   rw[h1,show(BJ true).length=4 from rfl,h2];rfl
theorem Wi (G:Bool) {k:Nat} (hk:k<(BJ G).length):(BJ G).getD k 0=0\/(BJ G).getD k 0=1\/(BJ G).getD k 0=2\/(BJ G).getD k 0=3\/(BJ G).getD k 0=5\/(BJ G).getD k 0=6:=by
 have h: ∀j∈BJ G,j=0\/j=1\/j=2\/j=3\/j=5\/j=6:=by cases G<;>decide
 rw[List.getD_eq_getElem?_getD,List.getElem?_eq_getElem hk]
 exact h _ (List.getElem_mem hk)
theorem ZU {w:List UInt8} {n:Int} (h:atoiAll w= .ok n):D3 w=if n<0\/9<w.length\/itoa n≠w then none else some n:=by
 unfold D3
 rw[h]
theorem YS {w:List UInt8} (h: ∀n,atoiAll w≠ .ok n):D3 w=none:=by
 unfold D3
 split
 ·rename_i n hn
  exact absurd hn (h n)
 ·rfl
end
section
open Go Go.RowKit Go.Am Go.Lib
set_option maxRecDepth 10000
abbrev ss (ws:List (List UInt8)):List Value:=ws.map str
structure AQ (W:World):Prop where
 max: ∃m,W.cell? ⟨0,0,none⟩=some (.int .i64 m)
 syn: ∃ev,W.cell? ⟨2,0,none⟩=some ev/\(ev= .nilIface\/ ∃te pe,ev= .iface te pe)
 rng: ∃ev,W.cell? ⟨3,0,none⟩=some ev/\(ev= .nilIface\/ ∃te pe,ev= .iface te pe)
theorem IF {W0 W:World} {b:Nat} {v:Value} (h:W0.cell? ⟨b,0,none⟩=some v) (hb:Below W0.heap.size W0 W):W.cell? ⟨b,0,none⟩=some v:=by
 have hlt:b<W0.heap.size:=by
  obtain⟨c,e,fr,h1,_⟩:=Sort.cells_of_cell? h
  exact(Array.getElem?_eq_some_iff.1 h1).1
 have e:=hb.block b hlt
 unfold World.cell? at h⊢
 simp only at h⊢
 rw[e]
 exact h
theorem AQ.below {W0 W:World} (h:AQ W0) (hb:Below W0.heap.size W0 W):AQ W:=by
 obtain⟨⟨m,h1⟩,⟨e1,h2,h3⟩,e2,h4,h5⟩:=h
 exact⟨⟨m,IF h1 hb⟩,⟨e1,IF h2 hb,h3⟩,e2,IF h4 hb,h5⟩
theorem AQ.hp {W0 W:World} {bxs:List Bx} (h:AQ W0) (hp:Hp W0 bxs W):AQ W:=h.below hp.below
theorem KA: ∀ {xs:List ByteArray} {ws:List (List UInt8)},xs.map (·.data.toList)=ws->xs.map Value.string=ss ws
 |[],_,h=>by subst h;rfl
 |x::xs,_,h=>by
  subst h
  show Value.string x::xs.map Value.string=str x.data.toList::ss (xs.map (·.data.toList))
  rw[KA rfl]
theorem CL (W:World) (l:List UInt8) (hl:l.length<=1000000) (hv:AQ W):
  Ag Tryz.prog 58 #[str l,str [32]] W (fun g:Nat=> .slice (some ⟨g,0,none⟩) (AI 32 l).length (AI 32 l).length) (fun _=>True) (fun g=>[⟨g,9,ss (AI 32 l)++[],true,none⟩]):=by
 obtain⟨m,hm⟩:=hv.max
 have hsz:(⟨l.toArray⟩:ByteArray).size=l.length:=by show l.toArray.size=_;simp
 have hd:(splitB ⟨#[32]⟩ 0 (countB ⟨l.toArray⟩ ⟨#[32]⟩) ⟨l.toArray⟩).map (·.data.toList)=AI 32 l:=by
  rw[splitB_data]
  exact Kz _ _ (Nat.le_refl _)
 have hlen:countB ⟨l.toArray⟩ ⟨#[32]⟩+1=(AI 32 l).length:=by
  rw[<-hd,List.length_map,splitB_all ⟨#[32]⟩ (by decide) 0 _ _ rfl]
 have h:=Tryz.strings_Split ⟨l.toArray⟩ ⟨#[32]⟩ m W (by rw[hsz];omega) hm (by decide)
 rw[hlen,KA hd] at h
 refine⟨h.mono ?_⟩
 rintro e W' ⟨rfl,rfl⟩
 refine⟨W.heap.size,I,tO,(Below.refl _ _).alloc (Nat.le_refl _) _,Own.one_sole I ⟨?_,Nat.le_refl _⟩⟩
 show(W.heap.push _)[W.heap.size]? =_
 rw[Array.getElem?_push_size]
 show some (Obj.cells (ss (AI 32 l)).toArray 9 (0,0))=some (Obj.cells (ss (AI 32 l)++[]).toArray 9 (0,0))
 rw[List.append_nil]
theorem NK (W:World) (l:List UInt8) (hl:l.length<=1000000) (hv:AQ W):
  Ag Tryz.prog 82 #[str l,str [10]] W (fun _:Unit=> .tuple #[str (cut l [10]).1,str (cut l [10]).2.1, .bool (cut l [10]).2.2]) (fun _=>True) (fun _=>[]):=by
 obtain⟨m,hm⟩:=hv.max
 have hsz:(⟨l.toArray⟩:ByteArray).size=l.length:=by show l.toArray.size=_;simp
 refine Ag.of1 ((Tryz.strings_Cut ⟨l.toArray⟩ ⟨#[10]⟩ m W (by rw[hsz];omega) hm).mono ?_)
 rintro e W' ⟨rfl,n,rfl⟩
 refine⟨I, ?_⟩
 have:=GS W n #[]
 rwa [Sort.grow_empty] at this
theorem Uf {l:List (List UInt8)} {j:Nat} (h:j<l.length) (junk:List Value):(ss l++junk)[j]? =some (str l.toArray[j]!):=by
 have hb:l.toArray[j]! =l[j]:=by
  rw[getElem!_pos l.toArray j (by simpa using h)];simp
 rw[List.getElem?_append_left (by simpa using h),List.getElem?_map,List.getElem?_eq_getElem h,hb];rfl
theorem Tl {W:World} {g:Nat} {zs:List (List UInt8)} {junk:List Value} {ty:TypeId} (h:W.heap[g]? =some (.cells (ss zs++junk).toArray ty (0,0))):Sort.Holds encStr W g 0 zs.toArray:=fun j hj=>by
 have hj':j<zs.length:=by simpa using hj
 have h1:=Uf hj' junk
 constructor
 ·simp only[World.cell?,h,Nat.zero_add]
  rw[List.getElem?_toArray];exact h1
 ·simp[World.frozen?,h]
theorem N0 {zs zs':List (List UInt8)} (hl:zs'.length=zs.length) (junk:List Value):Sort.putCells encStr 0 zs'.toArray (ss zs++junk).toArray=(ss zs'++junk).toArray:=by
 apply Array.ext_getElem?
 intro k
 simp only[Sort.putCells,Array.getElem?_mapIdx,List.getElem?_toArray,List.size_toArray,Nat.zero_add,Nat.sub_zero,Nat.zero_le,true_and]
 by_cases hk:k<zs.length
 ·rw[Uf hk,Uf (show k<zs'.length by omega),Option.map_some,if_pos (by omega)]
 ·rw[List.getElem?_append_right (by simp;omega),List.getElem?_append_right (by simp;omega)]
  simp only[List.length_map,hl]
  cases junk[k-zs.length]? with
  |none=>rfl
  |some y=>rw[Option.map_some,if_neg (by omega)]
theorem Wj {W:World} {g:Nat} {zs zs':List (List UInt8)} {junk:List Value} {ty:TypeId} (h:W.heap[g]? =some (.cells (ss zs++junk).toArray ty (0,0))) (hl:zs'.length=zs.length) (n:Nat):
  Rt W (Sort.putRow encStr (Sort.ahead W n) g 0 zs'.toArray) g g (.cells (ss zs'++junk).toArray ty (0,0)):=by
 refine⟨I,I,I, ?_, ?_, .inl I,fun x hx _=> ?_⟩
 ·show W.heap.size<=(W.heap.modify g _).size
  simp
 ·show(W.heap.modify g (Sort.onCells (Sort.putCells encStr 0 zs'.toArray)))[g]? =_
  rw[Array.getElem?_modify,if_pos rfl,h,Option.map_some]
  show some (Obj.cells (Sort.putCells _ _ _ _) _ _)=_
  rw[N0 hl]
 ·show(W.heap.modify g (Sort.onCells (Sort.putCells encStr 0 zs'.toArray)))[x]? =_
  rw[Array.getElem?_modify,if_neg (fun e=>hx e.symm)]
theorem Px {W:World} {g:Nat} {ws:List (List UInt8)} {ty:TypeId} (h5:ws.length=5) (h:W.heap[g]? =some (.cells (ss ws++[]).toArray ty (0,0))):
  Calls Tryz.prog 203 #[.slice (some ⟨g,0,none⟩) 5 5, .int .i64 2, .int .i64 3] W fun e W'=> ∃x:Unit,e= .returned ((fun _=> .slice (some ⟨g,0,none⟩) 4 5) x)/\(fun _=>True) x/\
   Rt W W' g ((fun _=>g) x) ((fun _=> .cells (ss (ws.take 2++ws.drop 3)++[str []]).toArray ty (0,0)) x):=by
 have h1:=Tryz.slices_Delete_string g 0 5 2 3 ws W (Tl h) (by omega) (by decide) (by decide) (by omega)
 rw[h5] at h1
 refine h1.mono ?_
 rintro e W' ⟨rfl,n,rfl⟩
 refine⟨(),I,tO, ?_⟩
 have h2:=Wj (zs':=ws.take 2++ws.drop 3++List.replicate (3-2) []) h (by rw[List.length_append,List.length_append,List.length_take,List.length_drop,List.length_replicate];omega) n
 have e:ss (ws.take 2++ws.drop 3++List.replicate (3-2) [])++[]=ss (ws.take 2++ws.drop 3)++[str []]:=by
  rw[List.append_nil]
  exact List.map_append
 rw[e] at h2
 exact h2
theorem Oj {l:List (List UInt8)} {g:Nat} {e:TypeId} {junk:List Value} {W0 W:World} {bxs:List Bx} (hp:Hp W0 bxs W) (k:Nat) (hk:nth bxs k=some ⟨g,e,ss l++junk,true,none⟩) {i:Nat} (hi:i<l.length):Al W g (0+i*1) [str (l.getD i [])]:=by
 have h:=Al.of_bx hp k hk rfl
 refine⟨h.lt,fun j u hu=> ?_⟩
 have hj:j=0:=by have:=(List.getElem?_eq_some_iff.1 hu).1;simp at this;omega
 subst hj
 have:=h.get (i*1+0) u (by
  show(ss l++junk)[i*1+0]? =some u
  rw[show i*1+0=i by omega,List.getElem?_append_left (by simpa using hi),List.getElem?_map,List.getElem?_eq_getElem hi, <-hu,List.getD_eq_getElem?_getD,List.getElem?_eq_getElem hi];rfl)
 rw[Nat.zero_add] at this⊢
 exact this
theorem EA (W:World) (w:List UInt8) (hw:w.length<=1000000) (hv:AQ W):
  Ag Tryz.prog 49 #[str w] W (fun x:Int×Value=> .tuple #[.int .i64 x.1,x.2]) (fun x=>(∃n,atoiAll w= .ok n/\x=(n, .nilIface))\/((∀n,atoiAll w≠ .ok n)/\ ∃a,x.2= .iface 204 (.pointer (some a)))) (fun _=>[]):=by
 have hsz:(⟨w.toArray⟩:ByteArray).size=w.length:=by show w.toArray.size=_;simp
 cases h:atoiAll w
 case ok n=>
  refine⟨(Tryz.strconv_Atoi_ok ⟨w.toArray⟩ (by rw[hsz];omega) n (by simpa using h) W).mono ?_⟩
  rintro e W' ⟨rfl,hw'⟩
  refine⟨(n, .nilIface),I, .inl ⟨n,I,I⟩, ?_,As.nil _ _⟩
  rcases hw' with rfl|⟨t,rfl⟩
  ·exact Below.refl _ _
  ·exact bytesWorld_below _ _ _
 rotate_left
 case range=>
  obtain⟨ev,h1,h2⟩:=hv.rng
  refine⟨(Tryz.strconv_Atoi_range ⟨w.toArray⟩ (by rw[hsz];omega) (by simpa using h) ev W h1 h2).mono ?_⟩
  rintro e W' ⟨N,rfl,_,_,hb⟩
  exact⟨(_, .iface 204 (.pointer (some ⟨N,0,none⟩))),rfl, .inr ⟨fun n hn=>by(cases hn),⟨N,0,none⟩,rfl⟩,hb,As.nil _ _⟩
 ·obtain⟨ev,h1,h2⟩:=hv.syn
  refine⟨(Tryz.strconv_Atoi_syntax ⟨w.toArray⟩ (by rw[hsz];omega) (by simpa using h) ev W h1 h2).mono ?_⟩
  rintro e W' ⟨N,rfl,_,_,hb⟩
  exact⟨(0, .iface 204 (.pointer (some ⟨N,0,none⟩))),rfl, .inr ⟨fun n hn=>by(cases hn),⟨N,0,none⟩,rfl⟩,hb,As.nil _ _⟩
section
variable {P:Program} {N:Nat} {ops:List Oper} {o:Oper} {rest:List Oper} {env:Env} {A:World->Prop} {A2:World->Prop} {R:(Nat->Value)->World->Prop}
theorem C4 {ρ:Operand->Value} {t u:TypeId} {x:Operand} {v:Value} {b:Bool} {ms:Array (String×TypeId)} (ht:P.underlying t=some (.interface ms)) (ho:o.op= .binOp .neq t x (.const .nilIface) u) (hx:ρ x=v) (hc:ρ (.const .nilIface)= .nilIface)
  (hv:(v= .nilIface/\b=false)\/((∃te a,v= .iface te (.pointer (some a)))/\b=true)) (W:World):(execOp ρ o).run P W= .ok (.value (.bool b)) W:=by
 have h1:(binOp .neq t v .nilIface).run P W= .ok (.bool b) W:=by
  rcases hv with⟨rfl,rfl⟩|⟨⟨te,a,rfl⟩,rfl⟩
  ·have h: ∀d:Nat,(Op.equalIn (d+1) t .nilIface .nilIface).run P W= .ok true W:=fun d=>by
    simp[Op.equalIn,run_underlying ht]
   simp only[binOp]
   simp[Op.equal,Op.maxDepth,h 9999]
  ·have h: ∀d:Nat,(Op.equalIn (d+1) t (.iface te (.pointer (some a))) .nilIface).run P W= .ok false W:=fun d=>by
    simp[Op.equalIn,run_underlying ht]
   simp only[binOp]
   simp[Op.equal,Op.maxDepth,h 9999]
 have h2:(eqGuard .neq t x (.const .nilIface) v .nilIface).run P W= .ok () W:=by
  rcases hv with⟨rfl,rfl⟩|⟨⟨te,a,rfl⟩,rfl⟩<;>simp[eqGuard]
 simp only[execOp,ho,hx,hc,Sem.run_bind,h2,h1,Result.andThen_ok,Sem.run_pure]
end
def AB {α:Type} (k:Nat) (c:α->List Value) (W:World) (p:Option Addr) (l:List α):Prop:=l=[]\/ ∃b off,p=some ⟨b,off,none⟩/\ ∀i (hi:i<l.length),Al W b (off+i*k) (c l[i])
section
variable {α:Type} {k:Nat} {c:α->List Value}
theorem AB.below {W W':World} {p:Option Addr} {l:List α} {n:Nat} (h:AB k c W p l) (hn:W.heap.size<=n) (hb:Below n W W'):AB k c W' p l:=by
 rcases h with h|⟨b,off,h1,h2⟩
 ·exact .inl h
 ·exact .inr ⟨b,off,h1,fun i hi=>(h2 i hi).below hn hb⟩
theorem AB.hp {W0 W:World} {bxs:List Bx} {p:Option Addr} {l:List α} (h:AB k c W0 p l) (hp:Hp W0 bxs W):AB k c W p l:=h.below (Nat.le_refl _) hp.below
theorem AB.row {W:World} {p:Option Addr} {l:List α} (h:AB k c W p l) {i:Nat} (hi:i<l.length): ∃b off,p=some ⟨b,off,none⟩/\ ∀j (hj:j<l.length),Al W b (off+j*k) (c l[j]):=by
 rcases h with h|h
 ·subst h;cases hi
 ·exact h
theorem NH (hk: ∀x,(c x).length=k): ∀(l:List α),(l.flatMap c).length=l.length*k
 |[]=>by simp
 |x::l=>by rw[List.flatMap_cons,List.length_append,hk,NH hk l,List.length_cons,Nat.succ_mul];omega
theorem O1 (hk: ∀x,(c x).length=k): ∀ {l:List α} {i:Nat} (h:i<l.length) {j:Nat} (_:j<k),(l.flatMap c)[i*k+j]? =(c l[i])[j]?
 |x::l,0,_,j,hj=>by rw[List.flatMap_cons,Nat.zero_mul,Nat.zero_add,List.getElem?_append_left (by rw[hk];exact hj)];rfl
 |x::l,i+1,h,j,hj=>by
  have e:(i+1)*k+j-k=i*k+j:=by rw[Nat.succ_mul];omega
  rw[List.flatMap_cons,List.getElem?_append_right (by rw[hk,Nat.succ_mul];omega),hk,e]
  exact O1 hk (l:=l) (i:=i) (Nat.lt_of_succ_lt_succ h) hj
theorem AB.of_row {W:World} {g:Nat} {l:List α} {junk:List Value} (hk: ∀x,(c x).length=k) (h:Al W g 0 (l.flatMap c++junk)):AB k c W (some ⟨g,0,none⟩) l:=by
 refine .inr ⟨g,0,I,fun i hi=>⟨h.lt,fun j u hu=> ?_⟩⟩
 have hj:j<k:=by have:=(List.getElem?_eq_some_iff.1 hu).1;rwa [hk] at this
 have hlt:i*k+j<(l.flatMap c).length:=by
  rw[NH hk]
  calc i*k+j<i*k+k:=by omega
   _=(i+1)*k:=by rw[Nat.succ_mul]
   _<=l.length*k:=Nat.mul_le_mul_right k hi
 have:=h.get (i*k+j) u (by rw[List.getElem?_append_left hlt,O1 hk hi hj];exact hu)
 rw[Nat.zero_add] at this⊢
 exact this
def AU (V:Vec):Option Addr:=V.p.map fun g=>⟨g,0,none⟩
def Bd (V:Vec):Nat:=match V.p with
 |none=>0
 |some _=>V.cap
theorem Bs {V:Vec} {s n:Nat} {xs:List Value} (h:V.OK s n xs):V.val n= .slice (AU V) n (Bd V):=by
 obtain⟨p,c,j⟩:=V
 cases p with
 |none=>
  have e:n=0:=h.nil rfl
  rw[e];rfl
 |some g=>rfl
theorem EI {W0 W:World} {bxs:List Bx} (hk: ∀x,(c x).length=k) (hp:Hp W0 bxs W) (i:Nat) {V:Vec} {t:TypeId} {l:List α} (h:V.OK k l.length (l.flatMap c)) (hn:nth bxs i=some (V.bx t (l.flatMap c))):AB k c W (AU V) l:=by
 obtain⟨p,c',j⟩:=V
 cases p with
 |none=>
  have e:l.length=0:=h.nil rfl
  exact .inl (List.length_eq_zero_iff.1 e)
 |some g=>exact AB.of_row hk (Al.of_bx hp i hn rfl)
theorem CV (l:List α) (x:α):(l++[x]).flatMap c=l.flatMap c++c x:=by simp
end
def E0 (k:Nat) (w:List UInt8):Option Int:=match atoiAll w with
 | .ok n=>if n<0\/k<w.length\/itoa n≠w then none else some n
 |_=>none
theorem PX {k:Nat} {w:List UInt8} {n:Int} (h:atoiAll w= .ok n):E0 k w=if n<0\/k<w.length\/itoa n≠w then none else some n:=by
 unfold E0
 rw[h]
theorem OE {k:Nat} {w:List UInt8} (h: ∀n,atoiAll w≠ .ok n):E0 k w=none:=by
 unfold E0
 split
 ·rename_i n hn
  exact absurd hn (h n)
 ·rfl
def aQ (k:Nat) (w:List UInt8) (x:Int×Bool):Prop:=(∃n,E0 k w=some n/\x=(n,true))\/(E0 k w=none/\x.2=false)
section
variable {P:Program} {N:Nat} {ops:List Oper} {o:Oper} {rest:List Oper} {env:Env} {A:World->Prop} {A2:World->Prop} {R:(Nat->Value)->World->Prop}
theorem GM {ρ:Operand->Value} {t u:TypeId} {x:Operand} {v:Value} {b:Bool} {ms:Array (String×TypeId)} (ht:P.underlying t=some (.interface ms)) (ho:o.op= .binOp .eql t x (.const .nilIface) u) (hx:ρ x=v) (hc:ρ (.const .nilIface)= .nilIface)
  (hv:(v= .nilIface/\b=true)\/((∃te a,v= .iface te (.pointer (some a)))/\b=false)) (W:World):(execOp ρ o).run P W= .ok (.value (.bool b)) W:=by
 have h1:(binOp .eql t v .nilIface).run P W= .ok (.bool b) W:=by
  rcases hv with⟨rfl,rfl⟩|⟨⟨te,a,rfl⟩,rfl⟩
  ·have h: ∀d:Nat,(Op.equalIn (d+1) t .nilIface .nilIface).run P W= .ok true W:=fun d=>by
    simp[Op.equalIn,run_underlying ht]
   simp only[binOp]
   simp[Op.equal,Op.maxDepth,h 9999]
  ·have h: ∀d:Nat,(Op.equalIn (d+1) t (.iface te (.pointer (some a))) .nilIface).run P W= .ok false W:=fun d=>by
    simp[Op.equalIn,run_underlying ht]
   simp only[binOp]
   simp[Op.equal,Op.maxDepth,h 9999]
 have h2:(eqGuard .eql t x (.const .nilIface) v .nilIface).run P W= .ok () W:=by
  rcases hv with⟨rfl,rfl⟩|⟨⟨te,a,rfl⟩,rfl⟩<;>simp[eqGuard]
 simp only[execOp,ho,hx,hc,Sem.run_bind,h2,h1,Result.andThen_ok,Sem.run_pure]
end
theorem Dl (w:List UInt8):(⟨w.toArray⟩:ByteArray).size=w.length:=by show w.toArray.size=_;simp
theorem Hk (a b:List UInt8):((⟨a.toArray⟩:ByteArray).toList==(⟨b.toArray⟩:ByteArray).toList)=decide (a=b):=by
 rw[AL,AL]
 by_cases h:a=b
 ·rw[dT h,beq_iff_eq];exact h
 ·rw[dF h,beq_eq_false_iff_ne];exact h
theorem FP (w:List UInt8) (hw:w.length<=1000000) (W:World) (hv:AQ W) (ht:AZ W):
  Ag Tryz.prog 179 #[str w] W (fun x:Int×Bool=> .tuple #[.int .i64 x.1, .bool x.2]) (aQ 10 w) (fun _=>[]):=by
 refine Ab Tryz.func179 I I I<|xb<|Aa I<|xg<|wP I<|wD (X:=Int×Value) I I (fun W hp=>EA W w hw (hv.hp hp)) ?_
 rintro⟨z,ev⟩ hz
 refine A8 I<|xg<|Aa I<|?_
 rcases hz with⟨n,hn,e⟩|⟨hno,a,ha⟩
 rotate_left
 ·change ev=_ at ha
  subst ha
  refine Bf (v:= .bool false) rfl rfl (fun c e=>by cases e) (fun ρ W hρ _=>GM Tryz.underlying104 rfl (hρ _ _ rfl) (hρ _ _ rfl) (.inr ⟨⟨_,_,rfl⟩,rfl⟩) W) ?_
  refine wP I ?_
  iterate 2 refine Ac I I ?_
  refine Aa I<|?_
  iterate 3 refine Ac I I ?_
  refine Aa I<|?_
  iterate 4 refine Ac I I ?_
  exact Ae I<|xc<|An tH I (.tmp I) (.tmp I) (z,false) I (.inr ⟨OE hno,I⟩) fun W _=>As.nil _ _
 injection e with e1 e2
 subst e1 e2
 have hnum:=PX (k:=10) hn
 obtain⟨hb1,hb2⟩:=atoiAll_bounds hn
 refine Bf (v:= .bool true) rfl rfl (fun c e=>by cases e) (fun ρ W hρ _=>GM Tryz.underlying104 rfl (hρ _ _ rfl) (hρ _ _ rfl) (.inl ⟨rfl,rfl⟩) W) ?_
 refine Ae I<|?_
 by_cases c1:z<0
 ·refine wU 16 false I (dF (by omega))<|Aa I<|?_
  iterate 3 refine Ac I I ?_
  refine Aa I<|?_
  iterate 4 refine Ac I I ?_
  exact Ae I<|xc<|An tH I (.tmp I) (.tmp I) (z,false) I (.inr ⟨by rw[hnum,if_pos (.inl c1)],I⟩) fun W _=>As.nil _ _
 refine wU 16 true I (dT (by omega))<|A8 I<|?_
 by_cases c2:10<w.length
 ·refine wU 21 false I (show decide (((⟨w.toArray⟩:ByteArray).size:Int)<=10)=false by rw[Dl,decide_eq_false_iff_not];omega)<|Aa I<|?_
  iterate 4 refine Ac I I ?_
  exact Ae I<|xc<|An tH I (.tmp I) (.tmp I) (z,false) I (.inr ⟨by rw[hnum,if_pos (.inr (.inl c2))],I⟩) fun W _=>As.nil _ _
 refine wU 21 true I (show decide (((⟨w.toArray⟩:ByteArray).size:Int)<=10)=true by rw[Dl,decide_eq_true_iff];omega)<|Ae I<|wC I I (fun W hp=>AF z hb1 hb2 W (ht.hp hp))<|Aa I<|?_
 by_cases c3:itoa z=w
 ·exact wU 27 true I (show((⟨(itoa z).toArray⟩:ByteArray).toList==(⟨w.toArray⟩:ByteArray).toList)=true by rw[Hk,dT c3])<|Ae I<|xc<|An tH I (.tmp I) (.tmp I) (z,true) I (.inl ⟨z,by rw[hnum,if_neg fun h=>h.elim c1 fun h=>h.elim c2 fun h=>h c3],I⟩) fun W _=>As.nil _ _
 ·exact wU 27 false I (show((⟨(itoa z).toArray⟩:ByteArray).toList==(⟨w.toArray⟩:ByteArray).toList)=false by rw[Hk,dF c3])<|Ae I<|xc<|An tH I (.tmp I) (.tmp I) (z,false) I (.inr ⟨by rw[hnum,if_pos (.inr (.inr c3))],I⟩) fun W _=>As.nil _ _
theorem I5 (w:List UInt8) (hw:w.length<=1000000) (W:World) (hv:AQ W) (ht:AZ W):
  Ag Tryz.prog 205 #[str w] W (fun x:Int×Bool=> .tuple #[.int .i64 x.1, .bool x.2]) (aQ 4 w) (fun _=>[]):=by
 refine Ab Tryz.func205 I I I<|xb<|Aa I<|xg<|wP I<|wD (X:=Int×Value) I I (fun W hp=>EA W w hw (hv.hp hp)) ?_
 rintro⟨z,ev⟩ hz
 refine A8 I<|xg<|Aa I<|?_
 rcases hz with⟨n,hn,e⟩|⟨hno,a,ha⟩
 rotate_left
 ·change ev=_ at ha
  subst ha
  refine Bf (v:= .bool false) rfl rfl (fun c e=>by cases e) (fun ρ W hρ _=>GM Tryz.underlying104 rfl (hρ _ _ rfl) (hρ _ _ rfl) (.inr ⟨⟨_,_,rfl⟩,rfl⟩) W) ?_
  refine wP I ?_
  iterate 3 refine Ac I I ?_
  refine Aa I<|?_
  iterate 4 refine Ac I I ?_
  refine Aa I<|?_
  iterate 2 refine Ac I I ?_
  exact Ae I<|xc<|An tH I (.tmp I) (.tmp I) (z,false) I (.inr ⟨OE hno,I⟩) fun W _=>As.nil _ _
 injection e with e1 e2
 subst e1 e2
 have hnum:=PX (k:=4) hn
 obtain⟨hb1,hb2⟩:=atoiAll_bounds hn
 refine Bf (v:= .bool true) rfl rfl (fun c e=>by cases e) (fun ρ W hρ _=>GM Tryz.underlying104 rfl (hρ _ _ rfl) (hρ _ _ rfl) (.inl ⟨rfl,rfl⟩) W) ?_
 refine A3 I<|?_
 by_cases c2:4<w.length
 ·refine wU 17 false I (show decide (((⟨w.toArray⟩:ByteArray).size:Int)<=4)=false by rw[Dl,decide_eq_false_iff_not];omega)<|Aa I<|?_
  iterate 4 refine Ac I I ?_
  refine Aa I<|?_
  iterate 2 refine Ac I I ?_
  exact Ae I<|xc<|An tH I (.tmp I) (.tmp I) (z,false) I (.inr ⟨by rw[hnum,if_pos (.inr (.inl c2))],I⟩) fun W _=>As.nil _ _
 refine wU 17 true I (show decide (((⟨w.toArray⟩:ByteArray).size:Int)<=4)=true by rw[Dl,decide_eq_true_iff];omega)<|Ae I<|wC I I (fun W hp=>AF z hb1 hb2 W (ht.hp hp))<|Aa I<|?_
 by_cases c3:itoa z=w
 rotate_left
 ·refine wU 23 false I (show((⟨(itoa z).toArray⟩:ByteArray).toList==(⟨w.toArray⟩:ByteArray).toList)=false by rw[Hk,dF c3])<|Aa I<|?_
  iterate 2 refine Ac I I ?_
  exact Ae I<|xc<|An tH I (.tmp I) (.tmp I) (z,false) I (.inr ⟨by rw[hnum,if_pos (.inr (.inr c3))],I⟩) fun W _=>As.nil _ _
 refine wU 23 true I (show((⟨(itoa z).toArray⟩:ByteArray).toList==(⟨w.toArray⟩:ByteArray).toList)=true by rw[Hk,dT c3])<|A3 I<|?_
 by_cases c1:z<0
 ·exact wU 27 false I (dF (by omega))<|Ae I<|xc<|An tH I (.tmp I) (.tmp I) (z,false) I (.inr ⟨by rw[hnum,if_pos (.inl c1)],I⟩) fun W _=>As.nil _ _
 ·exact wU 27 true I (dT (by omega))<|Ae I<|xc<|An tH I (.tmp I) (.tmp I) (z,true) I (.inl ⟨z,by rw[hnum,if_neg fun h=>h.elim c1 fun h=>h.elim c2 fun h=>h c3],I⟩) fun W _=>As.nil _ _
end
end Go.Proofs.YtidgbjcdppjknaaGreatDoor
