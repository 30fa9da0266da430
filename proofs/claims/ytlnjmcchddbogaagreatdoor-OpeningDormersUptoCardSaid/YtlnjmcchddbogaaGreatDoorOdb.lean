/-
  Lemmas that the theorem openingDormers_upto_card needs (part 2 of 8).
-/
import Derived.Test.YtlnjmcchddbogaaGreatDoorOda
import Derived.Laws.Small
import Derived.Maps.AppendAt
import Derived.Laws.Cover3
import Derived.Lib.AppendZerosOnto
import Derived.Laws.AppendOwn
import Derived.Lib.AppendIntMem
import Derived.Lib.ItoaLen
import Derived.Laws.Strings
import Derived.Laws.IdiomStrings
import Derived.Laws.Concat
import Derived.Lib.IndexMore
import Derived.Shelf.Strings.BuilderK
import Derived.Shelf.Strings.Cut
import Derived.Shelf.Strings.Repeat
set_option maxHeartbeats 64000000
namespace Go.Am
open Go Go.RowKit
def Cf (c:List Value):Nat->List Value
 |0=>[]
 |n+1=>c++Cf c n
theorem Fv (c:List Value): ∀n,(Cf c n).length=n*c.length
 |0=>by simp[Cf]
 |n+1=>by rw[Cf,List.length_append,Fv c n,Nat.succ_mul,Nat.add_comm]
theorem Ua (c:List Value): ∀(n j:Nat),j<n*c.length->(Cf c n)[j]? =c[j%c.length]?
 |0,j,h=>by simp at h
 |n+1,j,h=>by
  rw[Cf]
  by_cases hj:j<c.length
  ·rw[List.getElem?_append_left hj,Nat.mod_eq_of_lt hj]
  ·have hj:c.length<=j:=by omega
   rw[List.getElem?_append_right hj,Ua c n (j-c.length) (by rw[Nat.succ_mul] at h;omega), <-Nat.mod_eq_sub_mod hj]
theorem OV (c:Array Value) (n m:Nat) (hm:m=c.size):((Array.range (n*m)).map (c[· %c.size]!)).toList=Cf c.toList n:=by
 subst hm
 apply List.ext_getElem?
 intro j
 by_cases hj:j<n*c.size
 ·have hpos:0<c.size:=by
   rcases Nat.eq_zero_or_pos c.size with h|h
   ·rw[h] at hj;simp at hj
   ·exact h
  have h1:=Ua c.toList n j (by simpa using hj)
  rw[h1]
  have hlt:j%c.size<c.size:=Nat.mod_lt _ hpos
  simp[hj,hlt]
 ·have h1:(Cf c.toList n).length=n*c.size:=by rw[Fv];simp
  rw[List.getElem?_eq_none (by simp;omega),List.getElem?_eq_none (by rw[h1];omega)]
section
variable {r:Option Nat} {n:Nat} {P:Program} {W0:World} {N:Nat} {D:List Deferred} {Q:Exit->Act->World->Prop} {env:Env} {bxs:List Bx}
structure Xc {X:Type} (N:Nat) (D:List Deferred) (W0:World) (L:X->Env) (B:X->List Bx) (Φ:X->Prop) (a:Act) (W:World):Prop where
 out: ∃x,Φ x/\UU N D (L x) a/\Hp W0 (B x) W
theorem GR {x y:Code} {X:Type} (L:X->Env) (B:X->List Bx) (Φ:X->Prop) (h1:WC r n P N D x (Exit.then (Xc N D W0 L B Φ) Q) env (Hp W0 bxs))
  (h2: ∀z,Φ z->WC r n P N D y Q (L z) (Hp W0 (B z))):WC r n P N D (.seq x y) Q env (Hp W0 bxs):= .mk fun a W ha hd hp=>by
 refine(Ba ⟨fun a W ha hd hp=>wpIn_mono (h1.out a W ha hd hp) ?_⟩:WC r n P N D (.seq x y) Q env (Hp W0 bxs)).out a W ha hd hp
 intro e a' W' hq
 cases e with
 |normal=>
  obtain⟨z,hz,hl,hp'⟩:=Xc.out hq
  have:=(h2 z hz).out a' W' hl.size hl.defers hp'
  rw[FG (fun p hp _=>hl.get p hp)] at this
  exact this
 |_=>exact hq
theorem Ao {X:Type} {L:X->Env} {B:X->List Bx} {Φ:X->Prop} (x:X) (hx:Φ x) (hL:Ic N env (L x)) (nb:List Bx) (hB:bxs=B x++nb):NE N D (Exit.then (Xc N D W0 L B Φ) Q) .normal env (Hp W0 bxs):= .mk fun _ _ ha hd hp=>
 ⟨x,hx,HJ ha hd hL,by rw[hB] at hp;exact hp.take⟩
theorem J6 {X:Type} {L:X->Env} {B:X->List Bx} {Φ:X->Prop} (x:X) (hx:Φ x) (hL:Ic N env (L x)) (s:List Nat) (hs:s.Nodup) (hp:pick bxs s=some (B x)):NE N D (Exit.then (Xc N D W0 L B Φ) Q) .normal env (Hp W0 bxs):= .mk fun _ _ ha hd hh=>
 ⟨x,hx,HJ ha hd hL,hh.pick s hs hp⟩
theorem Jg {ops rest:List Oper} {o:Oper} {T:Tbl} {i:TI} {d:Nat} {t:TypeId} {len:Nat} {parts:Array (Nat×Operand)} {vs:List (Nat×Value)} (z:Value) {c:List Value} (hT:okB P T=true) (hg:Aw ops N env o=some true) (hd:o.dst=some d) (ho:o.op= .buildSlice t len parts) (ht:Cw T t=some i) (hk:i.kind=2)
  (hz: ∀W,(zeroValue i.elem).run P W= .ok z W) (hp:DV (evO N env) parts.toList=some vs) (hzs:i.elemSize=z.cells.size) (h24:Nat.ble (len*i.elemSize) (2^24)=true) (h0:Nat.beq (len*i.elemSize) 0=false)
  (hc:GD (Kc i.elemSize) (Cf z.cells.toList len) vs=some c)
  (h: ∀b,WL r n P N D ops Q rest ((d, .slice (some ⟨b,0,none⟩) len len)::env) (Hp W0 (bxs++[⟨b,i.elem,c,true,none⟩]))):WL r n P N D ops Q (o::rest) env (Hp W0 bxs):=
 PK z hT hg hd ho ht hk hz hp h24 h0 (by rw[OV _ _ _ hzs];exact hc) h
def Sg (op:BinOp) (a b:Bool):Option Bool:=
 match op with
 | .eql=>some (a==b)
 | .neq=>some (!(a==b))
 |_=>none
theorem M8 {ρ:Operand->Value} {o:Oper} {op:BinOp} {t u:TypeId} {x y:Operand} {a b c:Bool} (hu:P.underlying t=some .bool) (ho:o.op= .binOp op t x y u) (hx:ρ x= .bool a) (hy:ρ y= .bool b) (hc:Sg op a b=some c) (W:World):
  (execOp ρ o).run P W= .ok (.value (.bool c)) W:=by
 unfold Sg at hc
 cases op<;>first|(cases hc;done)|(have hc:=Option.some.inj hc;subst hc;simp[execOp,ho,hx,hy,eqGuard,binOp,run_equal_bool W t a b hu])
theorem EE {ops rest:List Oper} {o:Oper} {A:World->Prop} {op:BinOp} {d:Nat} {t u:TypeId} {x y:Operand} {a b c:Bool} (hu:P.underlying t=some .bool) (hg:Aw ops N env o=some true) (hd:o.dst=some d) (ho:o.op= .binOp op t x y u)
  (hx:evO N env x=some (.bool a)) (hy:evO N env y=some (.bool b)) (hc:Sg op a b=some c)
  (h:WL r n P N D ops Q rest ((d, .bool c)::env) A):WL r n P N D ops Q (o::rest) env A:=
 CP hg hd (fun c e=>by rw[ho] at e;cases e) (fun _ W hρ _=>M8 hu ho (hρ _ _ hx) (hρ _ _ hy) hc W) h
theorem Vc {ops rest:List Oper} {o:Oper} {A A2:World->Prop} {R:Act->World->Prop} {op:BinOp} {d:Nat} {t u:TypeId} {x y:Operand} {a b c:Bool} (hu:P.underlying t=some .bool) (hg:Aw ops N env o=some true) (hd:o.dst=some d) (ho:o.op= .binOp op t x y u)
  (hx:evO N env x=some (.bool a)) (hy:evO N env y=some (.bool b)) (hc:Sg op a b=some c)
  (h:WQ P N D ops A2 R rest ((d, .bool c)::env) A):WQ P N D ops A2 R (o::rest) env A:=
 Eh hg hd (fun c e=>by rw[ho] at e;cases e) (fun _ W hρ _=>M8 hu ho (hρ _ _ hx) (hρ _ _ hy) hc W) h
end
end Go.Am
namespace Go.Am
open Go Go.RowKit
def bag (ds:List Nat):Bx:=⟨0,0,[],true,some (.grp (ds.map fun d=>(d,H5)))⟩
def Gf:Bx:=⟨0,0,[],false,none⟩
theorem FN {ds:List Nat} {p:Nat×Obj}:p∈(bag ds).blk↔p.1∈ds/\p.2=H5:=by
 show p∈ds.map (fun d=>(d,H5))↔_
 rw[List.mem_map]
 constructor
 ·rintro⟨d,hd,rfl⟩;exact⟨hd,rfl⟩
 ·rintro⟨h1,h2⟩;exact⟨p.1,h1,by rw[<-h2]⟩
theorem Wm (ds:List Nat):(bag ds).blk.map (·.1)=ds:=by
 show(ds.map fun d=>(d,H5)).map (·.1)=ds
 simp[Function.comp_def]
theorem Hp.join {W0 W:World} {bxs:List Bx} (h:Hp W0 bxs W) {k i:Nat} (hne:k≠i) {B C E:Bx} (hk:bxs[k]? =some B) (hi:bxs[i]? =some C) (hE:E.blk=C.blk++B.blk):Hp W0 ((bxs.set k E).set i Gf) W:=by
 have cases2: ∀ {j:Nat} {X:Bx},((bxs.set k E).set i Gf)[j]? =some X->X.blk=[]\/(j=k/\X=E)\/(j≠i/\j≠k/\bxs[j]? =some X):=fun {j X} hj=>by
  rcases Er hj with⟨_,rfl⟩|⟨h1,h2⟩
  ·exact .inl rfl
  ·rcases Er h2 with h3|⟨h3,h4⟩
   ·exact .inr (.inl h3)
   ·exact .inr (.inr ⟨h1,h3,h4⟩)
 have mem: ∀ {p:Nat×Obj},p∈E.blk-> ∃m X,(m=k\/m=i)/\bxs[m]? =some X/\p∈X.blk:=fun {p} hp=>by
  rw[hE] at hp
  rcases List.mem_append.1 hp with hp|hp
  ·exact⟨i,C, .inr rfl,hi,hp⟩
  ·exact⟨k,B, .inl rfl,hk,hp⟩
 refine⟨h.below,fun j X hj p hp=> ?_,fun j X hj=> ?_,fun j j' X Y hj hj' hjj p hp q hq=> ?_⟩
 ·rcases cases2 hj with e|⟨_,rfl⟩|⟨_,_,h2⟩
  ·rw[e] at hp;cases hp
  ·obtain⟨m,Z,_,h1,h2⟩:=mem hp
   exact h.own.cell m Z h1 p h2
  ·exact h.own.cell j X h2 p hp
 ·rcases cases2 hj with e|⟨_,rfl⟩|⟨_,_,h2⟩
  ·rw[e];exact List.nodup_nil
  ·rw[hE,List.map_append]
   refine List.nodup_append.2 ⟨h.own.nd i C hi,h.own.nd k B hk,fun a ha b hb e=> ?_⟩
   obtain⟨p,hp,rfl⟩:=List.mem_map.1 ha
   obtain⟨q,hq,rfl⟩:=List.mem_map.1 hb
   exact h.own.apart i k C B hi hk (fun e=>hne e.symm) p hp q hq e
  ·exact h.own.nd j X h2
 ·rcases cases2 hj with e|⟨e1,rfl⟩|⟨h1,h2,h3⟩
  ·rw[e] at hp;cases hp
  ·rcases cases2 hj' with e|⟨e2,rfl⟩|⟨h4,h5,h6⟩
   ·rw[e] at hq;cases hq
   ·exact absurd (e1.trans e2.symm) hjj
   ·obtain⟨m,Z,h7,h8,h9⟩:=mem hp
    exact h.own.apart m j' Z Y h8 h6 (by rcases h7 with rfl|rfl;exact fun e=>h5 e.symm;exact fun e=>h4 e.symm) p h9 q hq
  ·rcases cases2 hj' with e|⟨e2,rfl⟩|⟨h4,h5,h6⟩
   ·rw[e] at hq;cases hq
   ·obtain⟨m,Z,h7,h8,h9⟩:=mem hq
    exact h.own.apart j m X Z h3 h8 (by rcases h7 with rfl|rfl;exact h2;exact h1) p hp q h9
   ·exact h.own.apart j j' X Y h3 h6 hjj p hp q hq
theorem Hp.bagged {W0 W:World} {bxs:List Bx} (h:Hp W0 bxs W) (k i:Nat) {d:Nat} {ds:List Nat} (hk:nth bxs k=some (bag ds)) (hi:nth bxs i=some (BL d)):
  Hp W0 ((bxs.set k (bag (d::ds))).set i Gf) W:=by
 rw[Bv] at hk hi
 exact h.join (fun e=>by subst e;rw[hk] at hi;cases hi) hk hi rfl
theorem Hp.unbag {W0 W W':World} {bxs:List Bx} (h:Hp W0 bxs W) (k:Nat) {d:Nat} {ds:List Nat} {o:Obj} (hk:nth bxs k=some (bag (d::ds))) (hu:Upd W W' d o):Hp W0 (bxs.set k (bag ds)) W':=by
 rw[Bv] at hk
 have hnd:=h.own.nd k _ hk
 rw[Wm] at hnd
 obtain⟨h2,h3⟩:=List.nodup_cons.1 hnd
 have hget: ∀x,d≠x->W'.heap[x]? =W.heap[x]? :=fun x hx=>by rw[hu.heap,Array.getElem?_setIfInBounds];rw[if_neg hx]
 refine h.turn hk (fun p hp=> .inl ⟨p,FN.2 ⟨List.mem_cons_of_mem _ (FN.1 hp).1,(FN.1 hp).2⟩,rfl⟩) (by rw[Wm];exact h3) hu.os hu.tape hu.output (by rw[hu.heap,Array.size_setIfInBounds];exact Nat.le_refl _) (fun p hp=> ?_) (fun x hx _=>hget x (hx (d,H5) (FN.2 ⟨List.mem_cons_self ..,rfl⟩)))
 rw[hget p.1 (fun e=>h2 (e▸(FN.1 hp).1))]
 exact(h.own.cell k _ hk p (FN.2 ⟨List.mem_cons_of_mem _ (FN.1 hp).1,(FN.1 hp).2⟩)).1
section
variable {r:Option Nat} {n:Nat} {P:Program} {W0:World} {N:Nat} {D:List Deferred} {Q:Exit->Act->World->Prop} {env:Env} {bxs:List Bx}
theorem II (k:Nat) {fn:Func} {X:Type} {val:X->Value} {Φ:X->Prop} {nb:X->List Bx}: ∀(ds:List Nat) {bxs:List Bx},nth bxs k=some (bag ds)->
  NE N [] (Hx P fn W0 val Φ nb) .ret env (Hp W0 (bxs.set k (bag [])))->NE N (ds.map Dz) (Hx P fn W0 val Φ nb) .ret env (Hp W0 bxs)
 |[],bxs,hk,h=>by
  have:bxs.set k (bag [])=bxs:=by
   rw[Bv] at hk
   apply List.ext_getElem?
   intro i
   by_cases e:i=k
   ·subst e;rw[List.getElem?_set_self (List.getElem?_eq_some_iff.1 hk).1,hk]
   ·rw[List.getElem?_set_ne (fun x=>e x.symm)]
  rw[this] at h
  exact h
 |d::ds,bxs,hk,h=> .mk fun a W ha hd hp=>by
  have hb:W.heap[d]? =some H5:=(hp.own.cell k _ (by rw[<-Bv];exact hk) (d,H5) (FN.2 ⟨List.mem_cons_self ..,rfl⟩)).1
  refine .mk ?_
  show LeavesInM (Fw none) 0 P fn (ov env a).tmps _ (ov env a).defers .returning W
  rw[B7,hd]
  refine⟨by simp, .inl ⟨d,W.putObj d (.deferred none),rfl,run_takeDeferred hb, ?_⟩⟩
  have hp':Hp W0 (bxs.set k (bag ds)) (W.putObj d (.deferred none)):=hp.unbag k hk ⟨rfl,rfl,rfl,rfl⟩
  have hk':nth (bxs.set k (bag ds)) k=some (bag ds):=by
   rw[Bv] at hk⊢
   exact List.getElem?_set_self (List.getElem?_eq_some_iff.1 hk).1
  have h':NE N (ds.map Dz) (Hx P fn W0 val Φ nb) .ret env (Hp W0 (bxs.set k (bag ds))):=II k ds hk' (by rw[List.set_set];exact h)
  have:=(h'.out { tmps:=a.tmps,defers:=ds.map Dz } _ ha rfl hp').out
  have e:LeavesInM (Fw none) 0 P fn (ov env { tmps:=a.tmps,defers:=ds.map Dz }).tmps (fun e W'=> ∃x,e= .returned (val x)/\Φ x/\Below W0.heap.size W0 W'/\Au W0 W' (nb x)) (ov env { tmps:=a.tmps,defers:=ds.map Dz }).defers .returning (W.putObj d (.deferred none)):=this
  rw[B7] at e
  rw[Lt env { tmps:=a.tmps,defers:=ds.map Dz } a rfl] at e
  exact e
theorem UA (k i:Nat) {e:Exit} {d:Nat} {ds:List Nat} (hk:nth bxs k=some (bag ds)) (hi:nth bxs i=some (BL d)) (h:NE N D Q e env (Hp W0 ((bxs.set k (bag (d::ds))).set i Gf))):NE N D Q e env (Hp W0 bxs):= .mk fun a W ha hd hp=>
 h.out a W ha hd (hp.bagged k i hk hi)
theorem Hp.newBag {W W0:World} (h:Hp W0 bxs W):Hp W0 (bxs++[bag []]) W:=h.append (Below.refl _ _) (Own.one (fun p hp=>by cases hp) List.nodup_nil)
theorem QM {c:Code} (h:WC r n P N D c Q env (Hp W0 (bxs++[bag []]))):WC r n P N D c Q env (Hp W0 bxs):= .mk fun a W ha hd hp=>h.out a W ha hd hp.newBag
structure YU (N:Nat) {X:Type} (D:X->List Deferred) (L:X->Env) (B:X->World->Prop) (Φ:X->Prop) (μ:X->Nat) (m:Nat) (a:Act) (W:World):Prop where
 out: ∃x,Φ x/\μ x<m/\UU N (D x) (L x) a/\B x W
theorem NR {c:Code} {X:Type} (Ds:X->List Deferred) (L:X->Env) (B:X->List Bx) (Φ:X->Prop) (μ:X->Nat) (x0:X) (h0:Φ x0) (hD:Ds x0=D) (hL:Ic N env (L x0)) (nb:List Bx) (hB:bxs=B x0++nb)
  (round: ∀x,Φ x->WC r n P N (Ds x) c (Exit.then (YU N Ds L (fun x=>Hp W0 (B x)) Φ μ (μ x)) Q) (L x) (Hp W0 (B x))):WC r n P N D (.loop c) Q env (Hp W0 bxs):= .mk fun a W ha hd hp=>by
 refine wpIn_loop_ghost (fun m a W=> ∃x,Φ x/\μ x=m/\UU N (Ds x) (L x) a/\Hp W0 (B x) W) (μ x0) ⟨x0,h0,rfl,hD▸HJ ha hd hL,by rw[hB] at hp;exact hp.take⟩ ?_
 rintro m a W ⟨x,hx,hm,hl,hp⟩
 have:=(round x hx).out a W hl.size hl.defers hp
 rw[FG (fun p hp _=>hl.get p hp)] at this
 refine wpIn_mono this ?_
 intro e a' W' hq
 cases e with
 |normal=>
  obtain⟨y,h1,h2,h3,h4⟩:=YU.out hq
  exact⟨μ y,hm▸h2,y,h1,rfl,h3,h4⟩
 |_=>exact hq
theorem Lg {X:Type} {Ds:X->List Deferred} {L:X->Env} {B:X->List Bx} {Φ:X->Prop} {μ:X->Nat} {m:Nat} (x:X) (hx:Φ x) (hm:μ x<m) (hD:D=Ds x) (hL:Ic N env (L x)) (s:List Nat) (hs:s.Nodup) (hp:pick bxs s=some (B x)):
  NE N D (Exit.then (YU N Ds L (fun x=>Hp W0 (B x)) Φ μ m) Q) .normal env (Hp W0 bxs):= .mk fun _ _ ha hd hh=>
 ⟨x,hx,hm,HJ ha (hd.trans hD) hL,hh.pick s hs hp⟩
end
end Go.Am
namespace Go.Am
open Go Go.RowKit
inductive ZOk (P:Program):List (Nat×Value)->Prop
 |nil:ZOk P []
 |cons {t:Nat} {z:Value} {l:List (Nat×Value)} (h: ∀W,(zeroValue t).run P W= .ok z W) (r:ZOk P l):ZOk P ((t,z)::l)
def Lw:List (Nat×Value)->Nat->Option Value
 |[],_=>none
 |(u,z)::r,t=>if Nat.beq u t then some z else Lw r t
theorem ZOk.get {P:Program} {t:Nat} {z:Value}: ∀ {l:List (Nat×Value)},ZOk P l->Lw l t=some z-> ∀W,(zeroValue t).run P W= .ok z W
 |[],_,h=>by simp[Lw] at h
 |(u,y)::r, .cons h h',hf=>by
  unfold Lw at hf
  by_cases e:Nat.beq u t=true
  ·rw[if_pos e] at hf
   cases hf
   have:u=t:=Nat.eq_of_beq_eq_true e
   subst this
   exact h
  ·rw[if_neg e] at hf
   exact ZOk.get h' hf
section
variable {r:Option Nat} {n:Nat} {P:Program} {W0:World} {N:Nat} {D:List Deferred} {ops:List Oper} {Q:Exit->Act->World->Prop} {o:Oper} {rest:List Oper} {env:Env} {bxs:List Bx} {A A2:World->Prop} {R:Act->World->Prop}
theorem B5 {Z:List (Nat×Value)} {d:Nat} {t:TypeId} {z:Value} (hZ:ZOk P Z) (hg:Aw ops N env o=some true) (hd:o.dst=some d) (ho:o.op= .alloc t) (hz:Lw Z t=some z)
  (h: ∀b,WL r n P N D ops Q rest ((d, .pointer (some ⟨b,0,none⟩))::env) (Hp W0 (bxs++[⟨b,t,z.cells.toList,true,none⟩]))):WL r n P N D ops Q (o::rest) env (Hp W0 bxs):=
 B6 hg hd ho (hZ.get hz) h
theorem An {Z:List (Nat×Value)} {T:Tbl} {i:TI} {d:Nat} {t:TypeId} {parts:Array (Nat×Operand)} {vs:List (Nat×Value)} {z:Value} {c:List Value} (hZ:ZOk P Z) (hT:okB P T=true) (hg:Aw ops N env o=some true) (hd:o.dst=some d) (ho:o.op= .build t parts) (ht:Cw T t=some i) (hk:i.kind=4)
  (hz:Lw Z t=some z) (hp:DV (evO N env) parts.toList=some vs) (hc:GD (JZ i.fields) z.cells.toList vs=some c)
  (h:WL r n P N D ops Q rest ((d, .agg c.toArray)::env) A):WL r n P N D ops Q (o::rest) env A:=
 Hu z hT hg hd ho ht hk (hZ.get hz) hp hc h
theorem LO {Z:List (Nat×Value)} {T:Tbl} {i:TI} {d:Nat} {t:TypeId} {parts:Array (Nat×Operand)} {vs:List (Nat×Value)} {z:Value} {c:List Value} (hZ:ZOk P Z) (hT:okB P T=true) (hg:Aw ops N env o=some true) (hd:o.dst=some d) (ho:o.op= .build t parts) (ht:Cw T t=some i) (hk:i.kind=4)
  (hz:Lw Z t=some z) (hp:DV (evO N env) parts.toList=some vs) (hc:GD (JZ i.fields) z.cells.toList vs=some c)
  (h:WQ P N D ops A2 R rest ((d, .agg c.toArray)::env) A):WQ P N D ops A2 R (o::rest) env A:=
 Uf z hT hg hd ho ht hk (hZ.get hz) hp hc h
theorem As {Z:List (Nat×Value)} {T:Tbl} {i:TI} {d:Nat} {t:TypeId} {len:Nat} {parts:Array (Nat×Operand)} {vs:List (Nat×Value)} {z:Value} {c:List Value} (hZ:ZOk P Z) (hT:okB P T=true) (hg:Aw ops N env o=some true) (hd:o.dst=some d) (ho:o.op= .buildSlice t len parts) (ht:Cw T t=some i) (hk:i.kind=2)
  (hz:Lw Z i.elem=some z) (hp:DV (evO N env) parts.toList=some vs) (hzs:i.elemSize=z.cells.size) (h24:Nat.ble (len*i.elemSize) (2^24)=true) (h0:Nat.beq (len*i.elemSize) 0=false)
  (hc:GD (Kc i.elemSize) (Cf z.cells.toList len) vs=some c)
  (h: ∀b,WL r n P N D ops Q rest ((d, .slice (some ⟨b,0,none⟩) len len)::env) (Hp W0 (bxs++[⟨b,i.elem,c,true,none⟩]))):WL r n P N D ops Q (o::rest) env (Hp W0 bxs):=
 Jg z hT hg hd ho ht hk (hZ.get hz) hp hzs h24 h0 hc h
structure Vec where
 p:Option Nat
 cap:Nat
 junk:List Value
 deriving Inhabited
def Vec.empty:Vec:=⟨none,0,[]⟩
def Vec.val (V:Vec) (n:Nat):Value:=match V.p with
 |none=> .slice none 0 0
 |some g=> .slice (some ⟨g,0,none⟩) n V.cap
def Vec.bx (V:Vec) (e:TypeId) (xs:List Value):Bx:=match V.p with
 |none=>Gf
 |some g=>⟨g,e,xs++V.junk,true,none⟩
structure Vec.OK (V:Vec) (size n:Nat) (xs:List Value):Prop where
 len:xs.length=n*size
 nil:V.p=none->n=0
 cap:V.p≠none->n<=V.cap/\V.cap<=maxLen/\xs.length+V.junk.length=V.cap*size
theorem Vec.OK.empty (size:Nat):Vec.empty.OK size 0 []:=⟨by simp,fun _=>rfl,fun h=>absurd rfl h⟩
structure VecTy (P:Program) (t e:TypeId) (size bytes:Nat) (z:Value):Prop where
 ht:P.underlying t=some (.slice e)
 hz:(P.info? e).bind (·.zero)=some z
 hs:(P.info? e).map (·.size)=some size
 hb:(P.info? e).map (·.bytes)=some bytes
 hzs:z.cells.size=size
 pos:0<size
theorem VecTy.hi {t e:TypeId} {size bytes:Nat} {z:Value} (h:VecTy P t e size bytes z): ∃i,P.info? e=some i/\i.zero=some z/\i.size=size/\i.bytes=bytes:=by
 have h1:=h.hz;have h2:=h.hs;have h3:=h.hb
 cases hi:P.info? e with
 |none=>rw[hi] at h1;cases h1
 |some i=>
  rw[hi] at h1 h2 h3
  exact⟨i,rfl,h1,Option.some.inj h2,Option.some.inj h3⟩
theorem Hp.appendV {t e ty:TypeId} {size bytes:Nat} {z:Value} (hty:VecTy P t e size bytes z) {W:World} (h:Hp W0 bxs W) (k:Nat) {V:Vec} {n m c:Nat} {xs news:List Value} {a:Addr} (hk:nth bxs k=some (V.bx e xs)) (hV:V.OK size n xs)
  (hl:news.length=m*size) (hnews: ∀j u,news[j]? =some u->W.cell? (a.add j)=some u) (h1: ∀u∈news,u.oneCell'=true) (h63:n+m<=maxLen) (hbytes:(n+m)*bytes<=140737488355328):
  ∃(V':Vec) (W':World),(Builtin.append_ #[t,t] ty #[V.val n, .slice (some a) m c]).run P W= .ok (V'.val (n+m)) W'/\V'.OK size (n+m) (xs++news)/\Hp W0 (bxs.set k (V'.bx e (xs++news))) W'/\(V'.p=none->m=0):=by
 rw[Bv] at hk
 obtain⟨i,hi,hz,hsz,hby⟩:=hty.hi
 have hown:W.ownsRow W0.heap.size e size (V.val n) n xs:=by
  refine⟨hV.len, ?_⟩
  obtain⟨p,cap,junk⟩:=V
  cases p with
  |none=>exact .inl ⟨rfl,hV.nil rfl⟩
  |some g=>
   obtain⟨h3,h4,h5⟩:=hV.cap (by simp)
   have hb:W.heap[g]? =some (.cells (xs++junk).toArray e (0,0))/\W0.heap.size<=g:=h.at_ k _ hk rfl
   refine .inr ⟨g,cap,_,rfl,hb.2,hb.1,h3,h4,by simpa using h5, ?_⟩
   rw[<-hV.len]
   simp
 obtain⟨v',W',hr,hown',hgrow,hnil,hat⟩:=run_append_own_at (P:=P) W W0.heap.size t ty e i z size bytes hty.ht hi hz hsz hby hty.hzs hty.pos (V.val n) n xs hown a m c news hl hnews h1 h63 hbytes h.below.size
 have hoth: ∀(V':Vec),v'=V'.val (n+m)-> ∀x,(∀q∈(V.bx e xs).blk,q.1≠x)->x<W.heap.size->W'.heap[x]? =W.heap[x]? :=fun V' _ x hx hlt=>by
  refine hgrow.block x hlt ?_
  intro he
  obtain⟨p,cap,junk⟩:=V
  cases p with
  |none=>simp[Vec.val,Value.ownBlock] at he
  |some g=>
   simp[Vec.val,Value.ownBlock] at he
   exact hx (g,_) (List.mem_cons_self ..) he.symm
 rcases hown'.2 with⟨hv,hn⟩|⟨g,cap,cur,hv,hbg,hg,hnc,hcm,hcs,htake⟩
 ·refine⟨Vec.empty,W',by rw[hr,hv];rfl,⟨hown'.1,fun _=>hn,fun h=>absurd rfl h⟩, ?_,fun _=>by omega⟩
  exact h.turn hk (fun p hp=>by cases hp) List.nodup_nil hgrow.os hgrow.tape hgrow.output hgrow.size (fun p hp=>by cases hp) (hoth Vec.empty hv)
 ·have hcur:cur.toList=(xs++news)++cur.toList.drop ((n+m)*size):=by
   conv=>lhs;rw[<-List.take_append_drop ((n+m)*size) cur.toList]
   rw[htake]
  refine⟨⟨some g,cap,cur.toList.drop ((n+m)*size)⟩,W',by rw[hr,hv];rfl,⟨hown'.1,fun h=>by simp at h,fun _=>⟨hnc,hcm, ?_⟩⟩, ?_,fun h=>by simp at h⟩
  ·have:=congrArg List.length hcur
   rw[List.length_append] at this
   simp only[Array.length_toList] at this
   rw[<-this,hcs]
  ·refine h.turn hk (fun p hp=> ?_) (List.nodup_cons.2 ⟨List.not_mem_nil,List.nodup_nil⟩) hgrow.os hgrow.tape hgrow.output hgrow.size (fun p hp=> ?_) (hoth ⟨some g,cap,[]⟩ hv)
   ·obtain rfl:=List.mem_singleton.1 hp
    show(∃q∈(V.bx e xs).blk,q.1=g)\/W.heap.size<=g
    rcases hat with hat|hat
    ·left
     obtain⟨p,cap',junk⟩:=V
     rw[hv] at hat
     cases p with
     |none=>simp[Vec.val,Value.ownBlock] at hat
     |some g'=>
      simp[Vec.val,Value.ownBlock] at hat
      exact⟨(g',_),List.mem_cons_self ..,hat.symm⟩
    ·right
     rw[hv] at hat
     simp[Value.ownBlock] at hat
     omega
   ·obtain rfl:=List.mem_singleton.1 hp
    show W'.heap[g]? =some (.cells ((xs++news)++cur.toList.drop ((n+m)*size)).toArray e (0,0))
    rw[<-hcur]
    exact hg
theorem EW (k:Nat) {d:Nat} {t e:TypeId} {size bytes:Nat} {z:Value} (hty:VecTy P t e size bytes z) {c:Call} {s x:Operand} {V:Vec} {m cp len:Nat} {xs news:List Value} {a:Addr}
  (hg:Aw ops N env o=some true) (hd:o.dst=some d) (ho:o.op= .call c) (hc:c.callee= .builtin .append) (ha:c.args= #[s,x]) (hat:c.argTypes= #[t,t])
  (hs:evO N env s=some (V.val len)) (hx:evO N env x=some (.slice (some a) m cp)) (hk:nth bxs k=some (V.bx e xs)) (hV:V.OK size len xs)
  (hl:news.length=m*size) (hnews: ∀W,Hp W0 bxs W-> ∀j u,news[j]? =some u->W.cell? (a.add j)=some u) (h1: ∀u∈news,u.oneCell'=true) (h63:len+m<=maxLen) (hbytes:(len+m)*bytes<=140737488355328)
  (h: ∀V':Vec,V'.OK size (len+m) (xs++news)->(V'.p=none->m=0)->WL r n P N D ops Q rest ((d,V'.val (len+m))::env) (Hp W0 (bxs.set k (V'.bx e (xs++news))))):WL r n P N D ops Q (o::rest) env (Hp W0 bxs):= .mk fun act W h2 h3 hp=>by
 refine BO hg h2 (fun c e=>by rw[ho] at e;cases e) ?_
 obtain⟨V',W',hr,hV',hp',hn'⟩:=hp.appendV (ty:=o.type) (c:=cp) hty k hk hV hl (hnews W hp) h1 h63 hbytes
 have e1:c.args.map (ov env act).eval= #[V.val len, .slice (some a) m cp]:=by rw[ha];simp[AB h2 _ _ hs,AB h2 _ _ hx]
 have:(execOp (ov env act).eval o).run P W= .ok (.value (V'.val (len+m))) W':=by
  simp only[execOp,ho,resolve,hc,invoke,builtin,e1,hat,Sem.run_bind,Sem.run_pure,Result.andThen_ok,hr]
 rw[this]
 simp only[Oper.uponIn,hd]
 exact(h V' hV' hn').out act W' h2 h3 hp'
theorem TV (k j:Nat) {d:Nat} {t e:TypeId} {size bytes:Nat} {z:Value} (hty:VecTy P t e size bytes z) {c:Call} {s x:Operand} {V:Vec} {m cp len:Nat} {xs:List Value} {B:Bx}
  (hg:Aw ops N env o=some true) (hd:o.dst=some d) (ho:o.op= .call c) (hc:c.callee= .builtin .append) (ha:c.args= #[s,x]) (hat:c.argTypes= #[t,t])
  (hj:nth bxs j=some B) (hon:B.row=true) (hx:evO N env x=some (.slice (some ⟨B.b,0,none⟩) m cp))
  (hs:evO N env s=some (V.val len)) (hk:nth bxs k=some (V.bx e xs)) (hV:V.OK size len xs)
  (hl:B.cells.length=m*size) (h1:Dp B.cells=true) (h63:len+m<=maxLen) (hbytes:(len+m)*bytes<=140737488355328)
  (h: ∀V':Vec,V'.OK size (len+m) (xs++B.cells)->(V'.p=none->m=0)->WL r n P N D ops Q rest ((d,V'.val (len+m))::env) (Hp W0 (bxs.set k (V'.bx e (xs++B.cells))))):WL r n P N D ops Q (o::rest) env (Hp W0 bxs):=by
 refine EW k hty hg hd ho hc ha hat hs hx hk hV hl (fun W hp i u hu=> ?_) ?_ h63 hbytes h
 ·rw[Bv] at hj
  obtain⟨h5,h6⟩:=Bx.row_on hon
  have:=(hp.at_ _ _ hj h5).1
  rw[h6] at this
  rw[Addr.add_none,Gq this]
  simpa using hu
 ·have: ∀(l:List Value),Dp l=true-> ∀u∈l,u.oneCell'=true:=by
   intro l
   induction l with
   |nil=>intro _ u hu;cases hu
   |cons v l ih=>
    intro hl u hu
    unfold Dp at hl
    split at hl
    ·rename_i hv
     rcases List.mem_cons.1 hu with rfl|hu
     ·cases u<;>first|rfl|(simp[one] at hv;done)
     ·exact ih hl u hu
    ·cases hl
  exact this _ h1
end
end Go.Am
namespace Go.Am
open Go Go.RowKit
section
variable {r:Option Nat} {n:Nat} {P:Program} {W0:World} {N:Nat} {D:List Deferred} {ops:List Oper} {Q:Exit->Act->World->Prop} {o:Oper} {rest:List Oper} {env:Env} {bxs:List Bx} {A A2:World->Prop} {R:Act->World->Prop}
theorem MN (len cap:Nat) {lo hi:Option Value} {l h:Nat} (hl:lo=none/\l=0\/ ∃k,lo=some (.int k (l:Nat))) (hh:hi=none/\h=len\/ ∃k,hi=some (.int k (h:Nat))) (h1:l<=h) (h2:h<=cap) (W:World):
  (Instr.sliceBounds true len cap lo hi none).run P W= .ok (l,h,cap) W:=by
 rcases hl with⟨rfl,rfl⟩|⟨k,rfl⟩<;>rcases hh with⟨rfl,rfl⟩|⟨k',rfl⟩<;>simp[Instr.sliceBounds,Instr.sliceBound,asIntOf,h1,h2]
theorem Qp {T:Tbl} {i:TI} {ρ:Operand->Value} {t:TypeId} {x:Operand} {lo hi:Option Operand} {a:Option Addr} {len cap l h:Nat} (hT:okB P T=true) (ho:o.op= .slice t x lo hi none) (ht:Cw T t=some i) (hk:i.kind=2) (hx:ρ x= .slice a len cap)
  (hl:lo.map ρ=none/\l=0\/ ∃k,lo.map ρ=some (.int k (l:Nat))) (hh:hi.map ρ=none/\h=len\/ ∃k,hi.map ρ=some (.int k (h:Nat))) (h1:l<=h) (h2:h<=cap) (W:World):
  (execOp ρ o).run P W= .ok (.value (.slice (if cap=l then a else a.map (·.add (l*i.elemSize))) (h-l) (cap-l))) W:=by
 obtain⟨hu,hs⟩:=Fb (BA hT ht) hk
 have hb:=MN (P:=P) len cap hl hh h1 h2 W
 simp only[execOp,ho,Instr.sliceAt,Sem.run_bind,run_underlying hu,Result.andThen_ok,Instr.slice,hx,Option.map_none,hb,Ey hs,Sem.run_pure]
theorem BG {T:Tbl} {i:TI} {d:Nat} {t:TypeId} {x y:Operand} {k:IntKind} {a:Option Addr} {len cap:Nat} {z:Int} (h:Nat) (hT:okB P T=true) (hg:Aw ops N env o=some true) (hd:o.dst=some d) (ho:o.op= .slice t x none (some y) none)
  (ht:Cw T t=some i) (hk:i.kind=2) (hx:evO N env x=some (.slice a len cap)) (hy:evO N env y=some (.int k z)) (hz:z=h) (h2:h<=cap)
  (hn:WL r n P N D ops Q rest ((d, .slice a h cap)::env) A):WL r n P N D ops Q (o::rest) env A:=
 CP hg hd (fun c e=>by rw[ho] at e;cases e) (fun ρ W hρ _=>by
  subst hz
  have:=Qp (P:=P) (l:=0) (h:=h) hT ho ht hk (hρ _ _ hx) (.inl ⟨rfl,rfl⟩) (.inr ⟨k,by rw[Option.map_some,hρ _ _ hy]⟩) (Nat.zero_le _) h2 W
  rw[this]
  have e:(if cap=0 then a else a.map (·.add (0*i.elemSize)))=a:=by
   split
   ·rfl
   ·cases a with
    |none=>rfl
    |some a=>simp[Addr.add]
  rw[e];rfl) hn
theorem Dv {T:Tbl} {i:TI} {d:Nat} {t:TypeId} {x y':Operand} {k':IntKind} {b off:Nat} {len cap:Nat} {z':Int} (l:Nat) (hT:okB P T=true) (hg:Aw ops N env o=some true) (hd:o.dst=some d) (ho:o.op= .slice t x (some y') none none)
  (ht:Cw T t=some i) (hk:i.kind=2) (hx:evO N env x=some (.slice (some ⟨b,off,none⟩) len cap)) (hy':evO N env y'=some (.int k' z')) (hz':z'=l) (h1:l<=len) (h2:len<=cap)
  (hn:WL r n P N D ops Q rest ((d, .slice (some ⟨b,if cap=l then off else off+l*i.elemSize,none⟩) (len-l) (cap-l))::env) A):WL r n P N D ops Q (o::rest) env A:=
 CP hg hd (fun c e=>by rw[ho] at e;cases e) (fun ρ W hρ _=>by
  subst hz'
  have:=Qp (P:=P) (l:=l) (h:=len) hT ho ht hk (hρ _ _ hx) (.inr ⟨k',by rw[Option.map_some,hρ _ _ hy']⟩) (.inl ⟨rfl,rfl⟩) h1 h2 W
  rw[this]
  have e:(if cap=l then some (⟨b,off,none⟩:Addr) else(some (⟨b,off,none⟩:Addr)).map (·.add (l*i.elemSize)))=some ⟨b,if cap=l then off else off+l*i.elemSize,none⟩:=by
   split
   ·rfl
   ·simp[Addr.add_none]
  rw[e]) hn
theorem LZ {W:World} {t u ty e:TypeId} {size bytes:Nat} {z:Value} (hty:VecTy P t e size bytes z) {ku:IntKind} (hu:P.underlying u=some (.int ku)) (m:Nat) (h0:0<m) (hb:m*bytes<=140737488355328) (h63:m<=maxLen):
  (Builtin.append_ #[t,u] ty #[.slice none 0 0, .int .i64 (m:Nat)]).run P W=
   .ok (.slice (some ⟨W.heap.size,0,none⟩) m (grownCap W m 0 e)) (W.drew.alloc (.cells (Builtin.zeroCells z.cells m++Builtin.zeroCells z.cells (grownCap W m 0 e-m)) e)):=by
 obtain⟨i,hi,hz,hsz,hby⟩:=hty.hi
 have hs:=hty.pos
 subst hsz;subst hby
 have hn:m≠0:=by omega
 have hw:IntKind.i64.wrap (m:Nat)=(m:Int):=AM (by omega) (by simp only[maxLen] at h63;omega)
 have h63': ¬(9223372036854775807<(m:Int)):=by simp only[maxLen] at h63;omega
 have h48: ¬((281474976710656:Int)<(m:Int)*(i.bytes:Int)):=by
  have:(m:Int)*(i.bytes:Int)=((m*i.bytes:Nat):Int):=by simp
  rw[this];omega
 have h48': ¬(281474976710656<Builtin.nextslicecap m 0*i.bytes):=by rw[nextslicecap_zero h0];omega
 have hms: ¬(m*i.size=0):=by have:=Nat.mul_pos h0 hs;omega
 have hm0: ¬((m:Int)<0):=by omega
 simp[Builtin.append_,run_underlying hty.ht,run_underlying hu,sizeOf,typeInfo,zeroValue,hi,hz,hn,hw,h63',h48,h48',hm0,asInt,asIntOf,Question.forced,run_firstCells_none,newRow,grownCap]
 exact fun h=>absurd h hms
theorem Hl (z:Array Value) (m:Nat):(Builtin.zeroCells z m).toList=Cf z.toList m:=by
 unfold Builtin.zeroCells
 exact OV z m z.size rfl
theorem I3 {d:Nat} {t u e:TypeId} {size bytes:Nat} {z:Value} (hty:VecTy P t e size bytes z) {ku:IntKind} (hu:P.underlying u=some (.int ku)) {c:Call} {s x:Operand} (m:Nat) {zi:Int}
  (hg:Aw ops N env o=some true) (hd:o.dst=some d) (ho:o.op= .call c) (hc:c.callee= .builtin .append) (ha:c.args= #[s,x]) (hat:c.argTypes= #[t,u])
  (hs:evO N env s=some (.slice none 0 0)) (hx:evO N env x=some (.int .i64 zi)) (hzi:zi=m) (h0:0<m) (h63:m<=maxLen) (hbytes:m*bytes<=140737488355328)
  (h: ∀V:Vec,V.OK size m (Cf z.cells.toList m)->V.p≠none->V.junk=Cf z.cells.toList (V.cap-m)->WL r n P N D ops Q rest ((d,V.val m)::env) (Hp W0 (bxs++[V.bx e (Cf z.cells.toList m)]))):WL r n P N D ops Q (o::rest) env (Hp W0 bxs):= .mk fun act W h2 h3 hp=>by
 refine BO hg h2 (fun c e=>by rw[ho] at e;cases e) ?_
 subst hzi
 have hr:=LZ (P:=P) (W:=W) (ty:=o.type) hty hu m h0 hbytes h63
 have e1:c.args.map (ov env act).eval= #[.slice none 0 0, .int .i64 (m:Nat)]:=by rw[ha];simp[AB h2 _ _ hs,AB h2 _ _ hx]
 obtain⟨g,hgc⟩: ∃g,grownCap W m 0 e=g:=⟨_,rfl⟩
 have hge:m<=g:=hgc▸grownCap_ge W m 0 e
 have hle:g<=maxLen:=hgc▸grownCap_le_maxLen W m 0 e h63
 rw[hgc] at hr
 have:(execOp (ov env act).eval o).run P W= .ok (.value (.slice (some ⟨W.heap.size,0,none⟩) m g)) (W.drew.alloc (.cells (Builtin.zeroCells z.cells m++Builtin.zeroCells z.cells (g-m)) e)):=by
  simp only[execOp,ho,resolve,hc,invoke,builtin,e1,hat,Sem.run_bind,Sem.run_pure,Result.andThen_ok,hr]
 rw[this]
 simp only[Oper.uponIn,hd]
 have hlen: ∀k,(Cf z.cells.toList k).length=k*size:=fun k=>by rw[Fv];simp[hty.hzs]
 refine(h ⟨some W.heap.size,g,Cf z.cells.toList (g-m)⟩ ⟨hlen m,(fun h=>by cases h),fun _=>⟨hge,hle, ?_⟩⟩ (by simp) rfl).out act _ h2 h3 ?_
 ·show(Cf z.cells.toList m).length+(Cf z.cells.toList (g-m)).length=g*size
  rw[hlen,hlen, <-Nat.add_mul];congr 1;omega
 ·have hp2:Hp W0 bxs W.drew:=hp.grow ⟨rfl,rfl,rfl,Nat.le_refl _,fun _ _=>rfl⟩
  have hp3:=hp2.alloc e (Cf z.cells.toList m++Cf z.cells.toList (g-m))
  have e2:(Builtin.zeroCells z.cells m++Builtin.zeroCells z.cells (g-m))=(Cf z.cells.toList m++Cf z.cells.toList (g-m)).toArray:=by
   apply Array.toList_inj.1
   simp[Hl]
  rw[e2]
  exact hp3
theorem P0 {ρ:Operand->Value} {W:World} {t e:TypeId} {size bytes:Nat} {z:Value} (hty:VecTy P t e size bytes z) {x y:Operand} (m:Nat) (ho:o.op= .makeSlice t x y) (hx:ρ x= .int .i64 (m:Nat)) (hy:ρ y= .int .i64 (m:Nat)) (h63:m<=maxLen) (hb:m*bytes<=140737488355328):
  (execOp ρ o).run P W= .ok (.value (.slice (some ⟨W.heap.size,0,none⟩) m m)) (W.alloc (.cells (Cf z.cells.toList m).toArray e)):=by
 obtain⟨i,hi,hz,hsz,hby⟩:=hty.hi
 subst hsz;subst hby
 have hw:IntKind.i64.wrap (m:Nat)=(m:Int):=AM (by omega) (by simp only[maxLen] at h63;omega)
 have h48: ¬((281474976710656:Int)<(i.bytes:Int)*(m:Int)):=by
  have:(i.bytes:Int)*(m:Int)=((m*i.bytes:Nat):Int):=by rw[Nat.mul_comm];simp
  rw[this];omega
 have h0: ¬((m:Int)<0):=by omega
 have hz':((Array.range (m*i.size)).map (z.cells[· %z.cells.size]!))=(Cf z.cells.toList m).toArray:=by
  apply Array.toList_inj.1
  rw[OV _ _ _ hty.hzs.symm]
 by_cases hm:m=0
 ·subst hm
  simp[execOp,ho,Instr.makeSlice,run_underlying hty.ht,hx,hy,asInt,asIntOf,typeInfo,hi,sizeOf,newRow,Cf]
  have:IntKind.i64.wrap 0=0:=rfl
  have e0:Array.map (fun _:Nat=>(default:Value)) (Array.range 0)= #[]:=by apply Array.toList_inj.1;simp
  simp[this,e0]
 ·have hms: ¬(m*i.size=0):=by have:=Nat.mul_pos (show 0<m by omega) hty.pos;omega
  simp only[execOp,ho,Instr.makeSlice,Sem.run_bind,run_underlying hty.ht,hx,hy,asInt,asIntOf,Sem.run_pure,Result.andThen_ok,typeInfo,hw]
  simp[h48,h0,run_askRoom,sizeOf,typeInfo,hi,zeroValue,hz,newRow]
  rw[if_neg hms, <-hz']
theorem Cr {d:Nat} {t e:TypeId} {size bytes:Nat} {z:Value} (hty:VecTy P t e size bytes z) {x y:Operand} (m:Nat) {zx zy:Int}
  (hg:Aw ops N env o=some true) (hd:o.dst=some d) (ho:o.op= .makeSlice t x y)
  (hx:evO N env x=some (.int .i64 zx)) (hy:evO N env y=some (.int .i64 zy)) (hzx:zx=m) (hzy:zy=m) (h63:m<=maxLen) (hb:m*bytes<=140737488355328)
  (h: ∀b,WL r n P N D ops Q rest ((d, .slice (some ⟨b,0,none⟩) m m)::env) (Hp W0 (bxs++[⟨b,e,Cf z.cells.toList m,true,none⟩]))):WL r n P N D ops Q (o::rest) env (Hp W0 bxs):= .mk fun act W h2 h3 hp=>by
 refine BO hg h2 (fun c e=>by rw[ho] at e;cases e) ?_
 subst hzx;subst hzy
 rw[P0 (P:=P) (W:=W) hty m ho (AB h2 _ _ hx) (AB h2 _ _ hy) h63 hb]
 simp only[Oper.uponIn,hd]
 exact(h W.heap.size).out act _ h2 h3 (hp.alloc e _)
end
end Go.Am
namespace Go.Proofs
open Go
def Tryz.T:Am.Tbl:=[
 (3, { size:=1 }),
 (4, { size:=1 }),
 (5, { size:=1 }),
 (9, { size:=1,kind:=1 }),
 (22, { size:=1,elem:=48,elemSize:=1,kind:=2 }),
 (24, { agg:=true,size:=1,fields:=[(0,1,false)],kind:=4 }),
 (25, { size:=1,kind:=1 }),
 (27, { agg:=true,size:=6,fields:=[(0,1,false),(1,1,false),(2,1,false),(3,1,false),(4,1,false),(5,1,false)],kind:=4 }),
 (33, { agg:=true,size:=3,fields:=[(0,1,false),(1,1,false),(2,1,false)],kind:=4 }),
 (34, { size:=1 }),
 (37, { size:=1,elem:=33,elemSize:=3,kind:=2 }),
 (41, { agg:=true,size:=5,fields:=[(0,1,false),(1,1,false),(2,1,false),(3,1,false),(4,1,false)],kind:=4 }),
 (48, { size:=1,elem:=82,elemSize:=7,kind:=2 }),
 (50, { size:=1,elem:=85,elemSize:=7,kind:=2 }),
 (54, { agg:=true,size:=4,fields:=[(0,1,true),(1,1,false),(2,1,false),(3,1,false)],kind:=4 }),
 (57, { size:=1,elem:=41,elemSize:=5,kind:=2 }),
 (59, { agg:=true,size:=5,fields:=[(0,1,false),(1,1,false),(2,1,false),(3,1,false),(4,1,false)],kind:=4 }),
 (75, { size:=1,elem:=25,elemSize:=1,kind:=2 }),
 (77, { size:=1,elem:=59,elemSize:=5,kind:=2 }),
 (82, { agg:=true,size:=7,fields:=[(0,1,false),(1,1,false),(2,1,false),(3,1,false),(4,1,false),(5,1,false),(6,1,false)],kind:=4 }),
 (85, { agg:=true,size:=7,fields:=[(0,1,false),(1,1,false),(2,1,false),(3,1,false),(4,1,false),(5,1,false),(6,1,false)],kind:=4 }),
 (86, { size:=1,elem:=132,elemSize:=1,kind:=2 }),
 (88, { agg:=true,size:=3,fields:=[(0,1,false),(1,1,false),(2,1,false)],kind:=4 }),
 (96, { size:=1 }),
 (105, { agg:=true,size:=2,fields:=[(0,1,false),(1,1,false)],kind:=4 }),
 (118, { agg:=true,size:=2,fields:=[(0,1,false),(1,1,false)],kind:=4 }),
 (122, { agg:=true,size:=2,fields:=[(0,1,false),(1,1,false)],kind:=4 }),
 (127, { size:=1 }),
 (130, { agg:=true,size:=2,elem:=25,elemSize:=1,kind:=3 }),
 (131, { size:=1,elem:=130,elemSize:=2,kind:=2 }),
 (132, { size:=1,elem:=105,elemSize:=2,kind:=2 }),
 (137, { size:=1,elem:=96,elemSize:=1,kind:=2 }),
 (144, { agg:=true,size:=3,fields:=[(0,1,false),(1,1,false),(2,1,false)],kind:=4 }),
 (172, { size:=1,elem:=3,elemSize:=1,kind:=2 }),
 (174, { agg:=true,size:=2,fields:=[(0,1,false),(1,1,false)],kind:=4 }),
 (183, { agg:=true,size:=2,fields:=[(0,1,false),(1,1,false)],kind:=4 }),
 (184, { agg:=true,size:=8,elem:=183,elemSize:=2,kind:=3 }),
 (198, { agg:=true,size:=1,fields:=[(0,1,false)],kind:=4 }),
 (204, { agg:=true,size:=2,fields:=[(0,1,false),(1,1,false)],kind:=4 }),
 (222, { size:=1 }),
 (238, { agg:=true,size:=21,fields:=[(0,7,true),(7,7,true),(14,7,true)],kind:=4 }),
 (240, { agg:=true,size:=2,fields:=[(0,1,false),(1,1,false)],kind:=4 }),
 (244, { size:=1,elem:=247,elemSize:=4,kind:=2 }),
 (245, { size:=1,elem:=250,elemSize:=2,kind:=2 }),
 (247, { agg:=true,size:=4,fields:=[(0,2,true),(2,2,true)],kind:=4 }),
 (250, { agg:=true,size:=2,fields:=[(0,1,false),(1,1,false)],kind:=4 }),
 (264, { size:=1 }),
 (266, { agg:=true,size:=1,fields:=[(0,1,false)],kind:=4 }),
 (270, { agg:=true,size:=4,elem:=105,elemSize:=2,kind:=3 }),
 (276, { agg:=true,size:=3,elem:=25,elemSize:=1,kind:=3 }),
 (285, { size:=1,elem:=5,elemSize:=1,kind:=2 }),
 (296, { size:=1 }),
 (298, { agg:=true,size:=2,fields:=[(0,1,false),(1,1,false)],kind:=4 }),
 (320, { agg:=true,size:=24,elem:=5,elemSize:=1,kind:=3 }),
 (321, { size:=1 }),
 (332, { agg:=true,size:=256,elem:=4,elemSize:=1,kind:=3 }),
 (348, { size:=1 }),
 (356, { agg:=true,size:=20,elem:=321,elemSize:=1,kind:=3 }),
 (358, { agg:=true,size:=65,elem:=5,elemSize:=1,kind:=3 }),
 (370, { agg:=true,size:=3,fields:=[(0,1,false),(1,1,false),(2,1,false)],kind:=4 }),
 (393, { agg:=true,size:=1,fields:=[(0,1,false)],kind:=4 }),
 (395, { size:=1 }),
 (401, { agg:=true,size:=32,elem:=5,elemSize:=1,kind:=3 }),
 (402, { agg:=true,size:=64,elem:=5,elemSize:=1,kind:=3 }),
 (404, { agg:=true,size:=256,elem:=5,elemSize:=1,kind:=3 }),
 (406, { agg:=true,size:=2,fields:=[(0,1,false),(1,1,false)],kind:=4 }),
 (407, { agg:=true,size:=32,elem:=406,elemSize:=2,kind:=3 })]
theorem Tryz.hT:Am.okB Tryz.prog Tryz.T=true:=by kernel_rfl
def Tryz.Z:List (Nat×Value):=[
 (3, .int .i64 0),
 (4, .bool false),
 (5, .int .u8 0),
 (9, .string ⟨#[]⟩),
 (22, .slice none 0 0),
 (24, .agg #[.slice none 0 0]),
 (25, .string ⟨#[]⟩),
 (27, .agg #[.int .i64 0, .string ⟨#[]⟩, .string ⟨#[]⟩, .string ⟨#[]⟩, .int .i64 0, .int .i64 0]),
 (33, .agg #[.string ⟨#[]⟩, .string ⟨#[]⟩, .string ⟨#[]⟩]),
 (34, .int .i64 0),
 (37, .slice none 0 0),
 (41, .agg #[.int .i64 0, .string ⟨#[]⟩, .string ⟨#[]⟩, .string ⟨#[]⟩, .string ⟨#[]⟩]),
 (48, .slice none 0 0),
 (50, .slice none 0 0),
 (54, .agg #[.slice none 0 0, .slice none 0 0, .slice none 0 0, .slice none 0 0]),
 (57, .slice none 0 0),
 (59, .agg #[.bool false, .int .i64 0, .int .i64 0, .string ⟨#[]⟩, .string ⟨#[]⟩]),
 (75, .slice none 0 0),
 (77, .slice none 0 0),
 (82, .agg #[.int .i64 0, .int .i64 0, .int .i64 0, .int .i64 0, .bool false, .int .i64 0, .int .i64 0]),
 (85, .agg #[.int .i64 0, .string ⟨#[]⟩, .string ⟨#[]⟩, .string ⟨#[]⟩, .string ⟨#[]⟩, .string ⟨#[]⟩, .string ⟨#[]⟩]),
 (86, .slice none 0 0),
 (88, .agg #[.slice none 0 0, .slice none 0 0, .slice none 0 0]),
 (105, .agg #[.string ⟨#[]⟩, .string ⟨#[]⟩]),
 (118, .agg #[.int .i64 0, .int .i64 0]),
 (122, .agg #[.string ⟨#[]⟩, .string ⟨#[]⟩]),
 (130, .agg #[.string ⟨#[]⟩, .string ⟨#[]⟩]),
 (131, .slice none 0 0),
 (132, .slice none 0 0),
 (137, .slice none 0 0),
 (144, .agg #[.string ⟨#[]⟩, .string ⟨#[]⟩, .string ⟨#[]⟩]),
 (172, .slice none 0 0),
 (174, .agg #[.bool false, .slice none 0 0]),
 (183, .agg #[.bool false, .int .i64 0]),
 (184, .agg #[.bool false, .int .i64 0, .bool false, .int .i64 0, .bool false, .int .i64 0, .bool false, .int .i64 0]),
 (198, .agg #[.int .i64 0]),
 (204, .agg #[.bool false, .slice none 0 0]),
 (222, .nilIface),
 (238, .agg #[.int .i64 0, .int .i64 0, .int .i64 0, .int .i64 0, .bool false, .int .i64 0, .int .i64 0, .int .i64 0, .int .i64 0, .int .i64 0, .int .i64 0, .bool false, .int .i64 0, .int .i64 0, .int .i64 0, .int .i64 0, .int .i64 0, .int .i64 0, .bool false, .int .i64 0, .int .i64 0]),
 (240, .agg #[.int .i64 0, .int .i64 0]),
 (244, .slice none 0 0),
 (245, .slice none 0 0),
 (247, .agg #[.int .i64 0, .int .i64 0, .int .i64 0, .int .i64 0]),
 (250, .agg #[.int .i64 0, .int .i64 0]),
 (264, .pointer none),
 (266, .agg #[.int .i64 0]),
 (270, .agg #[.string ⟨#[]⟩, .string ⟨#[]⟩, .string ⟨#[]⟩, .string ⟨#[]⟩]),
 (276, .agg #[.string ⟨#[]⟩, .string ⟨#[]⟩, .string ⟨#[]⟩]),
 (285, .slice none 0 0),
 (296, .pointer none),
 (298, .agg #[.pointer none, .slice none 0 0]),
 (320, .agg #[.int .u8 0, .int .u8 0, .int .u8 0, .int .u8 0, .int .u8 0, .int .u8 0, .int .u8 0, .int .u8 0, .int .u8 0, .int .u8 0, .int .u8 0, .int .u8 0, .int .u8 0, .int .u8 0, .int .u8 0, .int .u8 0, .int .u8 0, .int .u8 0, .int .u8 0, .int .u8 0, .int .u8 0, .int .u8 0, .int .u8 0, .int .u8 0]),
 (321, .int .u64 0),
 (348, .pointer none),
 (356, .agg #[.int .u64 0, .int .u64 0, .int .u64 0, .int .u64 0, .int .u64 0, .int .u64 0, .int .u64 0, .int .u64 0, .int .u64 0, .int .u64 0, .int .u64 0, .int .u64 0, .int .u64 0, .int .u64 0, .int .u64 0, .int .u64 0, .int .u64 0, .int .u64 0, .int .u64 0, .int .u64 0]),
 (370, .agg #[.string ⟨#[]⟩, .string ⟨#[]⟩, .nilIface]),
 (393, .agg #[.string ⟨#[]⟩]),
 (395, .int .u64 0),
 (401, .agg #[.int .u8 0, .int .u8 0, .int .u8 0, .int .u8 0, .int .u8 0, .int .u8 0, .int .u8 0, .int .u8 0, .int .u8 0, .int .u8 0, .int .u8 0, .int .u8 0, .int .u8 0, .int .u8 0, .int .u8 0, .int .u8 0, .int .u8 0, .int .u8 0, .int .u8 0, .int .u8 0, .int .u8 0, .int .u8 0, .int .u8 0, .int .u8 0, .int .u8 0, .int .u8 0, .int .u8 0, .int .u8 0, .int .u8 0, .int .u8 0, .int .u8 0, .int .u8 0]),
 (406, .agg #[.int .u8 0, .int .u8 0]),
 (407, .agg #[.int .u8 0, .int .u8 0, .int .u8 0, .int .u8 0, .int .u8 0, .int .u8 0, .int .u8 0, .int .u8 0, .int .u8 0, .int .u8 0, .int .u8 0, .int .u8 0, .int .u8 0, .int .u8 0, .int .u8 0, .int .u8 0, .int .u8 0, .int .u8 0, .int .u8 0, .int .u8 0, .int .u8 0, .int .u8 0, .int .u8 0, .int .u8 0, .int .u8 0, .int .u8 0, .int .u8 0, .int .u8 0, .int .u8 0, .int .u8 0, .int .u8 0, .int .u8 0])]
theorem Tryz.hZ:Am.ZOk Tryz.prog Tryz.Z:=
 .cons (fun W=>by kernel_rfl)<|
 .cons (fun W=>by kernel_rfl)<|
 .cons (fun W=>by kernel_rfl)<|
 .cons (fun W=>by kernel_rfl)<|
 .cons (fun W=>by kernel_rfl)<|
 .cons (fun W=>by kernel_rfl)<|
 .cons (fun W=>by kernel_rfl)<|
 .cons (fun W=>by kernel_rfl)<|
 .cons (fun W=>by kernel_rfl)<|
 .cons (fun W=>by kernel_rfl)<|
 .cons (fun W=>by kernel_rfl)<|
 .cons (fun W=>by kernel_rfl)<|
 .cons (fun W=>by kernel_rfl)<|
 .cons (fun W=>by kernel_rfl)<|
 .cons (fun W=>by kernel_rfl)<|
 .cons (fun W=>by kernel_rfl)<|
 .cons (fun W=>by kernel_rfl)<|
 .cons (fun W=>by kernel_rfl)<|
 .cons (fun W=>by kernel_rfl)<|
 .cons (fun W=>by kernel_rfl)<|
 .cons (fun W=>by kernel_rfl)<|
 .cons (fun W=>by kernel_rfl)<|
 .cons (fun W=>by kernel_rfl)<|
 .cons (fun W=>by kernel_rfl)<|
 .cons (fun W=>by kernel_rfl)<|
 .cons (fun W=>by kernel_rfl)<|
 .cons (fun W=>by kernel_rfl)<|
 .cons (fun W=>by kernel_rfl)<|
 .cons (fun W=>by kernel_rfl)<|
 .cons (fun W=>by kernel_rfl)<|
 .cons (fun W=>by kernel_rfl)<|
 .cons (fun W=>by kernel_rfl)<|
 .cons (fun W=>by kernel_rfl)<|
 .cons (fun W=>by kernel_rfl)<|
 .cons (fun W=>by kernel_rfl)<|
 .cons (fun W=>by kernel_rfl)<|
 .cons (fun W=>by kernel_rfl)<|
 .cons (fun W=>by kernel_rfl)<|
 .cons (fun W=>by kernel_rfl)<|
 .cons (fun W=>by kernel_rfl)<|
 .cons (fun W=>by kernel_rfl)<|
 .cons (fun W=>by kernel_rfl)<|
 .cons (fun W=>by kernel_rfl)<|
 .cons (fun W=>by kernel_rfl)<|
 .cons (fun W=>by kernel_rfl)<|
 .cons (fun W=>by kernel_rfl)<|
 .cons (fun W=>by kernel_rfl)<|
 .cons (fun W=>by kernel_rfl)<|
 .cons (fun W=>by kernel_rfl)<|
 .cons (fun W=>by kernel_rfl)<|
 .cons (fun W=>by kernel_rfl)<|
 .cons (fun W=>by kernel_rfl)<|
 .cons (fun W=>by kernel_rfl)<|
 .cons (fun W=>by kernel_rfl)<|
 .cons (fun W=>by kernel_rfl)<|
 .cons (fun W=>by kernel_rfl)<|
 .cons (fun W=>by kernel_rfl)<|
 .cons (fun W=>by kernel_rfl)<|
 .cons (fun W=>by kernel_rfl)<|
 .cons (fun W=>by kernel_rfl)<|
 .cons (fun W=>by kernel_rfl)<|
 .nil
theorem Tryz.vec37:Am.VecTy Tryz.prog 37 33 3 48 (.agg #[.string ⟨#[]⟩, .string ⟨#[]⟩, .string ⟨#[]⟩]):=⟨by kernel_rfl,by kernel_rfl,by kernel_rfl,by kernel_rfl,rfl,by decide⟩
theorem Tryz.vec48:Am.VecTy Tryz.prog 48 82 7 56 (.agg #[.int .i64 0, .int .i64 0, .int .i64 0, .int .i64 0, .bool false, .int .i64 0, .int .i64 0]):=⟨by kernel_rfl,by kernel_rfl,by kernel_rfl,by kernel_rfl,rfl,by decide⟩
theorem Tryz.vec75:Am.VecTy Tryz.prog 75 25 1 16 (.string ⟨#[]⟩):=⟨by kernel_rfl,by kernel_rfl,by kernel_rfl,by kernel_rfl,rfl,by decide⟩
theorem Tryz.vec77:Am.VecTy Tryz.prog 77 59 5 56 (.agg #[.bool false, .int .i64 0, .int .i64 0, .string ⟨#[]⟩, .string ⟨#[]⟩]):=⟨by kernel_rfl,by kernel_rfl,by kernel_rfl,by kernel_rfl,rfl,by decide⟩
theorem Tryz.vec86:Am.VecTy Tryz.prog 86 132 1 24 (.slice none 0 0):=⟨by kernel_rfl,by kernel_rfl,by kernel_rfl,by kernel_rfl,rfl,by decide⟩
theorem Tryz.vec132:Am.VecTy Tryz.prog 132 105 2 32 (.agg #[.string ⟨#[]⟩, .string ⟨#[]⟩]):=⟨by kernel_rfl,by kernel_rfl,by kernel_rfl,by kernel_rfl,rfl,by decide⟩
theorem Tryz.vec172:Am.VecTy Tryz.prog 172 3 1 8 (.int .i64 0):=⟨by kernel_rfl,by kernel_rfl,by kernel_rfl,by kernel_rfl,rfl,by decide⟩
theorem Tryz.vec244:Am.VecTy Tryz.prog 244 247 4 32 (.agg #[.int .i64 0, .int .i64 0, .int .i64 0, .int .i64 0]):=⟨by kernel_rfl,by kernel_rfl,by kernel_rfl,by kernel_rfl,rfl,by decide⟩
theorem Tryz.vec245:Am.VecTy Tryz.prog 245 250 2 16 (.agg #[.int .i64 0, .int .i64 0]):=⟨by kernel_rfl,by kernel_rfl,by kernel_rfl,by kernel_rfl,rfl,by decide⟩
theorem Tryz.vec285:Am.VecTy Tryz.prog 285 5 1 1 (.int .u8 0):=⟨by kernel_rfl,by kernel_rfl,by kernel_rfl,by kernel_rfl,rfl,by decide⟩
theorem Tryz.mixed:Tryz.prog.follows .mixedOrders=true:=by kernel_rfl
end Go.Proofs

namespace Go.Proofs
open Go Go.Am
section
variable {r:Option Nat} {n:Nat} {W0:World} {N:Nat} {D:List Deferred} {A A2:World->Prop} {ops:List Oper} {Q:Exit->Act->World->Prop} {R:Act->World->Prop} {o:Oper} {rest:List Oper} {env:Env} {bxs:List Bx}
theorem tH:Am.okB Tryz.prog Tryz.T=true:=Tryz.hT
theorem wP {d:Nat} {v:Value} (h:(Aw ops N env o,o.dst,AC Tryz.T (evO N env) o.op)=(some true,some d,some v)) (k:WL r n Tryz.prog N D ops Q rest ((d,v)::env) A):WL r n Tryz.prog N D ops Q (o::rest) env A:=BY Tryz.hT (congrArg (·.1) h) (congrArg (·.2.1) h) (congrArg (·.2.2) h) k
theorem wB (m:Nat) {i:TI} {d:Nat} {t:TypeId} {x:Operand} {B:Bx} {off:Nat} {v:Value} (h:(Aw ops N env o,o.dst,o.op)=(some true,some d, .load t x)) (h2:(Cw Tryz.T t,nth bxs m,evO N env x)=(some i,some B,some (.pointer (some ⟨B.b,off,none⟩)))) (h3:(B.row,DZ B.cells off i)=(true,some v)) (k:WL r n Tryz.prog N D ops Q rest ((d,v)::env) (Hp W0 bxs)):WL r n Tryz.prog N D ops Q (o::rest) env (Hp W0 bxs):=WG m Tryz.hT (congrArg (·.1) h) (congrArg (·.2.1) h) (congrArg (·.2.2) h) (congrArg (·.1) h2) (congrArg (·.2.1) h2) (congrArg (·.2.2) h2) (congrArg (·.1) h3) (congrArg (·.2) h3) k
theorem wI {i:TI} {d:Nat} {t:TypeId} {x y:Operand} {k:IntKind} {b off len cap:Nat} {z:Int} (h:(Aw ops N env o,o.dst,o.op)=(some true,some d, .indexAddr t x y)) (h2:(Cw Tryz.T t,i.kind,evO N env x,evO N env y)=(some i,2,some (.slice (some ⟨b,off,none⟩) len cap),some (.int k z))) (h0:0<=z) (h1:z<len) (j:WL r n Tryz.prog N D ops Q rest ((d, .pointer (some ⟨b,off+z.toNat*i.elemSize,none⟩))::env) A):WL r n Tryz.prog N D ops Q (o::rest) env A:=Rj Tryz.hT (congrArg (·.1) h) (congrArg (·.2.1) h) (congrArg (·.2.2) h) (congrArg (·.1) h2) (congrArg (·.2.1) h2) (congrArg (·.2.2.1) h2) (congrArg (·.2.2.2) h2) h0 h1 j
theorem qP {d:Nat} {v:Value} (h:(Aw ops N env o,o.dst,AC Tryz.T (evO N env) o.op)=(some true,some d,some v)) (k:WQ Tryz.prog N D ops A2 R rest ((d,v)::env) A):WQ Tryz.prog N D ops A2 R (o::rest) env A:=Ca Tryz.hT (congrArg (·.1) h) (congrArg (·.2.1) h) (congrArg (·.2.2) h) k
theorem qB (m:Nat) {i:TI} {d:Nat} {t:TypeId} {x:Operand} {B:Bx} {off:Nat} {v:Value} (h:(Aw ops N env o,o.dst,o.op)=(some true,some d, .load t x)) (h2:(Cw Tryz.T t,nth bxs m,evO N env x)=(some i,some B,some (.pointer (some ⟨B.b,off,none⟩)))) (h3:(B.row,DZ B.cells off i)=(true,some v)) (k:WQ Tryz.prog N D ops A2 R rest ((d,v)::env) (Hp W0 bxs)):WQ Tryz.prog N D ops A2 R (o::rest) env (Hp W0 bxs):=Xj m Tryz.hT (congrArg (·.1) h) (congrArg (·.2.1) h) (congrArg (·.2.2) h) (congrArg (·.1) h2) (congrArg (·.2.1) h2) (congrArg (·.2.2) h2) (congrArg (·.1) h3) (congrArg (·.2) h3) k
theorem qI {i:TI} {d:Nat} {t:TypeId} {x y:Operand} {k:IntKind} {b off len cap:Nat} {z:Int} (h:(Aw ops N env o,o.dst,o.op)=(some true,some d, .indexAddr t x y)) (h2:(Cw Tryz.T t,i.kind,evO N env x,evO N env y)=(some i,2,some (.slice (some ⟨b,off,none⟩) len cap),some (.int k z))) (h0:0<=z) (h1:z<len) (j:WQ Tryz.prog N D ops A2 R rest ((d, .pointer (some ⟨b,off+z.toNat*i.elemSize,none⟩))::env) A):WQ Tryz.prog N D ops A2 R (o::rest) env A:=Ss Tryz.hT (congrArg (·.1) h) (congrArg (·.2.1) h) (congrArg (·.2.2) h) (congrArg (·.1) h2) (congrArg (·.2.1) h2) (congrArg (·.2.2.1) h2) (congrArg (·.2.2.2) h2) h0 h1 j
theorem wS (m:Nat) {i:TI} {t:TypeId} {x y:Operand} {B:Bx} {off:Nat} {v:Value} (h:(Aw ops N env o,o.dst,o.op)=(some true,none, .store t x y)) (h2:(Cw Tryz.T t,nth bxs m,evO N env x,evO N env y)=(some i,some B,some (.pointer (some ⟨B.b,off,none⟩)),some v)) (h3:(B.row,Nat.beq v.cells.toList.length i.size,Nat.ble (off+i.size) B.cells.length,Dp v.cells.toList)=(true,true,true,true)) (k:WL r n Tryz.prog N D ops Q rest env (Hp W0 (bxs.set m { B with cells:=BF B.cells off v.cells.toList }))):WL r n Tryz.prog N D ops Q (o::rest) env (Hp W0 bxs):=UB m Tryz.hT (congrArg (·.1) h) (congrArg (·.2.1) h) (congrArg (·.2.2) h) (congrArg (·.1) h2) (congrArg (·.2.1) h2) (congrArg (·.2.2.1) h2) (congrArg (·.1) h3) (congrArg (·.2.2.2) h2) (congrArg (·.2.1) h3) (congrArg (·.2.2.1) h3) (congrArg (·.2.2.2) h3) k
theorem wX {bxq:List Bx} {d:Nat} {L fl:List Bool} (h:RS r n Tryz.prog N D ops fl Q (Hp W0 bxq) d L env (Hp W0 bxs) (Iz ops L)) (h1:Tt ops.length L=false:=by exact rfl) (h2:Nat.beq L.length ops.length=true:=by exact rfl) (h3:AK bxq bxs:=by((repeat (first|refine AK.same ?_|refine AK.off rfl ?_));exact trivial)):WT r n Tryz.prog N D ops fl Q (Hp W0 bxq) (d+1) L env (Hp W0 bxs):=Z4 h1 h2 h3 h
theorem wY {Aq:World->Prop} {d:Nat} {L fl:List Bool} (h:RS r n Tryz.prog N D ops fl Q Aq d L env (Hp W0 bxs) (Iz ops L)) (h1:Tt ops.length L=false:=by exact rfl) (h2:Nat.beq L.length ops.length=true:=by exact rfl) (h3:MC ops fl (fun i=>L.getD i false)=true:=by kernel_rfl):WT r n Tryz.prog N D ops fl Q Aq (d+1) L env (Hp W0 bxs):=Yv h1 h2 h3 h
theorem wJ {i:TI} {d:Nat} {t:TypeId} {x y:Operand} {k:IntKind} {b off len cap:Nat} {z:Int} (j:WL r n Tryz.prog N D ops Q rest ((d, .pointer (some ⟨b,off+z.toNat*i.elemSize,none⟩))::env) A) (h:(Aw ops N env o,o.dst,o.op)=(some true,some d, .indexAddr t x y):=by exact rfl) (h2:(Cw Tryz.T t,i.kind,evO N env x,evO N env y)=(some i,2,some (.slice (some ⟨b,off,none⟩) len cap),some (.int k z)):=by exact rfl) (h0:0<=z:=by omega) (h1:z<len:=by omega):WL r n Tryz.prog N D ops Q (o::rest) env A:=wI h h2 h0 h1 j
theorem qJ {i:TI} {d:Nat} {t:TypeId} {x y:Operand} {k:IntKind} {b off len cap:Nat} {z:Int} (j:WQ Tryz.prog N D ops A2 R rest ((d, .pointer (some ⟨b,off+z.toNat*i.elemSize,none⟩))::env) A) (h:(Aw ops N env o,o.dst,o.op)=(some true,some d, .indexAddr t x y):=by exact rfl) (h2:(Cw Tryz.T t,i.kind,evO N env x,evO N env y)=(some i,2,some (.slice (some ⟨b,off,none⟩) len cap),some (.int k z)):=by exact rfl) (h0:0<=z:=by omega) (h1:z<len:=by omega):WQ Tryz.prog N D ops A2 R (o::rest) env A:=qI h h2 h0 h1 j
theorem wC {c:Call} {f:Operand} {g d:Nat} {capt vs:List Value} {v:Value} (h:(Aw ops N env o,o.dst,o.op)=(some true,some d, .call c)) (h2:(c.callee,evO N env f,Cn (evO N env) c.args.toList)=(.value f,some (.func (.func g) #[] capt.toArray),some vs)) (hC: ∀W,Hp W0 bxs W->Ae Tryz.prog g (vs++capt).toArray W (fun _:Unit=>v) (fun _=>True) (fun _=>[])) (k:WL r n Tryz.prog N D ops Q rest ((d,v)::env) (Hp W0 bxs)) (hE:AS Tryz.prog g=true:=by kernel_rfl):WL r n Tryz.prog N D ops Q (o::rest) env (Hp W0 bxs):=Bz (congrArg (·.1) h) (congrArg (·.2.1) h) (congrArg (·.2.2) h) (congrArg (·.1) h2) (congrArg (·.2.1) h2) (congrArg (·.2.2) h2) hE hC k
theorem wU (t:Nat) (c:Bool) {l:List Oper} {b:Bool} (h:evO N env (.tmp t)=some (.bool b)) (e:b=c) (k:WL r n Tryz.prog N D ops Q l ((t, .bool c)::env) A):WL r n Tryz.prog N D ops Q l env A:=Ap t (.bool c) h (congrArg Value.bool e) k
theorem wV (t:Nat) (z:Int) {l:List Oper} {y:Int} (h:evO N env (.tmp t)=some (.int .i64 y)) (e:y=z) (k:WL r n Tryz.prog N D ops Q l ((t, .int .i64 z)::env) A):WL r n Tryz.prog N D ops Q l env A:=Ap t (.int .i64 z) h (congrArg (Value.int .i64) e) k
theorem wL (k:Nat) {i:TI} {d:Nat} {t:TypeId} {x:Operand} {a:Addr} {b off:Nat} {c:List Value} {v:Value} (h:(Aw ops N env o,o.dst,o.op)=(some true,some d, .load t x)) (h2:(evO N env x,Cw Tryz.T t)=(some (.pointer (some a)),some i)) (hr: ∀W,A W->Aj W b off c) (hv:DZ c k i=some v) (K:WL r n Tryz.prog N D ops Q rest ((d,v)::env) A) (ha:a=⟨b,off+k,none⟩:=by exact rfl):WL r n Tryz.prog N D ops Q (o::rest) env A:=QW (congrArg (·.1) h) (congrArg (·.2.1) h) (congrArg (·.2.2) h) (congrArg (·.1) h2) (fun W hp=>by rw[ha];exact Aj.load k Tryz.hT (congrArg (·.2) h2) (hr W hp) hv) K
theorem qC {c:Call} {f:Operand} {g d:Nat} {capt vs:List Value} {v:Value} (h:(Aw ops N env o,o.dst,o.op)=(some true,some d, .call c)) (h2:(c.callee,evO N env f,Cn (evO N env) c.args.toList)=(.value f,some (.func (.func g) #[] capt.toArray),some vs)) (hC: ∀W,Hp W0 bxs W->Ae Tryz.prog g (vs++capt).toArray W (fun _:Unit=>v) (fun _=>True) (fun _=>[])) (k:WQ Tryz.prog N D ops A2 R rest ((d,v)::env) (Hp W0 bxs)) (hE:AS Tryz.prog g=true:=by kernel_rfl):WQ Tryz.prog N D ops A2 R (o::rest) env (Hp W0 bxs):=Ho (congrArg (·.1) h) (congrArg (·.2.1) h) (congrArg (·.2.2) h) (congrArg (·.1) h2) (congrArg (·.2.1) h2) (congrArg (·.2.2) h2) hE hC k
theorem qU (t:Nat) (c:Bool) {l:List Oper} {b:Bool} (h:evO N env (.tmp t)=some (.bool b)) (e:b=c) (k:WQ Tryz.prog N D ops A2 R l ((t, .bool c)::env) A):WQ Tryz.prog N D ops A2 R l env A:=Fa t (.bool c) h (congrArg Value.bool e) k
theorem qV (t:Nat) (z:Int) {l:List Oper} {y:Int} (h:evO N env (.tmp t)=some (.int .i64 y)) (e:y=z) (k:WQ Tryz.prog N D ops A2 R l ((t, .int .i64 z)::env) A):WQ Tryz.prog N D ops A2 R l env A:=Fa t (.int .i64 z) h (congrArg (Value.int .i64) e) k
theorem qL (k:Nat) {i:TI} {d:Nat} {t:TypeId} {x:Operand} {a:Addr} {b off:Nat} {c:List Value} {v:Value} (h:(Aw ops N env o,o.dst,o.op)=(some true,some d, .load t x)) (h2:(evO N env x,Cw Tryz.T t)=(some (.pointer (some a)),some i)) (hr: ∀W,A W->Aj W b off c) (hv:DZ c k i=some v) (K:WQ Tryz.prog N D ops A2 R rest ((d,v)::env) A) (ha:a=⟨b,off+k,none⟩:=by exact rfl):WQ Tryz.prog N D ops A2 R (o::rest) env A:=KC (congrArg (·.1) h) (congrArg (·.2.1) h) (congrArg (·.2.2) h) (congrArg (·.1) h2) (fun W hp=>by rw[ha];exact Aj.load k Tryz.hT (congrArg (·.2) h2) (hr W hp) hv) K
theorem wD {c:Call} {f:Operand} {g d:Nat} {capt vs:List Value} {X:Type} {val:X->Value} {Φ:X->Prop} {nb:X->List Bx} (h:(Aw ops N env o,o.dst,o.op)=(some true,some d, .call c)) (h2:(c.callee,evO N env f,Cn (evO N env) c.args.toList)=(.value f,some (.func (.func g) #[] capt.toArray),some vs)) (hC: ∀W,Hp W0 bxs W->Ae Tryz.prog g (vs++capt).toArray W val Φ nb) (k: ∀x,Φ x->WL r n Tryz.prog N D ops Q rest ((d,val x)::env) (Hp W0 (bxs++nb x))) (hE:AS Tryz.prog g=true:=by kernel_rfl):WL r n Tryz.prog N D ops Q (o::rest) env (Hp W0 bxs):=Wk (congrArg (·.1) h) (congrArg (·.2.1) h) (congrArg (·.2.2) h) (congrArg (·.1) h2) (congrArg (·.2.1) h2) (congrArg (·.2.2) h2) hE hC k
theorem zU {id:Nat} (hq:WQ Tryz.prog N D ops (Hp W0 bxs) (wpListIn (Fw r) n Tryz.prog ops.toArray Q (ops.drop (GI ops))) (ops.take (GI ops)) env (Hp W0 bxs)) (ho:TM ops (GI ops)=true:=by kernel_rfl):WC r n Tryz.prog N D (.region id ops.toArray true) Q env (Hp W0 bxs):=TZ Tryz.mixed ho hq
theorem wF {d:Nat} {t:TypeId} {x:Operand} {v:Value} (h:(Aw ops N env o,o.dst,o.op)=(some true,some d, .box t x)) (h2:evO N env x=some v) (k: ∀b,WL r n Tryz.prog N D ops Q rest ((d, .pointer (some ⟨b,0,none⟩))::env) (Hp W0 (bxs++[⟨b,t,v.cells.toList,true,none⟩]))):WL r n Tryz.prog N D ops Q (o::rest) env (Hp W0 bxs):=Ov (congrArg (·.1) h) (congrArg (·.2.1) h) (congrArg (·.2.2) h) h2 k
theorem wG {d:Nat} {t:TypeId} {z:Value} (h:(Aw ops N env o,o.dst,o.op)=(some true,some d, .alloc t)) (h2:Lw Tryz.Z t=some z) (k: ∀b,WL r n Tryz.prog N D ops Q rest ((d, .pointer (some ⟨b,0,none⟩))::env) (Hp W0 (bxs++[⟨b,t,z.cells.toList,true,none⟩]))):WL r n Tryz.prog N D ops Q (o::rest) env (Hp W0 bxs):=B5 Tryz.hZ (congrArg (·.1) h) (congrArg (·.2.1) h) (congrArg (·.2.2) h) h2 k
theorem wZ {fl:List Bool} {Aq:World->Prop} {d j:Nat} {L:List Bool} (h:WL r n Tryz.prog N D ops (QK D (GN r n Tryz.prog D ops fl Q Aq d (fun i=>(L.set j true).getD i false))) [o] env A):RS r n Tryz.prog N D ops fl Q Aq d L env A [(o,j)]:=RS.cons h RS.nil
theorem wR1 {fn:Func} {r1:Nat} {v1:Value} {val:Unit->Value} (hr:fn.results= #[.tmp r1]) (hh:(evO N env (.tmp r1))=(some v1)) (hv:v1=val ()):NE N [] (Hx Tryz.prog fn W0 val (fun _=>True) (fun _=>[])) .ret env (Hp W0 bxs):=A3 Tryz.hT hr (.tmp hh) () hv trivial fun _ _=>Au.nil _ _
theorem wR2 {fn:Func} {r1 r2:Nat} {v1 v2:Value} {val:Unit->Value} (hr:fn.results= #[.tmp r1, .tmp r2]) (hh:(evO N env (.tmp r1),evO N env (.tmp r2))=(some v1,some v2)) (hv: .tuple #[v1,v2]=val ()):NE N [] (Hx Tryz.prog fn W0 val (fun _=>True) (fun _=>[])) .ret env (Hp W0 bxs):=A4 Tryz.hT hr (.tmp (congrArg (·.1) hh)) (.tmp (congrArg (·.2) hh)) () hv trivial fun _ _=>Au.nil _ _
theorem wR3 {fn:Func} {r1 r2 r3:Nat} {v1 v2 v3:Value} {val:Unit->Value} (hr:fn.results= #[.tmp r1, .tmp r2, .tmp r3]) (hh:(evO N env (.tmp r1),evO N env (.tmp r2),evO N env (.tmp r3))=(some v1,some v2,some v3)) (hv: .tuple #[v1,v2,v3]=val ()):NE N [] (Hx Tryz.prog fn W0 val (fun _=>True) (fun _=>[])) .ret env (Hp W0 bxs):=HQ Tryz.hT hr (.tmp (congrArg (·.1) hh)) (.tmp (congrArg (·.2.1) hh)) (.tmp (congrArg (·.2.2) hh)) () hv trivial fun _ _=>Au.nil _ _
theorem xa {o8:List Oper} {c12:Code} {Q9:Exit->Act->World->Prop} {Q10:Exit->Act->World->Prop} (h:WC r n Tryz.prog N D c12 Q9 env A):WL r n Tryz.prog N D o8 (Exit.then ((c12:Code).wpIn (Fw r) n Tryz.prog Q9) Q10) ([]) env A:=zC (zE h)
theorem xb {i14:Nat} {l15:List Oper} {c5:Code} {Q1:Exit->Act->World->Prop} (h:WL r n Tryz.prog N D l15 (Exit.then ((c5:Code).wpIn (Fw r) n Tryz.prog Q1) Q1) l15 env A):WC r n Tryz.prog N D (Code.seq (Code.region i14 (l15:List Oper).toArray false) c5) Q1 env A:=zA (zB h)
theorem xc {o8:List Oper} {Q17:Exit->Act->World->Prop} {Q10:Exit->Act->World->Prop} (h:NE N D Q17 (Exit.ret) env A):WL r n Tryz.prog N D o8 (Exit.then ((Code.ret:Code).wpIn (Fw r) n Tryz.prog Q17) Q10) ([]) env A:=zC (zE (zO h))
theorem xd {i22:Nat} {l23:List Oper} {c13:Code} {c5:Code} {Q1:Exit->Act->World->Prop} (h:WL r n Tryz.prog N D l23 (Exit.then ((c13:Code).wpIn (Fw r) n Tryz.prog (Exit.then ((c5:Code).wpIn (Fw r) n Tryz.prog Q1) Q1)) (Exit.then ((c5:Code).wpIn (Fw r) n Tryz.prog Q1) Q1)) l23 env A):WC r n Tryz.prog N D (Code.seq (Code.seq (Code.region i22 (l23:List Oper).toArray false) c13) c5) Q1 env A:=zA (zA (zB h))
theorem xe {c12:Code} {Q9:Exit->Act->World->Prop} {Q10:Exit->Act->World->Prop} (h:WC r n Tryz.prog N D c12 Q9 env A):WC r n Tryz.prog N D (Code.skip) (Exit.then ((c12:Code).wpIn (Fw r) n Tryz.prog Q9) Q10) env A:=zI (zE h)
theorem xf {o8:List Oper} {i30:Nat} {l31:List Oper} {c21:Code} {Q17:Exit->Act->World->Prop} {Q10:Exit->Act->World->Prop} (h:WL r n Tryz.prog N D l31 (Exit.then ((c21:Code).wpIn (Fw r) n Tryz.prog Q17) Q17) l31 env A):WL r n Tryz.prog N D o8 (Exit.then ((Code.seq (Code.region i30 (l31:List Oper).toArray false) c21:Code).wpIn (Fw r) n Tryz.prog Q17) Q10) ([]) env A:=zC (zE (zA (zB h)))
theorem xg {i30:Nat} {K11:Act->World->Prop} {K19:Act->World->Prop} {Q25:Exit->Act->World->Prop} (h:NE N D Q25 (Exit.normal) env A):WC r n Tryz.prog N D (Code.exit i30) (Exit.then K11 (Exit.then K19 (Exit.inBlock i30 Q25))) env A:=zJ (zK (zK (zL h)))
theorem xh {i30:Nat} {i46:Nat} {l47:List Oper} {c37:Code} {c21:Code} {Q17:Exit->Act->World->Prop} {Q10:Exit->Act->World->Prop} (h:WL r n Tryz.prog N D l47 (Exit.then ((c37:Code).wpIn (Fw r) n Tryz.prog (Exit.inBlock i30 (Exit.then ((c21:Code).wpIn (Fw r) n Tryz.prog Q17) Q17))) (Exit.inBlock i30 (Exit.then ((c21:Code).wpIn (Fw r) n Tryz.prog Q17) Q17))) l47 env A):WC r n Tryz.prog N D (Code.skip) (Exit.then ((Code.seq (Code.block i30 (Code.seq (Code.region i46 (l47:List Oper).toArray false) c37)) c21:Code).wpIn (Fw r) n Tryz.prog Q17) Q10) env A:=zI (zE (zA (zH (zA (zB h)))))
theorem xi {i6:Nat} {i22:Nat} {l23:List Oper} {Q17:Exit->Act->World->Prop} {Q10:Exit->Act->World->Prop} (h:WL r n Tryz.prog N D l23 Q17 l23 env A):NE N D (Exit.inBlock i6 (Exit.then ((Code.region i22 (l23:List Oper).toArray false:Code).wpIn (Fw r) n Tryz.prog Q17) Q10)) (Exit.normal) env A:=zN (zE (zB h))
theorem xj {i6:Nat} {K11:Act->World->Prop} {K19:Act->World->Prop} {i30:Nat} {Q25:Exit->Act->World->Prop} (h:NE N D Q25 (Exit.ret) env A):NE N D (Exit.inBlock i6 (Exit.then K11 (Exit.then K19 (Exit.inBlock i30 Q25)))) (Exit.ret) env A:=zQ (zP (zP (zQ h)))
theorem xk {o8:List Oper} {i38:Nat} {l39:List Oper} {c29:Code} {c21:Code} {Q17:Exit->Act->World->Prop} {Q10:Exit->Act->World->Prop} (h:WL r n Tryz.prog N D l39 (Exit.then ((c29:Code).wpIn (Fw r) n Tryz.prog (Exit.then ((c21:Code).wpIn (Fw r) n Tryz.prog Q17) Q17)) (Exit.then ((c21:Code).wpIn (Fw r) n Tryz.prog Q17) Q17)) l39 env A):WL r n Tryz.prog N D o8 (Exit.then ((Code.seq (Code.seq (Code.region i38 (l39:List Oper).toArray false) c29) c21:Code).wpIn (Fw r) n Tryz.prog Q17) Q10) ([]) env A:=zC (zE (zA (zA (zB h))))
theorem xl {o8:List Oper} {c20:Code} {c21:Code} {Q17:Exit->Act->World->Prop} {Q10:Exit->Act->World->Prop} (h:WC r n Tryz.prog N D c20 (Exit.then ((c21:Code).wpIn (Fw r) n Tryz.prog Q17) Q17) env A):WL r n Tryz.prog N D o8 (Exit.then ((Code.seq c20 c21:Code).wpIn (Fw r) n Tryz.prog Q17) Q10) ([]) env A:=zC (zE (zA h))
theorem xm {i30:Nat} {l31:List Oper} {c21:Code} {Q17:Exit->Act->World->Prop} {Q10:Exit->Act->World->Prop} (h:WL r n Tryz.prog N D l31 (Exit.then ((c21:Code).wpIn (Fw r) n Tryz.prog Q17) Q17) l31 env A):WC r n Tryz.prog N D (Code.skip) (Exit.then ((Code.seq (Code.region i30 (l31:List Oper).toArray false) c21:Code).wpIn (Fw r) n Tryz.prog Q17) Q10) env A:=zI (zE (zA (zB h)))
theorem xn {i22:Nat} {l23:List Oper} {c13:Code} {Q9:Exit->Act->World->Prop} {Q2:Exit->Act->World->Prop} (h:WL r n Tryz.prog N D l23 (Exit.then ((c13:Code).wpIn (Fw r) n Tryz.prog Q9) Q9) l23 env A):NE N D (Exit.then ((Code.seq (Code.region i22 (l23:List Oper).toArray false) c13:Code).wpIn (Fw r) n Tryz.prog Q9) Q2) (Exit.normal) env A:=zE (zA (zB h))
theorem xo {o8:List Oper} {K27:Act->World->Prop} {Q25:Exit->Act->World->Prop} {Q10:Exit->Act->World->Prop} (h:NE N D Q25 (Exit.ret) env A):WL r n Tryz.prog N D o8 (Exit.then ((Code.ret:Code).wpIn (Fw r) n Tryz.prog (Exit.then K27 Q25)) Q10) ([]) env A:=zC (zE (zO (zP h)))
theorem Aa {o1 o2:Oper} {d1 d2:Nat} {v1 v2:Value} (h:(Aw ops N env o1,o1.dst,AC Tryz.T (evO N env) o1.op,Aw ops N ((d1,v1)::env) o2,o2.dst,AC Tryz.T (evO N (((d1,v1)::env))) o2.op)=(some true,some d1,some v1,some true,some d2,some v2)) (k:WL r n Tryz.prog N D ops Q rest ((d2,v2)::((d1,v1)::env)) A):WL r n Tryz.prog N D ops Q (o1::o2::rest) env A:=BY Tryz.hT (congrArg (fun p=>p.1) h) (congrArg (fun p=>p.2.1) h) (congrArg (fun p=>p.2.2.1) h) (BY Tryz.hT (congrArg (fun p=>p.2.2.2.1) h) (congrArg (fun p=>p.2.2.2.2.1) h) (congrArg (fun p=>p.2.2.2.2.2) h) k)
theorem Ad {o1 o2 o3:Oper} {d1 d2 d3:Nat} {v1 v2 v3:Value} (h:(Aw ops N env o1,o1.dst,AC Tryz.T (evO N env) o1.op,Aw ops N ((d1,v1)::env) o2,o2.dst,AC Tryz.T (evO N (((d1,v1)::env))) o2.op,Aw ops N ((d2,v2)::((d1,v1)::env)) o3,o3.dst,AC Tryz.T (evO N (((d2,v2)::((d1,v1)::env)))) o3.op)=(some true,some d1,some v1,some true,some d2,some v2,some true,some d3,some v3)) (k:WL r n Tryz.prog N D ops Q rest ((d3,v3)::((d2,v2)::((d1,v1)::env))) A):WL r n Tryz.prog N D ops Q (o1::o2::o3::rest) env A:=BY Tryz.hT (congrArg (fun p=>p.1) h) (congrArg (fun p=>p.2.1) h) (congrArg (fun p=>p.2.2.1) h) (BY Tryz.hT (congrArg (fun p=>p.2.2.2.1) h) (congrArg (fun p=>p.2.2.2.2.1) h) (congrArg (fun p=>p.2.2.2.2.2.1) h) (BY Tryz.hT (congrArg (fun p=>p.2.2.2.2.2.2.1) h) (congrArg (fun p=>p.2.2.2.2.2.2.2.1) h) (congrArg (fun p=>p.2.2.2.2.2.2.2.2) h) k))
theorem At {o1 o2 o3 o4:Oper} {d1 d2 d3 d4:Nat} {v1 v2 v3 v4:Value} (h:(Aw ops N env o1,o1.dst,AC Tryz.T (evO N env) o1.op,Aw ops N ((d1,v1)::env) o2,o2.dst,AC Tryz.T (evO N (((d1,v1)::env))) o2.op,Aw ops N ((d2,v2)::((d1,v1)::env)) o3,o3.dst,AC Tryz.T (evO N (((d2,v2)::((d1,v1)::env)))) o3.op,Aw ops N ((d3,v3)::((d2,v2)::((d1,v1)::env))) o4,o4.dst,AC Tryz.T (evO N (((d3,v3)::((d2,v2)::((d1,v1)::env))))) o4.op)=(some true,some d1,some v1,some true,some d2,some v2,some true,some d3,some v3,some true,some d4,some v4)) (k:WL r n Tryz.prog N D ops Q rest ((d4,v4)::((d3,v3)::((d2,v2)::((d1,v1)::env)))) A):WL r n Tryz.prog N D ops Q (o1::o2::o3::o4::rest) env A:=BY Tryz.hT (congrArg (fun p=>p.1) h) (congrArg (fun p=>p.2.1) h) (congrArg (fun p=>p.2.2.1) h) (BY Tryz.hT (congrArg (fun p=>p.2.2.2.1) h) (congrArg (fun p=>p.2.2.2.2.1) h) (congrArg (fun p=>p.2.2.2.2.2.1) h) (BY Tryz.hT (congrArg (fun p=>p.2.2.2.2.2.2.1) h) (congrArg (fun p=>p.2.2.2.2.2.2.2.1) h) (congrArg (fun p=>p.2.2.2.2.2.2.2.2.1) h) (BY Tryz.hT (congrArg (fun p=>p.2.2.2.2.2.2.2.2.2.1) h) (congrArg (fun p=>p.2.2.2.2.2.2.2.2.2.2.1) h) (congrArg (fun p=>p.2.2.2.2.2.2.2.2.2.2.2) h) k)))
theorem Ak {o1 o2 o3 o4 o5:Oper} {d1 d2 d3 d4 d5:Nat} {v1 v2 v3 v4 v5:Value} (h:(Aw ops N env o1,o1.dst,AC Tryz.T (evO N env) o1.op,Aw ops N ((d1,v1)::env) o2,o2.dst,AC Tryz.T (evO N (((d1,v1)::env))) o2.op,Aw ops N ((d2,v2)::((d1,v1)::env)) o3,o3.dst,AC Tryz.T (evO N (((d2,v2)::((d1,v1)::env)))) o3.op,Aw ops N ((d3,v3)::((d2,v2)::((d1,v1)::env))) o4,o4.dst,AC Tryz.T (evO N (((d3,v3)::((d2,v2)::((d1,v1)::env))))) o4.op,Aw ops N ((d4,v4)::((d3,v3)::((d2,v2)::((d1,v1)::env)))) o5,o5.dst,AC Tryz.T (evO N (((d4,v4)::((d3,v3)::((d2,v2)::((d1,v1)::env)))))) o5.op)=(some true,some d1,some v1,some true,some d2,some v2,some true,some d3,some v3,some true,some d4,some v4,some true,some d5,some v5)) (k:WL r n Tryz.prog N D ops Q rest ((d5,v5)::((d4,v4)::((d3,v3)::((d2,v2)::((d1,v1)::env))))) A):WL r n Tryz.prog N D ops Q (o1::o2::o3::o4::o5::rest) env A:=BY Tryz.hT (congrArg (fun p=>p.1) h) (congrArg (fun p=>p.2.1) h) (congrArg (fun p=>p.2.2.1) h) (BY Tryz.hT (congrArg (fun p=>p.2.2.2.1) h) (congrArg (fun p=>p.2.2.2.2.1) h) (congrArg (fun p=>p.2.2.2.2.2.1) h) (BY Tryz.hT (congrArg (fun p=>p.2.2.2.2.2.2.1) h) (congrArg (fun p=>p.2.2.2.2.2.2.2.1) h) (congrArg (fun p=>p.2.2.2.2.2.2.2.2.1) h) (BY Tryz.hT (congrArg (fun p=>p.2.2.2.2.2.2.2.2.2.1) h) (congrArg (fun p=>p.2.2.2.2.2.2.2.2.2.2.1) h) (congrArg (fun p=>p.2.2.2.2.2.2.2.2.2.2.2.1) h) (BY Tryz.hT (congrArg (fun p=>p.2.2.2.2.2.2.2.2.2.2.2.2.1) h) (congrArg (fun p=>p.2.2.2.2.2.2.2.2.2.2.2.2.2.1) h) (congrArg (fun p=>p.2.2.2.2.2.2.2.2.2.2.2.2.2.2) h) k))))
theorem AE {o1 o2 o3 o4 o5 o6:Oper} {d1 d2 d3 d4 d5 d6:Nat} {v1 v2 v3 v4 v5 v6:Value} (h:(Aw ops N env o1,o1.dst,AC Tryz.T (evO N env) o1.op,Aw ops N ((d1,v1)::env) o2,o2.dst,AC Tryz.T (evO N (((d1,v1)::env))) o2.op,Aw ops N ((d2,v2)::((d1,v1)::env)) o3,o3.dst,AC Tryz.T (evO N (((d2,v2)::((d1,v1)::env)))) o3.op,Aw ops N ((d3,v3)::((d2,v2)::((d1,v1)::env))) o4,o4.dst,AC Tryz.T (evO N (((d3,v3)::((d2,v2)::((d1,v1)::env))))) o4.op,Aw ops N ((d4,v4)::((d3,v3)::((d2,v2)::((d1,v1)::env)))) o5,o5.dst,AC Tryz.T (evO N (((d4,v4)::((d3,v3)::((d2,v2)::((d1,v1)::env)))))) o5.op,Aw ops N ((d5,v5)::((d4,v4)::((d3,v3)::((d2,v2)::((d1,v1)::env))))) o6,o6.dst,AC Tryz.T (evO N (((d5,v5)::((d4,v4)::((d3,v3)::((d2,v2)::((d1,v1)::env))))))) o6.op)=(some true,some d1,some v1,some true,some d2,some v2,some true,some d3,some v3,some true,some d4,some v4,some true,some d5,some v5,some true,some d6,some v6)) (k:WL r n Tryz.prog N D ops Q rest ((d6,v6)::((d5,v5)::((d4,v4)::((d3,v3)::((d2,v2)::((d1,v1)::env)))))) A):WL r n Tryz.prog N D ops Q (o1::o2::o3::o4::o5::o6::rest) env A:=BY Tryz.hT (congrArg (fun p=>p.1) h) (congrArg (fun p=>p.2.1) h) (congrArg (fun p=>p.2.2.1) h) (BY Tryz.hT (congrArg (fun p=>p.2.2.2.1) h) (congrArg (fun p=>p.2.2.2.2.1) h) (congrArg (fun p=>p.2.2.2.2.2.1) h) (BY Tryz.hT (congrArg (fun p=>p.2.2.2.2.2.2.1) h) (congrArg (fun p=>p.2.2.2.2.2.2.2.1) h) (congrArg (fun p=>p.2.2.2.2.2.2.2.2.1) h) (BY Tryz.hT (congrArg (fun p=>p.2.2.2.2.2.2.2.2.2.1) h) (congrArg (fun p=>p.2.2.2.2.2.2.2.2.2.2.1) h) (congrArg (fun p=>p.2.2.2.2.2.2.2.2.2.2.2.1) h) (BY Tryz.hT (congrArg (fun p=>p.2.2.2.2.2.2.2.2.2.2.2.2.1) h) (congrArg (fun p=>p.2.2.2.2.2.2.2.2.2.2.2.2.2.1) h) (congrArg (fun p=>p.2.2.2.2.2.2.2.2.2.2.2.2.2.2.1) h) (BY Tryz.hT (congrArg (fun p=>p.2.2.2.2.2.2.2.2.2.2.2.2.2.2.2.1) h) (congrArg (fun p=>p.2.2.2.2.2.2.2.2.2.2.2.2.2.2.2.2.1) h) (congrArg (fun p=>p.2.2.2.2.2.2.2.2.2.2.2.2.2.2.2.2.2) h) k)))))
theorem Ay {o1 o2:Oper} {d1 d2:Nat} {v1 v2:Value} (h:(Aw ops N env o1,o1.dst,AC Tryz.T (evO N env) o1.op,Aw ops N ((d1,v1)::env) o2,o2.dst,AC Tryz.T (evO N (((d1,v1)::env))) o2.op)=(some true,some d1,some v1,some true,some d2,some v2)) (k:WQ Tryz.prog N D ops A2 R rest ((d2,v2)::((d1,v1)::env)) A):WQ Tryz.prog N D ops A2 R (o1::o2::rest) env A:=Ca Tryz.hT (congrArg (fun p=>p.1) h) (congrArg (fun p=>p.2.1) h) (congrArg (fun p=>p.2.2.1) h) (Ca Tryz.hT (congrArg (fun p=>p.2.2.2.1) h) (congrArg (fun p=>p.2.2.2.2.1) h) (congrArg (fun p=>p.2.2.2.2.2) h) k)
theorem AY {o1 o2 o3:Oper} {d1 d2 d3:Nat} {v1 v2 v3:Value} (h:(Aw ops N env o1,o1.dst,AC Tryz.T (evO N env) o1.op,Aw ops N ((d1,v1)::env) o2,o2.dst,AC Tryz.T (evO N (((d1,v1)::env))) o2.op,Aw ops N ((d2,v2)::((d1,v1)::env)) o3,o3.dst,AC Tryz.T (evO N (((d2,v2)::((d1,v1)::env)))) o3.op)=(some true,some d1,some v1,some true,some d2,some v2,some true,some d3,some v3)) (k:WQ Tryz.prog N D ops A2 R rest ((d3,v3)::((d2,v2)::((d1,v1)::env))) A):WQ Tryz.prog N D ops A2 R (o1::o2::o3::rest) env A:=Ca Tryz.hT (congrArg (fun p=>p.1) h) (congrArg (fun p=>p.2.1) h) (congrArg (fun p=>p.2.2.1) h) (Ca Tryz.hT (congrArg (fun p=>p.2.2.2.1) h) (congrArg (fun p=>p.2.2.2.2.1) h) (congrArg (fun p=>p.2.2.2.2.2.1) h) (Ca Tryz.hT (congrArg (fun p=>p.2.2.2.2.2.2.1) h) (congrArg (fun p=>p.2.2.2.2.2.2.2.1) h) (congrArg (fun p=>p.2.2.2.2.2.2.2.2) h) k))
theorem Cd {o1 o2 o3 o4:Oper} {d1 d2 d3 d4:Nat} {v1 v2 v3 v4:Value} (h:(Aw ops N env o1,o1.dst,AC Tryz.T (evO N env) o1.op,Aw ops N ((d1,v1)::env) o2,o2.dst,AC Tryz.T (evO N (((d1,v1)::env))) o2.op,Aw ops N ((d2,v2)::((d1,v1)::env)) o3,o3.dst,AC Tryz.T (evO N (((d2,v2)::((d1,v1)::env)))) o3.op,Aw ops N ((d3,v3)::((d2,v2)::((d1,v1)::env))) o4,o4.dst,AC Tryz.T (evO N (((d3,v3)::((d2,v2)::((d1,v1)::env))))) o4.op)=(some true,some d1,some v1,some true,some d2,some v2,some true,some d3,some v3,some true,some d4,some v4)) (k:WQ Tryz.prog N D ops A2 R rest ((d4,v4)::((d3,v3)::((d2,v2)::((d1,v1)::env)))) A):WQ Tryz.prog N D ops A2 R (o1::o2::o3::o4::rest) env A:=Ca Tryz.hT (congrArg (fun p=>p.1) h) (congrArg (fun p=>p.2.1) h) (congrArg (fun p=>p.2.2.1) h) (Ca Tryz.hT (congrArg (fun p=>p.2.2.2.1) h) (congrArg (fun p=>p.2.2.2.2.1) h) (congrArg (fun p=>p.2.2.2.2.2.1) h) (Ca Tryz.hT (congrArg (fun p=>p.2.2.2.2.2.2.1) h) (congrArg (fun p=>p.2.2.2.2.2.2.2.1) h) (congrArg (fun p=>p.2.2.2.2.2.2.2.2.1) h) (Ca Tryz.hT (congrArg (fun p=>p.2.2.2.2.2.2.2.2.2.1) h) (congrArg (fun p=>p.2.2.2.2.2.2.2.2.2.2.1) h) (congrArg (fun p=>p.2.2.2.2.2.2.2.2.2.2.2) h) k)))
theorem GM {o1 o2 o3 o4 o5:Oper} {d1 d2 d3 d4 d5:Nat} {v1 v2 v3 v4 v5:Value} (h:(Aw ops N env o1,o1.dst,AC Tryz.T (evO N env) o1.op,Aw ops N ((d1,v1)::env) o2,o2.dst,AC Tryz.T (evO N (((d1,v1)::env))) o2.op,Aw ops N ((d2,v2)::((d1,v1)::env)) o3,o3.dst,AC Tryz.T (evO N (((d2,v2)::((d1,v1)::env)))) o3.op,Aw ops N ((d3,v3)::((d2,v2)::((d1,v1)::env))) o4,o4.dst,AC Tryz.T (evO N (((d3,v3)::((d2,v2)::((d1,v1)::env))))) o4.op,Aw ops N ((d4,v4)::((d3,v3)::((d2,v2)::((d1,v1)::env)))) o5,o5.dst,AC Tryz.T (evO N (((d4,v4)::((d3,v3)::((d2,v2)::((d1,v1)::env)))))) o5.op)=(some true,some d1,some v1,some true,some d2,some v2,some true,some d3,some v3,some true,some d4,some v4,some true,some d5,some v5)) (k:WQ Tryz.prog N D ops A2 R rest ((d5,v5)::((d4,v4)::((d3,v3)::((d2,v2)::((d1,v1)::env))))) A):WQ Tryz.prog N D ops A2 R (o1::o2::o3::o4::o5::rest) env A:=Ca Tryz.hT (congrArg (fun p=>p.1) h) (congrArg (fun p=>p.2.1) h) (congrArg (fun p=>p.2.2.1) h) (Ca Tryz.hT (congrArg (fun p=>p.2.2.2.1) h) (congrArg (fun p=>p.2.2.2.2.1) h) (congrArg (fun p=>p.2.2.2.2.2.1) h) (Ca Tryz.hT (congrArg (fun p=>p.2.2.2.2.2.2.1) h) (congrArg (fun p=>p.2.2.2.2.2.2.2.1) h) (congrArg (fun p=>p.2.2.2.2.2.2.2.2.1) h) (Ca Tryz.hT (congrArg (fun p=>p.2.2.2.2.2.2.2.2.2.1) h) (congrArg (fun p=>p.2.2.2.2.2.2.2.2.2.2.1) h) (congrArg (fun p=>p.2.2.2.2.2.2.2.2.2.2.2.1) h) (Ca Tryz.hT (congrArg (fun p=>p.2.2.2.2.2.2.2.2.2.2.2.2.1) h) (congrArg (fun p=>p.2.2.2.2.2.2.2.2.2.2.2.2.2.1) h) (congrArg (fun p=>p.2.2.2.2.2.2.2.2.2.2.2.2.2.2) h) k))))
theorem Mc {o1 o2 o3 o4 o5 o6:Oper} {d1 d2 d3 d4 d5 d6:Nat} {v1 v2 v3 v4 v5 v6:Value} (h:(Aw ops N env o1,o1.dst,AC Tryz.T (evO N env) o1.op,Aw ops N ((d1,v1)::env) o2,o2.dst,AC Tryz.T (evO N (((d1,v1)::env))) o2.op,Aw ops N ((d2,v2)::((d1,v1)::env)) o3,o3.dst,AC Tryz.T (evO N (((d2,v2)::((d1,v1)::env)))) o3.op,Aw ops N ((d3,v3)::((d2,v2)::((d1,v1)::env))) o4,o4.dst,AC Tryz.T (evO N (((d3,v3)::((d2,v2)::((d1,v1)::env))))) o4.op,Aw ops N ((d4,v4)::((d3,v3)::((d2,v2)::((d1,v1)::env)))) o5,o5.dst,AC Tryz.T (evO N (((d4,v4)::((d3,v3)::((d2,v2)::((d1,v1)::env)))))) o5.op,Aw ops N ((d5,v5)::((d4,v4)::((d3,v3)::((d2,v2)::((d1,v1)::env))))) o6,o6.dst,AC Tryz.T (evO N (((d5,v5)::((d4,v4)::((d3,v3)::((d2,v2)::((d1,v1)::env))))))) o6.op)=(some true,some d1,some v1,some true,some d2,some v2,some true,some d3,some v3,some true,some d4,some v4,some true,some d5,some v5,some true,some d6,some v6)) (k:WQ Tryz.prog N D ops A2 R rest ((d6,v6)::((d5,v5)::((d4,v4)::((d3,v3)::((d2,v2)::((d1,v1)::env)))))) A):WQ Tryz.prog N D ops A2 R (o1::o2::o3::o4::o5::o6::rest) env A:=Ca Tryz.hT (congrArg (fun p=>p.1) h) (congrArg (fun p=>p.2.1) h) (congrArg (fun p=>p.2.2.1) h) (Ca Tryz.hT (congrArg (fun p=>p.2.2.2.1) h) (congrArg (fun p=>p.2.2.2.2.1) h) (congrArg (fun p=>p.2.2.2.2.2.1) h) (Ca Tryz.hT (congrArg (fun p=>p.2.2.2.2.2.2.1) h) (congrArg (fun p=>p.2.2.2.2.2.2.2.1) h) (congrArg (fun p=>p.2.2.2.2.2.2.2.2.1) h) (Ca Tryz.hT (congrArg (fun p=>p.2.2.2.2.2.2.2.2.2.1) h) (congrArg (fun p=>p.2.2.2.2.2.2.2.2.2.2.1) h) (congrArg (fun p=>p.2.2.2.2.2.2.2.2.2.2.2.1) h) (Ca Tryz.hT (congrArg (fun p=>p.2.2.2.2.2.2.2.2.2.2.2.2.1) h) (congrArg (fun p=>p.2.2.2.2.2.2.2.2.2.2.2.2.2.1) h) (congrArg (fun p=>p.2.2.2.2.2.2.2.2.2.2.2.2.2.2.1) h) (Ca Tryz.hT (congrArg (fun p=>p.2.2.2.2.2.2.2.2.2.2.2.2.2.2.2.1) h) (congrArg (fun p=>p.2.2.2.2.2.2.2.2.2.2.2.2.2.2.2.2.1) h) (congrArg (fun p=>p.2.2.2.2.2.2.2.2.2.2.2.2.2.2.2.2.2) h) k)))))
end
end Go.Proofs
namespace Go.Am
open Go Go.RowKit
section
variable {r:Option Nat} {n:Nat} {P:Program} {W0:World} {N:Nat} {D:List Deferred} {ops:List Oper} {Q:Exit->Act->World->Prop} {l:List Oper} {env:Env} {bxs:List Bx}
theorem Hp.newGone {W:World} (h:Hp W0 bxs W):Hp W0 (bxs++[Gf]) W:=h.append (Below.refl _ _) (Own.one (fun p hp=>by cases hp) List.nodup_nil)
theorem C9 {c:Code} (h:WC r n P N D c Q env (Hp W0 (bxs++[Gf]))):WC r n P N D c Q env (Hp W0 bxs):= .mk fun a W ha hd hp=>h.out a W ha hd hp.newGone
theorem NB (h:WL r n P N D ops Q l env (Hp W0 (bxs++[Gf]))):WL r n P N D ops Q l env (Hp W0 bxs):= .mk fun a W ha hd hp=>h.out a W ha hd hp.newGone
theorem AN {o:Oper} {rest:List Oper} (k j:Nat) {d:Nat} {t e:TypeId} {size bytes:Nat} {z:Value} (hty:VecTy P t e size bytes z) {c:Call} {s x:Operand} {V:Vec} {m cp len:Nat} {xs:List Value} {B:Bx} (n':Nat) (ys:List Value)
  (hg:Aw ops N env o=some true) (hd:o.dst=some d) (ho:o.op= .call c) (hc:c.callee= .builtin .append) (ha:c.args= #[s,x]) (hat:c.argTypes= #[t,t])
  (hj:nth bxs j=some B) (hon:B.row=true) (hx:evO N env x=some (.slice (some ⟨B.b,0,none⟩) m cp))
  (hs:evO N env s=some (V.val len)) (hk:nth bxs k=some (V.bx e xs)) (hV:V.OK size len xs)
  (hl:B.cells.length=m*size) (h1:Dp B.cells=true) (hn:len+m=n') (hys:xs++B.cells=ys) (h63:n'<=maxLen) (hbytes:n'*bytes<=140737488355328)
  (hm:Nat.beq m 0=false)
  (h: ∀(g cap:Nat) (junk:List Value),(⟨some g,cap,junk⟩:Vec).OK size n' ys->WL r n P N D ops Q rest ((d, .slice (some ⟨g,0,none⟩) n' cap)::env) (Hp W0 (bxs.set k ⟨g,e,ys++junk,true,none⟩))):WL r n P N D ops Q (o::rest) env (Hp W0 bxs):=by
 subst hn
 subst hys
 refine TV k j hty hg hd ho hc ha hat hj hon hx hs hk hV hl h1 h63 hbytes fun V' hV' hp=> ?_
 obtain⟨p,cap,junk⟩:=V'
 cases p with
 |none=>rw[hp rfl] at hm;cases hm
 |some g=>exact h g cap junk hV'
theorem AG {o:Oper} {rest:List Oper} (k:Nat) (ys:List Value) {T:Tbl} {i:TI} {t:TypeId} {x y:Operand} {B:Bx} {off:Nat} {v:Value} (hT:okB P T=true) (hg:Aw ops N env o=some true) (hd:o.dst=none) (ho:o.op= .store t x y) (ht:Cw T t=some i)
  (hk:nth bxs k=some B) (hx:evO N env x=some (.pointer (some ⟨B.b,off,none⟩))) (hon:B.row=true) (hy:evO N env y=some v)
  (hs:Nat.beq v.cells.toList.length i.size=true) (h1:Dp v.cells.toList=true) (hl:off+i.size<=B.cells.length) (hys:BF B.cells off v.cells.toList=ys)
  (h:WL r n P N D ops Q rest env (Hp W0 (bxs.set k { B with cells:=ys }))):WL r n P N D ops Q (o::rest) env (Hp W0 bxs):= .mk fun a W ha hd' hp=>by
 rw[Bv] at hk
 subst hys
 refine BO hg ha (fun c e=>by rw[ho] at e;cases e) ?_
 have h3:=(hp.at_ _ _ hk (Bx.row_on hon).1).1
 rw[(Bx.row_on hon).2] at h3
 obtain⟨W',hr,hu⟩:=FJ (P:=P) (BA hT ht) h3 (Nat.eq_of_beq_eq_true hs) hl h1
 have:(execOp (ov env a).eval o).run P W= .ok .skip W':=by
  simp[execOp,ho,Instr.storeAt,Instr.sureAddr,AB ha _ _ hx,AB ha _ _ hy,hr]
 rw[this]
 simp only[Oper.uponIn,hd]
 exact h.out a W' ha hd' (hp.upd hk hon hu)
theorem DT {o:Oper} {rest:List Oper} {T:Tbl} {i:TI} {d:Nat} {t:TypeId} (hT:okB P T=true) (hg:Aw ops N env o=some true) (hd:o.dst=some d) (ho:o.op= .buildSlice t 0 #[]) (ht:Cw T t=some i) (hk:i.kind=2)
  (h: ∀b,WL r n P N D ops Q rest ((d, .slice (some ⟨b,0,none⟩) 0 0)::env) (Hp W0 (bxs++[⟨b,i.elem,[],true,none⟩]))):WL r n P N D ops Q (o::rest) env (Hp W0 bxs):= .mk fun a W ha hd' hp=>by
 refine BO hg ha (fun c e=>by rw[ho] at e;cases e) ?_
 obtain⟨hu,hs⟩:=Fb (BA hT ht) hk
 have e0:Array.map (fun _:Nat=>(default:Value)) (Array.range 0)= #[]:=by apply Array.toList_inj.1;simp
 have:(execOp (ov env a).eval o).run P W= .ok (.value (.slice (some ⟨W.heap.size,0,none⟩) 0 0)) (W.alloc (.cells #[] i.elem)):=by
  simp only[execOp,ho,Instr.buildSlice,Sem.run_bind,run_underlying hu,Result.andThen_ok,Ey hs]
  rw[if_neg (by omega),if_pos (by omega)]
  simp only[Sem.run_pure]
  simp[Instr.fill,newRow,e0]
 rw[this]
 simp only[Oper.uponIn,hd]
 exact(h W.heap.size).out a _ ha hd' (hp.alloc i.elem [])
theorem Yb {o:Oper} {rest:List Oper} {A:World->Prop} {T:Tbl} {i:TI} {d:Nat} {t u:TypeId} {x y:Operand} {a:Option Addr} {len cap:Nat} (hT:okB P T=true) (hg:Aw ops N env o=some true) (hd:o.dst=some d) (ho:o.op= .binOp .eql t x y u) (ht:Cw T t=some i) (hk:i.kind=2)
  (hx:evO N env x=some (.slice a len cap)) (hy:evO N env y=some (.slice none 0 0)) (h:WL r n P N D ops Q rest ((d, .bool a.isNone)::env) A):WL r n P N D ops Q (o::rest) env A:=
 CP hg hd (fun c e=>by rw[ho] at e;cases e) (fun ρ W hρ _=>by
  obtain⟨hu,_⟩:=Fb (BA hT ht) hk
  have he:=run_equal_slice_nil (P:=P) W t i.elem a len cap hu
  have hg:(eqGuard .eql t x y (.slice a len cap) (.slice none 0 0)).run P W= .ok () W:=by simp[eqGuard]
  have hb:(binOp .eql t (.slice a len cap) (.slice none 0 0)).run P W= .ok (.bool a.isNone) W:=by
   simp only[binOp]
   simp only[Sem.run_bind,he,Result.andThen_ok,Sem.run_pure]
  simp only[execOp,ho,hρ _ _ hx,hρ _ _ hy,Sem.run_bind,hg,hb,Result.andThen_ok,Sem.run_pure]) h
def Bd (l:List (Nat×Obj)):Bx:=⟨0,0,[],true,some (.grp l)⟩
theorem Hp.newGrp {W:World} (h:Hp W0 bxs W):Hp W0 (bxs++[Bd []]) W:=h.append (Below.refl _ _) (Own.one (fun p hp=>by cases hp) List.nodup_nil)
theorem E6 (a b:List Value) (o:Nat) (v:List Value):BF (a++b) (a.length+o) v=a++BF b o v:=by
 simp only[BF,List.take_append,List.drop_append]
 rw[List.take_of_length_le (show a.length<=a.length+o by omega),List.drop_eq_nil_of_le (show a.length<=a.length+o+v.length by omega)]
 rw[show a.length+o-a.length=o by omega,show a.length+o+v.length-a.length=o+v.length by omega]
 simp[List.append_assoc]
end
end Go.Am
namespace Go.Am
open Go Go.RowKit
structure Pg (W W':World) (g g':Nat) (o':Obj):Prop where
 os:W'.os=W.os
 tape:W'.tape=W.tape
 output:W'.output=W.output
 size:W.heap.size<=W'.heap.size
 new:W'.heap[g']? =some o'
 at_:g'=g\/W.heap.size<=g'
 old: ∀x,x≠g->x<W.heap.size->W'.heap[x]? =W.heap[x]?
theorem Upd.near {W W':World} {b:Nat} {o:Obj} (h:Upd W W' b o) (hlt:b<W.heap.size):Pg W W' b b o:=by
 refine⟨h.os,h.tape,h.output,by rw[h.heap,Array.size_setIfInBounds];exact Nat.le_refl _, ?_, .inl rfl,fun x hx _=> ?_⟩
 ·rw[h.heap,Array.getElem?_setIfInBounds,if_pos rfl,if_pos hlt]
 ·rw[h.heap,Array.getElem?_setIfInBounds,if_neg (fun e=>hx e.symm)]
theorem Q4 {α:Type} {A C:List α} {b:α}:(A++b::C).Nodup↔(b∉A/\b∉C)/\(A++C).Nodup:=by
 simp only[List.nodup_append,List.nodup_cons]
 constructor
 ·rintro⟨h1,⟨h2,h3⟩,h4⟩
  exact⟨⟨fun h=>h4 b h b (List.mem_cons_self ..) rfl,h2⟩,h1,h3,fun x hx y hy=>h4 x hx y (List.mem_cons_of_mem _ hy)⟩
 ·rintro⟨⟨h1,h2⟩,h3,h4,h5⟩
  refine⟨h3,⟨h2,h4⟩,fun x hx y hy=> ?_⟩
  rcases List.mem_cons.1 hy with rfl|hy
  ·exact fun e=>h1 (e▸hx)
  ·exact h5 x hx y hy
theorem Hp.near {W0 W W':World} {bxs:List Bx} (h:Hp W0 bxs W) {k:Nat} {B B':Bx} {L1 L2:List (Nat×Obj)} {b g':Nat} {ob o':Obj} (hk:bxs[k]? =some B) (hB:B.blk=L1++(b,ob)::L2) (hB':B'.blk=L1++(g',o')::L2) (hN:Pg W W' b g' o'):Hp W0 (bxs.set k B') W':=by
 have hnd:=h.own.nd k B hk
 rw[hB,List.map_append,List.map_cons,Q4] at hnd
 obtain⟨⟨n1,n2⟩,n3⟩:=hnd
 have inB: ∀p,p∈L1\/p∈L2->p∈B.blk:=fun p hp=>by
  rw[hB]
  rcases hp with hp|hp
  ·exact List.mem_append_left _ hp
  ·exact List.mem_append_right _ (List.mem_cons_of_mem _ hp)
 have hb:(b,ob)∈B.blk:=by rw[hB];exact List.mem_append_right _ (List.mem_cons_self ..)
 have ne: ∀p,p∈L1\/p∈L2->p.1≠b:=fun p hp e=>by
  rcases hp with hp|hp
  ·exact n1 (List.mem_map.2 ⟨p,hp,e⟩)
  ·exact n2 (List.mem_map.2 ⟨p,hp,e⟩)
 have cases3: ∀p,p∈B'.blk->(p∈L1\/p∈L2)\/p=(g',o'):=fun p hp=>by
  rw[hB'] at hp
  rcases List.mem_append.1 hp with hp|hp
  ·exact .inl (.inl hp)
  ·rcases List.mem_cons.1 hp with hp|hp
   ·exact .inr hp
   ·exact .inl (.inr hp)
 refine h.turn hk (fun p hp=> ?_) ?_ hN.os hN.tape hN.output hN.size (fun p hp=> ?_) (fun x hx hlt=>hN.old x (fun e=>hx _ hb e.symm) hlt)
 ·rcases cases3 p hp with hp|rfl
  ·exact .inl ⟨p,inB p hp,rfl⟩
  ·rcases hN.at_ with e|e
   ·exact .inl ⟨_,hb,e.symm⟩
   ·exact .inr e
 ·rw[hB',List.map_append,List.map_cons,Q4]
  refine⟨?_,n3⟩
  rcases hN.at_ with e|e
  ·rw[show(g',o').1=b from e];exact⟨n1,n2⟩
  ·constructor<;>intro hm<;>obtain⟨p,hp,e2⟩:=List.mem_map.1 hm
   ·have:=h.own.lt hk (inB p (.inl hp));have e3:p.1=g':=e2;omega
   ·have:=h.own.lt hk (inB p (.inr hp));have e3:p.1=g':=e2;omega
 ·rcases cases3 p hp with hp|rfl
  ·rw[hN.old p.1 (ne p hp) (h.own.lt hk (inB p hp))]
   exact(h.own.cell k B hk p (inB p hp)).1
  ·exact hN.new
def Bn (W:World):World:= { W with heap:= #[] }
def A8 (W:World) (g:Nat):List (Nat×Obj):=(List.range W.heap.size).filterMap fun i=>if i=g then none else(W.heap[i]?).map fun o=>(i,o)
theorem Ee {W:World} {g:Nat} {p:Nat×Obj}:p∈A8 W g↔p.1≠g/\W.heap[p.1]? =some p.2:=by
 unfold A8
 rw[List.mem_filterMap]
 constructor
 ·rintro⟨i,hi,h⟩
  split at h
  ·cases h
  ·rename_i hne
   cases ho:W.heap[i]? with
   |none=>rw[ho] at h;cases h
   |some o=>rw[ho] at h;cases h;exact⟨hne,ho⟩
 ·rintro⟨h1,h2⟩
  refine⟨p.1,List.mem_range.2 (Array.getElem?_eq_some_iff.1 h2).1, ?_⟩
  rw[if_neg h1,h2];rfl
theorem RA (W:World) (g:Nat):((A8 W g).map (·.1)).Nodup:=by
 unfold List.Nodup
 rw[List.pairwise_map]
 refine List.Pairwise.filterMap (R:=(· ≠ ·)) _ (fun a a' hne p hp q hq=> ?_) List.nodup_range
 have one: ∀(i:Nat) (p:Nat×Obj),(if i=g then none else(W.heap[i]?).map fun o=>(i,o))=some p->p.1=i:=fun i p h=>by
  split at h
  ·cases h
  ·cases ho:W.heap[i]? with
   |none=>rw[ho] at h;cases h
   |some o=>rw[ho] at h;cases h;rfl
 rw[one a p hp,one a' q hq];exact hne
theorem Hp.enterT {W:World} {g:Nat} {B:Bx} {o:Obj} (hB:B.blk=[(g,o)]) (ho:W.heap[g]? =some o):Hp (Bn W) [Bd (A8 W g),B] W:=by
 have two: ∀ {k:Nat} {C:Bx},[Bd (A8 W g),B][k]? =some C->(k=0/\C=Bd (A8 W g))\/(k=1/\C=B):=fun {k C} h=>by
  cases k with
  |zero=>simp at h;exact .inl ⟨rfl,h.symm⟩
  |succ k=>cases k with
   |zero=>simp at h;exact .inr ⟨rfl,h.symm⟩
   |succ k=>simp at h
 refine⟨⟨rfl,rfl,rfl,Nat.zero_le _,fun k hk=>absurd hk (Nat.not_lt_zero _)⟩,fun k C hk p hp=> ?_,fun k C hk=> ?_,fun i j C E hi hj hne p hp q hq=> ?_⟩
 ·rcases two hk with⟨_,rfl⟩|⟨_,rfl⟩
  ·exact⟨(Ee.1 (show p∈A8 W g from hp)).2,Nat.zero_le _⟩
  ·rw[hB] at hp;obtain rfl:=List.mem_singleton.1 hp;exact⟨ho,Nat.zero_le _⟩
 ·rcases two hk with⟨_,rfl⟩|⟨_,rfl⟩
  ·exact RA W g
  ·rw[hB];exact List.nodup_cons.2 ⟨List.not_mem_nil,List.nodup_nil⟩
 ·rcases two hi with⟨rfl,rfl⟩|⟨rfl,rfl⟩<;>rcases two hj with⟨rfl,rfl⟩|⟨rfl,rfl⟩
  ·exact absurd rfl hne
  ·rw[hB] at hq;obtain rfl:=List.mem_singleton.1 hq
   exact(Ee.1 (show p∈A8 W g from hp)).1
  ·rw[hB] at hp;obtain rfl:=List.mem_singleton.1 hp
   exact fun e=>(Ee.1 (show q∈A8 W g from hq)).1 e.symm
  ·exact absurd rfl hne
theorem HP {W W':World} {g g':Nat} {o o':Obj} {B':Bx} (hg:W.heap[g]? =some o) (hB':B'.blk=[(g',o')]) (hb:Below (Bn W).heap.size (Bn W) W') (hn:Au (Bn W) W' [Bd (A8 W g),B']):Pg W W' g g' o':=by
 have c0: ∀p∈A8 W g,W'.heap[p.1]? =some p.2:=fun p hp=>(hn.cell 0 _ rfl p hp).1
 have c1:W'.heap[g']? =some o':=(hn.cell 1 B' rfl (g',o') (by rw[hB'];exact List.mem_cons_self ..)).1
 have old: ∀x,x≠g->x<W.heap.size->W'.heap[x]? =W.heap[x]? :=fun x hx hlt=>by
  have h1:W.heap[x]? =some W.heap[x]:=Array.getElem?_eq_getElem hlt
  rw[h1]
  exact c0 (x,W.heap[x]) (Ee.2 ⟨hx,h1⟩)
 have at_:g'=g\/W.heap.size<=g':=by
  by_cases e:g'=g
  ·exact .inl e
  ·refine .inr (Nat.le_of_not_lt fun hlt=> ?_)
   have h1:W.heap[g']? =some W.heap[g']:=Array.getElem?_eq_getElem hlt
   exact hn.apart 0 1 _ B' rfl rfl (by decide) (g',W.heap[g']) (Ee.2 ⟨e,h1⟩) (g',o') (by rw[hB'];exact List.mem_cons_self ..) rfl
 have hlt:=(Array.getElem?_eq_some_iff.1 hg).1
 have hlt':=(Array.getElem?_eq_some_iff.1 c1).1
 refine⟨hb.os,hb.tape,hb.output, ?_,c1,at_,old⟩
 by_cases e:W.heap.size-1=g
 ·rcases at_ with h|h<;>omega
 ·have h1:=old (W.heap.size-1) e (by omega)
  rw[Array.getElem?_eq_getElem (show W.heap.size-1<W.heap.size by omega)] at h1
  have:=(Array.getElem?_eq_some_iff.1 h1).1
  omega
section
variable {r:Option Nat} {n:Nat} {P:Program} {W0:World} {N:Nat} {D:List Deferred} {ops:List Oper} {Q:Exit->Act->World->Prop} {o:Oper} {rest:List Oper} {env:Env} {bxs:List Bx}
theorem CY {f:Nat} {fn:Func} {c:Code} {args:List Value} {X:Type} {val:X->Value} {Φ:X->Prop} {nb:X->List Bx} {W:World} (h0:Hp W0 bxs W)
  (hf:P.funcs[f]? =some fn) (hb:fn.body=some c) (hN:fn.ntmps=N) (hl:Nat.ble args.length N=true)
  (h:WC none 0 P N [] c (Hx P fn W0 val Φ nb) (LJ 0 args) (Hp W0 bxs)):Calls P f args.toArray W fun e W'=> ∃x,e= .returned (val x)/\Φ x/\Below W0.heap.size W0 W'/\Au W0 W' (nb x):=by
 have hl:args.length<=N:=Nat.le_of_ble_eq_true hl
 have h1:=h.out { tmps:=args.toArray++Array.replicate (fn.ntmps-args.toArray.size) undef,defers:=[] } W (by simp[hN];omega) rfl h0
 rw[FG] at h1
 ·refine callsIn_wide (n:=0)|>.1 (callsIn_of_wp_marks hf hb trivial (wpIn_mono (Q:=Hx P fn W0 val Φ nb) h1 ?_))
  intro e a w h
  exact h.out
 ·intro p hp _
  obtain⟨_,h2⟩:=HE args 0 p hp
  rw[Nat.sub_zero] at h2
  have hlt:=(List.getElem?_eq_some_iff.1 h2).1
  rw[Array.getElem?_append_left (by simpa using hlt)]
  simpa using h2
theorem aG {fn:Func} {T:Tbl} {X:Type} {val:X->Value} {Φ:X->Prop} {nb:X->List Bx} (hT:okB P T=true) (hr:fn.results= #[])
  (x:X) (hv: .tuple #[]=val x) (hx:Φ x) (hnb: ∀W,Hp W0 bxs W->Au W0 W (nb x)):NE N [] (Hx P fn W0 val Φ nb) .ret env (Hp W0 bxs):=
 OU (rvs:=[]) (vs:=[]) hT hr rfl (fun i h _=>absurd h (Nat.not_lt_zero _)) x (by simpa using hv) hx hnb
theorem Vz {fn:Func} {T:Tbl} {X:Type} {val:X->Value} {Φ:X->Prop} {nb:X->List Bx} (hT:okB P T=true) (hr:fn.results= #[])
  (x:X) (hv: .tuple #[]=val x) (hx:Φ x) (hnb: ∀W,Hp W0 bxs W->Au W0 W (nb x)):NE N [] (Hx P fn W0 val Φ nb) .normal env (Hp W0 bxs):= .mk fun a W ha hd hp=>by
 refine .mk ?_
 show LeavesInM (Fw none) 0 P fn (ov env a).tmps _ (ov env a).defers .returning W
 rw[B7,hd]
 exact⟨_,Mr (rvs:=[]) (vs:=[]) hT hr rfl (fun i h _=>absurd h (Nat.not_lt_zero _)) ha hp,x,by rw[<-hv];rfl,hx,hp.below,hnb W hp⟩
theorem F7 (k:Nat) {c:Call} {f:Operand} {g d:Nat} {capt vs:List Value} {X:Type} {val:X->Value} {Φ:X->Prop} {B:Bx} {L1 L2:List (Nat×Obj)} {b:Nat} {ob:Obj} (B':X->Bx) {g':X->Nat} {o':X->Obj}
  (hg:Aw ops N env o=some true) (hd:o.dst=some d) (ho:o.op= .call c) (hc:c.callee= .value f) (hf:evO N env f=some (.func (.func g) #[] capt.toArray)) (ha:Cn (evO N env) c.args.toList=some vs) (hE:AS P g=true)
  (hk:nth bxs k=some B) (hB:B.blk=L1++(b,ob)::L2) (hB': ∀x,Φ x->(B' x).blk=L1++(g' x,o' x)::L2)
  (hC: ∀W,Hp W0 bxs W->Calls P g (vs++capt).toArray W fun e W'=> ∃x,e= .returned (val x)/\Φ x/\Pg W W' b (g' x) (o' x))
  (h: ∀x,Φ x->WL r n P N D ops Q rest ((d,val x)::env) (Hp W0 (bxs.set k (B' x)))):WL r n P N D ops Q (o::rest) env (Hp W0 bxs):= .mk fun a W h1 h2 hp=>by
 rw[Bv] at hk
 refine BO hg h1 (fun c e=>by rw[ho] at e;cases e) ?_
 rw[IJ ho hc (AB h1 _ _ hf) (E5 (AB h1) ha) hE]
 simp only[Oper.uponIn,hd]
 refine⟨fun hx=>(by cases hx),Ed ((hC W hp).mono ?_)⟩
 rintro e W' ⟨x,rfl,hx,hN⟩
 exact(h x hx).out a W' h1 h2 (hp.near hk hB (hB' x hx) hN)
theorem LE {d:Nat} {t u:TypeId} {x:Operand} {k k' kt:IntKind} {z:Int} {A:World->Prop} (ht:P.underlying t=some (.int kt)) (hu:P.underlying u=some (.int k)) (hg:Aw ops N env o=some true) (hd:o.dst=some d) (ho:o.op= .convert t u x) (hx:evO N env x=some (.int k' z))
  (h:WL r n P N D ops Q rest ((d, .int k (k.wrap z))::env) A):WL r n P N D ops Q (o::rest) env A:=
 CP hg hd (fun c e=>by rw[ho] at e;cases e) (fun ρ W hρ _=>by
  simp[execOp,ho,convert,hρ _ _ hx,run_underlying ht,run_underlying hu,Conv.intToInt]) h
theorem UP (A B C X:List Value) (h:B.length=X.length):BF (A++(B++C)) A.length X=A++(X++C):=by
 have h1:=E6 A (B++C) 0 X
 rw[Nat.add_zero] at h1
 rw[h1]
 simp[BF, <-h]
end
end Go.Am
namespace Go.Am
open Go Go.RowKit
section
variable {r:Option Nat} {n:Nat} {P:Program} {N:Nat} {D:List Deferred} {ops:List Oper} {Q:Exit->Act->World->Prop} {o:Oper} {rest:List Oper} {env:Env} {A A2:World->Prop} {R:Act->World->Prop}
def cB (A:World->Prop):Prop:= ∀W W',A W->Below W.heap.size W W'->A W'
theorem Y8 {c:Call} {f:Operand} {g d:Nat} {capt vs:List Value} {v:Value} (hG:cB A)
  (hg:Aw ops N env o=some true) (hd:o.dst=some d) (ho:o.op= .call c) (hc:c.callee= .value f) (hf:evO N env f=some (.func (.func g) #[] capt.toArray)) (ha:Cn (evO N env) c.args.toList=some vs) (hE:AS P g=true)
  (hC: ∀W,A W->Ae P g (vs++capt).toArray W (fun _:Unit=>v) (fun _=>True) (fun _=>[]))
  (h:WL r n P N D ops Q rest ((d,v)::env) A):WL r n P N D ops Q (o::rest) env A:= .mk fun a W h1 h2 hp=>by
 refine BO hg h1 (fun c e=>by rw[ho] at e;cases e) ?_
 rw[IJ ho hc (AB h1 _ _ hf) (E5 (AB h1) ha) hE]
 simp only[Oper.uponIn,hd]
 refine⟨fun hx=>(by cases hx),Ed ((hC W hp).out.mono ?_)⟩
 rintro e W' ⟨x,rfl,hx,hb,hn⟩
 exact h.out a W' h1 h2 (hG _ _ hp hb)
end
end Go.Am
namespace Go.Am
open Go Go.RowKit
structure Qq (P:Program) (gf:Nat) (lb:List Value) (m:Nat) (enc:Nat->List Value) (Need:Nat->World->Prop):Prop where
 out: ∀(l:Nat) (J:Nat->List (Nat×Obj)->World->Prop) (Jx:World->Prop),
  (∀k L W,J k L W->Need k W/\ ∀p∈L,W.heap[p.1]? =some p.2)->(∀k L W W',J k L W->Below W.heap.size W W'->J k L W')->
  (∀k L W W' b o,J k L W->Below W.heap.size W W'->W.heap.size<=b->W'.heap[b]? =some o->J k [(b,o)] W')->
  (∀k b o o' W W',J k [(b,o)] W->Upd W W' b o'->J k [(b,o')] W')->
  (∀k L W,k<m->J k L W->YieldAt (Fw none) 0 P l (enc k).toArray W fun e W'=>(e= .returned (.bool true)/\J (k+1) L W')\/(e= .returned (.bool false)/\Jx W'))->
  ∀W,J 0 [] W->CallsIn (Fw none) 0 P gf (.func (.yield l) #[] #[]::lb).toArray W fun e W'=>(∃v,e= .returned v)/\((∃L,J m L W')\/Jx W')
theorem Ph {P:Program} {l:Nat} {R R':Ending->World->Prop} (h: ∀e W,R e W->R' e W): ∀ {e:Exit} {a:Act} {W:World},roundPost P l R e a W->roundPost P l R' e a W
 | .normal,_,_,⟨v,w',h1,h2⟩=>⟨v,w',h1,h _ _ h2⟩
 | .ret,_,_,⟨v,w',h1,h2⟩=>⟨v,w',h1,h _ _ h2⟩
 | .exit _,_,_,⟨v,w',h1,h2⟩=>⟨v,w',h1,h _ _ h2⟩
 | .goto _,_,_,⟨v,w',h1,h2⟩=>⟨v,w',h1,h _ _ h2⟩
theorem Hp.tail {W0 W:World} {b:Bx} {bs:List Bx} (h:Hp W0 (b::bs) W):Hp W0 bs W:=
 ⟨h.below,h.own.sub (fun k=>k+1) (fun k B hk _=>by rw[List.getElem?_cons_succ];exact hk) (fun _ _ _ _ _ _ h=>by omega)⟩
theorem Hp.rot {W0 W:World} {b:Bx} {bs:List Bx} (h:Hp W0 (bs++[b]) W):Hp W0 (b::bs) W:=by
 refine⟨h.below,h.own.sub (fun k=>if k=0 then bs.length else k-1) (fun k B hk _=> ?_) (fun i j B C hi hj e=> ?_)⟩
 ·cases k with
  |zero=>rw[if_pos rfl,List.getElem?_append_right (Nat.le_refl _),Nat.sub_self];simpa using hk
  |succ k=>
   rw[List.getElem?_cons_succ] at hk
   rw[if_neg (by omega),Nat.add_sub_cancel,List.getElem?_append_left (List.getElem?_eq_some_iff.1 hk).1];exact hk
 ·have lt: ∀ {k:Nat} {B:Bx},(b::bs)[k]? =some B->k≠0->k-1<bs.length:=fun {k B} h h0=>by
   have:=(List.getElem?_eq_some_iff.1 h).1
   simp at this;omega
  by_cases h1:i=0<;>by_cases h2:j=0
  ·omega
  ·have:=lt hj h2
   rw[if_pos h1,if_neg h2] at e;omega
  ·have:=lt hi h1
   rw[if_neg h1,if_pos h2] at e;omega
  ·rw[if_neg h1,if_neg h2] at e;omega
theorem Hp.nilGrp {W0 W:World} {bs:List Bx} (h:Hp W0 bs W):Hp W0 (Bd []::bs) W:=h.newGrp.rot
section
variable {r:Option Nat} {n:Nat} {P:Program} {W0:World} {N:Nat} {D:List Deferred} {ops:List Oper} {Q:Exit->Act->World->Prop} {o:Oper} {rest:List Oper} {env:Env} {A:World->Prop} {bxs:List Bx}
theorem LA {d:Nat} {t:TypeId} {z:Value} (A2:Nat->World->Prop) (hg:Aw ops N env o=some true) (hd:o.dst=some d) (ho:o.op= .alloc t) (hz: ∀W,(zeroValue t).run P W= .ok z W)
  (hA: ∀W W' b,A W->Below W.heap.size W W'->W.heap.size<=b->W'.heap[b]? =some (.cells z.cells t (0,0))->A2 b W')
  (h: ∀b,WL r n P N D ops Q rest ((d, .pointer (some ⟨b,0,none⟩))::env) (A2 b)):WL r n P N D ops Q (o::rest) env A:= .mk fun a W ha hd' hp=>by
 refine BO hg ha (fun c e=>by rw[ho] at e;cases e) ?_
 have:(execOp (ov env a).eval o).run P W= .ok (.value (.pointer (some ⟨W.heap.size,0,none⟩))) (W.alloc (.cells z.cells t)):=by
  simp[execOp,ho,Instr.alloc,hz,newVar,newRow]
 rw[this]
 simp only[Oper.uponIn,hd]
 exact(h W.heap.size).out a _ ha hd' (hA W _ _ hp ((Below.refl _ W).alloc (Nat.le_refl _) _) (Nat.le_refl _) (World.alloc_heap_new W _))
theorem LU {T:Tbl} {i:TI} {t:TypeId} {x y:Operand} {b:Nat} {ty:TypeId} {cs:List Value} {v:Value} (A2:World->Prop) (hT:okB P T=true) (hg:Aw ops N env o=some true) (hd:o.dst=none) (ho:o.op= .store t x y) (ht:Cw T t=some i)
  (hx:evO N env x=some (.pointer (some ⟨b,0,none⟩))) (hy:evO N env y=some v) (hb: ∀W,A W->W.heap[b]? =some (.cells cs.toArray ty (0,0)))
  (hs:Nat.beq v.cells.toList.length i.size=true) (hl:Nat.beq cs.length i.size=true) (h1:Dp v.cells.toList=true)
  (hA: ∀W W',A W->Upd W W' b (.cells v.cells ty (0,0))->A2 W')
  (h:WL r n P N D ops Q rest env A2):WL r n P N D ops Q (o::rest) env A:= .mk fun a W ha hd' hp=>by
 refine BO hg ha (fun c e=>by rw[ho] at e;cases e) ?_
 have el:=Nat.eq_of_beq_eq_true hl
 have es:=Nat.eq_of_beq_eq_true hs
 obtain⟨W',hr,hu⟩:=FJ (P:=P) (BA hT ht) (o:=0) (hb W hp) es (by omega) h1
 have:(execOp (ov env a).eval o).run P W= .ok .skip W':=by
  simp[execOp,ho,Instr.storeAt,Instr.sureAddr,AB ha _ _ hx,AB ha _ _ hy,hr]
 rw[this]
 simp only[Oper.uponIn,hd]
 refine h.out a W' ha hd' (hA W W' hp ?_)
 have e:BF cs 0 v.cells.toList=v.cells.toList:=by
  unfold BF
  simp[es,el]
 rw[e] at hu
 simpa using hu
end
section
variable {P:Program} {W0:World} {N:Nat} {D:List Deferred} {env:Env} {bxs:List Bx} {Q:Exit->Act->World->Prop}
variable {X:Type}
theorem EZ {f:Operand} {ps:Array Nat} {assign body:Code} {gf m:Nat} {lb:List Value} {enc:Nat->List Value} {Need:Nat->World->Prop} (B:X->List Bx) (Φ:Nat->X->Prop) (Ψ:Code->X->Prop) (x0:X)
  (hf:evO N env f=some (.func (.func gf) #[] lb.toArray)) (hE:AS P gf=true) (hI:Qq P gf lb m enc Need) (hps: ∀k,(enc k).length=ps.size)
  (h0:Φ 0 x0) (nb:List Bx) (hB:bxs=B x0++nb) (hN: ∀k x W,Φ k x->Hp W0 (B x) W->Need k W)
  (hbody: ∀(k:Nat) (x:X) (d l:Nat) (rec:LoopState->Option Code->Loop) (L:List (Nat×Obj)),k<m->Φ k x->I1 rec->
   WC (some l) 0 P N [] assign (XG P W0 (fun x=>Bd L::B x) Φ Ψ d l rec k body) (Eg ps.toList (enc k) env) (Hp W0 (Bd L::B x++[BL d,Bp l rec .ready none])))
  (hdone: ∀(x:X) (d l:Nat) (rec:LoopState->Option Code->Loop),Φ m x->NE N (Dz d::D) Q .normal env (Hp W0 (B x++[BL d,Bp l rec .exhausted none])))
  (hjump: ∀(x:X) (d l:Nat) (rec:LoopState->Option Code->Loop) (c:Code),Ψ c x->WC none 0 P N (Dz d::D) c Q env (Hp W0 (B x++[BL d,Bp l rec .exhausted (some c)]))):
  WC none 0 P N D (.rangeFunc f ps assign body) Q env (Hp W0 bxs):= .mk fun a W ha hd hp=>by
 refine wpIn_rangeFunc ?_
 intro fn _
 obtain⟨rec,hr⟩: ∃rec:LoopState->Option Code->Loop,rec=fun s j=> { state:=s,pending:=j,fn,tmps:=(ov env a).tmps,params:=ps,assign,body,defers:=W.heap.size }:=⟨_,rfl⟩
 have hrec:I1 rec:=by subst hr;exact⟨fun _ _=>rfl,fun _ _=>rfl,fun _ _ _ _=>rfl⟩
 obtain⟨W1,hW1⟩: ∃W1,(W.alloc (.deferred (some []))).alloc (.loop (rec .ready none))=W1:=⟨_,rfl⟩
 have hpB:Hp W0 (B x0) W:=by rw[hB] at hp;exact hp.take
 have hp1:Hp W0 (B x0++[BL W.heap.size,Bp (W.heap.size+1) rec .ready none]) W1:=by
  have hb:Below W.heap.size W W1:=by rw[<-hW1];exact((Below.refl _ W).alloc (Nat.le_refl _) _).alloc (by simp) _
  refine hpB.append hb (Au.two ⟨?_,Nat.le_refl _⟩ ⟨?_,Nat.le_succ _⟩ (Nat.ne_of_lt (Nat.lt_succ_self _)))
  ·show W1.heap[W.heap.size]? =some (.deferred (some []))
   rw[<-hW1]
   exact(Below.heap_alloc _ _ _ (by simp)).trans (World.alloc_heap_new W _)
  ·show W1.heap[W.heap.size+1]? =some (.loop (rec .ready none))
   rw[<-hW1]
   have:=World.alloc_heap_new (W.alloc (.deferred (some []))) (.loop (rec .ready none))
   rwa [World.size_alloc] at this
 refine⟨W.heap.size+1,[Dz W.heap.size],W1, { target:= .fn (.func gf) lb.toArray,args:= #[.func (.yield (W.heap.size+1)) #[] #[]] },W1,gf,
  (.func (.yield (W.heap.size+1)) #[] #[]::lb).toArray,W1, ?_, ?_,fun _ _=>trivial, ?_,fun h=>(by cases h), ?_⟩
 ·rw[<-hW1,hr];exact run_enterLoop_outer _ _ _ _ _
 ·have hc: ∀v,(ov env a).eval (.const v)=v:=fun _=>rfl
  simp only[resolve]
  rw[AB ha _ _ hf]
  simp[Deferred.ofValue,hc]
 ·simp only[invoke,G9 hE]
  simp
 ·have split: ∀ {L:List (Nat×Obj)} {x:X} {W2:World},Hp W0 ((fun x=>Bd L::B x) x++[BL W.heap.size,Bp (W.heap.size+1) rec .ready none]) W2->Hp W0 (B x++[BL W.heap.size,Bp (W.heap.size+1) rec .ready none]) W2:=fun h=>h.tail
  refine(hI.out (W.heap.size+1) (fun k L=>JR W0 (fun x=>Bd L::B x) Φ W.heap.size (W.heap.size+1) rec k) (fun W'=> ∃L,JX W0 (fun x=>Bd L::B x) Ψ W.heap.size (W.heap.size+1) rec W')
   (fun k L W ⟨x,hx,hp⟩=>⟨hN k x W hx (split hp).take,fun p hp'=>(hp.own.cell 0 (Bd L) rfl p hp').1⟩) (fun k L W W2 ⟨x,hx,hp⟩ hb=>⟨x,hx,hp.grow hb⟩) ?_ ?_ ?_ W1 ⟨x0,h0,hp1.nilGrp⟩).mono ?_
  ·rintro k L W2 W3 b o ⟨x,hx,hp2⟩ hb hlt ho
   refine⟨x,hx,((split hp2).append hb (nb:=[Bd [(b,o)]]) (Own.one (fun p hp=> ?_) ?_)).rot⟩
   ·obtain rfl:=List.mem_singleton.1 (show p∈[(b,o)] from hp)
    exact⟨ho,hlt⟩
   ·exact List.nodup_cons.2 ⟨List.not_mem_nil,List.nodup_nil⟩
  ·rintro k b o o' W2 W3 ⟨x,hx,hp2⟩ hu
   have hc:=hp2.own.cell 0 (Bd [(b,o)]) rfl (b,o) (List.mem_cons_self ..)
   exact⟨x,hx,hp2.near (k:=0) (B:=Bd [(b,o)]) (B':=Bd [(b,o')]) (L1:=[]) (L2:=[]) rfl rfl rfl (hu.near (Array.getElem?_eq_some_iff.1 hc.1).1)⟩
  ·rintro k L W2 hk ⟨x,hx,hp2⟩
   have hL:=((split hp2).at_ ((B x).length+1) (Bp (W.heap.size+1) rec .ready none) (by rw[List.getElem?_append_right (by omega)];simp) rfl).1
   refine⟨fn,(ps.zip (enc k).toArray).foldl (fun tmps (x:Nat×Value)=>tmps.setIfInBounds x.1 x.2) (ov env a).tmps,assign,body, ?_, ?_⟩
   ·have:=run_yield (P:=P) (args:=(enc k).toArray) hL (by subst hr;simpa using hps k)
    subst hr
    exact this
   ·refine roundIn_of_wpIn (F:=Fw none) trivial ?_
    have hb:=(hbody k x W.heap.size (W.heap.size+1) rec L hk hx hrec).out { tmps:=a.tmps,defers:=[] } W2 ha rfl hp2
    have e:({ tmps:=(ps.zip (enc k).toArray).foldl (fun tmps (x:Nat×Value)=>tmps.setIfInBounds x.1 x.2) (ov env a).tmps,defers:=[] }:Act)=ov (Eg ps.toList (enc k) env) { tmps:=a.tmps,defers:=[] }:=by
     have h1:=Mf ps.toList (enc k) env { tmps:=a.tmps,defers:=[] }
     rw[Lt env { tmps:=a.tmps,defers:=[] } a rfl] at h1
     have h2:(ov (Eg ps.toList (enc k) env) { tmps:=a.tmps,defers:=[] }).defers=[]:=B7 _ _
     cases hA:ov (Eg ps.toList (enc k) env) { tmps:=a.tmps,defers:=[] }
     rw[hA] at h1 h2
     simp only at h1 h2
     subst h2
     congr 1
     rw[h1, <-Array.foldl_toList]
     simp
    have e':(rec .ready none).params=ps/\(rec .ready none).tmps=(ov env a).tmps:=by subst hr;exact⟨rfl,rfl⟩
    rw[<-e] at hb
    refine wpIn_mono hb ?_
    intro ex a2 W3 hq
    have hq:=hq.out
    cases ex with
    |normal=>
     obtain⟨w2,h1,h2⟩:=hq
     exact⟨w2,h1,wpIn_mono h2 fun _ _ _ h=>Ph (fun _ _ h=>h.imp id fun h=>⟨h.1,L,h.2⟩) h.out⟩
    |_=>exact hq
  ·rintro e W2 ⟨⟨v,rfl⟩,(⟨L,x,hx,hp2⟩|⟨L,c,x,hx,hp2⟩)⟩
   ·have hp2:=split hp2
    have hi:(B x++[BL W.heap.size,Bp (W.heap.size+1) rec .ready none])[(B x).length+1]? =some (Bp (W.heap.size+1) rec .ready none):=by rw[List.getElem?_append_right (by omega)];simp
    have hL:=(hp2.at_ _ _ hi rfl).1
    refine⟨_,_,run_endLoop hL (by rw[hrec.st];simp), ?_⟩
    rw[hrec.pend]
    have hp3:=hp2.updO (W':=W2.putObj (W.heap.size+1) (.loop { rec .ready none with state:= .exhausted })) hi rfl (B':=Bp (W.heap.size+1) rec .exhausted none) rfl ⟨rfl,rfl,rfl,by rw[hrec.upd1];rfl⟩
    have hset:(B x++[BL W.heap.size,Bp (W.heap.size+1) rec .ready none]).set ((B x).length+1) (Bp (W.heap.size+1) rec .exhausted none)=B x++[BL W.heap.size,Bp (W.heap.size+1) rec .exhausted none]:=by
     rw[List.set_append_right _ _ (by omega)];simp
    rw[hset] at hp3
    have:=(hdone x W.heap.size (W.heap.size+1) rec hx).out { tmps:=a.tmps,defers:=Dz W.heap.size::D } _ ha rfl hp3
    rw[Nk, <-hd, <-B7 env a] at this
    simp only[hrec.pend] at this⊢
    exact this
   ·have hp2:Hp W0 (B x++[BL W.heap.size,Bp (W.heap.size+1) rec .done (some c)]) W2:=hp2.tail
    have hi:(B x++[BL W.heap.size,Bp (W.heap.size+1) rec .done (some c)])[(B x).length+1]? =some (Bp (W.heap.size+1) rec .done (some c)):=by rw[List.getElem?_append_right (by omega)];simp
    have hL:=(hp2.at_ _ _ hi rfl).1
    refine⟨_,_,run_endLoop hL (by rw[hrec.st];simp), ?_⟩
    rw[hrec.pend]
    have hp3:=hp2.updO (W':=W2.putObj (W.heap.size+1) (.loop { rec .done (some c) with state:= .exhausted })) hi rfl (B':=Bp (W.heap.size+1) rec .exhausted (some c)) rfl ⟨rfl,rfl,rfl,by rw[hrec.upd1];rfl⟩
    have hset:(B x++[BL W.heap.size,Bp (W.heap.size+1) rec .done (some c)]).set ((B x).length+1) (Bp (W.heap.size+1) rec .exhausted (some c))=B x++[BL W.heap.size,Bp (W.heap.size+1) rec .exhausted (some c)]:=by
     rw[List.set_append_right _ _ (by omega)];simp
    rw[hset] at hp3
    have:=(hjump x W.heap.size (W.heap.size+1) rec c hx).out { tmps:=a.tmps,defers:=Dz W.heap.size::D } _ ha rfl hp3
    rw[Nk, <-hd, <-B7 env a] at this
    simp only[hrec.pend] at this⊢
    exact this
end
end Go.Am
namespace Go.Am
open Go Go.RowKit
section
variable {r:Option Nat} {n:Nat} {P:Program} {W0:World} {N:Nat} {D:List Deferred} {ops:List Oper} {Q:Exit->Act->World->Prop} {o:Oper} {rest:List Oper} {env:Env} {bxs:List Bx}
end
section
variable {P:Program} {W0:World} {N:Nat} {D:List Deferred} {env:Env} {bxs:List Bx} {Q:Exit->Act->World->Prop}
variable {X:Type}
end
end Go.Am
namespace Go.Proofs.YtlnjmcchddbogaaGreatDoor
section
open Go Go.RowKit Go.Am Go.Lib
set_option maxRecDepth 10000
abbrev w64 (x:Int):Int:=IntKind.i64.wrap x
theorem Ar {x:Int} (h1: -9223372036854775808<=x) (h2:x<9223372036854775808):w64 x=x:=AM h1 h2
abbrev slv (p:Option Addr) (n cap:Nat):Value:= .slice p n cap
abbrev Ai (b:Nat):Value:= .pointer (some ⟨b,0,none⟩)
abbrev str (l:List UInt8):Value:= .string ⟨l.toArray⟩
theorem Ae.of1 {P:Program} {g:Nat} {args:Array Value} {W:World} {v:Value} (h:Calls P g args W fun e w'=>e= .returned v/\Below W.heap.size W w'):Ae P g args W (fun _:Unit=>v) (fun _=>True) (fun _=>[]):=
 ⟨h.mono fun _ _ ⟨he,hb⟩=>⟨(),he,trivial,hb,Au.nil _ _⟩⟩
def A9 (W : World) : Prop := TabIs Tryz.prog W "internal/strconv.uint64pow10" .u64 pow10Tab
theorem A9.hp {W0 W:World} {bxs:List Bx} (h:A9 W0) (hp:Hp W0 bxs W):A9 W:=tabBelow_of_tabIs h W hp.below
theorem Pj (w:World) (k:Nat) (os:Array Obj):Below w.heap.size w (Sort.grow (w.drewN k) os):=by
 refine⟨I,I,I,by simp[Sort.grow,World.drewN],fun i hi=> ?_⟩
 simp only[Sort.grow,World.drewN]
 rw[Array.getElem?_append_left hi]
theorem Bt (n:Int) (h0: -9223372036854775808<=n) (h1:n<=9223372036854775807) (W:World) (ht:A9 W):Ae Tryz.prog 95 #[.int .i64 n] W (fun _:Unit=>str (itoa n)) (fun _=>True) (fun _=>[]):=by
 refine Ae.of1 ((Tryz.strconv_Itoa n h0 h1 W ht).mono ?_)
 rintro e w' ⟨rfl,k,os,rfl⟩
 exact⟨I,Pj W k os⟩
theorem OM (n:Int) (h0: -4611686018427387904<n) (h1:n<4611686018427387904):Be Tryz.prog 191 [str (itoa n)] (.tuple #[.int .i64 n, .nilIface]):=by
 intro W
 refine Ae.of1 ((Tryz.strconv_Atoi_ok ⟨(itoa n).toArray⟩ ?_ n (by simpa using Xd n h0 h1) W).mono ?_)
 ·have:=itoa_length_le n (by omega) (by omega)
  show(itoa n).toArray.size<=_
  rw[List.size_toArray];omega
 ·rintro e w' ⟨rfl,rfl|⟨t,rfl⟩⟩
  ·exact⟨I,Below.refl _ _⟩
  ·exact⟨I,bytesWorld_below _ _ _⟩
theorem KR (l p:List UInt8):Be Tryz.prog 124 [str l,str p] (.bool (hasPrefix l p)):=by
 intro W
 refine Ae.of1 ((Tryz.strings_HasPrefix ⟨l.toArray⟩ ⟨p.toArray⟩ W).mono ?_)
 rintro e w' ⟨rfl,rfl⟩
 exact⟨I,Below.refl _ _⟩
theorem BH (l p:List UInt8):Be Tryz.prog 153 [str l,str p] (str (trimPrefix l p)):=by
 intro W
 refine Ae.of1 ((Tryz.strings_TrimPrefix ⟨l.toArray⟩ ⟨p.toArray⟩ W).mono ?_)
 rintro e w' ⟨rfl,rfl⟩
 exact⟨I,Below.refl _ _⟩
theorem N3 (l:List UInt8) (hl:l.length<=9223372036854775807):Be Tryz.prog 262 [str l,str DB] (str (trimS l DB)):=by
 intro W
 refine Ae.of1 ((Any.strings_Trim_laid Tryz.lays160 (by kernel_rfl) ⟨l.toArray⟩ ⟨DB.toArray⟩ W ?_ (by decide) ?_).mono ?_)
 ·show l.toArray.size<=_
  rw[List.size_toArray];exact hl
 ·intro j b hb
  have hm:b∈DB:=List.mem_of_getElem? hb
  have: ∀x∈DB,x.toNat<128:=by decide
  exact this b hm
 ·rintro e w' ⟨rfl,hb⟩
  exact⟨I,hb⟩
section
variable {r:Option Nat} {n:Nat} {P:Program} {W0:World} {N:Nat} {D:List Deferred} {ops:List Oper} {Q:Exit->Act->World->Prop} {o:Oper} {rest:List Oper} {env:Env} {A:World->Prop}
theorem Bc {T:Tbl} {i:TI} {d:Nat} {t:TypeId} {x y:Operand} {k:IntKind} {l:List UInt8} {z:Int} (j:Nat) {b:UInt8} (hT:okB P T=true) (hg:Aw ops N env o=some true) (hd:o.dst=some d) (ho:o.op= .index t x y) (ht:Cw T t=some i) (hk:i.kind=1)
  (hx:evO N env x=some (str l)) (hy:evO N env y=some (.int k z)) (hz:z=j) (hb:l[j]? =some b)
  (h:WL r n P N D ops Q rest ((d, .int .u8 b.toNat)::env) A):WL r n P N D ops Q (o::rest) env A:=
 CP hg hd (fun c e=>by rw[ho] at e;cases e) (fun ρ W hρ _=>by
  have hu:=Hq (BA hT ht) hk
  subst hz
  have hb':(⟨l.toArray⟩:ByteArray)[j]? =some b:=by
   obtain⟨h1,h2⟩:=List.getElem?_eq_some_iff.1 hb
   have h3:j<(⟨l.toArray⟩:ByteArray).size:=by show j<l.toArray.size;rw[List.size_toArray];exact h1
   rw[getElem?_pos _ j h3]
   exact congrArg some h2
  simp[execOp,ho,Instr.index,hρ _ _ hx,hρ _ _ hy,asIntOf,run_underlying hu,hb']) h
end
theorem HY (l:List UInt8):(⟨l.toArray⟩:ByteArray).toList=l:=by rw[ByteArray.toList_eq]
theorem CC:itoa 0=[48]:=by unfold itoa;rw[if_neg (by omega)];exact HT
theorem UW (W:World):(binOp .eql 222 .nilIface .nilIface).run Tryz.prog W= .ok (.bool true) W:=by
 simp only[binOp,Op.equal,Op.maxDepth]
 rw[show(10000:Nat)=9999+1 from rfl]
 unfold Op.equalIn
 simp only[Sem.run_bind,run_underlying Tryz.underlying222,Result.andThen_ok,Sem.run_pure]
section
variable {N:Nat} {D:List Deferred} {ops:List Oper} {o:Oper} {rest:List Oper} {env:Env} {A A2:World->Prop} {R:Act->World->Prop}
theorem Qz {d:Nat} {u:TypeId} {x:Operand} {c:Value} (hg:Aw ops N env o=some true) (hd:o.dst=some d) (ho:o.op= .binOp .eql 222 x (.const c) u) (hc:c= .nilIface)
  (hx:evO N env x=some .nilIface) (h:WQ Tryz.prog N D ops A2 R rest ((d, .bool true)::env) A):WQ Tryz.prog N D ops A2 R (o::rest) env A:=
 Eh hg hd (fun c e=>by rw[ho] at e;cases e) (fun ρ W hρ _=>by
  subst hc
  have hgd:(eqGuard .eql 222 x (.const .nilIface) .nilIface .nilIface).run Tryz.prog W= .ok () W:=by rw[eqGuard_nil_constR];rfl
  have h2:ρ (.const .nilIface)= .nilIface:=hρ _ _ rfl
  simp only[execOp,ho,hρ _ _ hx,h2,Sem.run_bind,hgd,UW W,Result.andThen_ok,Sem.run_pure]) h
end
theorem A5 (l:List UInt8):(⟨l.toArray⟩:ByteArray).size=l.length:=by show l.toArray.size=_;simp
theorem UY {n:Nat} (h:n<10):itoa (n:Nat)=[UInt8.ofNat (48+n)]:=by
 unfold itoa
 rw[if_neg (by omega)]
 exact decDigits_one h
theorem Yd:itoa 1=[49]:=UY (n:=1) (by decide)
section
variable {r:Option Nat} {n:Nat} {P:Program} {W0:World} {N:Nat} {D:List Deferred} {ops:List Oper} {Q:Exit->Act->World->Prop} {o:Oper} {rest:List Oper} {env:Env} {bxs:List Bx} {A:World->Prop}
theorem OZ {c:Call} {f:Operand} {g d:Nat} {capt vs:List Value} {X:Type} {val:X->Value} {Φ:X->Prop} (nb:X->List Bx)
  (hg:Aw ops N env o=some true) (hd:o.dst=some d) (ho:o.op= .call c) (hc:c.callee= .value f) (hf:evO N env f=some (.func (.func g) #[] capt.toArray)) (ha:Cn (evO N env) c.args.toList=some vs) (hE:AS P g=true)
  (hC: ∀W,Hp W0 bxs W->Calls P g (vs++capt).toArray W fun e W'=> ∃x,e= .returned (val x)/\Φ x/\Below W0.heap.size W0 W'/\Au W0 W' (nb x))
  (h: ∀x,Φ x->WL r n P N D ops Q rest ((d,val x)::env) (Hp W0 (nb x))):WL r n P N D ops Q (o::rest) env (Hp W0 bxs):= .mk fun a W h1 h2 hp=>by
 refine BO hg h1 (fun c e=>by rw[ho] at e;cases e) ?_
 rw[IJ ho hc (AB h1 _ _ hf) (E5 (AB h1) ha) hE]
 simp only[Oper.uponIn,hd]
 refine⟨fun hx=>(by cases hx),Ed ((hC W hp).mono ?_)⟩
 rintro e W' ⟨x,rfl,hx,hb,hn⟩
 exact(h x hx).out a W' h1 h2 ⟨hb,hn⟩
end
section
variable {r:Option Nat} {n:Nat} {P:Program} {N:Nat} {D:List Deferred} {ops:List Oper} {Q:Exit->Act->World->Prop} {o:Oper} {rest:List Oper} {env:Env} {A:World->Prop} {W0:World} {bxs:List Bx}
theorem IW (k:Nat) {d:Nat} {t e u:TypeId} {x:Operand} {B:Bx} {off cap len:Nat} (l:List UInt8) (hs:P.underlying t=some (.slice e)) (he:P.underlying e=some (.int .u8)) (hu:P.underlying u=some .string) (hg:Aw ops N env o=some true) (hd:o.dst=some d) (ho:o.op= .convert t u x)
  (hk:nth bxs k=some B) (hon:B.row=true) (hx:evO N env x=some (.slice (some ⟨B.b,off,none⟩) len cap)) (hlen:len=l.length) (hc: ∀j (hj:j<l.length),B.cells[off+j]? =some (.int .u8 (l[j].toNat:Int)))
  (h:WL r n P N D ops Q rest ((d,str l)::env) (Hp W0 bxs)):WL r n P N D ops Q (o::rest) env (Hp W0 bxs):= .mk fun a W ha hd' hp=>by
 rw[Bv] at hk
 subst hlen
 refine BO hg ha (fun c e=>by rw[ho] at e;cases e) ?_
 have h3:=(hp.at_ _ _ hk (Bx.row_on hon).1).1
 rw[(Bx.row_on hon).2] at h3
 have hr:=run_convert_bytes_back (P:=P) W t u e ⟨B.b,off,none⟩ cap l hs he hu (fun j hj=>by rw[Addr.add_none,Gq h3];exact hc j hj)
 have:(execOp (ov env a).eval o).run P W= .ok (.value (str l)) W:=by
  simp only[execOp,ho,AB ha _ _ hx,Sem.run_bind,hr,Result.andThen_ok,Sem.run_pure]
 rw[this]
 simp only[Oper.uponIn,hd]
 exact h.out a W ha hd' hp
theorem Ci {d:Nat} {t u:TypeId} {x y:Operand} {a b:List UInt8} (hg:Aw ops N env o=some true) (hd:o.dst=some d) (ho:o.op= .binOp .add t x y u) (hx:evO N env x=some (str a)) (hy:evO N env y=some (str b)) (ha:a.length<=8388608) (hb:b.length<=8388608)
  (h:WL r n P N D ops Q rest ((d,str (a++b))::env) A):WL r n P N D ops Q (o::rest) env A:=
 CP hg hd (fun c e=>by rw[ho] at e;cases e) (fun ρ W hρ _=>by
  have hs:=run_string_add_lists (P:=P) W a b (by omega) (by omega)
  simp[execOp,ho,hρ _ _ hx,hρ _ _ hy,eqGuard,binOp,hs]) h
theorem XW {d:Nat} {t u:TypeId} {x:Operand} {k k' kt:IntKind} {z:Int} (ht:P.underlying t=some (.int kt)) (hu:P.underlying u=some (.int k)) (hg:Aw ops N env o=some true) (hd:o.dst=some d) (ho:o.op= .convert t u x) (hx:evO N env x=some (.int k' z))
  (h:WL r n P N D ops Q rest ((d, .int k (k.wrap z))::env) A):WL r n P N D ops Q (o::rest) env A:=
 CP hg hd (fun c e=>by rw[ho] at e;cases e) (fun ρ W hρ _=>by
  simp[execOp,ho,convert,hρ _ _ hx,run_underlying ht,run_underlying hu,Conv.intToInt]) h
end
theorem SD {x:Int} (h1:0<=x) (h2:x<256):IntKind.u8.wrap x=x:=by
 simp only[IntKind.wrap,IntKind.signed,IntKind.bits]
 simp
 omega
section
variable {r:Option Nat} {n:Nat} {P:Program} {W0:World} {N:Nat} {D:List Deferred} {Q:Exit->Act->World->Prop} {env:Env} {bxs:List Bx}
theorem AA {x y:Code} {X:Type} (L:X->Env) (B:X->List Bx) (Φ:X->Prop) (h1:WC r n P N D x (Exit.then (Xc N D W0 L B Φ) Q) env (Hp W0 bxs))
  (h2: ∀z,Φ z->WC r n P N D y Q (L z) (Hp W0 (B z))):WC r n P N D x (Exit.then (y.wpIn (Fw r) n P Q) Q) env (Hp W0 bxs):= .mk fun a W ha hd hp=>by
 refine wpIn_mono (h1.out a W ha hd hp) ?_
 intro e a' W' hq
 cases e with
 |normal=>
  obtain⟨z,hz,hl,hp'⟩:=Xc.out hq
  have:=(h2 z hz).out a' W' hl.size hl.defers hp'
  rw[FG (fun p hp _=>hl.get p hp)] at this
  exact this
 |_=>exact hq
end
section
variable {r:Option Nat} {n:Nat} {P:Program} {N:Nat} {D:List Deferred} {ops:List Oper} {Q:Exit->Act->World->Prop} {o:Oper} {rest:List Oper} {env:Env} {A:World->Prop}
theorem FL (l:Nat) {T:Tbl} {i:TI} {a:List UInt8} {d:Nat} {t:TypeId} {x y':Operand} {k':IntKind} {z':Int} (hT:okB P T=true) (hg:Aw ops N env o=some true) (hd:o.dst=some d) (ho:o.op= .slice t x (some y') none none) (ht:Cw T t=some i) (hk:i.kind=1)
  (hx:evO N env x=some (str a)) (hy':evO N env y'=some (.int k' z')) (hz':z'=l) (h1:l<=a.length)
  (hn:WL r n P N D ops Q rest ((d,str (a.drop l))::env) A):WL r n P N D ops Q (o::rest) env A:=
 CP hg hd (fun c e=>by rw[ho] at e;cases e) (fun ρ W hρ _=>by
  have hu:=Hq (BA hT ht) hk
  subst hz'
  have hsz:(⟨a.toArray⟩:ByteArray).size=a.length:=by show a.toArray.size=_;simp
  have e:(⟨a.toArray⟩:ByteArray).extract l a.length=⟨(a.drop l).toArray⟩:=by
   apply ByteArray.ext
   rw[ByteArray.data_extract]
   apply Array.toList_inj.1
   simp only[List.extract_toArray,List.extract_eq_take_drop]
   exact List.take_of_length_le (by rw[List.length_drop];exact Nat.le_refl _)
  simp[execOp,ho,Instr.sliceAt,Instr.slice,Instr.sliceBounds,Instr.sliceBound,hρ _ _ hx,hρ _ _ hy',asIntOf,run_underlying hu,hsz,h1,e]) hn
theorem Rp (l:Nat) {A2:World->Prop} {R:Act->World->Prop} {T:Tbl} {i:TI} {a:List UInt8} {d:Nat} {t:TypeId} {x y':Operand} {k':IntKind} {z':Int} (hT:okB P T=true) (hg:Aw ops N env o=some true) (hd:o.dst=some d) (ho:o.op= .slice t x (some y') none none) (ht:Cw T t=some i) (hk:i.kind=1)
  (hx:evO N env x=some (str a)) (hy':evO N env y'=some (.int k' z')) (hz':z'=l) (h1:l<=a.length)
  (hn:WQ P N D ops A2 R rest ((d,str (a.drop l))::env) A):WQ P N D ops A2 R (o::rest) env A:=
 Eh hg hd (fun c e=>by rw[ho] at e;cases e) (fun ρ W hρ _=>by
  have hu:=Hq (BA hT ht) hk
  subst hz'
  have hsz:(⟨a.toArray⟩:ByteArray).size=a.length:=by show a.toArray.size=_;simp
  have e:(⟨a.toArray⟩:ByteArray).extract l a.length=⟨(a.drop l).toArray⟩:=by
   apply ByteArray.ext
   rw[ByteArray.data_extract]
   apply Array.toList_inj.1
   simp only[List.extract_toArray,List.extract_eq_take_drop]
   exact List.take_of_length_le (by rw[List.length_drop];exact Nat.le_refl _)
  simp[execOp,ho,Instr.sliceAt,Instr.slice,Instr.sliceBounds,Instr.sliceBound,hρ _ _ hx,hρ _ _ hy',asIntOf,run_underlying hu,hsz,h1,e]) hn
end
end
section
def lv (B:Nat):List Nat->Nat
 |[]=>0
 |x::l=>x+B*lv B l
def lbs (B n:Nat):List Nat:=if _h:n=0\/B<2 then[] else(n%B)::lbs B (n/B)
termination_by n
decreasing_by exact Nat.div_lt_self (by omega) (by omega)
section
variable {B:Nat}
theorem Bg:lbs B 0=[]:=by rw[lbs,dif_pos (.inl rfl)]
theorem Hw (hB:2<=B) {n:Nat} (hn:n≠0):lbs B n=(n%B)::lbs B (n/B):=by rw[lbs,dif_neg (by omega)]
theorem DG (hB:2<=B) {n:Nat}:lbs B n=[]↔n=0:=by
 constructor
 ·intro h
  by_cases hn:n=0
  ·exact hn
  ·rw[Hw hB hn] at h;cases h
 ·rintro rfl;exact Bg
theorem Mj (hB:2<=B) (n:Nat):lv B (lbs B n)=n:=by
 induction n using Nat.strongRecOn with
 |_ n ih=>
  by_cases hn:n=0
  ·subst hn;rw[Bg];rfl
  ·rw[Hw hB hn]
   show n%B+B*lv B (lbs B (n/B))=n
   rw[ih _ (Nat.div_lt_self (by omega) (by omega))]
   exact Nat.mod_add_div n B
theorem Br (hB:2<=B) (n:Nat): ∀x∈lbs B n,x<B:=by
 induction n using Nat.strongRecOn with
 |_ n ih=>
  by_cases hn:n=0
  ·subst hn;rw[Bg];intro x hx;cases hx
  ·rw[Hw hB hn]
   intro x hx
   rcases List.mem_cons.1 hx with rfl|hx
   ·exact Nat.mod_lt _ (by omega)
   ·exact ih _ (Nat.div_lt_self (by omega) (by omega)) x hx
theorem Iw (hB:2<=B): ∀ {l:List Nat} (h:l≠[]),l.getLast h≠0->lv B l≠0
 |[],h,_=>absurd rfl h
 |[x],_,hl=>by
  show x+B*0≠0
  have:x≠0:=hl
  omega
 |x::y::l,_,hl=>by
  have h:=Iw hB (l:=y::l) (by simp) hl
  show x+B*lv B (y::l)≠0
  have:0<B*lv B (y::l):=Nat.mul_pos (by omega) (by omega)
  omega
theorem YD (hB:2<=B): ∀ {l:List Nat},(∀x∈l,x<B)->(∀h:l≠[],l.getLast h≠0)->lbs B (lv B l)=l
 |[],_,_=>Bg
 |x::l,hx,hl=>by
  have hne:=Iw hB (l:=x::l) (by simp) (hl (by simp))
  have hxB:=hx x (List.mem_cons_self ..)
  have hd:lv B (x::l)/B=lv B l:=by
   show(x+B*lv B l)/B=_
   rw[Nat.add_mul_div_left _ _ (by omega),Nat.div_eq_of_lt hxB,Nat.zero_add]
  have hm:lv B (x::l)%B=x:=by
   show(x+B*lv B l)%B=_
   rw[Nat.add_mul_mod_self_left,Nat.mod_eq_of_lt hxB]
  rw[Hw hB hne,hd,hm,YD hB (fun y hy=>hx y (List.mem_cons_of_mem _ hy))]
  intro h
  have:=hl (by simp)
  rw[List.getLast_cons h] at this
  exact this
theorem YT (hB:2<=B) (n:Nat): ∀h:lbs B n≠[],(lbs B n).getLast h≠0:=by
 induction n using Nat.strongRecOn with
 |_ n ih=>
  intro h
  have hn:n≠0:=fun e=>h ((DG hB).2 e)
  have e:=Hw hB hn
  by_cases hq:n/B=0
  ·have:lbs B n=[n%B]:=by rw[e,hq,Bg]
   simp only[this,List.getLast_singleton]
   have:=Nat.mod_add_div n B
   rw[hq] at this
   intro h0;rw[h0] at this;omega
  ·have h2:=ih _ (Nat.div_lt_self (by omega) (by omega)) (fun e=>hq ((DG hB).1 e))
   have h3:(n%B::lbs B (n/B)).getLast (by simp)≠0:=by rw[List.getLast_cons (fun e=>hq ((DG hB).1 e))];exact h2
   simpa only[e] using h3
theorem FW (a b:List Nat):lv B (a++b)=lv B a+B^a.length*lv B b:=by
 induction a with
 |nil=>simp[lv]
 |cons x a ih=>
  show x+B*lv B (a++b)=x+B*lv B a+B^(a.length+1)*lv B b
  rw[ih,Nat.pow_succ];grind
theorem Gu (hB:2<=B): ∀ {l:List Nat},(∀x∈l,x<B)->lv B l<B^l.length
 |[],_=>by show 0<B^0;simp
 |x::l,h=>by
  have h1:=Gu hB (l:=l) fun y hy=>h y (List.mem_cons_of_mem _ hy)
  have h2:=h x (List.mem_cons_self ..)
  show x+B*lv B l<B^(l.length+1)
  have h3:B*(lv B l+1)<=B*B^l.length:=Nat.mul_le_mul_left _ h1
  rw[Nat.pow_succ,Nat.mul_comm (B^l.length)]
  rw[Nat.mul_add,Nat.mul_one] at h3
  omega
theorem Fx (n:Nat):lv B (List.replicate n 0)=0:=by
 induction n with
 |zero=>rfl
 |succ n ih=>show 0+B*lv B (List.replicate n 0)=0;rw[ih];simp
theorem IR: ∀ {l:List Nat} {i x:Nat} (v:Nat),l[i]? =some x->lv B (l.set i v)+B^i*x=lv B l+B^i*v
 |[],_,_,_,h=>by simp at h
 |y::l,0,x,v,h=>by
  obtain rfl:y=x:=by simpa using h
  show v+B*lv B l+B^0*y=y+B*lv B l+B^0*v
  rw[Nat.pow_zero];omega
 |y::l,i+1,x,v,h=>by
  have:=IR (l:=l) (i:=i) (x:=x) v (by simpa using h)
  show y+B*lv B (l.set i v)+B^(i+1)*x=y+B*lv B l+B^(i+1)*v
  rw[Nat.pow_succ];grind
def lim (l:List Nat) (i:Nat):Nat:=l.getD i 0
theorem Su {l:List Nat} {i x:Nat} (h:l[i]? =some x):lim l i=x:=by simp[lim,List.getD,h]
theorem Sx {l:List Nat} {i:Nat} (h:l.length<=i):lim l i=0:=by simp[lim,List.getD,List.getElem?_eq_none h]
theorem DM {l:List Nat} {i:Nat} (h:i<l.length):l[i]? =some (lim l i):=by
 rw[List.getElem?_eq_getElem h,Su (List.getElem?_eq_getElem h)]
theorem CI (hB:2<=B): ∀ {l:List Nat} (i:Nat),(∀x∈l,x<B)->lim l i=lv B l/B^i%B
 |[],i,_=>by show 0=0/B^i%B;simp
 |x::l,0,h=>by
  show x=(x+B*lv B l)/B^0%B
  rw[Nat.pow_zero,Nat.div_one,Nat.add_mul_mod_self_left,Nat.mod_eq_of_lt (h x (List.mem_cons_self ..))]
 |x::l,i+1,h=>by
  have h1:=CI hB (l:=l) i fun y hy=>h y (List.mem_cons_of_mem _ hy)
  show lim l i=(x+B*lv B l)/B^(i+1)%B
  rw[h1,Nat.pow_succ,Nat.mul_comm (B^i), <-Nat.div_div_eq_div_mul,Nat.add_mul_div_left _ _ (by omega),Nat.div_eq_of_lt (h x (List.mem_cons_self ..)),Nat.zero_add]
theorem Bo (hB:2<=B) (n i:Nat):lim (lbs B n) i=n/B^i%B:=by
 rw[CI hB i (Br hB n),Mj hB]
theorem Bk (hB:2<=B) {l:List Nat} (h: ∀x∈l,x<B) (i:Nat):lim l i<B:=by
 rw[CI hB i h];exact Nat.mod_lt _ (by omega)
theorem RX (hB:2<=B) {l:List Nat} (h: ∀x∈l,x<B) (i:Nat):lv B (l.take i)=lv B l%B^i:=by
 have h1:lv B l=lv B (l.take i)+B^(l.take i).length*lv B (l.drop i):=by
  rw[<-FW,List.take_append_drop]
 by_cases hi:i<=l.length
 ·have hl:(l.take i).length=i:=by rw[List.length_take];omega
  have h2:=Gu hB (l:=l.take i) fun x hx=>h x (List.mem_of_mem_take hx)
  rw[hl] at h1 h2
  rw[h1,Nat.add_mul_mod_self_left,Nat.mod_eq_of_lt h2]
 ·rw[List.take_of_length_le (by omega)]
  have h2:=Gu hB h
  rw[Nat.mod_eq_of_lt (Nat.lt_of_lt_of_le h2 (Nat.pow_le_pow_right (by omega) (by omega)))]
theorem ED (n i:Nat):n%B^(i+1)=n%B^i+B^i*(n/B^i%B):=by
 rw[Nat.pow_succ,Nat.mod_mul]
theorem BZ (hB:2<=B) {n k:Nat}:(lbs B n).length<=k↔n<B^k:=by
 constructor
 ·intro h
  have h1:=Gu hB (Br hB n)
  rw[Mj hB] at h1
  exact Nat.lt_of_lt_of_le h1 (Nat.pow_le_pow_right (by omega) h)
 ·intro h
  rcases Nat.lt_or_ge k (lbs B n).length with hk|hk
  ·exfalso
   have hne:lbs B n≠[]:=fun e=>by rw[e] at hk;exact absurd hk (Nat.not_lt_zero _)
   have hl:=YT hB n hne
   rw[List.getLast_eq_getElem] at hl
   have h1:=Su (List.getElem?_eq_getElem (l:=lbs B n) (i:=(lbs B n).length-1) (by omega))
   rw[Bo hB,Nat.div_eq_of_lt (Nat.lt_of_lt_of_le h (Nat.pow_le_pow_right (by omega) (by omega)))] at h1
   exact hl (by rw[<-h1];simp)
  ·exact hk
theorem RJ (hB:2<=B) {n:Nat} (hn:n≠0):B^((lbs B n).length-1)<=n:=by
 rcases Nat.lt_or_ge n (B^((lbs B n).length-1)) with h|h
 ·have:=(BZ hB).2 h
  have h0:(lbs B n).length≠0:=fun e=>hn ((DG hB).1 (List.length_eq_zero_iff.1 e))
  omega
 ·exact h
theorem AJ (hB:2<=B) (n:Nat):n<B^(lbs B n).length:=(BZ hB).1 (Nat.le_refl _)
theorem Td (hB:2<=B) {l:List Nat} {k:Nat} (hk:k<=l.length) (h: ∀x∈l,x<B) (hz: ∀i,k<=i->i<l.length->l[i]? =some 0) (hl:k=0\/l[k-1]? ≠some 0):l.take k=lbs B (lv B l):=by
 have hd:l.drop k=List.replicate (l.length-k) 0:=by
  apply List.ext_getElem?
  intro i
  rw[List.getElem?_drop]
  by_cases hi:i<l.length-k
  ·rw[hz (k+i) (by omega) (by omega),List.getElem?_replicate_of_lt hi]
  ·rw[List.getElem?_eq_none (by omega),List.getElem?_eq_none (by rw[List.length_replicate];omega)]
 have h1:lv B l=lv B (l.take k):=by
  have:=FW (B:=B) (l.take k) (l.drop k)
  rw[List.take_append_drop,hd,Fx,Nat.mul_zero,Nat.add_zero] at this
  exact this
 rw[h1]
 refine(YD hB (fun x hx=>h x (List.mem_of_mem_take hx)) fun hne=> ?_).symm
 have hk0:k≠0:=fun e=>hne (by rw[e];rfl)
 intro h0
 rcases hl with hl|hl
 ·exact hk0 hl
 ·apply hl
  rw[List.getLast_eq_getElem] at h0
  have hlen:(l.take k).length=k:=by rw[List.length_take];omega
  rw[List.getElem?_eq_getElem (by omega)]
  congr 1
  rw[<-h0,List.getElem_take]
  congr 1;omega
theorem fF (hB:2<=B) {l m:List Nat} (hl: ∀x∈l,x<B) (hm: ∀x∈m,x<B) (hlen:l.length=m.length) (h:lv B l=lv B m):l=m:=by
 apply List.ext_getElem?
 intro i
 by_cases hi:i<l.length
 ·rw[DM hi,DM (l:=m) (by omega),CI hB i hl,CI hB i hm,h]
 ·rw[List.getElem?_eq_none (by omega),List.getElem?_eq_none (by omega)]
theorem Dd {l:List Nat} {i v:Nat} (h: ∀x∈l,x<B) (hv:v<B): ∀x∈l.set i v,x<B:=fun x hx=>by
 rcases List.mem_or_eq_of_mem_set hx with hx|rfl
 ·exact h x hx
 ·exact hv
end
end
section
section
variable {B:Nat}
theorem Rt {out:List Nat} {i:Nat} (hl:out.length=i) (s:Nat):lv B (out++[s])=lv B out+B^i*s:=by
 rw[FW,hl]
 show _+B^i*(s+B*0)=_
 rw[Nat.mul_zero,Nat.add_zero]
theorem Qy (n i:Nat):B^i*n=B^i*(n%B)+B^(i+1)*(n/B):=by
 have:=Nat.mod_add_div n B
 rw[Nat.pow_succ,Nat.mul_assoc, <-Nat.mul_add,this]
theorem Qh {out:List Nat} {a b c i:Nat} (hl:out.length=i) (h:lv B out+B^i*c=a%B^i+b%B^i) {s:Nat} (hs:s=a/B^i%B+b/B^i%B+c):
  lv B (out++[s%B])+B^(i+1)*(s/B)=a%B^(i+1)+b%B^(i+1):=by
 have h1:=Qy (B:=B) s i
 rw[Rt hl,ED a i,ED b i]
 have h2:B^i*s=B^i*(a/B^i%B)+B^i*(b/B^i%B)+B^i*c:=by rw[hs,Nat.mul_add,Nat.mul_add]
 omega
theorem XN (hB:2<=B) {out:List Nat} {a b c m:Nat} (h:lv B out+B^(m+1)*c=a%B^(m+1)+b%B^(m+1)) (ha:a<B^m) (hb:b<B^m):lv B out=a+b:=by
 have h1:B^(m+1)=B^m*B:=Nat.pow_succ ..
 have h2:B^m*2<=B^m*B:=Nat.mul_le_mul_left _ hB
 rw[Nat.mod_eq_of_lt (by omega),Nat.mod_eq_of_lt (by omega)] at h
 rcases Nat.eq_zero_or_pos c with hc|hc
 ·rw[hc,Nat.mul_zero] at h;exact h
 ·have:B^(m+1)*1<=B^(m+1)*c:=Nat.mul_le_mul_left _ hc
  omega
theorem Pi {out:List Nat} {a b c i:Nat} (hl:out.length=i) (h:lv B out+b%B^i=a%B^i+B^i*c) {s c':Nat} (hs:s+b/B^i%B+c=a/B^i%B+B*c'):
  lv B (out++[s])+b%B^(i+1)=a%B^(i+1)+B^(i+1)*c':=by
 rw[Rt hl,ED a i,ED b i]
 have h2:B^i*(s+b/B^i%B+c)=B^i*(a/B^i%B+B*c'):=by rw[hs]
 have h3:B^i*(B*c')=B^(i+1)*c':=by rw[Nat.pow_succ,Nat.mul_assoc]
 rw[Nat.mul_add,Nat.mul_add,Nat.mul_add,h3] at h2
 omega
theorem QG (hB:2<=B) {out:List Nat} {a b c m:Nat} (hl:out.length=m) (ho: ∀x∈out,x<B) (h:lv B out+b%B^m=a%B^m+B^m*c) (ha:a<B^m) (hb:b<=a):lv B out=a-b:=by
 have h0:=Gu hB ho
 rw[hl] at h0
 rw[Nat.mod_eq_of_lt (by omega),Nat.mod_eq_of_lt (by omega)] at h
 rcases Nat.eq_zero_or_pos c with hc|hc
 ·rw[hc,Nat.mul_zero] at h;omega
 ·have:B^m*1<=B^m*c:=Nat.mul_le_mul_left _ hc
  omega
theorem Kq {out:List Nat} {s b x c i k o n:Nat} (ho:out[i+k]? =some o) (h:lv B out+B^(i+k)*c=s+B^i*(x*(b%B^k))) (hn:n=o+x*(b/B^k%B)+c):
  lv B (out.set (i+k) (n%B))+B^(i+(k+1))*(n/B)=s+B^i*(x*(b%B^(k+1))):=by
 have h1:=IR (B:=B) (n%B) ho
 have h2:=Qy (B:=B) n (i+k)
 have h3:B^(i+k)*n=B^(i+k)*o+B^(i+k)*(x*(b/B^k%B))+B^(i+k)*c:=by rw[hn,Nat.mul_add,Nat.mul_add]
 have h4:B^i*(x*(b%B^(k+1)))=B^i*(x*(b%B^k))+B^(i+k)*(x*(b/B^k%B)):=by
  rw[ED,Nat.pow_add];grind
 rw[Nat.add_assoc] at h2
 omega
theorem MK {x y o c n:Nat} (hx:x<B) (hy:y<B) (ho:o<B) (hc:c<B) (hn:n=o+x*y+c):n/B<B/\n<B*B:=by
 have h1:x*y<=(B-1)*(B-1):=Nat.mul_le_mul (by omega) (by omega)
 have h2:n<B*B:=by
  have h3:B*B=(B-1)*(B-1)+(B-1)+(B-1)+1:=by
   obtain⟨d,rfl⟩: ∃d,B=d+1:=⟨B-1,by omega⟩
   simp only[Nat.add_sub_cancel];grind
  omega
 exact⟨Nat.div_lt_of_lt_mul h2,h2⟩
theorem QD (hB:2<=B) {out:List Nat} {s b x c i m:Nat} (h:lv B out+B^(i+(m+1))*c=s+B^i*(x*(b%B^(m+1)))) (hb:b<B^m) (hx:x<B) (hs:s<B^(i+m)):lv B out=s+B^i*(x*b)/\c=0:=by
 have h1:B^(m+1)=B^m*B:=Nat.pow_succ ..
 have h2:B^m*2<=B^m*B:=Nat.mul_le_mul_left _ hB
 rw[Nat.mod_eq_of_lt (show b<B^(m+1) by omega)] at h
 have h3:x*b+B^m<=B^(m+1):=by
  have h4:x*b<=x*B^m:=Nat.mul_le_mul_left _ (by omega)
  have h5:(x+1)*B^m<=B*B^m:=Nat.mul_le_mul_right _ hx
  rw[Nat.add_mul,Nat.one_mul,Nat.mul_comm B] at h5
  omega
 have h6:=Nat.mul_le_mul_left (B^i) h3
 rw[Nat.mul_add, <-Nat.pow_add, <-Nat.pow_add] at h6
 rcases Nat.eq_zero_or_pos c with hc|hc
 ·rw[hc,Nat.mul_zero] at h;exact⟨h,hc⟩
 ·have:B^(i+(m+1))*1<=B^(i+(m+1))*c:=Nat.mul_le_mul_left _ hc
  omega
theorem O8 {s a b i:Nat} (h:s=a%B^i*b):s+B^i*(a/B^i%B*b)=a%B^(i+1)*b:=by
 rw[ED,Nat.add_mul,h,Nat.mul_assoc]
theorem MD (hB:2<=B) {a b i m:Nat} (hb:b<B^m):a%B^i*b<B^(i+m):=by
 have h1:0<B^i:=Nat.pow_pos (by omega)
 have h2:=Nat.mod_lt a h1
 have h3:a%B^i*b<=(B^i-1)*b:=Nat.mul_le_mul_right _ (by omega)
 have h4:B^i*b<B^i*B^m:=Nat.mul_lt_mul_of_pos_left hb h1
 rw[Nat.pow_add]
 have h5:(B^i-1)*b<=B^i*b:=Nat.mul_le_mul_right _ (by omega)
 omega
theorem Kn {a d r q i:Nat} (h:a/B^(i+1)=q*d+r) {n:Nat} (hn:n=a/B^i%B+r*B):a/B^i=(q*B+n/d)*d+n%d:=by
 have h1:a/B^(i+1)=a/B^i/B:=by rw[Nat.pow_succ,Nat.div_div_eq_div_mul]
 have h2:=Nat.mod_add_div (a/B^i) B
 have h3:=Nat.mod_add_div n d
 rw[<-h1,h] at h2
 grind
theorem Ui {d r x n:Nat} (hx:x<B) (hr:r<d) (hn:n=x+r*B):n/d<B:=by
 apply Nat.div_lt_of_lt_mul
 have:(r+1)*B<=d*B:=Nat.mul_le_mul_right _ hr
 rw[Nat.add_mul,Nat.one_mul] at this
 omega
theorem Xt {u:List Nat} {s v q c j i o n c':Nat} (ho:u[j+i]? =some o) (h:lv B u+B^j*(q*(v%B^i))=s+B^(j+i)*c) (hn:n+c+q*(v/B^i%B)=o+B*c'):
  lv B (u.set (j+i) n)+B^j*(q*(v%B^(i+1)))=s+B^(j+(i+1))*c':=by
 have h1:=IR (B:=B) n ho
 have h2:B^(j+i)*(n+c+q*(v/B^i%B))=B^(j+i)*(o+B*c'):=by rw[hn]
 have h4:B^j*(q*(v%B^(i+1)))=B^j*(q*(v%B^i))+B^(j+i)*(q*(v/B^i%B)):=by
  rw[ED,Nat.pow_add];grind
 have h3:B^(j+i)*(B*c')=B^(j+i+1)*c':=by rw[Nat.pow_succ,Nat.mul_assoc]
 rw[Nat.mul_add,Nat.mul_add,Nat.mul_add,h3] at h2
 rw[show j+(i+1)=j+i+1 by omega]
 omega
theorem V9 {W V top v1 q m:Nat} (hv:v1*m<=V) (hm:0<m) (ht:W/m=top) (h:top<q*v1):W<q*V:=by
 have h1:W<(top+1)*m:=by rw[<-ht];exact Nat.lt_mul_of_div_lt (Nat.lt_succ_self _) hm
 have h2:(top+1)*m<=q*v1*m:=Nat.mul_le_mul_right _ h
 have h3:q*(v1*m)<=q*V:=Nat.mul_le_mul_left _ hv
 rw[Nat.mul_assoc] at h2
 omega
theorem Uj {W V q:Nat} (h:W<q*V):W/V<q:=Nat.div_lt_of_lt_mul (by rw[Nat.mul_comm];exact h)
end
end
section
open Go Go.RowKit Go.Am Go.Lib
set_option maxRecDepth 10000
theorem DR (n m:Nat):((n:Nat):Int).tdiv ((m:Nat):Int)=((n/m:Nat):Int):=rfl
theorem Tr (n m:Nat):((n:Nat):Int).tmod ((m:Nat):Int)=((n%m:Nat):Int):=rfl
theorem BN {n:Nat} (h:n<9223372036854775808):w64 ((n:Nat):Int)=n:=Ar (by omega) (by omega)
theorem A0 {k:Nat} (h:k<4611686018427387904):w64 ((k:Int)+1)=((k+1:Nat):Int):=by rw[Ar (by omega) (by omega)];omega
theorem AU {a b:Nat} (h:a+b<9223372036854775808):w64 ((a:Int)+b)=((a+b:Nat):Int):=by rw[Ar (by omega) (by omega)];omega
theorem Cx {a b:Nat} (h:a*b<9223372036854775808):w64 ((a:Int)*b)=((a*b:Nat):Int):=by rw[<-Int.natCast_mul];exact BN h
theorem Ug (x:Nat):(((x:Nat):Int)==0)=decide (x=0):=by
 by_cases h:x=0
 ·subst h;rfl
 ·rw[dF h,beq_eq_false_iff_ne];omega
abbrev nI (l:List Nat):List Value:=l.map fun n:Nat=>Value.int .i64 (n:Int)
theorem BJ (l:List Nat):(nI l).length=l.length:=List.length_map ..
theorem Fg (l:List Nat):(nI l).length=l.length*1:=by rw[BJ,Nat.mul_one]
theorem XC {l:List Nat} {i:Nat} (h:i<l.length):(nI l)[i]? =some (.int .i64 (lim l i:Nat)):=by
 rw[List.getElem?_map,DM h];rfl
theorem Kz (a b:List Nat):nI (a++b)=nI a++nI b:=List.map_append
theorem Gx (m:Nat):Cf [Value.int .i64 0] m=nI (List.replicate m 0):=by
 induction m with
 |zero=>rfl
 |succ m ih=>
  show[Value.int .i64 0]++Cf _ m=nI (0::List.replicate m 0)
  rw[ih];rfl
def A6 (W:World) (p:Option Addr) (l:List Nat):Prop:=l=[]\/ ∃b off,p=some ⟨b,off,none⟩/\Aj W b off (nI l)
theorem A6.below {W W':World} {p:Option Addr} {l:List Nat} {n:Nat} (h:A6 W p l) (hn:W.heap.size<=n) (hb:Below n W W'):A6 W' p l:=by
 rcases h with h|⟨b,off,h1,h2⟩
 ·exact .inl h
 ·exact .inr ⟨b,off,h1,h2.below hn hb⟩
theorem A6.hp {W0 W:World} {bxs:List Bx} {p:Option Addr} {l:List Nat} (h:A6 W0 p l) (hp:Hp W0 bxs W):A6 W p l:=h.below (Nat.le_refl _) hp.below
theorem A6.row {W:World} {p:Option Addr} {l:List Nat} (h:A6 W p l) {i:Nat} (hi:i<l.length): ∃b off,p=some ⟨b,off,none⟩/\ ∀k,k<l.length->Aj W b (off+k*1) [.int .i64 (lim l k:Nat)]:=by
 rcases h with rfl|⟨b,off,h1,h2⟩
 ·exact absurd hi (Nat.not_lt_zero _)
 ·refine⟨b,off,h1,fun k hk=>⟨h2.lt,fun j u hu=> ?_⟩⟩
  have hj:j=0:=by have:=(List.getElem?_eq_some_iff.1 hu).1;simpa using this
  subst hj
  have:=h2.get k _ (XC hk)
  rw[Nat.mul_one,Nat.add_zero,this]
  simpa using hu
theorem Aj.of_ints {W0 W:World} {bxs:List Bx} (hp:Hp W0 bxs W) (k:Nat) {g:Nat} {l:List Nat} {junk:List Value} (hk:nth bxs k=some ⟨g,3,nI l++junk,true,none⟩) {i:Nat} (hi:i<l.length):Aj W g (0+i*1) [.int .i64 (lim l i:Nat)]:=by
 have h:=Aj.of_bx hp k hk rfl
 refine⟨h.lt,fun j u hu=> ?_⟩
 have hj:j=0:=by have:=(List.getElem?_eq_some_iff.1 hu).1;simpa using this
 subst hj
 have:=h.get i (.int .i64 (lim l i:Nat)) (by
  show(nI l++junk)[i]? =_
  rw[List.getElem?_append_left (by rw[BJ];exact hi),XC hi])
 rw[Nat.mul_one,Nat.add_zero,this]
 simpa using hu
theorem Aj.of_intsX {W0 W:World} {bxs:List Bx} (hp:Hp W0 bxs W) (k:Nat) {g:Nat} {l:List Nat} {junk:List Value} (hk:nth bxs k=some ⟨g,3,nI l++junk,true,none⟩) {i x:Nat} (hi:i<l.length) (hx:lim l i=x):Aj W g (0+i*1) [.int .i64 (x:Nat)]:=by
 have:=Aj.of_ints hp k hk hi
 rwa [hx] at this
theorem A6.of_bx {W0 W:World} {bxs:List Bx} (hp:Hp W0 bxs W) (k:Nat) {g:Nat} {l:List Nat} {junk:List Value} (hk:nth bxs k=some ⟨g,3,nI l++junk,true,none⟩):A6 W (some ⟨g,0,none⟩) l:=by
 have h:=Aj.of_bx hp k hk rfl
 refine .inr ⟨g,0,I,h.lt,fun j u hu=>h.get j u ?_⟩
 show(nI l++junk)[j]? =some u
 rw[List.getElem?_append_left (List.getElem?_eq_some_iff.1 hu).1]
 exact hu
theorem A6.take {W:World} {p:Option Addr} {l:List Nat} (h:A6 W p l) (k:Nat):A6 W p (l.take k):=by
 rcases h with rfl|⟨b,off,h1,h2⟩
 ·exact .inl (by simp)
 ·refine .inr ⟨b,off,h1,h2.lt,fun j u hu=>h2.get j u ?_⟩
  have hj:=(List.getElem?_eq_some_iff.1 hu).1
  rw[BJ,List.length_take] at hj
  rw[List.getElem?_map,List.getElem?_take_of_lt (by omega)] at hu
  rw[List.getElem?_map];exact hu
theorem Yg {V:Vec} {l:List Nat} (hV:V.OK 1 l.length (nI l)): ∃p cap,V.val l.length=slv p l.length cap/\l.length<=cap/\ ∀ {W0 W:World} {bxs:List Bx},Hp W0 bxs W-> ∀k,nth bxs k=some (V.bx 3 (nI l))->A6 W p l:=by
 obtain⟨p,cap,junk⟩:=V
 cases p with
 |none=>
  have h0:=hV.nil rfl
  refine⟨none,0,by rw[h0];rfl,by omega,fun _ _ _=> .inl (List.length_eq_zero_iff.1 h0)⟩
 |some g=>exact⟨some ⟨g,0,none⟩,cap,rfl,(hV.cap (by simp)).1,fun hp k hk=>A6.of_bx hp k hk⟩
theorem CH {l:List Nat} {junk:List Value} {i:Nat} (hi:i<l.length) (v:Nat):BF (nI l++junk) (0+i*1) (Value.int .i64 (v:Nat)).cells.toList=nI (l.set i v)++junk:=by
 show(nI l++junk).take (0+i*1)++[Value.int .i64 (v:Nat)]++(nI l++junk).drop (0+i*1+1)=_
 rw[Nat.zero_add,Nat.mul_one,List.take_append_of_le_length (by rw[BJ];omega),List.drop_append_of_le_length (by rw[BJ];omega)]
 have e:nI (l.set i v)=(nI l).set i (.int .i64 (v:Nat)):=List.map_set ..
 rw[e,List.set_eq_take_append_cons_drop,if_pos (by rw[BJ];exact hi)]
 simp
theorem O4 {B:Nat} (hB:2<=B) {l:List Nat} (h: ∀x∈l,x<B):lbs B (lv B l)=l.take (lbs B (lv B l)).length:=by
 have hlen:=(BZ hB).2 (Gu hB h)
 apply List.ext_getElem?
 intro i
 by_cases hi:i<(lbs B (lv B l)).length
 ·rw[DM hi,List.getElem?_take_of_lt hi,DM (by omega),Bo hB,CI hB i h]
 ·rw[List.getElem?_eq_none (by omega),List.getElem?_eq_none (by rw[List.length_take];omega)]
abbrev NV:Type:=Nat×Nat×List Value
abbrev nvV (x:NV):Vec:=⟨some x.1,x.2.1,x.2.2⟩
abbrev B8 (x:NV) (n:Nat):Value:=slv (some ⟨x.1,0,none⟩) n x.2.1
abbrev BM (x:NV) (l:List Nat):Bx:=⟨x.1,3,nI l++x.2.2,true,none⟩
abbrev C0 (x:NV) (l:List Nat):Prop:=(nvV x).OK 1 l.length (nI l)
abbrev bs:Nat:=1000000000
theorem bs2:2<=bs:=by decide
theorem A6.trim {W:World} {p:Option Addr} {l:List Nat} (h:A6 W p l) (hl: ∀x∈l,x<bs):A6 W p (lbs bs (lv bs l)):=by
 have:=h.take (lbs bs (lv bs l)).length
 rwa [<-O4 bs2 hl] at this
theorem Hg {g cap:Nat} {junk:List Value} {l:List Nat} (h:(⟨some g,cap,junk⟩:Vec).OK 1 l.length (nI l)) (hl: ∀x∈l,x<bs):
  ∃junk',(⟨some g,cap,junk'⟩:Vec).OK 1 (lbs bs (lv bs l)).length (nI (lbs bs (lv bs l)))/\nI l++junk=nI (lbs bs (lv bs l))++junk':=by
 obtain⟨h1,h2,h3⟩:=h.cap (by simp)
 have e:=O4 bs2 hl
 have hlen:=(BZ bs2).2 (Gu bs2 hl)
 have e2:nI l=nI (lbs bs (lv bs l))++nI (l.drop (lbs bs (lv bs l)).length):=by
  conv=>lhs;rw[<-List.take_append_drop (lbs bs (lv bs l)).length l]
  rw[Kz, <-e]
 have h3':(nI l).length+junk.length=cap*1:=h3
 have h2':cap<=maxLen:=h2
 refine⟨nI (l.drop (lbs bs (lv bs l)).length)++junk,⟨Fg _,(fun h=>by cases h),fun _=>⟨by show _<=cap;rw[BJ] at h3';omega,h2', ?_⟩⟩, ?_⟩
 ·show(nI (lbs bs (lv bs l))).length+(nI (l.drop (lbs bs (lv bs l)).length)++junk).length=cap*1
  rw[List.length_append,BJ,BJ,List.length_drop]
  rw[BJ] at h3';omega
 ·rw[<-List.append_assoc, <-e2]
theorem Kl (W:World) (p:Option Addr) (cap:Nat) (l:List Nat) (i:Nat) (h:A6 W p l) (hi:i<4611686018427387904):Ae Tryz.prog 232 #[slv p l.length cap, .int .i64 (i:Nat)] W (fun _:Unit=> .int .i64 (lim l i:Nat)) (fun _=>True) (fun _=>[]):=by
 refine Ab Tryz.func232 I I I<|xb<|wP I<|xk<|At I<|xa<|Ag I (fun hc=> ?_) (fun hc=> ?_)
 ·have hl:i<l.length:=by simp at hc;omega
  obtain⟨b,off,rfl,hrow⟩:=h.row hl
  refine xb<|Aa I<|wJ ?_
  exact wL 0 I I (fun W hp=>(hrow i hl).hp hp) I<|wP I<|xo<|wR1 I I I
 ·have hl:l.length<=i:=by simp at hc;omega
  exact xm<|wP I<|xc<|wR1 I I (by rw[Sx hl];rfl)
theorem Jj (W:World) (p:Option Addr) (cap n:Nat) (l:List Nat) (i x:Nat) (h:A6 W p l) (hn:l.length=n) (hi:i<4611686018427387904) (hx:lim l i=x):Ae Tryz.prog 232 #[slv p n cap, .int .i64 (i:Nat)] W (fun _:Unit=> .int .i64 (x:Nat)) (fun _=>True) (fun _=>[]):=by
 subst hn hx
 exact Kl W p cap l i h hi
theorem D3 (W:World) (p:Option Addr) (cap:Nat) (l:List Nat) (h:A6 W p l) (hl: ∀x∈l,x<bs) (hc:l.length<=cap) (hn:l.length<4611686018427387904):
  Ae Tryz.prog 195 #[slv p l.length cap] W (fun _:Unit=>slv p (lbs bs (lv bs l)).length cap) (fun _=>True) (fun _=>[]):=by
 refine Ab Tryz.func195 I I I<|xb<|wP I<|xl<|zH<|Av (X:=Nat) (fun k=>[(0,slv p k cap)]) (fun _=>[]) (fun k=>k<=l.length/\ ∀i,k<=i->i<l.length->l[i]? =some 0) (fun k=>k) l.length ⟨Nat.le_refl _,fun i h1 h2=>by omega⟩ ⟨I,tO⟩ [] I ?_
 rintro k ⟨hk,hz⟩
 have hend:(k=0\/l[k-1]? ≠some 0)->(lbs bs (lv bs l)).length=k:=fun h0=>by
  rw[<-Td bs2 hk hl hz h0,List.length_take];omega
 by_cases h0:k=0
 ·subst h0
  refine xd<|Ad I<|Ap 5 (.bool false) I I<|wP I<|?_
  iterate 7 refine Af I I ?_
  exact wP I<|xa<|zS I<|xg<|xn<|Aa I<|xc<|wR1 I I (by rw[hend (.inl I)])
 ·refine xd<|Ad I<|wU 5 true I (by simp;omega)<|?_
  obtain⟨b,off,rfl,hrow⟩:=h.row (show k-1<l.length by omega)
  refine Ak I<|wV 10 ((k-1:Nat):Int) I (by show w64 ((k:Int)-1)=_;rw[Ar (by omega) (by omega)];omega)<|wJ ?_
  refine wL 0 I I (fun W hp=>(hrow (k-1) (by omega)).hp hp) I<|Aa I<|xa<|?_
  have e1:((lim l (k-1):Int)==0)=decide (l[k-1]? =some 0):=by
   rw[DM (show k-1<l.length by omega),Ug]
   simp
  refine Ag I (fun hc=> ?_) (fun hc=> ?_)
  ·have hz0:l[k-1]? =some 0:=by simpa[e1] using hc
   refine xe<|zH<|zB<|At I<|wV 18 ((k-1:Nat):Int) I (by show w64 ((k:Int)-1)=_;rw[Ar (by omega) (by omega)];omega)<|BG (k-1) tH I I I I I I I I (by omega) ?_
   refine wP I<|zC<|zN<|Al (k-1) ⟨by omega,fun i h1 h2=> ?_⟩ (by omega) ⟨I,tO⟩ [] I
   by_cases hi:i=k-1
   ·rw[hi];exact hz0
   ·exact hz i (by omega) h2
  ·have hz0:l[k-1]? ≠some 0:=by simpa[e1] using hc
   exact xg<|xn<|Aa I<|xc<|wR1 I I (by rw[hend (.inr hz0)])
theorem UN (x y c:Nat) (hx:x<bs) (hy:y<bs) (hc:c<=1):Be Tryz.prog 188 [.int .i64 (x:Nat), .int .i64 (y:Nat), .int .i64 (c:Nat)] (.tuple #[.int .i64 ((x+y+c)%bs:Nat), .int .i64 ((x+y+c)/bs:Nat)]):=by
 intro W
 have hxb:x<1000000000:=hx
 have hyb:y<1000000000:=hy
 have e1:w64 (w64 ((x:Int)+y)+c)=((x+y+c:Nat):Int):=by
  rw[Ar (x:=(x:Int)+y) (by omega) (by omega),Ar (by omega) (by omega)];omega
 refine Ab Tryz.func188 I I I<|xb<|Aa I<|xf<|Ak I<|wV 12 ((x+y+c:Nat):Int) I e1<|FC I I I I I (by decide) ?_
 refine Ak I<|wV 18 ((x+y+c:Nat):Int) I e1<|Ef I I I I I (by decide) ?_
 refine Aa I<|xc<|wR2 I I ?_
 have e2:w64 (((x+y+c:Nat):Int).tdiv 1000000000)=(((x+y+c)/bs:Nat):Int):=by
  have:((x+y+c:Nat):Int).tdiv 1000000000=(((x+y+c)/bs:Nat):Int):=rfl
  rw[this]
  exact BN (Nat.lt_of_le_of_lt (Nat.div_le_self ..) (by omega))
 exact congrArg (fun z=>Value.tuple #[.int .i64 ((x+y+c)%bs:Nat), .int .i64 z]) e2
end
section
open Go Go.Lib
theorem cH (n:Nat):(decDigits n).length=nDigits n:=by
 rw[decDigits_eq,List.length_map,List.length_range]
theorem Yf {n i:Nat} (hi:i<(decDigits n).length):(decDigits n)[(decDigits n).length-1-i]? =some (UInt8.ofNat (48+n/10^i%10)):=by
 have hl:=cH n
 rw[hl] at hi⊢
 conv=>lhs;rw[decDigits_eq]
 rw[List.getElem?_map,List.getElem?_range (by omega)]
 show some (dg n (nDigits n-1-(nDigits n-1-i)))=_
 rw[show nDigits n-1-(nDigits n-1-i)=i by omega]
 rfl
theorem Fq (n:Nat):n<10^(decDigits n).length:=by rw[cH];exact lt_pow_nDigits n
def pad (k x:Nat):List UInt8:=List.replicate (k-(decDigits x).length) 48++decDigits x
theorem RZ (q d:Nat) (hq:q≠0) (hd:d<10):decDigits (10*q+d)=decDigits q++[UInt8.ofNat (48+d)]:=by
 rw[decDigits,dif_neg (by omega),show(10*q+d)/10=q by omega,show(10*q+d)%10=d by omega]
theorem Yk (k q d:Nat) (hd:d<10) (hx:q<10^k) (hk:1<=k):pad (k+1) (10*q+d)=pad k q++[UInt8.ofNat (48+d)]:=by
 unfold pad
 by_cases hq:q=0
 ·subst hq
  rw[Nat.mul_zero,Nat.zero_add,HT,decDigits,dif_pos hd]
  show List.replicate k 48++_=List.replicate (k-1) 48++[48]++_
  rw[<-List.replicate_succ',show k-1+1=k by omega]
 ·rw[RZ q d hq hd,List.length_append, <-List.append_assoc]
  show List.replicate (k+1-((decDigits q).length+1)) 48++_++_=_
  rw[show k+1-((decDigits q).length+1)=k-(decDigits q).length by omega]
theorem S8 (q:Nat) (hq:q≠0): ∀(k x:Nat),1<=k->x<10^k->decDigits (10^k*q+x)=decDigits q++pad k x
 |0,_,h,_=>by omega
 |1,x,_,hx=>by
  have hx:x<10:=by simpa using hx
  rw[show 10^1*q+x=10*q+x by simp,RZ q x hq hx]
  have e:decDigits x=[UInt8.ofNat (48+x)]:=by rw[decDigits,dif_pos hx]
  unfold pad
  rw[e];rfl
 |k+2,x,_,hx=>by
  have h10:x=10*(x/10)+x%10:=by omega
  have hxk:x/10<10^(k+1):=by rw[Nat.pow_succ] at hx;omega
  have h1:=S8 q hq (k+1) (x/10) (by omega) hxk
  have h2:=Yk (k+1) (x/10) (x%10) (Nat.mod_lt _ (by omega)) hxk (by omega)
  rw[<-h10] at h2
  rw[h2, <-List.append_assoc, <-h1]
  have hne:10^(k+1)*q+x/10≠0:=by
   have:0<10^(k+1)*q:=Nat.mul_pos (Nat.pow_pos (by omega)) (by omega)
   omega
  rw[<-RZ _ _ hne (Nat.mod_lt _ (by omega))]
  congr 1
  rw[Nat.pow_succ 10 (k+1)]
  have:10*(10^(k+1)*q)=10^(k+1)*10*q:=by grind
  omega
theorem WP {w B n i o d:Nat} {l:List Nat} (hw:1<=w) (hB:B=10^w) (hl: ∀x∈l,x<B) (h:lv B l=n%10^i) (ho:l[i/w]? =some o) (hd:d=n/10^i%10):
  o<10^(i%w)/\o+d*10^(i%w)<B/\lv B (l.set (i/w) (o+d*10^(i%w)))=n%10^(i+1):=by
 have hB2:2<=B:=by
  rw[hB]
  have:=Nat.pow_le_pow_right (show 0<10 by omega) hw
  omega
 have hi:10^i=B^(i/w)*10^(i%w):=by
  rw[hB, <-Nat.pow_mul, <-Nat.pow_add,Nat.div_add_mod]
 have hr:0<10^(i%w):=Nat.pow_pos (by omega)
 have ho2:o<10^(i%w):=by
  have h1:=CI hB2 (i/w) hl
  rw[Su ho,h] at h1
  have h2:n%10^i/B^(i/w)<10^(i%w):=Nat.div_lt_of_lt_mul (by rw[<-hi];exact Nat.mod_lt _ (Nat.pow_pos (by omega)))
  have h3:=Nat.mod_le (n%10^i/B^(i/w)) B
  omega
 have hd10:d<10:=by rw[hd];exact Nat.mod_lt _ (by omega)
 refine⟨ho2, ?_, ?_⟩
 ·have h1:(d+1)*10^(i%w)<=10*10^(i%w):=Nat.mul_le_mul_right _ (by omega)
  have h2:10^(i%w+1)<=10^w:=Nat.pow_le_pow_right (by omega) (Nat.mod_lt _ (by omega))
  rw[Nat.pow_succ] at h2
  rw[Nat.add_mul,Nat.one_mul] at h1
  omega
 ·have h1:=IR (B:=B) (o+d*10^(i%w)) ho
  have h2:n%10^(i+1)=n%10^i+10^i*d:=by rw[hd];exact ED n i
  rw[Nat.mul_add] at h1
  have h3:B^(i/w)*(d*10^(i%w))=10^i*d:=by rw[hi];grind
  omega
theorem Is {B:Nat} (hB:0<B) (k:Nat): ∀x∈List.replicate k 0,x<B:=fun x hx=>by
 rw[List.eq_of_mem_replicate hx];exact hB
theorem Hc (c:UInt8): ∀s:List UInt8,c∉s\/ ∃a b,s=a++c::b/\c∉a
 |[]=> .inl List.not_mem_nil
 |x::s=>by
  by_cases e:x=c
  ·subst e;exact .inr ⟨[],s,rfl,List.not_mem_nil⟩
  ·rcases Hc c s with h|⟨a,b,h,h2⟩
   ·exact .inl fun hm=>by
     rcases List.mem_cons.1 hm with e'|hm
     ·exact e e'.symm
     ·exact h hm
   ·refine .inr ⟨x::a,b,by rw[h];rfl,fun hm=> ?_⟩
    rcases List.mem_cons.1 hm with e'|hm
    ·exact e e'.symm
    ·exact h2 hm
theorem Np {c:UInt8}: ∀ {s:List UInt8},c∉s->index s [c]= -1
 |[],_=>rfl
 |x::s,h=>by
  have hx:(c==x)=false:=beq_false_of_ne fun e=>h (e▸List.mem_cons_self ..)
  unfold index
  rw[if_neg (by simp[List.isPrefixOf,hx]),Np fun h'=>h (List.mem_cons_of_mem _ h')];rfl
theorem SA {c:UInt8} (b:List UInt8): ∀ {a:List UInt8},c∉a->index (a++c::b) [c]=a.length
 |[],_=>by
  show index (c::b) [c]=_
  unfold index
  rw[if_pos (by simp[List.isPrefixOf])];rfl
 |x::a,h=>by
  have hx:(c==x)=false:=beq_false_of_ne fun e=>h (e▸List.mem_cons_self ..)
  have ih:=SA b (a:=a) fun h'=>h (List.mem_cons_of_mem _ h')
  show index (x::(a++c::b)) [c]=_
  unfold index
  rw[if_neg (by simp[List.isPrefixOf,hx]),ih,if_neg (by simp),List.length_cons];omega
theorem Fs {c:UInt8} {s:List UInt8} (h:c∉s):cut s [c]=(s,[],false):=by
 unfold cut
 rw[Np h,if_neg (by decide)]
theorem GY {c:UInt8} {a:List UInt8} (b:List UInt8) (h:c∉a):cut (a++c::b) [c]=(a,b,true):=by
 unfold cut
 rw[SA b h,if_pos (by omega)]
 have e:(a++c::b).drop (a.length+1)=b:=by
  rw[show a++c::b=(a++[c])++b by simp]
  exact List.drop_left' (by simp)
 rw[show((a.length:Nat):Int).toNat=a.length by omega,show([c]:List UInt8).length=1 from rfl,e,List.take_left]
def E0 (b:UInt8):Bool:=decide (48<=b.toNat)&&decide (b.toNat<=57)
theorem CS {b:UInt8}:E0 b=true↔48<=b.toNat/\b.toNat<=57:=by simp[E0]
def AP (s:List UInt8):Nat:=s.foldl (fun n b=>10*n+(b.toNat-48)) 0
theorem DD (s:List UInt8) (c:UInt8):AP (s++[c])=10*AP s+(c.toNat-48):=by simp[AP,List.foldl_append]
structure PP (s:List UInt8):Prop where
 ne:s≠[]
 all: ∀b∈s,E0 b=true
 lead:1<s.length->s[0]? ≠some 48
theorem Gr (n:Nat):PP (decDigits n):=by
 refine⟨F5 n,fun b hb=>CS.2 (FV n b hb),fun h=> ?_⟩
 have hn:n≠0:=fun e=>by rw[e,HT] at h;exact absurd h (by decide)
 obtain⟨b,r,h1,h2⟩:=Na n hn
 rw[h1]
 intro e
 have e:b=48:=by simpa using e
 rw[e] at h2
 exact h2 I
theorem BX (n:Nat):AP (decDigits n)=n:=by
 induction n using Nat.strongRecOn with
 |_ n ih=>
  by_cases h:n<10
  ·rw[decDigits,dif_pos h]
   show 10*0+((UInt8.ofNat (48+n)).toNat-48)=n
   rw[DJ h];omega
  ·rw[decDigits,dif_neg h,DD,ih (n/10) (by omega),DJ (Nat.mod_lt _ (by omega))]
   omega
theorem VY {c:UInt8} (h:E0 c=true):UInt8.ofNat (48+(c.toNat-48))=c:=by
 have:=CS.1 h
 rw[show 48+(c.toNat-48)=c.toNat by omega];simp
theorem GA: ∀(k:Nat) {s:List UInt8},s.length=k->PP s->decDigits (AP s)=s
 |0,s,h,hs=>absurd (List.length_eq_zero_iff.1 h) hs.ne
 |k+1,s,h,hs=>by
  obtain⟨t,c,rfl⟩: ∃t c,s=t++[c]:=⟨s.dropLast,s.getLast hs.ne,(List.dropLast_concat_getLast hs.ne).symm⟩
  have hc:=hs.all c (by simp)
  have hc2:=CS.1 hc
  rw[DD]
  by_cases ht:t=[]
  ·subst ht
   show decDigits (10*0+(c.toNat-48))=[c]
   rw[Nat.mul_zero,Nat.zero_add,decDigits,dif_pos (by omega),VY hc]
  ·have hl:0<t.length:=List.length_pos_iff.2 ht
   have h0:t[0]? ≠some 48:=by
    have:=hs.lead (by rw[List.length_append];simp;omega)
    rwa [List.getElem?_append_left hl] at this
   have hts:PP t:=⟨ht,fun b hb=>hs.all b (List.mem_append_left _ hb),fun _=>h0⟩
   have ih:=GA k (s:=t) (by rw[List.length_append] at h;simpa using h) hts
   have hne:AP t≠0:=fun e=>by
    rw[e,HT] at ih
    rw[<-ih] at h0
    exact h0 I
   rw[RZ _ _ hne (by omega),ih,VY hc]
theorem TF {s:List UInt8}:PP s↔s=decDigits (AP s):=by
 constructor
 ·exact fun h=>(GA _ I h).symm
 ·intro h;rw[h];exact Gr _
def ldn:List UInt8->Nat
 |[]=>0
 |b::s=>if E0 b then ldn s+1 else 0
theorem Kw: ∀s,ldn s<=s.length
 |[]=>Nat.le_refl _
 |b::s=>by
  unfold ldn
  split
  ·have:=Kw s;simp;exact this
  ·simp
theorem IF: ∀ {s:List UInt8} {i:Nat},i<ldn s-> ∃b,s[i]? =some b/\E0 b=true
 |[],i,h=>absurd h (Nat.not_lt_zero _)
 |b::s,i,h=>by
  unfold ldn at h
  split at h
  ·rename_i hb
   cases i with
   |zero=>exact⟨b,rfl,hb⟩
   |succ i=>
    obtain⟨c,h1,h2⟩:=IF (s:=s) (i:=i) (by omega)
    exact⟨c,by simpa using h1,h2⟩
  ·exact absurd h (Nat.not_lt_zero _)
theorem Lh: ∀ {s:List UInt8} {b:UInt8},s[ldn s]? =some b->E0 b=false
 |[],b,h=>by simp[ldn] at h
 |c::s,b,h=>by
  unfold ldn at h
  split at h
  ·exact Lh (s:=s) (by simpa using h)
  ·rename_i hc
   obtain rfl:c=b:=by simpa using h
   simpa using hc
theorem fG {s:List UInt8} {k:Nat} (h1: ∀i,i<k-> ∃b,s[i]? =some b/\E0 b=true) (h2: ∀b,s[k]? =some b->E0 b=false):ldn s=k:=by
 rcases Nat.lt_trichotomy (ldn s) k with h|h|h
 ·obtain⟨b,hb,hd⟩:=h1 _ h
  rw[Lh hb] at hd;cases hd
 ·exact h
 ·obtain⟨b,hb,hd⟩:=IF h
  rw[h2 b hb] at hd;cases hd
theorem VC {d r:List UInt8} (hd: ∀b∈d,E0 b=true) (hr: ∀b,r[0]? =some b->E0 b=false):ldn (d++r)=d.length:=by
 refine fG (fun i hi=>⟨d[i],by rw[List.getElem?_append_left hi,List.getElem?_eq_getElem hi],hd _ (List.getElem_mem ..)⟩) fun b hb=> ?_
 rw[List.getElem?_append_right (Nat.le_refl _),Nat.sub_self] at hb
 exact hr b hb
theorem VR {s:List UInt8}:ldn s=s.length↔ ∀b∈s,E0 b=true:=by
 constructor
 ·intro h b hb
  obtain⟨i,hi,rfl⟩:=List.mem_iff_getElem.1 hb
  obtain⟨c,h1,h2⟩:=IF (s:=s) (i:=i) (by omega)
  rw[List.getElem?_eq_getElem hi] at h1
  cases h1;exact h2
 ·intro h
  have:=VC (d:=s) (r:=[]) h (fun b hb=>by simp at hb)
  rwa [List.append_nil] at this
def F1 (n:Int) (d:Nat):List UInt8:=if d=1 then itoa n else itoa n++47::decDigits d
def Ac (q:Rat):List UInt8:=F1 q.num q.den
theorem Qr (n:Int):(47:UInt8)∉itoa n:=by
 intro h
 unfold itoa at h
 split at h
 ·rcases List.mem_cons.1 h with h|h
  ·exact absurd h (by decide)
  ·have:=FV _ _ h;exact absurd this.1 (by decide)
 ·have:=FV _ _ h;exact absurd this.1 (by decide)
theorem UJ {s:List UInt8} (h:PP s):itoa ((AP s:Nat):Int)=s:=by
 unfold itoa
 rw[if_neg (by omega)]
 exact GA _ I h
theorem N0 {m:Nat} (h:m≠0):itoa (-(m:Int))=45::decDigits m:=by
 unfold itoa
 rw[if_pos (by omega),Int.natAbs_neg,Int.natAbs_natCast]
def H0 (n:List UInt8):Option Int:=
 if ldn (trimPrefix n [45])=(trimPrefix n [45]).length/\(trimPrefix n [45])≠[]/\(1<(trimPrefix n [45]).length->(trimPrefix n [45])[0]? ≠some 48)/\ ¬(hasPrefix n [45]=true/\trimPrefix n [45]=[48])
 then some (if hasPrefix n [45] then -(AP (trimPrefix n [45]):Int) else AP (trimPrefix n [45])) else none
theorem L4 {s:List UInt8} (h:ldn s=s.length/\s≠[]/\(1<s.length->s[0]? ≠some 48)):PP s:=⟨h.2.1,VR.1 h.1,h.2.2⟩
theorem Nm {s:List UInt8} (h:PP s):ldn s=s.length/\s≠[]/\(1<s.length->s[0]? ≠some 48):=⟨VR.2 h.all,h.ne,h.lead⟩
theorem Bj (n:List UInt8):hasPrefix n [45]=decide (n[0]? =some 45):=by
 cases n with
 |nil=>rfl
 |cons b r=>
  unfold hasPrefix
  by_cases h:b=45
  ·subst h;simp[List.isPrefixOf]
  ·have: ¬(45:UInt8)=b:=fun e=>h e.symm
   simp[List.isPrefixOf,this,h]
theorem AZ (n:List UInt8):trimPrefix n [45]=if n[0]? =some 45 then n.drop 1 else n:=by
 unfold trimPrefix
 rw[Bj]
 by_cases h:n[0]? =some 45<;>simp[h]
theorem Hn {n:List UInt8} {z:Int}:H0 n=some z↔n=itoa z:=by
 constructor
 ·intro h
  unfold H0 at h
  split at h
  ·rename_i hc
   have hok:=L4 ⟨hc.1,hc.2.1,hc.2.2.1⟩
   have h0:=hc.2.2.2
   rw[Bj,AZ] at h h0
   rw[AZ] at hok
   by_cases hm:n[0]? =some 45
   ·rw[if_pos hm] at hok h0 h
    simp only[hm,decide_true,if_true,true_and] at h h0
    have hz:AP (n.drop 1)≠0:=fun e=>by
     have:=GA _ rfl hok
     rw[e,HT] at this
     exact h0 this.symm
    injection h with h
    rw[<-h,N0 hz,GA _ rfl hok]
    cases n with
    |nil=>cases hm
    |cons b r=>
     have:b=45:=by simpa using hm
     rw[this];rfl
   ·rw[if_neg hm] at hok h
    simp only[hm,decide_false,Bool.false_eq_true,if_false] at h
    injection h with h
    rw[<-h,UJ hok]
  ·cases h
 ·rintro rfl
  unfold H0
  rw[Bf]
  have hp:hasPrefix (itoa z) [45]=decide (z<0):=by
   unfold itoa
   split
   ·rename_i h;rw[dT h];rfl
   ·rename_i h
    rw[dF h]
    obtain⟨b,r,hb,h3,h4⟩:=CU z.toNat
    rw[hb]
    have:(45:UInt8)≠b:=fun e=>by rw[<-e] at h3;exact absurd h3 (by decide)
    simp[hasPrefix,List.isPrefixOf,this]
  rw[hp]
  have ho:=Nm (Gr z.natAbs)
  have hneg: ¬(decide (z<0)=true/\decDigits z.natAbs=[48]):=fun h=>by
   have h1:z<0:=of_decide_eq_true h.1
   have h2:=congrArg AP h.2
   rw[BX] at h2
   have:z.natAbs=0:=h2
   omega
  have hv:(if decide (z<0)=true then -((z.natAbs:Nat):Int) else((z.natAbs:Nat):Int))=z:=by
   by_cases h:z<0
   ·rw[if_pos (dT h)];omega
   ·rw[if_neg (by rw[dF h];decide)];omega
  rw[BX,hv]
  exact if_pos ⟨ho.1,ho.2.1,ho.2.2,hneg⟩
def frm (a:List UInt8):Option (Int×Nat):=match H0 (cut a [47]).1 with
 |none=>none
 |some z=>if (cut a [47]).2.2=false then some (z,1) else
  if ldn (cut a [47]).2.1=(cut a [47]).2.1.length/\(cut a [47]).2.1≠[]/\(1<(cut a [47]).2.1.length->(cut a [47]).2.1[0]? ≠some 48)/\(cut a [47]).2.1≠[48]/\(cut a [47]).2.1≠[49] then some (z,AP (cut a [47]).2.1) else none
theorem G0:decDigits 1=[49]:=by rw[decDigits,dif_pos (by decide)];rfl
theorem Lx {a:List UInt8} {z:Int} {d:Nat}:frm a=some (z,d)↔(d=1/\a=itoa z)\/(2<=d/\a=itoa z++47::decDigits d):=by
 rcases Hc 47 a with h|⟨x,y,rfl,hx⟩
 ·unfold frm
  rw[Fs h]
  constructor
  ·intro h2
   cases hi:H0 a with
   |none=>simp[hi] at h2
   |some w=>
    simp only[hi,if_true] at h2
    injection h2 with h2
    injection h2 with e1 e2
    subst e1
    exact .inl ⟨e2.symm,Hn.1 hi⟩
  ·rintro(⟨rfl,rfl⟩|⟨_,rfl⟩)
   ·simp[Hn.2 rfl]
   ·exact absurd (List.mem_append_right _ (List.mem_cons_self ..)) h
 ·unfold frm
  rw[GY y hx]
  constructor
  ·intro h2
   cases hi:H0 x with
   |none=>simp[hi] at h2
   |some w=>
    simp only[hi,Bool.true_eq_false,if_false] at h2
    split at h2
    ·rename_i hc
     injection h2 with h2
     injection h2 with e1 e2
     subst e1
     have hok:=L4 ⟨hc.1,hc.2.1,hc.2.2.1⟩
     have hy:=GA _ rfl hok
     rw[e2] at hy
     refine .inr ⟨?_,by rw[<-Hn.1 hi,hy]⟩
     rcases Nat.lt_or_ge d 2 with h3|h3
     ·have h3:d=0\/d=1:=by omega
      rcases h3 with rfl|rfl
      ·exact absurd hy.symm (by rw[HT];exact hc.2.2.2.1)
      ·exact absurd hy.symm (by rw[G0];exact hc.2.2.2.2)
     ·exact h3
    ·cases h2
  ·rintro(⟨rfl,h2⟩|⟨hd,h2⟩)
   ·exact absurd (show(47:UInt8)∈itoa z by rw[<-h2];exact List.mem_append_right _ (List.mem_cons_self ..)) (Qr z)
   ·have h3:x=itoa z/\y=decDigits d:=by
     have e1:=GY y hx
     rw[h2,GY _ (Qr z)] at e1
     injection e1 with e1 e2
     injection e2 with e2 _
     exact⟨e1.symm,e2.symm⟩
    obtain⟨rfl,rfl⟩:=h3
    have ho:=Nm (Gr d)
    simp only[Hn.2 rfl,Bool.true_eq_false,if_false]
    have n1:decDigits d≠[48]:=fun e=>by have:=congrArg AP e;rw[BX] at this;have:d=0:=this;omega
    have n2:decDigits d≠[49]:=fun e=>by have:=congrArg AP e;rw[BX] at this;have:d=1:=this;omega
    rw[BX]
    exact if_pos ⟨ho.1,ho.2.1,ho.2.2,n1,n2⟩
theorem Gd (z:Int) {d:Nat} (hd:1<=d):frm (F1 z d)=some (z,d):=by
 rw[Lx]
 unfold F1
 by_cases h:d=1
 ·rw[if_pos h];exact .inl ⟨h,rfl⟩
 ·rw[if_neg h];exact .inr ⟨by omega,rfl⟩
theorem Nt {a:List UInt8} {z:Int} {d:Nat} (h:frm a=some (z,d)):1<=d/\a=F1 z d:=by
 rcases Lx.1 h with⟨rfl,h2⟩|⟨h1,h2⟩
 ·exact⟨Nat.le_refl _,h2⟩
 ·exact⟨by omega,by rw[F1,if_neg (by omega)];exact h2⟩
end
section
open Go Go.RowKit Go.Am Go.Lib
set_option maxRecDepth 10000
theorem cL (b:UInt8):decide (((b.toNat:Nat):Int)≥48)=decide (48<=b.toNat):=decide_eq_decide.2 (by omega)
theorem cP (b:UInt8):decide (((b.toNat:Nat):Int)<=57)=decide (b.toNat<=57):=decide_eq_decide.2 (by omega)
theorem DK (b c:UInt8):(((b.toNat:Nat):Int)==((c.toNat:Nat):Int))=decide (b=c):=by
 by_cases h:b=c
 ·subst h;simp
 ·rw[dF h,beq_eq_false_iff_ne]
  intro e
  exact h (UInt8.toNat_inj.1 (by omega))
def dgN (s:List UInt8):Nat:=if 1<ldn s/\s[0]? =some 48 then 0 else ldn s
theorem JV (s:List UInt8) (hs:s.length<4611686018427387904):Be Tryz.prog 252 [str s] (.int .i64 (dgN s:Nat)):=by
 intro W
 have hle:=Kw s
 refine Ab Tryz.func252 I I I<|xb<|wP I<|xf<|wP I<|xa<|GR (X:=Unit) (fun _=>[(0,str s),(3, .int .i64 (ldn s:Nat))]) (fun _=>[]) (fun _=>True) ?_ ?_
 ·refine zH<|Av (X:=Nat) (fun i=>[(0,str s),(3, .int .i64 (i:Nat))]) (fun _=>[]) (fun i=>i<=ldn s) (fun i=>s.length-i) 0 (Nat.zero_le _) ⟨I,I,tO⟩ [] I ?_
  intro i hi
  refine xd<|Ad I<|Ap 6 (.int .i64 (s.length:Nat)) I (congrArg (fun n:Nat=>Value.int .i64 (n:Int)) (A5 s))<|wP I<|?_
  cases hb:s[i]? with
  |none=>
   have hl:s.length<=i:=List.getElem?_eq_none_iff.1 hb
   have he:i=ldn s:=by omega
   refine wU 7 false I (dF (by omega))<|wP I<|?_
   iterate 4 refine Af I I ?_
   refine Aa I<|?_
   iterate 4 refine Af I I ?_
   exact wP I<|xa<|zS I<|xg<|Ao () tO ⟨I,by rw[<-he];rfl,tO⟩ [] I
  |some b=>
   have hl:i<s.length:=(List.getElem?_eq_some_iff.1 hb).1
   have hend:E0 b=false->i=ldn s:=fun h=>by
    rcases Nat.lt_or_ge i (ldn s) with h1|h1
    ·obtain⟨c,h2,h3⟩:=IF h1
     rw[hb] at h2;cases h2
     rw[h] at h3;cases h3
    ·omega
   refine wU 7 true I (dT (by omega))<|Ad I<|Bc i tH I I I I I I I I hb<|wP I<|wU 12 (decide (48<=b.toNat)) I (cL b)<|?_
   by_cases h48:48<=b.toNat
   ·refine wU 12 true I (dT h48)<|At I<|Bc i tH I I I I I I I I hb<|wP I<|wU 18 (decide (b.toNat<=57)) I (cP b)<|?_
    by_cases h57:b.toNat<=57
    ·refine wU 18 true I (dT h57)<|wP I<|xa<|zR I<|xe<|zH<|zB<|Aa I<|wV 21 ((i+1:Nat):Int) I (A0 (by omega))<|wP I<|zC<|zN<|?_
     have hi1:i+1<=ldn s:=by
      rcases Nat.lt_or_ge i (ldn s) with h1|h1
      ·exact h1
      ·have he:i=ldn s:=by omega
       rw[he] at hb
       have:=Lh hb
       rw[CS.2 ⟨h48,h57⟩] at this;cases this
     exact Al (i+1) hi1 (by omega) ⟨I,I,tO⟩ [] I
    ·have he:=hend (by simp[E0,h57])
     exact wU 18 false I (dF h57)<|wP I<|xa<|zS I<|xg<|Ao () tO ⟨I,by rw[<-he];rfl,tO⟩ [] I
   ·have he:=hend (by simp[E0,h48])
    refine wU 12 false I (dF h48)<|Aa I<|?_
    iterate 4 refine Af I I ?_
    exact wP I<|xa<|zS I<|xg<|Ao () tO ⟨I,by rw[<-he];rfl,tO⟩ [] I
 ·intro _ _
  refine xd<|Aa I<|?_
  by_cases h1:1<ldn s
  ·refine wU 23 true I (dT (by omega)) ?_
   obtain⟨b,hb,_⟩:=IF (s:=s) (i:=0) (by omega)
   refine Aa I<|Bc 0 tH I I I I I I I I hb<|wP I<|wU 27 (decide (b=48)) I (DK b 48)<|wP I<|xa<|Ag I (fun hc=> ?_) (fun hc=> ?_)
   ·have hb48:b=48:=of_decide_eq_true hc
    exact xb<|wP I<|xo<|wR1 I I (by rw[dgN,if_pos ⟨h1,by rw[hb,hb48]⟩];rfl)
   ·have hb48: ¬b=48:=of_decide_eq_false hc
    exact xm<|Aa I<|xc<|wR1 I I (by rw[dgN,if_neg (fun h=>hb48 (by have h2:=h.2;rw[hb] at h2;exact Option.some.inj h2))])
  ·refine wU 23 false I (dF (by omega))<|wP I<|?_
   iterate 3 refine Af I I ?_
   exact wP I<|xa<|zS I<|xm<|Aa I<|xc<|wR1 I I (by rw[dgN,if_neg (fun h=>h1 h.1)])
theorem NG (a b:Nat) (ha:a<1000000000000000000) (hb:b<1000000000000000000):Be Tryz.prog 178 [.int .i64 (a:Nat), .int .i64 (b:Nat)] (.int .i64 (Nat.gcd a b:Nat)):=by
 intro W
 refine Ab Tryz.func178 I I I<|xb<|wP I<|xl<|zH<|Av (X:=Nat×Nat) (fun x=>[(0, .int .i64 (x.1:Nat)),(1, .int .i64 (x.2:Nat))]) (fun _=>[]) (fun x=>x.1<1000000000000000000/\x.2<1000000000000000000/\Nat.gcd x.1 x.2=Nat.gcd a b) (fun x=>x.2) (a,b) ⟨ha,hb,I⟩ ⟨I,I,tO⟩ [] I ?_
 rintro⟨x,y⟩ ⟨hx,hy,hg⟩
 have hx:x<1000000000000000000:=hx
 have hy:y<1000000000000000000:=hy
 have hg:Nat.gcd x y=Nat.gcd a b:=hg
 refine xd<|Aa I<|xa<|?_
 by_cases h0:y=0
 ·refine Bh 6 (.bool false) I (congrArg Value.bool (by rw[bne_eq_false_iff_eq];omega)) ?_
  exact zS I<|xg<|xn<|Aa I<|xc<|wR1 I I (by rw[<-hg,h0,Nat.gcd_zero_right])
 ·refine Bh 6 (.bool true) I (congrArg Value.bool (by rw[bne_iff_ne];omega)) ?_
  refine zR I<|xe<|zH<|zU<|AY I<|DO I I I I I (by omega) ?_
  refine Ay I<|zD<|zC<|zN<|?_
  have hr:x%y<y:=Nat.mod_lt _ (by omega)
  exact Al (y,x%y) ⟨hy,Nat.lt_trans hr hy,by show Nat.gcd y (x%y)=_;rw[Nat.gcd_comm, <-Nat.gcd_rec,Nat.gcd_comm];exact hg⟩ hr ⟨I,I,tO⟩ [] I
def Gv (s:List UInt8):Option (Nat×List UInt8):=if ldn s=0\/8<ldn s\/(1<ldn s/\s[0]? =some 48) then none else some (AP (s.take (ldn s)),s.drop (ldn s))
def PC (s:List UInt8):Value:=match Gv s with
 |none=> .tuple #[.int .i64 0,str [], .bool false]
 |some (n,r)=> .tuple #[.int .i64 (n:Nat),str r, .bool true]
theorem G3: ∀(k:Nat) {s:List UInt8},s.length=k->(∀b∈s,E0 b=true)->AP s<10^k
 |0,s,h,_=>by rw[List.length_eq_zero_iff.1 h];decide
 |k+1,s,h,hs=>by
  have hne:s≠[]:=fun e=>by rw[e] at h;cases h
  obtain⟨t,c,rfl⟩: ∃t c,s=t++[c]:=⟨s.dropLast,s.getLast hne,(List.dropLast_concat_getLast hne).symm⟩
  have h1:=G3 k (s:=t) (by rw[List.length_append] at h;simpa using h) fun b hb=>hs b (List.mem_append_left _ hb)
  have h2:=CS.1 (hs c (by simp))
  rw[DD,Nat.pow_succ];omega
theorem Rd {s:List UInt8} {i:Nat} (hi:i<=ldn s): ∀b∈s.take i,E0 b=true:=fun b hb=>by
 obtain⟨j,hj,rfl⟩:=List.mem_iff_getElem.1 hb
 rw[List.length_take] at hj
 obtain⟨c,h1,h2⟩:=IF (s:=s) (i:=j) (by omega)
 rw[List.getElem_take]
 rw[List.getElem?_eq_getElem (by omega)] at h1
 cases h1;exact h2
theorem Wz {s:List UInt8} {i:Nat} {b:UInt8} (h:s[i]? =some b):AP (s.take (i+1))=10*AP (s.take i)+(b.toNat-48):=by
 rw[List.take_add_one,h]
 exact DD _ _
theorem DY (s:List UInt8):Be Tryz.prog 177 [str s] (PC s):=by
 intro W
 have hle:=Kw s
 obtain⟨m,hm⟩: ∃m,m=min (ldn s) 9:=⟨_,rfl⟩
 have hdl: ∀i,i<=ldn s->i<=9->AP (s.take i)<1000000000:=fun i h1 h2=>by
  have:=G3 i (s:=s.take i) (by rw[List.length_take];omega) (Rd h1)
  have h3:10^i<=10^9:=Nat.pow_le_pow_right (by decide) h2
  have h4:(10:Nat)^9=1000000000:=by decide
  omega
 refine Ab Tryz.func177 I I I<|xb<|Ad I<|xf<|Aa I<|xa<|GR (X:=Unit) (fun _=>[(0,str s),(5, .int .i64 (AP (s.take m):Nat)),(6, .int .i64 (m:Nat))]) (fun _=>[]) (fun _=>True) ?_ ?_
 ·refine zH<|Av (X:=Nat) (fun i=>[(0,str s),(5, .int .i64 (AP (s.take i):Nat)),(6, .int .i64 (i:Nat))]) (fun _=>[]) (fun i=>i<=ldn s/\i<=9) (fun i=>s.length-i) 0 ⟨Nat.zero_le _,Nat.zero_le _⟩ ⟨I,I,I,tO⟩ [] I ?_
  rintro i ⟨hi,hi9⟩
  have hdi:=hdl i hi hi9
  have hexit:i=m->Ic Tryz.f177.ntmps [(0,str s),(5, .int .i64 (AP (s.take i):Nat)),(6, .int .i64 (i:Nat))] [(0,str s),(5, .int .i64 (AP (s.take m):Nat)),(6, .int .i64 (m:Nat))]:=fun h=>by subst h;exact⟨rfl,rfl,rfl,trivial⟩
  refine xd<|Ad I<|Ap 9 (.int .i64 (s.length:Nat)) I (congrArg (fun n:Nat=>Value.int .i64 (n:Int)) (A5 s))<|wP I<|?_
  cases hb:s[i]? with
  |none=>
   have hl:s.length<=i:=List.getElem?_eq_none_iff.1 hb
   have he:i=m:=by omega
   refine wU 10 false I (dF (by omega))<|wP I<|?_
   iterate 2 refine Af I I ?_
   refine Aa I<|?_
   iterate 4 refine Af I I ?_
   refine Aa I<|?_
   iterate 4 refine Af I I ?_
   exact wP I<|xa<|zS I<|xg<|Ao () tO ⟨I,by rw[<-he];rfl,by rw[<-he];rfl,tO⟩ [] I
  |some b=>
   have hl:i<s.length:=(List.getElem?_eq_some_iff.1 hb).1
   have hend:E0 b=false->i=ldn s:=fun h=>by
    rcases Nat.lt_or_ge i (ldn s) with h1|h1
    ·obtain⟨c,h2,h3⟩:=IF h1
     rw[hb] at h2;cases h2
     rw[h] at h3;cases h3
    ·omega
   refine wU 10 true I (dT (by omega))<|Ad I<|?_
   by_cases h8:i<=8
   ·refine wU 13 true I (dT (by omega))<|At I<|Bc i tH I I I I I I I I hb<|wP I<|wU 19 (decide (48<=b.toNat)) I (cL b)<|?_
    by_cases h48:48<=b.toNat
    ·refine wU 19 true I (dT h48)<|At I<|Bc i tH I I I I I I I I hb<|wP I<|wU 25 (decide (b.toNat<=57)) I (cP b)<|?_
     by_cases h57:b.toNat<=57
     ·refine wU 25 true I (dT h57)<|wP I<|xa<|zR I<|xe<|zH<|xb<|?_
      have hi1:i+1<=ldn s:=by
       rcases Nat.lt_or_ge i (ldn s) with h1|h1
       ·exact h1
       ·have he:i=ldn s:=by omega
        rw[he] at hb
        have:=Lh hb
        rw[CS.2 ⟨h48,h57⟩] at this;cases this
      have hd1:=Wz hb
      have hdi1:=hdl (i+1) hi1 (by omega)
      refine Aa I<|wV 28 ((10*AP (s.take i):Nat):Int) I (by show w64 (((10:Nat):Int)*(AP (s.take i):Nat))=_;exact Cx (by omega))<|Aa I<|Bc i tH I I I I I I I I hb<|wP I<|Ap 32 (.int .u8 ((b.toNat-48:Nat):Int)) I (congrArg (Value.int .u8) (by show IntKind.u8.wrap (((b.toNat:Nat):Int)-48)=_;rw[show((b.toNat:Nat):Int)-48=((b.toNat-48:Nat):Int) by omega,SD (by omega) (by omega)]))<|LE Tryz.underlying5 Tryz.underlying3 I I I I ?_
      exact wV 33 ((b.toNat-48:Nat):Int) I (BN (by omega))<|wP I<|wV 34 ((AP (s.take (i+1)):Nat):Int) I (by show w64 (((10*AP (s.take i):Nat):Int)+((b.toNat-48:Nat):Int))=_;rw[AU (by omega),hd1])<|wP I<|xa<|zB<|Aa I<|wV 36 ((i+1:Nat):Int) I (A0 (by omega))<|wP I<|zC<|zN<|Al (i+1) ⟨hi1,by omega⟩ (by omega) ⟨I,I,I,tO⟩ [] I
     ·have he:i=m:=by have:=hend (by simp[E0,h57]);omega
      exact wU 25 false I (dF h57)<|wP I<|xa<|zS I<|xg<|Ao () tO ⟨I,by rw[<-he];rfl,by rw[<-he];rfl,tO⟩ [] I
    ·have he:i=m:=by have:=hend (by simp[E0,h48]);omega
     refine wU 19 false I (dF h48)<|Aa I<|?_
     iterate 4 refine Af I I ?_
     exact wP I<|xa<|zS I<|xg<|Ao () tO ⟨I,by rw[<-he];rfl,by rw[<-he];rfl,tO⟩ [] I
   ·have he:i=m:=by omega
    refine wU 13 false I (dF (by omega))<|Aa I<|?_
    iterate 4 refine Af I I ?_
    refine Aa I<|?_
    iterate 4 refine Af I I ?_
    exact wP I<|xa<|zS I<|xg<|Ao () tO ⟨I,by rw[<-he];rfl,by rw[<-he];rfl,tO⟩ [] I
 ·intro _ _
  refine xd<|Aa I<|?_
  by_cases h0:m=0
  ·refine wU 38 true I (by rw[h0];rfl)<|wP I<|?_
   iterate 2 refine Af I I ?_
   refine Aa I<|?_
   iterate 7 refine Af I I ?_
   exact wP I<|xa<|zR I<|xb<|Ad I<|xo<|wR3 I I (by rw[PC,Gv,if_pos (.inl (by omega))])
  ·refine wU 38 false I (by rw[beq_eq_false_iff_ne];omega)<|Ad I<|?_
   by_cases h8:8<m
   ·refine wU 41 true I (dT (by omega))<|Aa I<|?_
    iterate 7 refine Af I I ?_
    exact wP I<|xa<|zR I<|xb<|Ad I<|xo<|wR3 I I (by rw[PC,Gv,if_pos (.inr (.inl (by omega)))])
   ·have hml:m=ldn s:=by omega
    refine wU 41 false I (dF (by omega))<|At I<|?_
    have hgood: ¬(1<ldn s/\s[0]? =some 48)->Value.tuple #[.int .i64 (AP (s.take m):Nat),str (s.drop m), .bool true]=PC s:=fun h=>by
     rw[PC,Gv,if_neg (by rintro(h1|h1|h1);omega;omega;exact h h1),hml]
    by_cases h1:1<m
    ·refine wU 45 true I (dT (by omega)) ?_
     obtain⟨b,hb,_⟩:=IF (s:=s) (i:=0) (by omega)
     refine Aa I<|Bc 0 tH I I I I I I I I hb<|wP I<|wU 49 (decide (b=48)) I (DK b 48)<|Aa I<|xa<|Ag I (fun hc=> ?_) (fun hc=> ?_)
     ·have hb48:b=48:=of_decide_eq_true hc
      exact xb<|Ad I<|xo<|wR3 I I (by rw[PC,Gv,if_pos (.inr (.inr ⟨by omega,by rw[hb,hb48]⟩))])
     ·have hb48: ¬b=48:=of_decide_eq_false hc
      refine xe<|zA<|zU<|AY I<|Rp m tH I I I I I I I I (by omega) ?_
      exact AY I<|zD<|xc<|wR3 I I (hgood fun h=>hb48 (by have h2:=h.2;rw[hb] at h2;exact Option.some.inj h2))
    ·refine wU 45 false I (dF (by omega))<|wP I<|?_
     iterate 3 refine Af I I ?_
     refine Aa I<|xa<|zS I<|xe<|zA<|zU<|AY I<|Rp m tH I I I I I I I I (by omega) ?_
     exact AY I<|zD<|xc<|wR3 I I (hgood fun h=>by omega)
theorem Ce (n:Nat):itoa (n:Int)=decDigits n:=by
 unfold itoa
 rw[if_neg (by omega)];rfl
theorem Gb {s r:List UInt8} {n:Nat}:Gv s=some (n,r)↔s=decDigits n++r/\n<100000000/\ ∀b,r[0]? =some b->E0 b=false:=by
 have h8:(10:Nat)^8=100000000:=by decide
 constructor
 ·intro h
  unfold Gv at h
  split at h
  ·cases h
  ·rename_i hc
   injection h with h
   injection h with e1 e2
   have hk:=Kw s
   have hok:PP (s.take (ldn s)):=by
    refine⟨fun e=>hc (.inl ?_),Rd (Nat.le_refl _),fun h1 h2=>hc (.inr (.inr ⟨?_, ?_⟩))⟩
    ·have h9:=congrArg List.length e
     rw[List.length_take,List.length_nil,Nat.min_eq_left hk] at h9
     exact h9
    ·rw[List.length_take] at h1;omega
    ·rwa [List.getElem?_take_of_lt (by rw[List.length_take] at h1;omega)] at h2
   have hd:=GA _ rfl hok
   rw[e1] at hd
   refine⟨by rw[hd, <-e2,List.take_append_drop], ?_,fun b hb=> ?_⟩
   ·have:=G3 (ldn s) (s:=s.take (ldn s)) (by rw[List.length_take];omega) (Rd (Nat.le_refl _))
    rw[e1] at this
    have h3:10^ldn s<=10^8:=Nat.pow_le_pow_right (by decide) (by omega)
    omega
   ·rw[<-e2,List.getElem?_drop,Nat.add_zero] at hb
    exact Lh hb
 ·rintro⟨rfl,hn,hr⟩
  have hl:ldn (decDigits n++r)=(decDigits n).length:=VC (Gr n).all hr
  have hlen:(decDigits n).length<=8:=Cy 8 n (by decide) (by rw[h8];exact hn)
  have hpos:0<(decDigits n).length:=List.length_pos_iff.2 (F5 n)
  unfold Gv
  rw[hl,if_neg,List.take_left,List.drop_left,BX]
  rintro(h|h|⟨h1,h2⟩)
  ·omega
  ·omega
  ·rw[List.getElem?_append_left hpos] at h2
   exact(Gr n).lead h1 h2
def DN (n:Nat) (r:List UInt8):Option Nat:=if r=[] then some 1 else if r[0]? ≠some 47 then none else match Gv (r.drop 1) with
 |none=>none
 |some (d,r2)=>if r2≠[]\/d<2\/Nat.gcd n d≠1 then none else some d
def F6 (a:List UInt8):Option (Int×Nat):=match Gv (trimPrefix a [45]) with
 |none=>none
 |some (n,r)=>if (trimPrefix a [45]).length<a.length/\n=0 then none else match DN n r with
  |none=>none
  |some d=>some (if (trimPrefix a [45]).length<a.length then -(n:Int) else n,d)
def Ec (a:List UInt8):Value:=match F6 a with
 |none=> .tuple #[.agg #[.int .i64 0, .int .i64 0], .bool false]
 |some (z,d)=> .tuple #[.agg #[.int .i64 z, .int .i64 (d:Nat)], .bool true]
theorem Yn (a:List UInt8):(trimPrefix a [45]).length<a.length↔a[0]? =some 45:=by
 rw[AZ]
 constructor
 ·intro h
  by_cases h1:a[0]? =some 45
  ·exact h1
  ·rw[if_neg h1] at h;omega
 ·intro h
  rw[if_pos h,List.length_drop]
  cases a with
  |nil=>cases h
  |cons b r=>simp
theorem H7 {n d:Nat} {r:List UInt8}:DN n r=some d↔(r=[]/\d=1)\/(r=47::decDigits d/\2<=d/\d<100000000/\Nat.gcd n d=1):=by
 unfold DN
 by_cases h0:r=[]
 ·rw[if_pos h0]
  constructor
  ·intro h;injection h with h;exact .inl ⟨h0,h.symm⟩
  ·rintro(⟨_,rfl⟩|⟨h,_⟩)
   ·rfl
   ·rw[h0] at h;cases h
 ·rw[if_neg h0]
  by_cases h1:r[0]? =some 47
  ·rw[if_neg (fun h=>h h1)]
   obtain⟨t,rfl⟩: ∃t,r=47::t:=by
    cases r with
    |nil=>cases h1
    |cons b t=>exact⟨t,by have e:b=47:=(by simpa using h1);rw[e]⟩
   show(match Gv t with|none=>none|some (d,r2)=>if r2≠[]\/d<2\/Nat.gcd n d≠1 then none else some d)=some d↔_
   constructor
   ·intro h
    cases ht:Gv t with
    |none=>rw[ht] at h;cases h
    |some x=>
     obtain⟨e,r2⟩:=x
     rw[ht] at h
     simp only at h
     split at h
     ·cases h
     ·rename_i hc
      injection h with h
      subst h
      obtain⟨h2,h3,_⟩:=Gb.1 ht
      have hr2:r2=[]:=Decidable.byContradiction fun h=>hc (.inl h)
      rw[hr2,List.append_nil] at h2
      exact .inr ⟨by rw[h2],by omega,h3,Decidable.byContradiction fun h=>hc (.inr (.inr h))⟩
   ·rintro(⟨h,_⟩|⟨h,h2,h3,h4⟩)
    ·cases h
    ·injection h with _ h
     rw[Gb.2 ⟨by rw[h,List.append_nil],h3,fun b hb=>by simp at hb⟩]
     exact if_neg (by rintro(h|h|h);exact h rfl;omega;exact h h4)
  ·rw[if_pos h1]
   constructor
   ·intro h;cases h
   ·rintro(⟨h,_⟩|⟨h,_⟩)
    ·exact absurd h h0
    ·rw[h] at h1;exact absurd rfl h1
theorem LP {a:List UInt8} {z:Int} {d:Nat}:F6 a=some (z,d)↔frm a=some (z,d)/\z.natAbs<100000000/\d<100000000/\Nat.gcd z.natAbs d=1:=by
 constructor
 ·intro h
  unfold F6 at h
  cases hi:Gv (trimPrefix a [45]) with
  |none=>rw[hi] at h;cases h
  |some x=>
   obtain⟨n,r⟩:=x
   rw[hi] at h
   simp only at h
   split at h
   ·cases h
   ·rename_i hc
    cases hd:DN n r with
    |none=>rw[hd] at h;cases h
    |some e=>
     rw[hd] at h
     injection h with h
     injection h with e1 e2
     subst e2
     obtain⟨h1,h2,_⟩:=Gb.1 hi
     simp only[Yn] at hc e1
     rw[AZ] at h1
     have hz:a=itoa z++r/\z.natAbs=n:=by
      by_cases hm:a[0]? =some 45
      ·rw[if_pos hm] at h1 e1
       have hn0:n≠0:=fun e=>hc ⟨hm,e⟩
       refine⟨?_,by omega⟩
       rw[<-e1,N0 hn0]
       cases a with
       |nil=>cases hm
       |cons b t=>
        have:b=45:=by simpa using hm
        rw[this]
        show 45::t=45::(decDigits n++r)
        rw[<-h1];rfl
      ·rw[if_neg hm] at h1 e1
       refine⟨?_,by omega⟩
       rw[<-e1,Ce n, <-h1]
     rcases H7.1 hd with⟨hr,rfl⟩|⟨hr,h3,h4,h5⟩
     ·exact⟨Lx.2 (.inl ⟨I,by rw[hz.1,hr,List.append_nil]⟩),by omega,by omega,by rw[Nat.gcd_one_right]⟩
     ·exact⟨Lx.2 (.inr ⟨h3,by rw[hz.1,hr]⟩),by omega,h4,by rw[hz.2];exact h5⟩
 ·rintro⟨h,h1,h2,h3⟩
  have key: ∀r,(∀b,r[0]? =some b->E0 b=false)->DN z.natAbs r=some d->F6 (itoa z++r)=some (z,d):=by
   intro r hr hd
   have ht:trimPrefix (itoa z++r) [45]=decDigits z.natAbs++r:=by
    rw[AZ]
    unfold itoa
    split
    ·rename_i hz
     rw[if_pos (show(45::decDigits z.natAbs++r)[0]? =some 45 from rfl)];rfl
    ·rename_i hz
     obtain⟨b,t,hb,h4,h5⟩:=CU z.toNat
     have e:z.natAbs=z.toNat:=by omega
     rw[e,if_neg]
     rw[hb]
     intro e2
     have e2:b=45:=by simpa using e2
     rw[e2] at h4;exact absurd h4 (by decide)
   have hl:(trimPrefix (itoa z++r) [45]).length<(itoa z++r).length↔z<0:=by
    rw[ht,List.length_append,List.length_append]
    unfold itoa
    split
    ·rename_i hz;simp;exact hz
    ·rename_i hz
     rw[show z.toNat=z.natAbs by omega]
     constructor
     ·intro h;omega
     ·intro h;omega
   unfold F6
   have hl2:=hl
   rw[ht] at hl2
   rw[ht,Gb.2 ⟨rfl,h1,hr⟩]
   simp only[hl2]
   rw[if_neg (by omega),hd]
   simp only[Option.some.injEq,Prod.mk.injEq,and_true]
   split<;>omega
  rcases Lx.1 h with⟨rfl,rfl⟩|⟨hd,rfl⟩
  ·have:=key [] (fun b hb=>by simp at hb) (H7.2 (.inl ⟨rfl,rfl⟩))
   rwa [List.append_nil] at this
  ·exact key (47::decDigits d) (fun b hb=>by
    have:47=b:=by simpa using hb
    rw[<-this];decide) (H7.2 (.inr ⟨rfl,hd,h2,h3⟩))
theorem Mo (a:List UInt8):Value.bool (!((⟨a.toArray⟩:ByteArray).toList==(⟨#[]⟩:ByteArray).toList))= .bool (decide (a≠[])):=congrArg Value.bool (by cases a<;>simp)
abbrev HK (z d:Int):Value:= .agg #[.int .i64 z, .int .i64 d]
abbrev Pf:Value:= .tuple #[HK 0 0, .bool false]
theorem f6 {a o:List UInt8} (ho:trimPrefix a [45]=o) (h:Gv o=none):Ec a=Pf:=by
 have e:F6 a=none:=by unfold F6;rw[ho,h]
 rw[Ec,e]
theorem fJ {a o r:List UInt8} {n:Nat} (ho:trimPrefix a [45]=o) (h:Gv o=some (n,r)) (hc:o.length<a.length/\n=0):Ec a=Pf:=by
 have e:F6 a=none:=by unfold F6;rw[ho,h];exact if_pos hc
 rw[Ec,e]
theorem YF {a o r:List UInt8} {n:Nat} (ho:trimPrefix a [45]=o) (h:Gv o=some (n,r)) (hc: ¬(o.length<a.length/\n=0)) (hd:DN n r=none):Ec a=Pf:=by
 have e:F6 a=none:=by unfold F6;rw[ho,h];exact(if_neg hc).trans (by rw[hd])
 rw[Ec,e]
theorem fV {a o r:List UInt8} {n d:Nat} (ho:trimPrefix a [45]=o) (h:Gv o=some (n,r)) (hc: ¬(o.length<a.length/\n=0)) (hd:DN n r=some d):Ec a= .tuple #[HK (if o.length<a.length then -(n:Int) else n) (d:Nat), .bool true]:=by
 have e:F6 a=some (if o.length<a.length then -(n:Int) else n,d):=by unfold F6;rw[ho,h];exact(if_neg hc).trans (by rw[hd])
 rw[Ec,e]
theorem Ot (n:Nat) (t:List UInt8):DN n (47::t)=match Gv t with
 |none=>none
 |some (d,r2)=>if r2≠[]\/d<2\/Nat.gcd n d≠1 then none else some d:=by
 unfold DN
 rw[if_neg (by intro h;cases h),if_neg (fun h=>h rfl)];rfl
theorem bL {n:Nat} {t:List UInt8} (h:Gv t=none):DN n (47::t)=none:=by rw[Ot,h]
theorem U7 {n d:Nat} {t r:List UInt8} (h:Gv t=some (d,r)) (hc:r≠[]\/d<2\/Nat.gcd n d≠1):DN n (47::t)=none:=by rw[Ot,h];exact if_pos hc
theorem aB {n d:Nat} {t r:List UInt8} (h:Gv t=some (d,r)) (hc: ¬(r≠[]\/d<2\/Nat.gcd n d≠1)):DN n (47::t)=some d:=by rw[Ot,h];exact if_neg hc
theorem AT (a:List UInt8) (hl:a.length<4611686018427387904):Be Tryz.prog 113 [str a] (Ec a):=by
 intro W
 refine Ab Tryz.func113 I I I<|xb<|wG I I fun _=>wP I<|zC<|?_
 rename_i b2
 refine xn<|Aa I<|xl<|zA<|AA (X:=Unit) (fun _=>[(0,str a),(2,Ai b2),(3, .bool false),(4,str a),(16, .bool (decide (a[0]? =some 45)))]) (fun _=>[⟨b2,118,[.int .i64 0, .int .i64 0],true,none⟩]) (fun _=>True) ?_ ?_
 ·cases a with
  |nil=>
   refine zB<|Aa I<|Ap 11 (.bool false) I (Mo [])<|wP I<|?_
   iterate 3 refine Af I I ?_
   exact wP I<|zC<|Ao () tO ⟨I,I,I,I,I,tO⟩ [] I
  |cons b t=>
   exact zB<|Aa I<|Ap 11 (.bool true) I (Mo (b::t))<|Aa I<|Bc 0 tH I I I I I I I I I<|wP I<|wU 15 (decide (b=45)) I (DK b 45)<|wP I<|zC<|Ao () tO ⟨I,I,I,I,congrArg (fun x=>some (Value.bool x)) (decide_eq_decide.2 ⟨fun h=>by rw[h];rfl,fun h=>Option.some.inj h⟩),tO⟩ [] I
 ·intro _ _
  refine AA (X:=Unit) (fun _=>[(0,str a),(2,Ai b2),(3, .bool false),(4,str (trimPrefix a [45]))]) (fun _=>[⟨b2,118,[.int .i64 0, .int .i64 0],true,none⟩]) (fun _=>True) ?_ ?_
  ·refine Ag I (fun hc=> ?_) (fun hc=> ?_)
   ·have h0:=of_decide_eq_true hc
    have h1:1<=a.length:=by cases a with|nil=>cases h0|cons b t=>simp
    refine zB<|wP I<|FL 1 tH I I I I I I I I h1 ?_
    exact wP I<|zC<|Ao () tO ⟨I,I,I,by rw[AZ,if_pos h0];rfl,tO⟩ [] I
   ·have h0:=of_decide_eq_false hc
    exact zI<|Ao () tO ⟨I,I,I,by rw[AZ,if_neg h0];rfl,tO⟩ [] I
  ·intro _ _
   obtain⟨o,ho⟩: ∃o,trimPrefix a [45]=o:=⟨_,rfl⟩
   have hol:o.length<=a.length:=by rw[<-ho,AZ];split;rw[List.length_drop];omega;exact Nat.le_refl _
   rw[ho]
   refine xb<|wP I<|?_
   cases hi:Gv o with
   |none=>
    refine wC I I (fun W _=>(DY o W).cast (by rw[PC,hi]))<|AE I<|wP I<|xk<|Ad I<|?_
    iterate 9 refine Af I I ?_
    refine wP I<|xa<|zR I<|xb<|An Tryz.hZ tH I I I I I I I I ?_
    exact wS 0 I I I<|wP I<|xo<|A4 tH I (.cell 0 I I I I I) (.tmp I) () (f6 ho hi).symm tO fun W _=>Au.nil _ _
   |some x=>
    obtain⟨n,r⟩:=x
    have hn8:n<100000000:=(Gb.1 hi).2.1
    have hrl:r.length<=o.length:=by have:=(Gb.1 hi).1;rw[this,List.length_append];omega
    refine wC I I (fun W _=>(DY o W).cast (by rw[PC,hi]))<|AE I<|wP I<|xl<|zA<|AA (X:=Unit) (fun _=>[(0,str a),(2,Ai b2),(3, .bool false),(4,str o),(5, .int .i64 (n:Nat)),(6,str r),(37, .bool (decide (o.length<a.length/\n=0)))]) (fun _=>[⟨b2,118,[.int .i64 0, .int .i64 0],true,none⟩]) (fun _=>True) ?_ ?_
    ·refine zB<|Ak I<|Ap 29 (.int .i64 (o.length:Nat)) I (congrArg (fun n:Nat=>Value.int .i64 (n:Int)) (A5 o))<|Aa I<|Ap 31 (.int .i64 (a.length:Nat)) I (congrArg (fun n:Nat=>Value.int .i64 (n:Int)) (A5 a))<|wP I<|?_
     by_cases hlt:o.length<a.length
     ·exact wU 32 true I (dT (by omega))<|Ad I<|wU 35 (decide (n=0)) I (by rw[Bool.beq_eq_decide_eq];exact decide_eq_decide.2 (by omega))<|Aa I<|zC<|Ao () tO ⟨I,I,I,I,I,I,congrArg (fun x=>some (Value.bool x)) (decide_eq_decide.2 ⟨fun h=>⟨hlt,h⟩,fun h=>h.2⟩),tO⟩ [] I
     ·refine wU 32 false I (dF (by omega))<|wP I<|?_
      iterate 2 refine Af I I ?_
      exact Aa I<|zC<|Ao () tO ⟨I,I,I,I,I,I,congrArg (fun x=>some (Value.bool x)) (dF (fun h=>hlt h.1)).symm,tO⟩ [] I
    ·intro _ _
     refine Ag I (fun hc=> ?_) (fun hc=> ?_)
     ·have hc:=of_decide_eq_true hc
      refine xb<|An Tryz.hZ tH I I I I I I I I ?_
      exact wS 0 I I I<|wP I<|xo<|A4 tH I (.cell 0 I I I I I) (.tmp I) () (fJ ho hi hc).symm tO fun W _=>Au.nil _ _
     ·have hc:=of_decide_eq_false hc
      refine xm<|wP I<|An Tryz.hZ tH I I I I I I I I ?_
      refine wG I I fun _=>wS 1 I I I<|zC<|?_
      rename_i b8
      refine zE<|zA<|AA (X:=Nat) (fun _=>[(0,str a),(2,Ai b2),(3, .bool false),(4,str o),(5, .int .i64 (n:Nat)),(8,Ai b8)]) (fun d=>[⟨b2,118,[.int .i64 0, .int .i64 0],true,none⟩,⟨b8,118,[.int .i64 (n:Nat), .int .i64 (d:Nat)],true,none⟩]) (fun d=>DN n r=some d) ?_ ?_
      ·refine xb<|?_
       cases r with
       |nil=>
        exact Aa I<|Ap 42 (.bool false) I (Mo [])<|xa<|zS I<|zI<|Ao 1 (H7.2 (.inl ⟨I,I⟩)) ⟨I,I,I,I,I,I,tO⟩ [] I
       |cons b t=>
        refine Aa I<|Ap 42 (.bool true) I (Mo (b::t))<|xa<|zR I<|xd<|wP I<|Bc 0 tH I I I I I I I I I<|wP I<|wU 45 (decide (b≠47)) I (by rw[decide_not];exact congrArg not (DK b 47))<|xa<|Ag I (fun hb=> ?_) (fun hb=> ?_)
        ·have hb:=of_decide_eq_true hb
         have hd:DN n (b::t)=none:=by
          unfold DN
          rw[if_neg (by intro h;cases h),if_pos (show(b::t)[0]? ≠some 47 from fun h=>hb (Option.some.inj h))]
         refine xb<|An Tryz.hZ tH I I I I I I I I ?_
         exact wS 0 I I I<|wP I<|xo<|zP<|A4 tH I (.cell 0 I I I I I) (.tmp I) () (YF ho hi hc hd).symm tO fun W _=>Au.nil _ _
        ·have hb:=of_decide_eq_false hb
         obtain rfl:b=47:=Decidable.byContradiction hb
         refine xm<|wP I<|?_
         refine FL 1 tH I I I I I I I I (by rw[List.length_cons];omega) ?_
         cases hj:Gv t with
         |none=>
          refine wC I I (fun W _=>(DY t W).cast (by rw[PC,hj]))<|Ak I<|wS 1 I I I<|Aa I<|xf<|Ad I<|?_
          iterate 2 refine Af I I ?_
          refine Aa I<|?_
          iterate 3 refine Af I I ?_
          refine Aa I<|?_
          iterate 5 refine Af I I ?_
          refine wP I<|xa<|zR I<|xb<|An Tryz.hZ tH I I I I I I I I ?_
          exact wS 0 I I I<|wP I<|xo<|A4 tH I (.cell 0 I I I I I) (.tmp I) () (YF ho hi hc (bL hj)).symm tO fun W _=>Au.nil _ _
         |some x=>
          obtain⟨d,r2⟩:=x
          have hd8:d<100000000:=(Gb.1 hj).2.1
          have hret: ∀ {v},DN n (47::t)=none->v=Pf->v=Ec a:=fun h e=>e.trans (YF ho hi hc h).symm
          refine wC I I (fun W _=>(DY t W).cast (by rw[PC,hj]))<|Ak I<|wS 1 I I I<|Aa I<|xf<|At I<|?_
          by_cases hr2:r2=[]
          ·subst hr2
           refine wP I<|Ap 59 (.bool false) I (Mo [])<|Ad I<|wB 1 I I I<|wP I<|?_
           by_cases hd2:d<2
           ·refine wU 64 true I (dT (by omega))<|Aa I<|?_
            iterate 5 refine Af I I ?_
            refine wP I<|xa<|zR I<|xb<|An Tryz.hZ tH I I I I I I I I ?_
            exact wS 0 I I I<|wP I<|xo<|A4 tH I (.cell 0 I I I I I) (.tmp I) () (hret (U7 hj (.inr (.inl hd2))) I) tO fun W _=>Au.nil _ _
           ·refine wU 64 false I (dF (by omega))<|At I<|wB 1 I I I<|wC I I (fun W _=>NG n d (by omega) (by omega) W)<|wP I<|?_
            by_cases hg:Nat.gcd n d=1
            ·exact wU 71 false rfl (by rw[hg];rfl)<|wP rfl<|xa<|zS rfl<|zI<|Ao d (aB hj (by rintro(h|h|h);exact h rfl;exact hd2 h;exact h hg)) ⟨rfl,rfl,rfl,rfl,rfl,rfl,trivial⟩ [] rfl
            ·refine wU 71 true I (by rw[bne_iff_ne];omega)<|wP I<|xa<|zR I<|xb<|An Tryz.hZ tH I I I I I I I I ?_
             exact wS 0 I I I<|wP I<|xo<|A4 tH I (.cell 0 I I I I I) (.tmp I) () (hret (U7 hj (.inr (.inr hg))) I) tO fun W _=>Au.nil _ _
          ·refine wP I<|Ap 59 (.bool true) I ((Mo r2).trans (congrArg Value.bool (dT hr2)))<|Aa I<|?_
           iterate 3 refine Af I I ?_
           refine Aa I<|?_
           iterate 5 refine Af I I ?_
           refine wP I<|xa<|zR I<|xb<|An Tryz.hZ tH I I I I I I I I ?_
           exact wS 0 I I I<|wP I<|xo<|A4 tH I (.cell 0 I I I I I) (.tmp I) () (hret (U7 hj (.inl hr2)) I) tO fun W _=>Au.nil _ _
      ·intro d hd
       have hval:=fV ho hi hc hd
       refine xd<|Aa I<|Ap 75 (.int .i64 (o.length:Nat)) I (congrArg (fun n:Nat=>Value.int .i64 (n:Int)) (A5 o))<|Aa I<|Ap 77 (.int .i64 (a.length:Nat)) I (congrArg (fun n:Nat=>Value.int .i64 (n:Int)) (A5 a))<|wP I<|?_
       by_cases hlt:o.length<a.length
       ·rw[if_pos hlt] at hval
        exact wU 78 true I (dT (by omega))<|xa<|zR I<|zB<|Aa I<|wV 80 (-(n:Int)) I (by show w64 (0-(n:Int))=_;rw[Ar (by omega) (by omega)];omega)<|wP I<|wS 1 I I I<|xf<|wB 1 I I I<|wS 0 I I I<|wP I<|xc<|A4 tH I (.cell 0 I I I I I) (.tmp I) () hval.symm tO fun W _=>Au.nil _ _
       ·rw[if_neg hlt] at hval
        exact wU 78 false I (dF (by omega))<|xa<|zS I<|xm<|wB 1 I I I<|wS 0 I I I<|wP I<|xc<|A4 tH I (.cell 0 I I I I I) (.tmp I) () hval.symm tO fun W _=>Au.nil _ _
end
end Go.Proofs.YtlnjmcchddbogaaGreatDoor
namespace Go.Proofs
open Go.Shelf
def Tryz.lays169_ren:Go.Shelf.Ren:=⟨fun|169=>268|n=>n,fun|70=>296|9=>9|0=>0|72=>298|37=>285|127=>348|3=>3|5=>5|n=>n,fun|n=>n⟩
theorem Tryz.lays169:Go.Proofs.Lays.n169 Tryz.prog Tryz.lays169_ren:= {
 mixed:=by kernel_rfl
 f169:=fTr Tryz.func268 (by kernel_rfl)
 t0:=Tryz.underlying0
 a0:=Tryz.isAgg0
 z0:=Tryz.sizeOf0
 v0:=Tryz.zeroValue0
 t3:=Tryz.underlying3
 a3:=Tryz.isAgg3
 z3:=Tryz.sizeOf3
 v3:=Tryz.zeroValue3
 t9:=Tryz.underlying9
 a9:=Tryz.isAgg9
 z9:=Tryz.sizeOf9
 v9:=Tryz.zeroValue9
 t37:=Tryz.underlying285
 a37:=Tryz.isAgg285
 z37:=Tryz.sizeOf285
 v37:=Tryz.zeroValue285
 t70:=Tryz.underlying296
 a70:=Tryz.isAgg296
 z70:=Tryz.sizeOf296
 v70:=Tryz.zeroValue296
 t72:=Tryz.underlying298
 a72:=Tryz.isAgg298
 z72:=Tryz.sizeOf298
 v72:=Tryz.zeroValue298
 t127:=Tryz.underlying348
 a127:=Tryz.isAgg348
 z127:=Tryz.sizeOf348
 v127:=Tryz.zeroValue348 }
theorem Tryz.Builder_Extra_169:Builder.Extra Tryz.prog Tryz.lays169_ren:= {
 sizeBuilder:=by kernel_rfl
 liesBuilder:=by kernel_rfl
 t5:=Tryz.underlying5
 a5:=Tryz.isAgg5
 z5:=Tryz.sizeOf5
 v5:=Tryz.zeroValue5
 infoByte:=by kernel_rfl
 cellsByte:=by kernel_rfl
 sizeByte:=by kernel_rfl
 neB5:=by decide }
open Go.RowKit in
theorem Tryz.Builder_String_any_k (B b:Nat) (l:List UInt8) (w:World) (h:Lib.IsBuilderF 298 5 B b (Lib.byteCells l) w) (hBw:B<=w.heap.size):
  Calls Tryz.prog 268 #[.pointer (some ⟨b,0,none⟩)] w fun e w'=>e= .returned (.string ⟨l.toArray⟩)/\(Lib.IsBuilderF 298 5 B b (Lib.byteCells l) w'/\Below B w w'/\Lib.OthersKept 5 (some b) w w'):=Any.Builder_String_any_k Tryz.lays169 Tryz.Builder_Extra_169 B b l w h hBw
def Tryz.lays145_ren:Go.Shelf.Ren:=⟨fun|145=>251|220=>304|219=>339|217=>364|225=>365|224=>366|267=>367|266=>379|314=>380|n=>n,fun|9=>9|4=>4|59=>288|3=>3|5=>5|46=>343|146=>374|51=>357|n=>n,fun|1=>4|n=>n⟩
theorem Tryz.lays145:Go.Proofs.Lays.n145 Tryz.prog Tryz.lays145_ren:= {
 mixed:=by kernel_rfl
 f145:=fTr Tryz.func251 (by kernel_rfl)
 f217:=fTr Tryz.func364 (by kernel_rfl)
 f219:=fTr Tryz.func339 (by kernel_rfl)
 f220:=fTr Tryz.func304 (by kernel_rfl)
 f224:=fTr Tryz.func366 (by kernel_rfl)
 f225:=fTr Tryz.func365 (by kernel_rfl)
 f266:=fTr Tryz.func379 (by kernel_rfl)
 f267:=fTr Tryz.func367 (by kernel_rfl)
 f314:=fTr Tryz.func380 (by kernel_rfl)
 t3:=Tryz.underlying3
 a3:=Tryz.isAgg3
 z3:=Tryz.sizeOf3
 v3:=Tryz.zeroValue3
 t4:=Tryz.underlying4
 a4:=Tryz.isAgg4
 z4:=Tryz.sizeOf4
 v4:=Tryz.zeroValue4
 t5:=Tryz.underlying5
 a5:=Tryz.isAgg5
 z5:=Tryz.sizeOf5
 v5:=Tryz.zeroValue5
 t9:=Tryz.underlying9
 a9:=Tryz.isAgg9
 z9:=Tryz.sizeOf9
 v9:=Tryz.zeroValue9
 t46:=Tryz.underlying343
 a46:=Tryz.isAgg343
 z46:=Tryz.sizeOf343
 v46:=Tryz.zeroValue343
 t51:=Tryz.underlying357
 a51:=Tryz.isAgg357
 z51:=Tryz.sizeOf357
 v51:=Tryz.zeroValue357
 t59:=Tryz.underlying288
 a59:=Tryz.isAgg288
 z59:=Tryz.sizeOf288
 v59:=Tryz.zeroValue288
 t146:=Tryz.underlying374
 a146:=Tryz.isAgg374
 z146:=Tryz.sizeOf374
 v146:=Tryz.zeroValue374
 g1:=by kernel_rfl }
open Go.RowKit Go.Lib in
theorem Tryz.strings_Cut (s sep:ByteArray) (m:Int) (w:World) (hs:s.size<4294967281) (hm:w.cell? ⟨4,0,none⟩=some (.int .i64 m)):
  Calls Tryz.prog 251 #[.string s, .string sep] w fun e w'=>e= .returned (.tuple #[.string ⟨(Lib.cut s.data.toList sep.data.toList).1.toArray⟩, .string ⟨(Lib.cut s.data.toList sep.data.toList).2.1.toArray⟩, .bool (Lib.cut s.data.toList sep.data.toList).2.2])/\ ∃n,w'=w.drewN n:=Any.strings_Cut Tryz.lays145 s sep m w hs hm
def Tryz.lays105_ren:Go.Shelf.Ren:=⟨fun|105=>267|212=>319|99=>124|165=>320|166=>266|170=>321|169=>268|263=>348|264=>349|206=>184|240=>318|241=>350|276=>347|277=>373|n=>n,fun|9=>9|3=>3|4=>4|20=>20|0=>0|46=>343|109=>344|5=>5|72=>298|76=>223|51=>357|146=>374|53=>321|148=>376|70=>296|37=>285|75=>222|127=>348|164=>372|80=>301|n=>n,fun|n=>n⟩
theorem Tryz.lays105:Go.Proofs.Lays.n105 Tryz.prog Tryz.lays105_ren:= {
 mixed:=by kernel_rfl
 f99:=fTr Tryz.func124 (by kernel_rfl)
 f105:=fTr Tryz.func267 (by kernel_rfl)
 f165:=fTr Tryz.func320 (by kernel_rfl)
 f166:=fTr Tryz.func266 (by kernel_rfl)
 f169:=fTr Tryz.func268 (by kernel_rfl)
 f170:=fTr Tryz.func321 (by kernel_rfl)
 f206:=fTr Tryz.func184 (by kernel_rfl)
 f212:=fTr Tryz.func319 (by kernel_rfl)
 f240:=fTr Tryz.func318 (by kernel_rfl)
 f241:=fTr Tryz.func350 (by kernel_rfl)
 f263:=fTr Tryz.func348 (by kernel_rfl)
 f264:=fTr Tryz.func349 (by kernel_rfl)
 f276:=fTr Tryz.func347 (by kernel_rfl)
 f277:=fTr Tryz.func373 (by kernel_rfl)
 t0:=Tryz.underlying0
 a0:=Tryz.isAgg0
 z0:=Tryz.sizeOf0
 v0:=Tryz.zeroValue0
 t3:=Tryz.underlying3
 a3:=Tryz.isAgg3
 z3:=Tryz.sizeOf3
 v3:=Tryz.zeroValue3
 t4:=Tryz.underlying4
 a4:=Tryz.isAgg4
 z4:=Tryz.sizeOf4
 v4:=Tryz.zeroValue4
 t5:=Tryz.underlying5
 a5:=Tryz.isAgg5
 z5:=Tryz.sizeOf5
 v5:=Tryz.zeroValue5
 t9:=Tryz.underlying9
 a9:=Tryz.isAgg9
 z9:=Tryz.sizeOf9
 v9:=Tryz.zeroValue9
 t20:=Tryz.underlying20
 a20:=Tryz.isAgg20
 z20:=Tryz.sizeOf20
 v20:=Tryz.zeroValue20
 t37:=Tryz.underlying285
 a37:=Tryz.isAgg285
 z37:=Tryz.sizeOf285
 v37:=Tryz.zeroValue285
 t46:=Tryz.underlying343
 a46:=Tryz.isAgg343
 z46:=Tryz.sizeOf343
 v46:=Tryz.zeroValue343
 t51:=Tryz.underlying357
 a51:=Tryz.isAgg357
 z51:=Tryz.sizeOf357
 v51:=Tryz.zeroValue357
 t53:=Tryz.underlying321
 a53:=Tryz.isAgg321
 z53:=Tryz.sizeOf321
 v53:=Tryz.zeroValue321
 t70:=Tryz.underlying296
 a70:=Tryz.isAgg296
 z70:=Tryz.sizeOf296
 v70:=Tryz.zeroValue296
 t72:=Tryz.underlying298
 a72:=Tryz.isAgg298
 z72:=Tryz.sizeOf298
 v72:=Tryz.zeroValue298
 t75:=Tryz.underlying222
 a75:=Tryz.isAgg222
 z75:=Tryz.sizeOf222
 v75:=Tryz.zeroValue222
 t76:=Tryz.underlying223
 a76:=Tryz.isAgg223
 z76:=Tryz.sizeOf223
 v76:=Tryz.zeroValue223
 t109:=Tryz.underlying344
 a109:=Tryz.isAgg344
 z109:=Tryz.sizeOf344
 v109:=Tryz.zeroValue344
 t127:=Tryz.underlying348
 a127:=Tryz.isAgg348
 z127:=Tryz.sizeOf348
 v127:=Tryz.zeroValue348
 t146:=Tryz.underlying374
 a146:=Tryz.isAgg374
 z146:=Tryz.sizeOf374
 v146:=Tryz.zeroValue374
 t148:=Tryz.underlying376
 a148:=Tryz.isAgg376
 z148:=Tryz.sizeOf376
 v148:=Tryz.zeroValue376
 t164:=Tryz.underlying372
 a164:=Tryz.isAgg372
 z164:=Tryz.sizeOf372
 v164:=Tryz.zeroValue372 }
theorem Tryz.Builder_Extra_105:Builder.Extra Tryz.prog Tryz.lays105_ren:= {
 sizeBuilder:=by kernel_rfl
 liesBuilder:=by kernel_rfl
 t5:=Tryz.underlying5
 a5:=Tryz.isAgg5
 z5:=Tryz.sizeOf5
 v5:=Tryz.zeroValue5
 infoByte:=by kernel_rfl
 cellsByte:=by kernel_rfl
 sizeByte:=by kernel_rfl
 neB5:=by decide }
open Go.RowKit Go.Lib in
theorem Tryz.strings_Repeat (s:ByteArray) (c:Nat) (w:World) (hc:c<=9223372036854775807) (hlen:s.size*c<=140737488355328):
  Calls Tryz.prog 267 #[.string s, .int .i64 c] w fun e w'=>e= .returned (.string ⟨(Lib.repeatL s.data.toList c).toArray⟩)/\Below w.heap.size w w':=Any.strings_Repeat Tryz.lays105 Tryz.Builder_Extra_105 s c w hc hlen
def Tryz.lays166_ren:Go.Shelf.Ren:=⟨fun|166=>266|240=>318|276=>347|n=>n,fun|0=>0|3=>3|4=>4|5=>5|9=>9|20=>20|37=>285|70=>296|72=>298|75=>222|80=>301|164=>372|n=>n,fun n=>n⟩
theorem Tryz.lays166:Go.Proofs.Lays.n166 Tryz.prog Tryz.lays166_ren:= {
 mixed:=by kernel_rfl
 f166:=fTr Tryz.func266 (by kernel_rfl)
 f240:=fTr Tryz.func318 (by kernel_rfl)
 f276:=fTr Tryz.func347 (by kernel_rfl)
 t0:=Tryz.underlying0
 a0:=Tryz.isAgg0
 z0:=Tryz.sizeOf0
 v0:=Tryz.zeroValue0
 t3:=Tryz.underlying3
 a3:=Tryz.isAgg3
 z3:=Tryz.sizeOf3
 v3:=Tryz.zeroValue3
 t4:=Tryz.underlying4
 a4:=Tryz.isAgg4
 z4:=Tryz.sizeOf4
 v4:=Tryz.zeroValue4
 t9:=Tryz.underlying9
 a9:=Tryz.isAgg9
 z9:=Tryz.sizeOf9
 v9:=Tryz.zeroValue9
 t20:=Tryz.underlying20
 a20:=Tryz.isAgg20
 z20:=Tryz.sizeOf20
 v20:=Tryz.zeroValue20
 t37:=Tryz.underlying285
 a37:=Tryz.isAgg285
 z37:=Tryz.sizeOf285
 v37:=Tryz.zeroValue285
 t70:=Tryz.underlying296
 a70:=Tryz.isAgg296
 z70:=Tryz.sizeOf296
 v70:=Tryz.zeroValue296
 t72:=Tryz.underlying298
 a72:=Tryz.isAgg298
 z72:=Tryz.sizeOf298
 v72:=Tryz.zeroValue298
 t75:=Tryz.underlying222
 a75:=Tryz.isAgg222
 z75:=Tryz.sizeOf222
 v75:=Tryz.zeroValue222
 t164:=Tryz.underlying372
 a164:=Tryz.isAgg372
 z164:=Tryz.sizeOf372
 v164:=Tryz.zeroValue372 }
theorem Tryz.Builder_Extra_166:Builder.Extra Tryz.prog Tryz.lays166_ren:= {
 sizeBuilder:=by kernel_rfl
 liesBuilder:=by kernel_rfl
 t5:=Tryz.underlying5
 a5:=Tryz.isAgg5
 z5:=Tryz.sizeOf5
 v5:=Tryz.zeroValue5
 infoByte:=by kernel_rfl
 cellsByte:=by kernel_rfl
 sizeByte:=by kernel_rfl
 neB5:=by decide }
def Tryz.lays167_ren:Go.Shelf.Ren:=⟨fun|167=>265|240=>318|276=>347|n=>n,fun|0=>0|4=>4|5=>5|9=>9|20=>20|37=>285|70=>296|72=>298|75=>222|80=>301|164=>372|n=>n,fun n=>n⟩
theorem Tryz.lays167:Go.Proofs.Lays.n167 Tryz.prog Tryz.lays167_ren:= {
 mixed:=by kernel_rfl
 f167:=fTr Tryz.func265 (by kernel_rfl)
 f240:=fTr Tryz.func318 (by kernel_rfl)
 f276:=fTr Tryz.func347 (by kernel_rfl)
 t0:=Tryz.underlying0
 a0:=Tryz.isAgg0
 z0:=Tryz.sizeOf0
 v0:=Tryz.zeroValue0
 t4:=Tryz.underlying4
 a4:=Tryz.isAgg4
 z4:=Tryz.sizeOf4
 v4:=Tryz.zeroValue4
 t5:=Tryz.underlying5
 a5:=Tryz.isAgg5
 z5:=Tryz.sizeOf5
 v5:=Tryz.zeroValue5
 t9:=Tryz.underlying9
 a9:=Tryz.isAgg9
 z9:=Tryz.sizeOf9
 v9:=Tryz.zeroValue9
 t20:=Tryz.underlying20
 a20:=Tryz.isAgg20
 z20:=Tryz.sizeOf20
 v20:=Tryz.zeroValue20
 t37:=Tryz.underlying285
 a37:=Tryz.isAgg285
 z37:=Tryz.sizeOf285
 v37:=Tryz.zeroValue285
 t70:=Tryz.underlying296
 a70:=Tryz.isAgg296
 z70:=Tryz.sizeOf296
 v70:=Tryz.zeroValue296
 t72:=Tryz.underlying298
 a72:=Tryz.isAgg298
 z72:=Tryz.sizeOf298
 v72:=Tryz.zeroValue298
 t75:=Tryz.underlying222
 a75:=Tryz.isAgg222
 z75:=Tryz.sizeOf222
 v75:=Tryz.zeroValue222
 t164:=Tryz.underlying372
 a164:=Tryz.isAgg372
 z164:=Tryz.sizeOf372
 v164:=Tryz.zeroValue372 }
theorem Tryz.Builder_Extra_167:Builder.Extra Tryz.prog Tryz.lays167_ren:= {
 sizeBuilder:=by kernel_rfl
 liesBuilder:=by kernel_rfl
 t5:=Tryz.underlying5
 a5:=Tryz.isAgg5
 z5:=Tryz.sizeOf5
 v5:=Tryz.zeroValue5
 infoByte:=by kernel_rfl
 cellsByte:=by kernel_rfl
 sizeByte:=by kernel_rfl
 neB5:=by decide }
theorem Tryz.Builder_WriteByte_k (B b:Nat) (bs:List Value) (c:Int) (w:World) (h:Lib.IsBuilderF 298 5 B b bs w) (hlen:bs.length+1<=140737488355328) (hBw:B<=w.heap.size):
  Calls Tryz.prog 265 #[.pointer (some ⟨b,0,none⟩), .int .u8 c] w fun e w'=>e= .returned .nilIface/\(Lib.BuilderAtF 298 5 B b (.pointer (some ⟨b,0,none⟩)) (bs++[.int .u8 c]) w'/\Go.RowKit.Below B w w'/\Lib.OthersKept 5 (some b) w w'):=Any.Builder_WriteByte_k Tryz.lays167 Tryz.Builder_Extra_167 B b bs c w h hlen hBw
theorem Tryz.Builder_WriteString_k (B b:Nat) (bs:List Value) (s:ByteArray) (w:World) (h:Lib.IsBuilderF 298 5 B b bs w) (hlen:bs.length+s.size<=140737488355328) (hBw:B<=w.heap.size):
  Calls Tryz.prog 266 #[.pointer (some ⟨b,0,none⟩), .string s] w fun e w'=>e= .returned (.tuple #[.int .i64 s.size, .nilIface])/\(Lib.BuilderAtF 298 5 B b (.pointer (some ⟨b,0,none⟩)) (bs++Lib.strCells s) w'/\Go.RowKit.Below B w w'/\Lib.OthersKept 5 (some b) w w'):=Any.Builder_WriteString_k Tryz.lays166 Tryz.Builder_Extra_166 B b bs s w h hlen hBw
end Go.Proofs
namespace Go.Proofs.YtlnjmcchddbogaaGreatDoor
section
open Go Go.RowKit Go.Am Go.Lib
set_option maxRecDepth 10000
theorem ZO {x y:Nat} (hx:x<bs) (hy:y<bs):x*y<=999999998000000001:=(Nat.mul_le_mul (Nat.le_of_lt_succ hx) (Nat.le_of_lt_succ hy):x*y<=999999999*999999999)
theorem Mx (W:World) (p q:Option Addr) (cap cap2:Nat) (a b:Nat) (hA:A6 W p (lbs bs a)) (hB:A6 W q (lbs bs b)) (hna:(lbs bs a).length<=1000000) (hnb:(lbs bs b).length<=1000000):
  Ae Tryz.prog 155 #[slv p (lbs bs a).length cap,slv q (lbs bs b).length cap2] W (fun x:NV=>B8 x (lbs bs (a*b)).length) (fun x=>C0 x (lbs bs (a*b))) (fun x=>[BM x (lbs bs (a*b))]):=by
 have hla:=Br bs2 a
 have hlb:=Br bs2 b
 have hal:=AJ bs2 a
 have hbl:=AJ bs2 b
 obtain⟨na,hna'⟩: ∃n,(lbs bs a).length=n:=⟨_,rfl⟩
 obtain⟨nb,hnb'⟩: ∃n,(lbs bs b).length=n:=⟨_,rfl⟩
 obtain⟨M,hM⟩: ∃M,M=na+nb+1:=⟨_,rfl⟩
 rw[hna'] at hna hal
 rw[hnb'] at hnb hbl
 refine Ab Tryz.func155 I I I ?_
 rw[hna',hnb']
 refine xb<|wP I<|xf<|AE I<|wV 16 (M:Nat) I (by show w64 (w64 ((na:Int)+nb)+1)=_;rw[AU (by omega),A0 (by omega),hM])<|?_
 refine Cr Tryz.vec172 M I I I I I I I (by simp only[maxLen];omega) (by omega) ?_
 intro g
 have ez:Cf (Value.cells (.int .i64 0)).toList M=nI (List.replicate M 0)++[]:=by rw[List.append_nil];exact Gx M
 rw[ez]
 refine wP I<|xk<|Ad I<|xa<|zH<|?_
 refine Av (X:=Nat×List Nat) (fun x=>[(1,slv q nb cap2),(5,slv (some ⟨g,0,none⟩) M M),(18,slv p na cap),(19, .int .i64 (na:Nat)),(20, .int .i64 (x.1:Nat))]) (fun x=>[⟨g,3,nI x.2++[],true,none⟩])
  (fun x=>x.1<=na/\x.2.length=M/\(∀y∈x.2,y<bs)/\lv bs x.2=a%bs^x.1*b) (fun x=>na-x.1) (0,List.replicate M 0) ⟨Nat.zero_le _,List.length_replicate,fun y hy=>by rw[List.eq_of_mem_replicate hy];decide,by rw[Fx];show 0=a%bs^0*b;rw[Nat.pow_zero,Nat.mod_one,Nat.zero_mul]⟩ ⟨rfl,rfl,rfl,rfl,rfl,trivial⟩ [] rfl ?_
 rintro⟨i,out⟩ ⟨hi,hlen,hob,hov⟩
 have hi:i<=na:=hi
 have hlen:out.length=M:=hlen
 refine xb<|wP I<|xl<|Ag I (fun hc=> ?_) (fun hc=> ?_)
 ·have hi':i<na:=by simp at hc;omega
  clear hc
  obtain⟨pb,po,rfl,hrow⟩:=hA.row (show i<(lbs bs a).length by omega)
  obtain⟨x,hx⟩: ∃x,lim (lbs bs a) i=x:=⟨_,rfl⟩
  have hrx: ∀W' bx,Hp W bx W'->Aj W' pb (po+i*1) [.int .i64 (x:Nat)]:=fun W' bx hp=>by
   have:=(hrow i (by omega)).hp hp
   rwa [hx] at this
  have hxb:x<bs:=by rw[<-hx];exact Bk bs2 hla i
  have hxe:x=a/bs^i%bs:=by rw[<-hx];exact Bo bs2 a i
  refine xh<|wP I<|wJ ?_
  refine wL 0 I I (fun W' hp=>hrx W' _ hp) I<|Aa I<|xf<|wP I<|xf<|Ad I<|wV 27 ((nb+1:Nat):Int) I (A0 (by omega))<|wP I<|xa<|zH<|?_
  refine Av (X:=Nat×List Nat×Nat) (fun x'=>[(1,slv q nb cap2),(5,slv (some ⟨g,0,none⟩) M M),(6, .int .i64 (i:Nat)),(7, .int .i64 (x:Nat)),(8, .int .i64 (x'.2.2:Nat)),(18,slv (some ⟨pb,po,none⟩) na cap),(19, .int .i64 (na:Nat)),(20, .int .i64 (i:Nat)),(27, .int .i64 ((nb+1:Nat):Int)),(28, .int .i64 (x'.1:Nat))]) (fun x'=>[⟨g,3,nI x'.2.1++[],true,none⟩])
   (fun x'=>x'.1<=nb+1/\x'.2.1.length=M/\(∀y∈x'.2.1,y<bs)/\x'.2.2<bs/\lv bs x'.2.1+bs^(i+x'.1)*x'.2.2=lv bs out+bs^i*(x*(b%bs^x'.1))) (fun x'=>nb+1-x'.1) (0,out,0) ⟨Nat.zero_le _,hlen,hob,show 0<bs by decide,by show lv bs out+bs^(i+0)*0=lv bs out+bs^i*(x*(b%bs^0));rw[Nat.pow_zero,Nat.mod_one];simp⟩ ⟨rfl,rfl,rfl,rfl,rfl,rfl,rfl,rfl,rfl,rfl,trivial⟩ [] rfl ?_
  rintro⟨k,u,c⟩ ⟨hk,hul,hub,hcb,huv⟩
  have hk:k<=nb+1:=hk
  have hul:u.length=M:=hul
  refine xb<|wP I<|xl<|Ag I (fun hc=> ?_) (fun hc=> ?_)
  ·have hk':k<nb+1:=by simp at hc;omega
   clear hc
   have hik:i+k<u.length:=by rw[hul];omega
   obtain⟨o,ho⟩: ∃o,lim u (i+k)=o:=⟨_,rfl⟩
   obtain⟨y,hy⟩: ∃y,lim (lbs bs b) k=y:=⟨_,rfl⟩
   have hob':o<bs:=by rw[<-ho];exact Bk bs2 hub _
   have hyb:y<bs:=by rw[<-hy];exact Bk bs2 hlb _
   have hou:u[i+k]? =some o:=by rw[DM hik,ho]
   obtain⟨n,hn⟩: ∃n,n=o+x*y+c:=⟨_,rfl⟩
   have hnb2:=MK hxb hyb hob' hcb hn
   have hn63:n<1000000000000000000:=hnb2.2
   have hxy:=ZO hxb hyb
   have hyy:=hy
   rw[Bo bs2] at hyy
   have hstep:=Kq (n:=n) hou huv (by rw[hn,hyy])
   refine xh<|Aa I<|xl<|zU<|Cd I<|qV 34 ((i+k:Nat):Int) I (AU (by omega))<|qJ ?_
   refine qL 0 I I (fun W' hp=>Aj.of_intsX hp 0 I hik ho) I<|AY I<|qC I I (fun W' hp=>Jj W' q cap2 nb (lbs bs b) k y (hB.hp hp) hnb' (by omega) hy)<|Cd I<|qV 44 (n:Nat) I (by show w64 (w64 ((o:Int)+w64 ((x:Int)*y))+c)=_;rw[Cx (by omega),AU (by omega),AU (by omega),hn])<|qP I<|zD<|xa<|zB<|At I<|wV 48 ((i+k:Nat):Int) I (AU (by omega))<|wP I<|FC I I I I I (by decide) ?_
   refine wP I<|Ef I I I I I (by decide) ?_
   refine wV 52 ((n/bs:Nat):Int) I (BN (show n/bs<_ by have:=hnb2.1;show n/bs<9223372036854775808;have h9:bs=1000000000:=I;omega))<|wJ ?_
   refine AG 0 (nI (u.set (i+k) (n%bs))++[]) tH I I I I I I I I I I (by show 0+(i+k)*1+1<=(nI u++[]).length;rw[List.append_nil,BJ];omega) (CH hik (n%bs)) ?_
   exact wP I<|zC<|xi<|Aa I<|zC<|Al (k+1,u.set (i+k) (n%bs),n/bs) ⟨hk',by rw[List.length_set];exact hul,Dd hub (Nat.mod_lt _ (by decide)),hnb2.1,hstep⟩ (by show nb+1-(k+1)<nb+1-k;omega) ⟨I,I,I,I,I,I,I,I,I,congrArg (fun z=>some (Value.int .i64 z)) (A0 (by omega)),tO⟩ [] I
  ·have hk':k=nb+1:=by simp at hc;omega
   subst hk'
   clear hc
   obtain⟨h1,_⟩:=QD bs2 huv hbl hxb (by rw[hov];exact MD bs2 hbl)
   have h2:=O8 (a:=a) (b:=b) (i:=i) hov
   rw[<-hxe, <-h1] at h2
   exact xg<|xi<|Aa I<|zC<|Al (i+1,u) ⟨hi',hul,hub,h2⟩ (by show na-(i+1)<na-i;omega) ⟨I,I,I,I,congrArg (fun z=>some (Value.int .i64 z)) (A0 (by omega)),tO⟩ [] I
 ·have hi':i=na:=by simp at hc;omega
  subst hi'
  clear hc
  rw[Nat.mod_eq_of_lt hal] at hov
  refine xg<|xn<|?_
  have hV0:(⟨some g,M,[]⟩:Vec).OK 1 out.length (nI out):=⟨Fg _,(fun h=>by cases h),fun _=>⟨by show _<=M;omega,by show M<=maxLen;simp only[maxLen];omega,by show(nI out).length+0=M*1;rw[BJ];omega⟩⟩
  obtain⟨j',hV2,he⟩:=Hg hV0 hob
  refine wP I<|Ap 56 (slv (some ⟨g,0,none⟩) out.length M) I (by rw[hlen])<|wC I I (fun W hp=>D3 W _ M _ (A6.of_bx hp 0 I) hob (by omega) (by omega))<|wP I<|xc<|?_
  rw[hov] at hV2 he
  exact A3 tH I (.tmp I) ((g,M,j'):NV) (by rw[hov]) hV2 fun W hp=>Au.of_hp1 hp 0 (by show some (⟨g,3,nI out++[],true,none⟩:Bx)=some ⟨g,3,nI (lbs bs (a*b))++j',true,none⟩;rw[he])
end
end Go.Proofs.YtlnjmcchddbogaaGreatDoor
