/-
  Lemmas that the theorem convexHulls_upto_card needs (part 2 of 8).
-/
import Derived.Test.YthndmdimmgkpgaaGreatDoorCya
import Derived.Laws.Small
import Derived.Maps.AppendAt
import Derived.Laws.Cover3
import Derived.Lib.AppendZerosOnto
import Derived.Laws.AppendOwn
import Derived.Lib.AppendIntMem
import Derived.Lib.ItoaLen
import Derived.Laws.Strings
import Derived.Laws.IdiomStrings
import Derived.Laws.Concat
import Derived.Lib.IndexMore
import Derived.Shelf.Strings.BuilderK
import Derived.Shelf.Strings.Cut
import Derived.Shelf.Strings.Repeat
import Derived.Sort.Grow
set_option maxHeartbeats 64000000
namespace Go.Am
open Go Go.RowKit
def BQ (c:List Value):Nat→List Value
 |0=>[]
 |n+1=>c++BQ c n
theorem Eu (c:List Value): ∀n,(BQ c n).length=n*c.length
 |0=>by simp[BQ]
 |n+1=>by rw[BQ,List.length_append,Eu c n,Nat.succ_mul,Nat.add_comm]
theorem P6 (c:List Value): ∀(n j:Nat),j<n*c.length→(BQ c n)[j]? =c[j%c.length]?
 |0,j,h=>by simp at h
 |n+1,j,h=>by
  rw[BQ]
  by_cases hj:j<c.length
  ·rw[List.getElem?_append_left hj,Nat.mod_eq_of_lt hj]
  ·have hj:c.length≤j:=by omega
   rw[List.getElem?_append_right hj,P6 c n (j-c.length) (by rw[Nat.succ_mul] at h;omega), ←Nat.mod_eq_sub_mod hj]
theorem K9 (c:Array Value) (n m:Nat) (hm:m=c.size):((Array.range (n*m)).map (c[· %c.size]!)).toList=BQ c.toList n:=by
 subst hm
 apply List.ext_getElem?
 intro j
 by_cases hj:j<n*c.size
 ·have hpos:0<c.size:=by
   rcases Nat.eq_zero_or_pos c.size with h|h
   ·rw[h] at hj;simp at hj
   ·exact h
  have h1:=P6 c.toList n j (by simpa using hj)
  rw[h1]
  have hlt:j%c.size<c.size:=Nat.mod_lt _ hpos
  simp[hj,hlt]
 ·have h1:(BQ c.toList n).length=n*c.size:=by rw[Eu];simp
  rw[List.getElem?_eq_none (by simp;omega),List.getElem?_eq_none (by rw[h1];omega)]
section
variable {r:Option Nat} {n:Nat} {P:Program} {W0:World} {N:Nat} {D:List Deferred} {Q:Exit→Act→World→Prop} {env:Env} {bxs:List Bx}
structure TO {X:Type} (N:Nat) (D:List Deferred) (W0:World) (L:X→Env) (B:X→List Bx) (Φ:X→Prop) (a:Act) (W:World):Prop where
 out: ∃x,Φ x∧Qw N D (L x) a∧Hp W0 (B x) W
theorem NK {x y:Code} {X:Type} (L:X→Env) (B:X→List Bx) (Φ:X→Prop) (h1:WC r n P N D x (Exit.then (TO N D W0 L B Φ) Q) env (Hp W0 bxs))
  (h2: ∀z,Φ z→WC r n P N D y Q (L z) (Hp W0 (B z))):WC r n P N D (.seq x y) Q env (Hp W0 bxs):= .mk fun a W ha hd hp=>by
 refine(Au ⟨fun a W ha hd hp=>wpIn_mono (h1.out a W ha hd hp) ?_⟩:WC r n P N D (.seq x y) Q env (Hp W0 bxs)).out a W ha hd hp
 intro e a' W' hq
 cases e with
 |normal=>
  obtain⟨z,hz,hl,hp'⟩:=TO.out hq
  have:=(h2 z hz).out a' W' hl.size hl.defers hp'
  rw[EF (fun p hp _=>hl.get p hp)] at this
  exact this
 |_=>exact hq
theorem At {X:Type} {L:X→Env} {B:X→List Bx} {Φ:X→Prop} (x:X) (hx:Φ x) (hL:Hb N env (L x)) (nb:List Bx) (hB:bxs=B x++nb):NE N D (Exit.then (TO N D W0 L B Φ) Q) .normal env (Hp W0 bxs):= .mk fun _ _ ha hd hp=>
 ⟨x,hx,Hu ha hd hL,by rw[hB] at hp;exact hp.take⟩
theorem P8 {ops rest:List Oper} {o:Oper} {T:Tbl} {i:TI} {d:Nat} {t:TypeId} {len:Nat} {parts:Array (Nat×Operand)} {vs:List (Nat×Value)} (z:Value) {c:List Value} (hT:okB P T=true) (hg:A6 ops N env o=some true) (hd:o.dst=some d) (ho:o.op= .buildSlice t len parts) (ht:BX T t=some i) (hk:i.kind=2)
  (hz: ∀W,(zeroValue i.elem).run P W= .ok z W) (hp:DE (evO N env) parts.toList=some vs) (hzs:i.elemSize=z.cells.size) (h24:Nat.ble (len*i.elemSize) (2^24)=true) (h0:Nat.beq (len*i.elemSize) 0=false)
  (hc:FX (Jz i.elemSize) (BQ z.cells.toList len) vs=some c)
  (h: ∀b,WL r n P N D ops Q rest ((d, .slice (some ⟨b,0,none⟩) len len)::env) (Hp W0 (bxs++[⟨b,i.elem,c,true,none⟩]))):WL r n P N D ops Q (o::rest) env (Hp W0 bxs):=
 LT z hT hg hd ho ht hk hz hp h24 h0 (by rw[K9 _ _ _ hzs];exact hc) h
def NB (op:BinOp) (a b:Bool):Option Bool:=
 match op with
 | .eql=>some (a==b)
 | .neq=>some (!(a==b))
 |_=>none
theorem JI {ρ:Operand→Value} {o:Oper} {op:BinOp} {t u:TypeId} {x y:Operand} {a b c:Bool} (hu:P.underlying t=some .bool) (ho:o.op= .binOp op t x y u) (hx:ρ x= .bool a) (hy:ρ y= .bool b) (hc:NB op a b=some c) (W:World):
  (execOp ρ o).run P W= .ok (.value (.bool c)) W:=by
 unfold NB at hc
 cases op<;>first|(cases hc;done)|(have hc:=Option.some.inj hc;subst hc;simp[execOp,ho,hx,hy,eqGuard,binOp,run_equal_bool W t a b hu])
theorem Ha {ops rest:List Oper} {o:Oper} {A:World→Prop} {op:BinOp} {d:Nat} {t u:TypeId} {x y:Operand} {a b c:Bool} (hu:P.underlying t=some .bool) (hg:A6 ops N env o=some true) (hd:o.dst=some d) (ho:o.op= .binOp op t x y u)
  (hx:evO N env x=some (.bool a)) (hy:evO N env y=some (.bool b)) (hc:NB op a b=some c)
  (h:WL r n P N D ops Q rest ((d, .bool c)::env) A):WL r n P N D ops Q (o::rest) env A:=
 CA hg hd (fun c e=>by rw[ho] at e;cases e) (fun _ W hρ _=>JI hu ho (hρ _ _ hx) (hρ _ _ hy) hc W) h
theorem S9 {ops rest:List Oper} {o:Oper} {A A2:World→Prop} {R:Act→World→Prop} {op:BinOp} {d:Nat} {t u:TypeId} {x y:Operand} {a b c:Bool} (hu:P.underlying t=some .bool) (hg:A6 ops N env o=some true) (hd:o.dst=some d) (ho:o.op= .binOp op t x y u)
  (hx:evO N env x=some (.bool a)) (hy:evO N env y=some (.bool b)) (hc:NB op a b=some c)
  (h:WQ P N D ops A2 R rest ((d, .bool c)::env) A):WQ P N D ops A2 R (o::rest) env A:=
 C4 hg hd (fun c e=>by rw[ho] at e;cases e) (fun _ W hρ _=>JI hu ho (hρ _ _ hx) (hρ _ _ hy) hc W) h
end
end Go.Am
namespace Go.Am
open Go Go.RowKit
def LU:Bx:=⟨0,0,[],false,none⟩
section
variable {r:Option Nat} {n:Nat} {P:Program} {W0:World} {N:Nat} {D:List Deferred} {Q:Exit→Act→World→Prop} {env:Env} {bxs:List Bx}
structure SA (N:Nat) {X:Type} (D:X→List Deferred) (L:X→Env) (B:X→World→Prop) (Φ:X→Prop) (μ:X→Nat) (m:Nat) (a:Act) (W:World):Prop where
 out: ∃x,Φ x∧μ x<m∧Qw N (D x) (L x) a∧B x W
theorem Ur {c:Code} {X:Type} (Ds:X→List Deferred) (L:X→Env) (B:X→List Bx) (Φ:X→Prop) (μ:X→Nat) (x0:X) (h0:Φ x0) (hD:Ds x0=D) (hL:Hb N env (L x0)) (nb:List Bx) (hB:bxs=B x0++nb)
  (round: ∀x,Φ x→WC r n P N (Ds x) c (Exit.then (SA N Ds L (fun x=>Hp W0 (B x)) Φ μ (μ x)) Q) (L x) (Hp W0 (B x))):WC r n P N D (.loop c) Q env (Hp W0 bxs):= .mk fun a W ha hd hp=>by
 refine wpIn_loop_ghost (fun m a W=> ∃x,Φ x∧μ x=m∧Qw N (Ds x) (L x) a∧Hp W0 (B x) W) (μ x0) ⟨x0,h0,rfl,hD▸Hu ha hd hL,by rw[hB] at hp;exact hp.take⟩ ?_
 rintro m a W ⟨x,hx,hm,hl,hp⟩
 have:=(round x hx).out a W hl.size hl.defers hp
 rw[EF (fun p hp _=>hl.get p hp)] at this
 refine wpIn_mono this ?_
 intro e a' W' hq
 cases e with
 |normal=>
  obtain⟨y,h1,h2,h3,h4⟩:=SA.out hq
  exact⟨μ y,hm▸h2,y,h1,rfl,h3,h4⟩
 |_=>exact hq
theorem O3 {X:Type} {Ds:X→List Deferred} {L:X→Env} {B:X→List Bx} {Φ:X→Prop} {μ:X→Nat} {m:Nat} (x:X) (hx:Φ x) (hm:μ x<m) (hD:D=Ds x) (hL:Hb N env (L x)) (s:List Nat) (hs:s.Nodup) (hp:pick bxs s=some (B x)):
  NE N D (Exit.then (SA N Ds L (fun x=>Hp W0 (B x)) Φ μ m) Q) .normal env (Hp W0 bxs):= .mk fun _ _ ha hd hh=>
 ⟨x,hx,hm,Hu ha (hd.trans hD) hL,hh.pick s hs hp⟩
end
end Go.Am
namespace Go.Am
open Go Go.RowKit
inductive ZOk (P:Program):List (Nat×Value)→Prop
 |nil:ZOk P []
 |cons {t:Nat} {z:Value} {l:List (Nat×Value)} (h: ∀W,(zeroValue t).run P W= .ok z W) (r:ZOk P l):ZOk P ((t,z)::l)
def I2:List (Nat×Value)→Nat→Option Value
 |[],_=>none
 |(u,z)::r,t=>if Nat.beq u t then some z else I2 r t
theorem ZOk.get {P:Program} {t:Nat} {z:Value}: ∀ {l:List (Nat×Value)},ZOk P l→I2 l t=some z→ ∀W,(zeroValue t).run P W= .ok z W
 |[],_,h=>by simp[I2] at h
 |(u,y)::r, .cons h h',hf=>by
  unfold I2 at hf
  by_cases e:Nat.beq u t=true
  ·rw[if_pos e] at hf
   cases hf
   have:u=t:=Nat.eq_of_beq_eq_true e
   subst this
   exact h
  ·rw[if_neg e] at hf
   exact ZOk.get h' hf
section
variable {r:Option Nat} {n:Nat} {P:Program} {W0:World} {N:Nat} {D:List Deferred} {ops:List Oper} {Q:Exit→Act→World→Prop} {o:Oper} {rest:List Oper} {env:Env} {bxs:List Bx} {A A2:World→Prop} {R:Act→World→Prop}
theorem Ao {Z:List (Nat×Value)} {d:Nat} {t:TypeId} {z:Value} (hZ:ZOk P Z) (hg:A6 ops N env o=some true) (hd:o.dst=some d) (ho:o.op= .alloc t) (hz:I2 Z t=some z)
  (h: ∀b,WL r n P N D ops Q rest ((d, .pointer (some ⟨b,0,none⟩))::env) (Hp W0 (bxs++[⟨b,t,z.cells.toList,true,none⟩]))):WL r n P N D ops Q (o::rest) env (Hp W0 bxs):=
 T4 hg hd ho (hZ.get hz) h
theorem AC {Z:List (Nat×Value)} {T:Tbl} {i:TI} {d:Nat} {t:TypeId} {parts:Array (Nat×Operand)} {vs:List (Nat×Value)} {z:Value} {c:List Value} (hZ:ZOk P Z) (hT:okB P T=true) (hg:A6 ops N env o=some true) (hd:o.dst=some d) (ho:o.op= .build t parts) (ht:BX T t=some i) (hk:i.kind=4)
  (hz:I2 Z t=some z) (hp:DE (evO N env) parts.toList=some vs) (hc:FX (HM i.fields) z.cells.toList vs=some c)
  (h:WL r n P N D ops Q rest ((d, .agg c.toArray)::env) A):WL r n P N D ops Q (o::rest) env A:=
 S7 z hT hg hd ho ht hk (hZ.get hz) hp hc h
theorem Hz {Z:List (Nat×Value)} {T:Tbl} {i:TI} {d:Nat} {t:TypeId} {parts:Array (Nat×Operand)} {vs:List (Nat×Value)} {z:Value} {c:List Value} (hZ:ZOk P Z) (hT:okB P T=true) (hg:A6 ops N env o=some true) (hd:o.dst=some d) (ho:o.op= .build t parts) (ht:BX T t=some i) (hk:i.kind=4)
  (hz:I2 Z t=some z) (hp:DE (evO N env) parts.toList=some vs) (hc:FX (HM i.fields) z.cells.toList vs=some c)
  (h:WQ P N D ops A2 R rest ((d, .agg c.toArray)::env) A):WQ P N D ops A2 R (o::rest) env A:=
 TM z hT hg hd ho ht hk (hZ.get hz) hp hc h
theorem AO {Z:List (Nat×Value)} {T:Tbl} {i:TI} {d:Nat} {t:TypeId} {len:Nat} {parts:Array (Nat×Operand)} {vs:List (Nat×Value)} {z:Value} {c:List Value} (hZ:ZOk P Z) (hT:okB P T=true) (hg:A6 ops N env o=some true) (hd:o.dst=some d) (ho:o.op= .buildSlice t len parts) (ht:BX T t=some i) (hk:i.kind=2)
  (hz:I2 Z i.elem=some z) (hp:DE (evO N env) parts.toList=some vs) (hzs:i.elemSize=z.cells.size) (h24:Nat.ble (len*i.elemSize) (2^24)=true) (h0:Nat.beq (len*i.elemSize) 0=false)
  (hc:FX (Jz i.elemSize) (BQ z.cells.toList len) vs=some c)
  (h: ∀b,WL r n P N D ops Q rest ((d, .slice (some ⟨b,0,none⟩) len len)::env) (Hp W0 (bxs++[⟨b,i.elem,c,true,none⟩]))):WL r n P N D ops Q (o::rest) env (Hp W0 bxs):=
 P8 z hT hg hd ho ht hk (hZ.get hz) hp hzs h24 h0 hc h
structure Vec where
 p:Option Nat
 cap:Nat
 junk:List Value
 deriving Inhabited
def Vec.empty:Vec:=⟨none,0,[]⟩
def Vec.val (V:Vec) (n:Nat):Value:=match V.p with
 |none=> .slice none 0 0
 |some g=> .slice (some ⟨g,0,none⟩) n V.cap
def Vec.bx (V:Vec) (e:TypeId) (xs:List Value):Bx:=match V.p with
 |none=>LU
 |some g=>⟨g,e,xs++V.junk,true,none⟩
structure Vec.OK (V:Vec) (size n:Nat) (xs:List Value):Prop where
 len:xs.length=n*size
 nil:V.p=none→n=0
 cap:V.p≠none→n≤V.cap∧V.cap≤maxLen∧xs.length+V.junk.length=V.cap*size
theorem Vec.OK.empty (size:Nat):Vec.empty.OK size 0 []:=⟨by simp,fun _=>rfl,fun h=>absurd rfl h⟩
structure VecTy (P:Program) (t e:TypeId) (size bytes:Nat) (z:Value):Prop where
 ht:P.underlying t=some (.slice e)
 hz:(P.info? e).bind (·.zero)=some z
 hs:(P.info? e).map (·.size)=some size
 hb:(P.info? e).map (·.bytes)=some bytes
 hzs:z.cells.size=size
 pos:0<size
theorem VecTy.hi {t e:TypeId} {size bytes:Nat} {z:Value} (h:VecTy P t e size bytes z): ∃i,P.info? e=some i∧i.zero=some z∧i.size=size∧i.bytes=bytes:=by
 have h1:=h.hz;have h2:=h.hs;have h3:=h.hb
 cases hi:P.info? e with
 |none=>rw[hi] at h1;cases h1
 |some i=>
  rw[hi] at h1 h2 h3
  exact⟨i,rfl,h1,Option.some.inj h2,Option.some.inj h3⟩
theorem Hp.appendV {t e ty:TypeId} {size bytes:Nat} {z:Value} (hty:VecTy P t e size bytes z) {W:World} (h:Hp W0 bxs W) (k:Nat) {V:Vec} {n m c:Nat} {xs news:List Value} {a:Addr} (hk:nth bxs k=some (V.bx e xs)) (hV:V.OK size n xs)
  (hl:news.length=m*size) (hnews: ∀j u,news[j]? =some u→W.cell? (a.add j)=some u) (h1: ∀u∈news,u.oneCell'=true) (h63:n+m≤maxLen) (hbytes:(n+m)*bytes≤140737488355328):
  ∃(V':Vec) (W':World),(Builtin.append_ #[t,t] ty #[V.val n, .slice (some a) m c]).run P W= .ok (V'.val (n+m)) W'∧V'.OK size (n+m) (xs++news)∧Hp W0 (bxs.set k (V'.bx e (xs++news))) W'∧(V'.p=none→m=0):=by
 rw[Bv] at hk
 obtain⟨i,hi,hz,hsz,hby⟩:=hty.hi
 have hown:W.ownsRow W0.heap.size e size (V.val n) n xs:=by
  refine⟨hV.len, ?_⟩
  obtain⟨p,cap,junk⟩:=V
  cases p with
  |none=>exact .inl ⟨rfl,hV.nil rfl⟩
  |some g=>
   obtain⟨h3,h4,h5⟩:=hV.cap (by simp)
   have hb:W.heap[g]? =some (.cells (xs++junk).toArray e (0,0))∧W0.heap.size≤g:=h.at_ k _ hk rfl
   refine .inr ⟨g,cap,_,rfl,hb.2,hb.1,h3,h4,by simpa using h5, ?_⟩
   rw[←hV.len]
   simp
 obtain⟨v',W',hr,hown',hgrow,hnil,hat⟩:=run_append_own_at (P:=P) W W0.heap.size t ty e i z size bytes hty.ht hi hz hsz hby hty.hzs hty.pos (V.val n) n xs hown a m c news hl hnews h1 h63 hbytes h.below.size
 have hoth: ∀(V':Vec),v'=V'.val (n+m)→ ∀x,(∀q∈(V.bx e xs).blk,q.1≠x)→x<W.heap.size→W'.heap[x]? =W.heap[x]? :=fun V' _ x hx hlt=>by
  refine hgrow.block x hlt ?_
  intro he
  obtain⟨p,cap,junk⟩:=V
  cases p with
  |none=>simp[Vec.val,Value.ownBlock] at he
  |some g=>
   simp[Vec.val,Value.ownBlock] at he
   exact hx (g,_) (List.mem_cons_self ..) he.symm
 rcases hown'.2 with⟨hv,hn⟩|⟨g,cap,cur,hv,hbg,hg,hnc,hcm,hcs,htake⟩
 ·refine⟨Vec.empty,W',by rw[hr,hv];rfl,⟨hown'.1,fun _=>hn,fun h=>absurd rfl h⟩, ?_,fun _=>by omega⟩
  exact h.turn hk (fun p hp=>by cases hp) List.nodup_nil hgrow.os hgrow.tape hgrow.output hgrow.size (fun p hp=>by cases hp) (hoth Vec.empty hv)
 ·have hcur:cur.toList=(xs++news)++cur.toList.drop ((n+m)*size):=by
   conv=>lhs;rw[←List.take_append_drop ((n+m)*size) cur.toList]
   rw[htake]
  refine⟨⟨some g,cap,cur.toList.drop ((n+m)*size)⟩,W',by rw[hr,hv];rfl,⟨hown'.1,fun h=>by simp at h,fun _=>⟨hnc,hcm, ?_⟩⟩, ?_,fun h=>by simp at h⟩
  ·have:=congrArg List.length hcur
   rw[List.length_append] at this
   simp only[Array.length_toList] at this
   rw[←this,hcs]
  ·refine h.turn hk (fun p hp=> ?_) (List.nodup_cons.2 ⟨List.not_mem_nil,List.nodup_nil⟩) hgrow.os hgrow.tape hgrow.output hgrow.size (fun p hp=> ?_) (hoth ⟨some g,cap,[]⟩ hv)
   ·obtain rfl:=List.mem_singleton.1 hp
    show(∃q∈(V.bx e xs).blk,q.1=g)∨W.heap.size≤g
    rcases hat with hat|hat
    ·left
     obtain⟨p,cap',junk⟩:=V
     rw[hv] at hat
     cases p with
     |none=>simp[Vec.val,Value.ownBlock] at hat
     |some g'=>
      simp[Vec.val,Value.ownBlock] at hat
      exact⟨(g',_),List.mem_cons_self ..,hat.symm⟩
    ·right
     rw[hv] at hat
     simp[Value.ownBlock] at hat
     omega
   ·obtain rfl:=List.mem_singleton.1 hp
    show W'.heap[g]? =some (.cells ((xs++news)++cur.toList.drop ((n+m)*size)).toArray e (0,0))
    rw[←hcur]
    exact hg
theorem EG (k:Nat) {d:Nat} {t e:TypeId} {size bytes:Nat} {z:Value} (hty:VecTy P t e size bytes z) {c:Call} {s x:Operand} {V:Vec} {m cp len:Nat} {xs news:List Value} {a:Addr}
  (hg:A6 ops N env o=some true) (hd:o.dst=some d) (ho:o.op= .call c) (hc:c.callee= .builtin .append) (ha:c.args= #[s,x]) (hat:c.argTypes= #[t,t])
  (hs:evO N env s=some (V.val len)) (hx:evO N env x=some (.slice (some a) m cp)) (hk:nth bxs k=some (V.bx e xs)) (hV:V.OK size len xs)
  (hl:news.length=m*size) (hnews: ∀W,Hp W0 bxs W→ ∀j u,news[j]? =some u→W.cell? (a.add j)=some u) (h1: ∀u∈news,u.oneCell'=true) (h63:len+m≤maxLen) (hbytes:(len+m)*bytes≤140737488355328)
  (h: ∀V':Vec,V'.OK size (len+m) (xs++news)→(V'.p=none→m=0)→WL r n P N D ops Q rest ((d,V'.val (len+m))::env) (Hp W0 (bxs.set k (V'.bx e (xs++news))))):WL r n P N D ops Q (o::rest) env (Hp W0 bxs):= .mk fun act W h2 h3 hp=>by
 refine BH hg h2 (fun c e=>by rw[ho] at e;cases e) ?_
 obtain⟨V',W',hr,hV',hp',hn'⟩:=hp.appendV (ty:=o.type) (c:=cp) hty k hk hV hl (hnews W hp) h1 h63 hbytes
 have e1:c.args.map (ov env act).eval= #[V.val len, .slice (some a) m cp]:=by rw[ha];simp[AL h2 _ _ hs,AL h2 _ _ hx]
 have:(execOp (ov env act).eval o).run P W= .ok (.value (V'.val (len+m))) W':=by
  simp only[execOp,ho,resolve,hc,invoke,builtin,e1,hat,Sem.run_bind,Sem.run_pure,Result.andThen_ok,hr]
 rw[this]
 simp only[Oper.uponIn,hd]
 exact(h V' hV' hn').out act W' h2 h3 hp'
theorem NT (k j:Nat) {d:Nat} {t e:TypeId} {size bytes:Nat} {z:Value} (hty:VecTy P t e size bytes z) {c:Call} {s x:Operand} {V:Vec} {m cp len:Nat} {xs:List Value} {B:Bx}
  (hg:A6 ops N env o=some true) (hd:o.dst=some d) (ho:o.op= .call c) (hc:c.callee= .builtin .append) (ha:c.args= #[s,x]) (hat:c.argTypes= #[t,t])
  (hj:nth bxs j=some B) (hon:B.row=true) (hx:evO N env x=some (.slice (some ⟨B.b,0,none⟩) m cp))
  (hs:evO N env s=some (V.val len)) (hk:nth bxs k=some (V.bx e xs)) (hV:V.OK size len xs)
  (hl:B.cells.length=m*size) (h1:CI B.cells=true) (h63:len+m≤maxLen) (hbytes:(len+m)*bytes≤140737488355328)
  (h: ∀V':Vec,V'.OK size (len+m) (xs++B.cells)→(V'.p=none→m=0)→WL r n P N D ops Q rest ((d,V'.val (len+m))::env) (Hp W0 (bxs.set k (V'.bx e (xs++B.cells))))):WL r n P N D ops Q (o::rest) env (Hp W0 bxs):=by
 refine EG k hty hg hd ho hc ha hat hs hx hk hV hl (fun W hp i u hu=> ?_) ?_ h63 hbytes h
 ·rw[Bv] at hj
  obtain⟨h5,h6⟩:=Bx.row_on hon
  have:=(hp.at_ _ _ hj h5).1
  rw[h6] at this
  rw[Addr.add_none,EP this]
  simpa using hu
 ·have: ∀(l:List Value),CI l=true→ ∀u∈l,u.oneCell'=true:=by
   intro l
   induction l with
   |nil=>intro _ u hu;cases hu
   |cons v l ih=>
    intro hl u hu
    unfold CI at hl
    split at hl
    ·rename_i hv
     rcases List.mem_cons.1 hu with rfl|hu
     ·cases u<;>first|rfl|(simp[one] at hv;done)
     ·exact ih hl u hu
    ·cases hl
  exact this _ h1
end
end Go.Am
namespace Go.Am
open Go Go.RowKit
section
variable {r:Option Nat} {n:Nat} {P:Program} {W0:World} {N:Nat} {D:List Deferred} {ops:List Oper} {Q:Exit→Act→World→Prop} {o:Oper} {rest:List Oper} {env:Env} {bxs:List Bx} {A A2:World→Prop} {R:Act→World→Prop}
theorem JS (len cap:Nat) {lo hi:Option Value} {l h:Nat} (hl:lo=none∧l=0∨ ∃k,lo=some (.int k (l:Nat))) (hh:hi=none∧h=len∨ ∃k,hi=some (.int k (h:Nat))) (h1:l≤h) (h2:h≤cap) (W:World):
  (Instr.sliceBounds true len cap lo hi none).run P W= .ok (l,h,cap) W:=by
 rcases hl with⟨rfl,rfl⟩|⟨k,rfl⟩<;>rcases hh with⟨rfl,rfl⟩|⟨k',rfl⟩<;>simp[Instr.sliceBounds,Instr.sliceBound,asIntOf,h1,h2]
theorem Mt {T:Tbl} {i:TI} {ρ:Operand→Value} {t:TypeId} {x:Operand} {lo hi:Option Operand} {a:Option Addr} {len cap l h:Nat} (hT:okB P T=true) (ho:o.op= .slice t x lo hi none) (ht:BX T t=some i) (hk:i.kind=2) (hx:ρ x= .slice a len cap)
  (hl:lo.map ρ=none∧l=0∨ ∃k,lo.map ρ=some (.int k (l:Nat))) (hh:hi.map ρ=none∧h=len∨ ∃k,hi.map ρ=some (.int k (h:Nat))) (h1:l≤h) (h2:h≤cap) (W:World):
  (execOp ρ o).run P W= .ok (.value (.slice (if cap=l then a else a.map (·.add (l*i.elemSize))) (h-l) (cap-l))) W:=by
 obtain⟨hu,hs⟩:=DV (Bw hT ht) hk
 have hb:=JS (P:=P) len cap hl hh h1 h2 W
 simp only[execOp,ho,Instr.sliceAt,Sem.run_bind,run_underlying hu,Result.andThen_ok,Instr.slice,hx,Option.map_none,hb,Dz hs,Sem.run_pure]
theorem Cs {T:Tbl} {i:TI} {d:Nat} {t:TypeId} {x y:Operand} {k:IntKind} {a:Option Addr} {len cap:Nat} {z:Int} (h:Nat) (hT:okB P T=true) (hg:A6 ops N env o=some true) (hd:o.dst=some d) (ho:o.op= .slice t x none (some y) none)
  (ht:BX T t=some i) (hk:i.kind=2) (hx:evO N env x=some (.slice a len cap)) (hy:evO N env y=some (.int k z)) (hz:z=h) (h2:h≤cap)
  (hn:WL r n P N D ops Q rest ((d, .slice a h cap)::env) A):WL r n P N D ops Q (o::rest) env A:=
 CA hg hd (fun c e=>by rw[ho] at e;cases e) (fun ρ W hρ _=>by
  subst hz
  have:=Mt (P:=P) (l:=0) (h:=h) hT ho ht hk (hρ _ _ hx) (.inl ⟨rfl,rfl⟩) (.inr ⟨k,by rw[Option.map_some,hρ _ _ hy]⟩) (Nat.zero_le _) h2 W
  rw[this]
  have e:(if cap=0 then a else a.map (·.add (0*i.elemSize)))=a:=by
   split
   ·rfl
   ·cases a with
    |none=>rfl
    |some a=>simp[Addr.add]
  rw[e];rfl) hn
theorem Fb {T:Tbl} {i:TI} {d:Nat} {t:TypeId} {x y':Operand} {k':IntKind} {b off:Nat} {len cap:Nat} {z':Int} (l:Nat) (hT:okB P T=true) (hg:A6 ops N env o=some true) (hd:o.dst=some d) (ho:o.op= .slice t x (some y') none none)
  (ht:BX T t=some i) (hk:i.kind=2) (hx:evO N env x=some (.slice (some ⟨b,off,none⟩) len cap)) (hy':evO N env y'=some (.int k' z')) (hz':z'=l) (h1:l≤len) (h2:len≤cap)
  (hn:WL r n P N D ops Q rest ((d, .slice (some ⟨b,if cap=l then off else off+l*i.elemSize,none⟩) (len-l) (cap-l))::env) A):WL r n P N D ops Q (o::rest) env A:=
 CA hg hd (fun c e=>by rw[ho] at e;cases e) (fun ρ W hρ _=>by
  subst hz'
  have:=Mt (P:=P) (l:=l) (h:=len) hT ho ht hk (hρ _ _ hx) (.inr ⟨k',by rw[Option.map_some,hρ _ _ hy']⟩) (.inl ⟨rfl,rfl⟩) h1 h2 W
  rw[this]
  have e:(if cap=l then some (⟨b,off,none⟩:Addr) else(some (⟨b,off,none⟩:Addr)).map (·.add (l*i.elemSize)))=some ⟨b,if cap=l then off else off+l*i.elemSize,none⟩:=by
   split
   ·rfl
   ·simp[Addr.add_none]
  rw[e]) hn
theorem Jc {W:World} {t u ty e:TypeId} {size bytes:Nat} {z:Value} (hty:VecTy P t e size bytes z) {ku:IntKind} (hu:P.underlying u=some (.int ku)) (m:Nat) (h0:0<m) (hb:m*bytes≤140737488355328) (h63:m≤maxLen):
  (Builtin.append_ #[t,u] ty #[.slice none 0 0, .int .i64 (m:Nat)]).run P W=
   .ok (.slice (some ⟨W.heap.size,0,none⟩) m (grownCap W m 0 e)) (W.drew.alloc (.cells (Builtin.zeroCells z.cells m++Builtin.zeroCells z.cells (grownCap W m 0 e-m)) e)):=by
 obtain⟨i,hi,hz,hsz,hby⟩:=hty.hi
 have hs:=hty.pos
 subst hsz;subst hby
 have hn:m≠0:=by omega
 have hw:IntKind.i64.wrap (m:Nat)=(m:Int):=Kh (by omega) (by simp only[maxLen] at h63;omega)
 have h63': ¬(9223372036854775807<(m:Int)):=by simp only[maxLen] at h63;omega
 have h48: ¬((281474976710656:Int)<(m:Int)*(i.bytes:Int)):=by
  have:(m:Int)*(i.bytes:Int)=((m*i.bytes:Nat):Int):=by simp
  rw[this];omega
 have h48': ¬(281474976710656<Builtin.nextslicecap m 0*i.bytes):=by rw[nextslicecap_zero h0];omega
 have hms: ¬(m*i.size=0):=by have:=Nat.mul_pos h0 hs;omega
 have hm0: ¬((m:Int)<0):=by omega
 simp[Builtin.append_,run_underlying hty.ht,run_underlying hu,sizeOf,typeInfo,zeroValue,hi,hz,hn,hw,h63',h48,h48',hm0,asInt,asIntOf,Question.forced,run_firstCells_none,newRow,grownCap]
 exact fun h=>absurd h hms
theorem FO (z:Array Value) (m:Nat):(Builtin.zeroCells z m).toList=BQ z.toList m:=by
 unfold Builtin.zeroCells
 exact K9 z m z.size rfl
theorem L3 {d:Nat} {t u e:TypeId} {size bytes:Nat} {z:Value} (hty:VecTy P t e size bytes z) {ku:IntKind} (hu:P.underlying u=some (.int ku)) {c:Call} {s x:Operand} (m:Nat) {zi:Int}
  (hg:A6 ops N env o=some true) (hd:o.dst=some d) (ho:o.op= .call c) (hc:c.callee= .builtin .append) (ha:c.args= #[s,x]) (hat:c.argTypes= #[t,u])
  (hs:evO N env s=some (.slice none 0 0)) (hx:evO N env x=some (.int .i64 zi)) (hzi:zi=m) (h0:0<m) (h63:m≤maxLen) (hbytes:m*bytes≤140737488355328)
  (h: ∀V:Vec,V.OK size m (BQ z.cells.toList m)→V.p≠none→V.junk=BQ z.cells.toList (V.cap-m)→WL r n P N D ops Q rest ((d,V.val m)::env) (Hp W0 (bxs++[V.bx e (BQ z.cells.toList m)]))):WL r n P N D ops Q (o::rest) env (Hp W0 bxs):= .mk fun act W h2 h3 hp=>by
 refine BH hg h2 (fun c e=>by rw[ho] at e;cases e) ?_
 subst hzi
 have hr:=Jc (P:=P) (W:=W) (ty:=o.type) hty hu m h0 hbytes h63
 have e1:c.args.map (ov env act).eval= #[.slice none 0 0, .int .i64 (m:Nat)]:=by rw[ha];simp[AL h2 _ _ hs,AL h2 _ _ hx]
 obtain⟨g,hgc⟩: ∃g,grownCap W m 0 e=g:=⟨_,rfl⟩
 have hge:m≤g:=hgc▸grownCap_ge W m 0 e
 have hle:g≤maxLen:=hgc▸grownCap_le_maxLen W m 0 e h63
 rw[hgc] at hr
 have:(execOp (ov env act).eval o).run P W= .ok (.value (.slice (some ⟨W.heap.size,0,none⟩) m g)) (W.drew.alloc (.cells (Builtin.zeroCells z.cells m++Builtin.zeroCells z.cells (g-m)) e)):=by
  simp only[execOp,ho,resolve,hc,invoke,builtin,e1,hat,Sem.run_bind,Sem.run_pure,Result.andThen_ok,hr]
 rw[this]
 simp only[Oper.uponIn,hd]
 have hlen: ∀k,(BQ z.cells.toList k).length=k*size:=fun k=>by rw[Eu];simp[hty.hzs]
 refine(h ⟨some W.heap.size,g,BQ z.cells.toList (g-m)⟩ ⟨hlen m,(fun h=>by cases h),fun _=>⟨hge,hle, ?_⟩⟩ (by simp) rfl).out act _ h2 h3 ?_
 ·show(BQ z.cells.toList m).length+(BQ z.cells.toList (g-m)).length=g*size
  rw[hlen,hlen, ←Nat.add_mul];congr 1;omega
 ·have hp2:Hp W0 bxs W.drew:=hp.grow ⟨rfl,rfl,rfl,Nat.le_refl _,fun _ _=>rfl⟩
  have hp3:=hp2.alloc e (BQ z.cells.toList m++BQ z.cells.toList (g-m))
  have e2:(Builtin.zeroCells z.cells m++Builtin.zeroCells z.cells (g-m))=(BQ z.cells.toList m++BQ z.cells.toList (g-m)).toArray:=by
   apply Array.toList_inj.1
   simp[FO]
  rw[e2]
  exact hp3
theorem LQ {ρ:Operand→Value} {W:World} {t e:TypeId} {size bytes:Nat} {z:Value} (hty:VecTy P t e size bytes z) {x y:Operand} (m:Nat) (ho:o.op= .makeSlice t x y) (hx:ρ x= .int .i64 (m:Nat)) (hy:ρ y= .int .i64 (m:Nat)) (h63:m≤maxLen) (hb:m*bytes≤140737488355328):
  (execOp ρ o).run P W= .ok (.value (.slice (some ⟨W.heap.size,0,none⟩) m m)) (W.alloc (.cells (BQ z.cells.toList m).toArray e)):=by
 obtain⟨i,hi,hz,hsz,hby⟩:=hty.hi
 subst hsz;subst hby
 have hw:IntKind.i64.wrap (m:Nat)=(m:Int):=Kh (by omega) (by simp only[maxLen] at h63;omega)
 have h48: ¬((281474976710656:Int)<(i.bytes:Int)*(m:Int)):=by
  have:(i.bytes:Int)*(m:Int)=((m*i.bytes:Nat):Int):=by rw[Nat.mul_comm];simp
  rw[this];omega
 have h0: ¬((m:Int)<0):=by omega
 have hz':((Array.range (m*i.size)).map (z.cells[· %z.cells.size]!))=(BQ z.cells.toList m).toArray:=by
  apply Array.toList_inj.1
  rw[K9 _ _ _ hty.hzs.symm]
 by_cases hm:m=0
 ·subst hm
  simp[execOp,ho,Instr.makeSlice,run_underlying hty.ht,hx,hy,asInt,asIntOf,typeInfo,hi,sizeOf,newRow,BQ]
  have:IntKind.i64.wrap 0=0:=rfl
  have e0:Array.map (fun _:Nat=>(default:Value)) (Array.range 0)= #[]:=by apply Array.toList_inj.1;simp
  simp[this,e0]
 ·have hms: ¬(m*i.size=0):=by have:=Nat.mul_pos (show 0<m by omega) hty.pos;omega
  simp only[execOp,ho,Instr.makeSlice,Sem.run_bind,run_underlying hty.ht,hx,hy,asInt,asIntOf,Sem.run_pure,Result.andThen_ok,typeInfo,hw]
  simp[h48,h0,run_askRoom,sizeOf,typeInfo,hi,zeroValue,hz,newRow]
  rw[if_neg hms, ←hz']
theorem Cl {d:Nat} {t e:TypeId} {size bytes:Nat} {z:Value} (hty:VecTy P t e size bytes z) {x y:Operand} (m:Nat) {zx zy:Int}
  (hg:A6 ops N env o=some true) (hd:o.dst=some d) (ho:o.op= .makeSlice t x y)
  (hx:evO N env x=some (.int .i64 zx)) (hy:evO N env y=some (.int .i64 zy)) (hzx:zx=m) (hzy:zy=m) (h63:m≤maxLen) (hb:m*bytes≤140737488355328)
  (h: ∀b,WL r n P N D ops Q rest ((d, .slice (some ⟨b,0,none⟩) m m)::env) (Hp W0 (bxs++[⟨b,e,BQ z.cells.toList m,true,none⟩]))):WL r n P N D ops Q (o::rest) env (Hp W0 bxs):= .mk fun act W h2 h3 hp=>by
 refine BH hg h2 (fun c e=>by rw[ho] at e;cases e) ?_
 subst hzx;subst hzy
 rw[LQ (P:=P) (W:=W) hty m ho (AL h2 _ _ hx) (AL h2 _ _ hy) h63 hb]
 simp only[Oper.uponIn,hd]
 exact(h W.heap.size).out act _ h2 h3 (hp.alloc e _)
end
end Go.Am
namespace Go.Proofs
open Go
def Tryz.T:Am.Tbl:=[
 (3, { size:=1 }),
 (4, { size:=1 }),
 (5, { size:=1 }),
 (9, { size:=1,kind:=1 }),
 (22, { size:=1,elem:=35,elemSize:=2,kind:=2 }),
 (23, { size:=1,kind:=1 }),
 (27, { size:=1 }),
 (35, { agg:=true,size:=2,fields:=[(0,1,false),(1,1,false)],kind:=4 }),
 (38, { size:=1,elem:=22,elemSize:=1,kind:=2 }),
 (59, { size:=1 }),
 (61, { agg:=true,size:=1,fields:=[(0,1,false)],kind:=4 }),
 (66, { agg:=true,size:=4,elem:=35,elemSize:=2,kind:=3 }),
 (72, { agg:=true,size:=2,fields:=[(0,1,false),(1,1,false)],kind:=4 }),
 (77, { size:=1 }),
 (84, { agg:=true,size:=2,fields:=[(0,1,false),(1,1,false)],kind:=4 }),
 (87, { size:=1,elem:=23,elemSize:=1,kind:=2 }),
 (119, { agg:=true,size:=2,fields:=[(0,1,false),(1,1,false)],kind:=4 }),
 (130, { size:=1,elem:=3,elemSize:=1,kind:=2 }),
 (132, { agg:=true,size:=2,fields:=[(0,1,false),(1,1,false)],kind:=4 }),
 (141, { size:=1,elem:=84,elemSize:=2,kind:=2 }),
 (153, { agg:=true,size:=2,fields:=[(0,1,false),(1,1,false)],kind:=4 }),
 (171, { size:=1 }),
 (198, { size:=1 }),
 (202, { size:=1,elem:=5,elemSize:=1,kind:=2 }),
 (208, { size:=1 }),
 (210, { agg:=true,size:=2,fields:=[(0,1,false),(1,1,false)],kind:=4 }),
 (218, { size:=1 }),
 (229, { agg:=true,size:=256,elem:=4,elemSize:=1,kind:=3 }),
 (240, { agg:=true,size:=24,elem:=5,elemSize:=1,kind:=3 }),
 (248, { size:=1 }),
 (259, { agg:=true,size:=3,fields:=[(0,1,false),(1,1,false),(2,1,false)],kind:=4 }),
 (263, { agg:=true,size:=20,elem:=198,elemSize:=1,kind:=3 }),
 (264, { agg:=true,size:=65,elem:=5,elemSize:=1,kind:=3 }),
 (276, { agg:=true,size:=1,fields:=[(0,1,false)],kind:=4 }),
 (279, { agg:=true,size:=256,elem:=5,elemSize:=1,kind:=3 }),
 (281, { agg:=true,size:=2,fields:=[(0,1,false),(1,1,false)],kind:=4 }),
 (282, { agg:=true,size:=32,elem:=281,elemSize:=2,kind:=3 }),
 (284, { agg:=true,size:=32,elem:=5,elemSize:=1,kind:=3 }),
 (285, { agg:=true,size:=64,elem:=5,elemSize:=1,kind:=3 })]
theorem Tryz.hT:Am.okB Tryz.prog Tryz.T=true:=by kernel_rfl
def Tryz.Z:List (Nat×Value):=[
 (3, .int .i64 0),
 (4, .bool false),
 (5, .int .u8 0),
 (9, .string ⟨#[]⟩),
 (22, .slice none 0 0),
 (23, .string ⟨#[]⟩),
 (27, .int .i64 0),
 (35, .agg #[.string ⟨#[]⟩, .string ⟨#[]⟩]),
 (38, .slice none 0 0),
 (59, .pointer none),
 (61, .agg #[.int .i64 0]),
 (66, .agg #[.string ⟨#[]⟩, .string ⟨#[]⟩, .string ⟨#[]⟩, .string ⟨#[]⟩]),
 (72, .agg #[.int .i64 0, .int .i64 0]),
 (84, .agg #[.string ⟨#[]⟩, .int .i64 0]),
 (87, .slice none 0 0),
 (119, .agg #[.string ⟨#[]⟩, .string ⟨#[]⟩]),
 (130, .slice none 0 0),
 (132, .agg #[.bool false, .slice none 0 0]),
 (141, .slice none 0 0),
 (153, .agg #[.bool false, .slice none 0 0]),
 (171, .nilIface),
 (198, .int .u64 0),
 (202, .slice none 0 0),
 (208, .pointer none),
 (210, .agg #[.pointer none, .slice none 0 0]),
 (218, .int .u64 0),
 (240, .agg #[.int .u8 0, .int .u8 0, .int .u8 0, .int .u8 0, .int .u8 0, .int .u8 0, .int .u8 0, .int .u8 0, .int .u8 0, .int .u8 0, .int .u8 0, .int .u8 0, .int .u8 0, .int .u8 0, .int .u8 0, .int .u8 0, .int .u8 0, .int .u8 0, .int .u8 0, .int .u8 0, .int .u8 0, .int .u8 0, .int .u8 0, .int .u8 0]),
 (248, .pointer none),
 (259, .agg #[.string ⟨#[]⟩, .string ⟨#[]⟩, .nilIface]),
 (263, .agg #[.int .u64 0, .int .u64 0, .int .u64 0, .int .u64 0, .int .u64 0, .int .u64 0, .int .u64 0, .int .u64 0, .int .u64 0, .int .u64 0, .int .u64 0, .int .u64 0, .int .u64 0, .int .u64 0, .int .u64 0, .int .u64 0, .int .u64 0, .int .u64 0, .int .u64 0, .int .u64 0]),
 (276, .agg #[.string ⟨#[]⟩]),
 (281, .agg #[.int .u8 0, .int .u8 0]),
 (282, .agg #[.int .u8 0, .int .u8 0, .int .u8 0, .int .u8 0, .int .u8 0, .int .u8 0, .int .u8 0, .int .u8 0, .int .u8 0, .int .u8 0, .int .u8 0, .int .u8 0, .int .u8 0, .int .u8 0, .int .u8 0, .int .u8 0, .int .u8 0, .int .u8 0, .int .u8 0, .int .u8 0, .int .u8 0, .int .u8 0, .int .u8 0, .int .u8 0, .int .u8 0, .int .u8 0, .int .u8 0, .int .u8 0, .int .u8 0, .int .u8 0, .int .u8 0, .int .u8 0]),
 (284, .agg #[.int .u8 0, .int .u8 0, .int .u8 0, .int .u8 0, .int .u8 0, .int .u8 0, .int .u8 0, .int .u8 0, .int .u8 0, .int .u8 0, .int .u8 0, .int .u8 0, .int .u8 0, .int .u8 0, .int .u8 0, .int .u8 0, .int .u8 0, .int .u8 0, .int .u8 0, .int .u8 0, .int .u8 0, .int .u8 0, .int .u8 0, .int .u8 0, .int .u8 0, .int .u8 0, .int .u8 0, .int .u8 0, .int .u8 0, .int .u8 0, .int .u8 0, .int .u8 0])]
theorem Tryz.hZ:Am.ZOk Tryz.prog Tryz.Z:=
 .cons (fun W=>by kernel_rfl)<|
 .cons (fun W=>by kernel_rfl)<|
 .cons (fun W=>by kernel_rfl)<|
 .cons (fun W=>by kernel_rfl)<|
 .cons (fun W=>by kernel_rfl)<|
 .cons (fun W=>by kernel_rfl)<|
 .cons (fun W=>by kernel_rfl)<|
 .cons (fun W=>by kernel_rfl)<|
 .cons (fun W=>by kernel_rfl)<|
 .cons (fun W=>by kernel_rfl)<|
 .cons (fun W=>by kernel_rfl)<|
 .cons (fun W=>by kernel_rfl)<|
 .cons (fun W=>by kernel_rfl)<|
 .cons (fun W=>by kernel_rfl)<|
 .cons (fun W=>by kernel_rfl)<|
 .cons (fun W=>by kernel_rfl)<|
 .cons (fun W=>by kernel_rfl)<|
 .cons (fun W=>by kernel_rfl)<|
 .cons (fun W=>by kernel_rfl)<|
 .cons (fun W=>by kernel_rfl)<|
 .cons (fun W=>by kernel_rfl)<|
 .cons (fun W=>by kernel_rfl)<|
 .cons (fun W=>by kernel_rfl)<|
 .cons (fun W=>by kernel_rfl)<|
 .cons (fun W=>by kernel_rfl)<|
 .cons (fun W=>by kernel_rfl)<|
 .cons (fun W=>by kernel_rfl)<|
 .cons (fun W=>by kernel_rfl)<|
 .cons (fun W=>by kernel_rfl)<|
 .cons (fun W=>by kernel_rfl)<|
 .cons (fun W=>by kernel_rfl)<|
 .cons (fun W=>by kernel_rfl)<|
 .cons (fun W=>by kernel_rfl)<|
 .cons (fun W=>by kernel_rfl)<|
 .nil
theorem Tryz.vec22:Am.VecTy Tryz.prog 22 35 2 32 (.agg #[.string ⟨#[]⟩, .string ⟨#[]⟩]):=⟨by kernel_rfl,by kernel_rfl,by kernel_rfl,by kernel_rfl,rfl,by decide⟩
theorem Tryz.vec87:Am.VecTy Tryz.prog 87 23 1 16 (.string ⟨#[]⟩):=⟨by kernel_rfl,by kernel_rfl,by kernel_rfl,by kernel_rfl,rfl,by decide⟩
theorem Tryz.vec130:Am.VecTy Tryz.prog 130 3 1 8 (.int .i64 0):=⟨by kernel_rfl,by kernel_rfl,by kernel_rfl,by kernel_rfl,rfl,by decide⟩
theorem Tryz.vec202:Am.VecTy Tryz.prog 202 5 1 1 (.int .u8 0):=⟨by kernel_rfl,by kernel_rfl,by kernel_rfl,by kernel_rfl,rfl,by decide⟩
theorem Tryz.mixed:Tryz.prog.follows .mixedOrders=true:=by kernel_rfl
end Go.Proofs

namespace Go.Proofs
open Go Go.Am
section
variable {r:Option Nat} {n:Nat} {W0:World} {N:Nat} {D:List Deferred} {A A2:World→Prop} {ops:List Oper} {Q:Exit→Act→World→Prop} {R:Act→World→Prop} {o:Oper} {rest:List Oper} {env:Env} {bxs:List Bx}
theorem tH:Am.okB Tryz.prog Tryz.T=true:=Tryz.hT
theorem wP {d:Nat} {v:Value} (h:(A6 ops N env o,o.dst,ET Tryz.T (evO N env) o.op)=(some true,some d,some v)) (k:WL r n Tryz.prog N D ops Q rest ((d,v)::env) A):WL r n Tryz.prog N D ops Q (o::rest) env A:=U1 Tryz.hT (congrArg (·.1) h) (congrArg (·.2.1) h) (congrArg (·.2.2) h) k
theorem wB (m:Nat) {i:TI} {d:Nat} {t:TypeId} {x:Operand} {B:Bx} {off:Nat} {v:Value} (h:(A6 ops N env o,o.dst,o.op)=(some true,some d, .load t x)) (h2:(BX Tryz.T t,nth bxs m,evO N env x)=(some i,some B,some (.pointer (some ⟨B.b,off,none⟩)))) (h3:(B.row,Dr B.cells off i)=(true,some v)) (k:WL r n Tryz.prog N D ops Q rest ((d,v)::env) (Hp W0 bxs)):WL r n Tryz.prog N D ops Q (o::rest) env (Hp W0 bxs):=RJ m Tryz.hT (congrArg (·.1) h) (congrArg (·.2.1) h) (congrArg (·.2.2) h) (congrArg (·.1) h2) (congrArg (·.2.1) h2) (congrArg (·.2.2) h2) (congrArg (·.1) h3) (congrArg (·.2) h3) k
theorem wI {i:TI} {d:Nat} {t:TypeId} {x y:Operand} {k:IntKind} {b off len cap:Nat} {z:Int} (h:(A6 ops N env o,o.dst,o.op)=(some true,some d, .indexAddr t x y)) (h2:(BX Tryz.T t,i.kind,evO N env x,evO N env y)=(some i,2,some (.slice (some ⟨b,off,none⟩) len cap),some (.int k z))) (h0:0≤z) (h1:z<len) (j:WL r n Tryz.prog N D ops Q rest ((d, .pointer (some ⟨b,off+z.toNat*i.elemSize,none⟩))::env) A):WL r n Tryz.prog N D ops Q (o::rest) env A:=Nh Tryz.hT (congrArg (·.1) h) (congrArg (·.2.1) h) (congrArg (·.2.2) h) (congrArg (·.1) h2) (congrArg (·.2.1) h2) (congrArg (·.2.2.1) h2) (congrArg (·.2.2.2) h2) h0 h1 j
theorem qP {d:Nat} {v:Value} (h:(A6 ops N env o,o.dst,ET Tryz.T (evO N env) o.op)=(some true,some d,some v)) (k:WQ Tryz.prog N D ops A2 R rest ((d,v)::env) A):WQ Tryz.prog N D ops A2 R (o::rest) env A:=UW Tryz.hT (congrArg (·.1) h) (congrArg (·.2.1) h) (congrArg (·.2.2) h) k
theorem qB (m:Nat) {i:TI} {d:Nat} {t:TypeId} {x:Operand} {B:Bx} {off:Nat} {v:Value} (h:(A6 ops N env o,o.dst,o.op)=(some true,some d, .load t x)) (h2:(BX Tryz.T t,nth bxs m,evO N env x)=(some i,some B,some (.pointer (some ⟨B.b,off,none⟩)))) (h3:(B.row,Dr B.cells off i)=(true,some v)) (k:WQ Tryz.prog N D ops A2 R rest ((d,v)::env) (Hp W0 bxs)):WQ Tryz.prog N D ops A2 R (o::rest) env (Hp W0 bxs):=Sb m Tryz.hT (congrArg (·.1) h) (congrArg (·.2.1) h) (congrArg (·.2.2) h) (congrArg (·.1) h2) (congrArg (·.2.1) h2) (congrArg (·.2.2) h2) (congrArg (·.1) h3) (congrArg (·.2) h3) k
theorem qI {i:TI} {d:Nat} {t:TypeId} {x y:Operand} {k:IntKind} {b off len cap:Nat} {z:Int} (h:(A6 ops N env o,o.dst,o.op)=(some true,some d, .indexAddr t x y)) (h2:(BX Tryz.T t,i.kind,evO N env x,evO N env y)=(some i,2,some (.slice (some ⟨b,off,none⟩) len cap),some (.int k z))) (h0:0≤z) (h1:z<len) (j:WQ Tryz.prog N D ops A2 R rest ((d, .pointer (some ⟨b,off+z.toNat*i.elemSize,none⟩))::env) A):WQ Tryz.prog N D ops A2 R (o::rest) env A:=MX Tryz.hT (congrArg (·.1) h) (congrArg (·.2.1) h) (congrArg (·.2.2) h) (congrArg (·.1) h2) (congrArg (·.2.1) h2) (congrArg (·.2.2.1) h2) (congrArg (·.2.2.2) h2) h0 h1 j
theorem wS (m:Nat) {i:TI} {t:TypeId} {x y:Operand} {B:Bx} {off:Nat} {v:Value} (h:(A6 ops N env o,o.dst,o.op)=(some true,none, .store t x y)) (h2:(BX Tryz.T t,nth bxs m,evO N env x,evO N env y)=(some i,some B,some (.pointer (some ⟨B.b,off,none⟩)),some v)) (h3:(B.row,Nat.beq v.cells.toList.length i.size,Nat.ble (off+i.size) B.cells.length,CI v.cells.toList)=(true,true,true,true)) (k:WL r n Tryz.prog N D ops Q rest env (Hp W0 (bxs.set m { B with cells:=B0 B.cells off v.cells.toList }))):WL r n Tryz.prog N D ops Q (o::rest) env (Hp W0 bxs):=Q6 m Tryz.hT (congrArg (·.1) h) (congrArg (·.2.1) h) (congrArg (·.2.2) h) (congrArg (·.1) h2) (congrArg (·.2.1) h2) (congrArg (·.2.2.1) h2) (congrArg (·.1) h3) (congrArg (·.2.2.2) h2) (congrArg (·.2.1) h3) (congrArg (·.2.2.1) h3) (congrArg (·.2.2.2) h3) k
theorem wX {bxq:List Bx} {d:Nat} {L fl:List Bool} (h:RS r n Tryz.prog N D ops fl Q (Hp W0 bxq) d L env (Hp W0 bxs) (He ops L)) (h1:Ph ops.length L=false:=by exact rfl) (h2:Nat.beq L.length ops.length=true:=by exact rfl) (h3:AN bxq bxs:=by((repeat (first|refine AN.same ?_|refine AN.off rfl ?_));exact trivial)):WT r n Tryz.prog N D ops fl Q (Hp W0 bxq) (d+1) L env (Hp W0 bxs):=UL h1 h2 h3 h
theorem wY {Aq:World→Prop} {d:Nat} {L fl:List Bool} (h:RS r n Tryz.prog N D ops fl Q Aq d L env (Hp W0 bxs) (He ops L)) (h1:Ph ops.length L=false:=by exact rfl) (h2:Nat.beq L.length ops.length=true:=by exact rfl) (h3:JL ops fl (fun i=>L.getD i false)=true:=by kernel_rfl):WT r n Tryz.prog N D ops fl Q Aq (d+1) L env (Hp W0 bxs):=TC h1 h2 h3 h
theorem wJ {i:TI} {d:Nat} {t:TypeId} {x y:Operand} {k:IntKind} {b off len cap:Nat} {z:Int} (j:WL r n Tryz.prog N D ops Q rest ((d, .pointer (some ⟨b,off+z.toNat*i.elemSize,none⟩))::env) A) (h:(A6 ops N env o,o.dst,o.op)=(some true,some d, .indexAddr t x y):=by exact rfl) (h2:(BX Tryz.T t,i.kind,evO N env x,evO N env y)=(some i,2,some (.slice (some ⟨b,off,none⟩) len cap),some (.int k z)):=by exact rfl) (h0:0≤z:=by omega) (h1:z<len:=by omega):WL r n Tryz.prog N D ops Q (o::rest) env A:=wI h h2 h0 h1 j
theorem qJ {i:TI} {d:Nat} {t:TypeId} {x y:Operand} {k:IntKind} {b off len cap:Nat} {z:Int} (j:WQ Tryz.prog N D ops A2 R rest ((d, .pointer (some ⟨b,off+z.toNat*i.elemSize,none⟩))::env) A) (h:(A6 ops N env o,o.dst,o.op)=(some true,some d, .indexAddr t x y):=by exact rfl) (h2:(BX Tryz.T t,i.kind,evO N env x,evO N env y)=(some i,2,some (.slice (some ⟨b,off,none⟩) len cap),some (.int k z)):=by exact rfl) (h0:0≤z:=by omega) (h1:z<len:=by omega):WQ Tryz.prog N D ops A2 R (o::rest) env A:=qI h h2 h0 h1 j
theorem wC {c:Call} {f:Operand} {g d:Nat} {capt vs:List Value} {v:Value} (h:(A6 ops N env o,o.dst,o.op)=(some true,some d, .call c)) (h2:(c.callee,evO N env f,Cf (evO N env) c.args.toList)=(.value f,some (.func (.func g) #[] capt.toArray),some vs)) (hC: ∀W,Hp W0 bxs W→Ap Tryz.prog g (vs++capt).toArray W (fun _:Unit=>v) (fun _=>True) (fun _=>[])) (k:WL r n Tryz.prog N D ops Q rest ((d,v)::env) (Hp W0 bxs)) (hE:Bd Tryz.prog g=true:=by kernel_rfl):WL r n Tryz.prog N D ops Q (o::rest) env (Hp W0 bxs):=AW (congrArg (·.1) h) (congrArg (·.2.1) h) (congrArg (·.2.2) h) (congrArg (·.1) h2) (congrArg (·.2.1) h2) (congrArg (·.2.2) h2) hE hC k
theorem wU (t:Nat) (c:Bool) {l:List Oper} {b:Bool} (h:evO N env (.tmp t)=some (.bool b)) (e:b=c) (k:WL r n Tryz.prog N D ops Q l ((t, .bool c)::env) A):WL r n Tryz.prog N D ops Q l env A:=Al t (.bool c) h (congrArg Value.bool e) k
theorem wV (t:Nat) (z:Int) {l:List Oper} {y:Int} (h:evO N env (.tmp t)=some (.int .i64 y)) (e:y=z) (k:WL r n Tryz.prog N D ops Q l ((t, .int .i64 z)::env) A):WL r n Tryz.prog N D ops Q l env A:=Al t (.int .i64 z) h (congrArg (Value.int .i64) e) k
theorem wL (k:Nat) {i:TI} {d:Nat} {t:TypeId} {x:Operand} {a:Addr} {b off:Nat} {c:List Value} {v:Value} (h:(A6 ops N env o,o.dst,o.op)=(some true,some d, .load t x)) (h2:(evO N env x,BX Tryz.T t)=(some (.pointer (some a)),some i)) (hr: ∀W,A W→Ar W b off c) (hv:Dr c k i=some v) (K:WL r n Tryz.prog N D ops Q rest ((d,v)::env) A) (ha:a=⟨b,off+k,none⟩:=by exact rfl):WL r n Tryz.prog N D ops Q (o::rest) env A:=Rv (congrArg (·.1) h) (congrArg (·.2.1) h) (congrArg (·.2.2) h) (congrArg (·.1) h2) (fun W hp=>by rw[ha];exact Ar.load k Tryz.hT (congrArg (·.2) h2) (hr W hp) hv) K
theorem qC {c:Call} {f:Operand} {g d:Nat} {capt vs:List Value} {v:Value} (h:(A6 ops N env o,o.dst,o.op)=(some true,some d, .call c)) (h2:(c.callee,evO N env f,Cf (evO N env) c.args.toList)=(.value f,some (.func (.func g) #[] capt.toArray),some vs)) (hC: ∀W,Hp W0 bxs W→Ap Tryz.prog g (vs++capt).toArray W (fun _:Unit=>v) (fun _=>True) (fun _=>[])) (k:WQ Tryz.prog N D ops A2 R rest ((d,v)::env) (Hp W0 bxs)) (hE:Bd Tryz.prog g=true:=by kernel_rfl):WQ Tryz.prog N D ops A2 R (o::rest) env (Hp W0 bxs):=Pb (congrArg (·.1) h) (congrArg (·.2.1) h) (congrArg (·.2.2) h) (congrArg (·.1) h2) (congrArg (·.2.1) h2) (congrArg (·.2.2) h2) hE hC k
theorem qU (t:Nat) (c:Bool) {l:List Oper} {b:Bool} (h:evO N env (.tmp t)=some (.bool b)) (e:b=c) (k:WQ Tryz.prog N D ops A2 R l ((t, .bool c)::env) A):WQ Tryz.prog N D ops A2 R l env A:=DJ t (.bool c) h (congrArg Value.bool e) k
theorem qV (t:Nat) (z:Int) {l:List Oper} {y:Int} (h:evO N env (.tmp t)=some (.int .i64 y)) (e:y=z) (k:WQ Tryz.prog N D ops A2 R l ((t, .int .i64 z)::env) A):WQ Tryz.prog N D ops A2 R l env A:=DJ t (.int .i64 z) h (congrArg (Value.int .i64) e) k
theorem qL (k:Nat) {i:TI} {d:Nat} {t:TypeId} {x:Operand} {a:Addr} {b off:Nat} {c:List Value} {v:Value} (h:(A6 ops N env o,o.dst,o.op)=(some true,some d, .load t x)) (h2:(evO N env x,BX Tryz.T t)=(some (.pointer (some a)),some i)) (hr: ∀W,A W→Ar W b off c) (hv:Dr c k i=some v) (K:WQ Tryz.prog N D ops A2 R rest ((d,v)::env) A) (ha:a=⟨b,off+k,none⟩:=by exact rfl):WQ Tryz.prog N D ops A2 R (o::rest) env A:=RE (congrArg (·.1) h) (congrArg (·.2.1) h) (congrArg (·.2.2) h) (congrArg (·.1) h2) (fun W hp=>by rw[ha];exact Ar.load k Tryz.hT (congrArg (·.2) h2) (hr W hp) hv) K
theorem wD {c:Call} {f:Operand} {g d:Nat} {capt vs:List Value} {X:Type} {val:X→Value} {Φ:X→Prop} {nb:X→List Bx} (h:(A6 ops N env o,o.dst,o.op)=(some true,some d, .call c)) (h2:(c.callee,evO N env f,Cf (evO N env) c.args.toList)=(.value f,some (.func (.func g) #[] capt.toArray),some vs)) (hC: ∀W,Hp W0 bxs W→Ap Tryz.prog g (vs++capt).toArray W val Φ nb) (k: ∀x,Φ x→WL r n Tryz.prog N D ops Q rest ((d,val x)::env) (Hp W0 (bxs++nb x))) (hE:Bd Tryz.prog g=true:=by kernel_rfl):WL r n Tryz.prog N D ops Q (o::rest) env (Hp W0 bxs):=Rk (congrArg (·.1) h) (congrArg (·.2.1) h) (congrArg (·.2.2) h) (congrArg (·.1) h2) (congrArg (·.2.1) h2) (congrArg (·.2.2) h2) hE hC k
theorem zU {id:Nat} (hq:WQ Tryz.prog N D ops (Hp W0 bxs) (wpListIn (Fw r) n Tryz.prog ops.toArray Q (ops.drop (FD ops))) (ops.take (FD ops)) env (Hp W0 bxs)) (ho:Oa ops (FD ops)=true:=by kernel_rfl):WC r n Tryz.prog N D (.region id ops.toArray true) Q env (Hp W0 bxs):=O7 Tryz.mixed ho hq
theorem wF {d:Nat} {t:TypeId} {x:Operand} {v:Value} (h:(A6 ops N env o,o.dst,o.op)=(some true,some d, .box t x)) (h2:evO N env x=some v) (k: ∀b,WL r n Tryz.prog N D ops Q rest ((d, .pointer (some ⟨b,0,none⟩))::env) (Hp W0 (bxs++[⟨b,t,v.cells.toList,true,none⟩]))):WL r n Tryz.prog N D ops Q (o::rest) env (Hp W0 bxs):=AD (congrArg (·.1) h) (congrArg (·.2.1) h) (congrArg (·.2.2) h) h2 k
theorem wG {d:Nat} {t:TypeId} {z:Value} (h:(A6 ops N env o,o.dst,o.op)=(some true,some d, .alloc t)) (h2:I2 Tryz.Z t=some z) (k: ∀b,WL r n Tryz.prog N D ops Q rest ((d, .pointer (some ⟨b,0,none⟩))::env) (Hp W0 (bxs++[⟨b,t,z.cells.toList,true,none⟩]))):WL r n Tryz.prog N D ops Q (o::rest) env (Hp W0 bxs):=Ao Tryz.hZ (congrArg (·.1) h) (congrArg (·.2.1) h) (congrArg (·.2.2) h) h2 k
theorem wZ {fl:List Bool} {Aq:World→Prop} {d j:Nat} {L:List Bool} (h:WL r n Tryz.prog N D ops (QK D (FP r n Tryz.prog D ops fl Q Aq d (fun i=>(L.set j true).getD i false))) [o] env A):RS r n Tryz.prog N D ops fl Q Aq d L env A [(o,j)]:=RS.cons h RS.nil
theorem wR1 {fn:Func} {r1:Nat} {v1:Value} {val:Unit→Value} (hr:fn.results= #[.tmp r1]) (hh:(evO N env (.tmp r1))=(some v1)) (hv:v1=val ()):NE N [] (GU Tryz.prog fn W0 val (fun _=>True) (fun _=>[])) .ret env (Hp W0 bxs):=A8 Tryz.hT hr (.tmp hh) () hv trivial fun _ _=>A3.nil _ _
theorem wR2 {fn:Func} {r1 r2:Nat} {v1 v2:Value} {val:Unit→Value} (hr:fn.results= #[.tmp r1, .tmp r2]) (hh:(evO N env (.tmp r1),evO N env (.tmp r2))=(some v1,some v2)) (hv: .tuple #[v1,v2]=val ()):NE N [] (GU Tryz.prog fn W0 val (fun _=>True) (fun _=>[])) .ret env (Hp W0 bxs):=AR Tryz.hT hr (.tmp (congrArg (·.1) hh)) (.tmp (congrArg (·.2) hh)) () hv trivial fun _ _=>A3.nil _ _
theorem wR3 {fn:Func} {r1 r2 r3:Nat} {v1 v2 v3:Value} {val:Unit→Value} (hr:fn.results= #[.tmp r1, .tmp r2, .tmp r3]) (hh:(evO N env (.tmp r1),evO N env (.tmp r2),evO N env (.tmp r3))=(some v1,some v2,some v3)) (hv: .tuple #[v1,v2,v3]=val ()):NE N [] (GU Tryz.prog fn W0 val (fun _=>True) (fun _=>[])) .ret env (Hp W0 bxs):=UZ Tryz.hT hr (.tmp (congrArg (·.1) hh)) (.tmp (congrArg (·.2.1) hh)) (.tmp (congrArg (·.2.2) hh)) () hv trivial fun _ _=>A3.nil _ _
end
end Go.Proofs
namespace Go.Am
open Go Go.RowKit
section
variable {r:Option Nat} {n:Nat} {P:Program} {W0:World} {N:Nat} {D:List Deferred} {ops:List Oper} {Q:Exit→Act→World→Prop} {l:List Oper} {env:Env} {bxs:List Bx}
theorem Hp.newGone {W:World} (h:Hp W0 bxs W):Hp W0 (bxs++[LU]) W:=h.append (Below.refl _ _) (Own.one (fun p hp=>by cases hp) List.nodup_nil)
theorem Fj {c:Code} (h:WC r n P N D c Q env (Hp W0 (bxs++[LU]))):WC r n P N D c Q env (Hp W0 bxs):= .mk fun a W ha hd hp=>h.out a W ha hd hp.newGone
theorem L9 (h:WL r n P N D ops Q l env (Hp W0 (bxs++[LU]))):WL r n P N D ops Q l env (Hp W0 bxs):= .mk fun a W ha hd hp=>h.out a W ha hd hp.newGone
theorem BJ {o:Oper} {rest:List Oper} (k j:Nat) {d:Nat} {t e:TypeId} {size bytes:Nat} {z:Value} (hty:VecTy P t e size bytes z) {c:Call} {s x:Operand} {V:Vec} {m cp len:Nat} {xs:List Value} {B:Bx} (n':Nat) (ys:List Value)
  (hg:A6 ops N env o=some true) (hd:o.dst=some d) (ho:o.op= .call c) (hc:c.callee= .builtin .append) (ha:c.args= #[s,x]) (hat:c.argTypes= #[t,t])
  (hj:nth bxs j=some B) (hon:B.row=true) (hx:evO N env x=some (.slice (some ⟨B.b,0,none⟩) m cp))
  (hs:evO N env s=some (V.val len)) (hk:nth bxs k=some (V.bx e xs)) (hV:V.OK size len xs)
  (hl:B.cells.length=m*size) (h1:CI B.cells=true) (hn:len+m=n') (hys:xs++B.cells=ys) (h63:n'≤maxLen) (hbytes:n'*bytes≤140737488355328)
  (hm:Nat.beq m 0=false)
  (h: ∀(g cap:Nat) (junk:List Value),(⟨some g,cap,junk⟩:Vec).OK size n' ys→WL r n P N D ops Q rest ((d, .slice (some ⟨g,0,none⟩) n' cap)::env) (Hp W0 (bxs.set k ⟨g,e,ys++junk,true,none⟩))):WL r n P N D ops Q (o::rest) env (Hp W0 bxs):=by
 subst hn
 subst hys
 refine NT k j hty hg hd ho hc ha hat hj hon hx hs hk hV hl h1 h63 hbytes fun V' hV' hp=> ?_
 obtain⟨p,cap,junk⟩:=V'
 cases p with
 |none=>rw[hp rfl] at hm;cases hm
 |some g=>exact h g cap junk hV'
theorem Ad {o:Oper} {rest:List Oper} (k:Nat) (ys:List Value) {T:Tbl} {i:TI} {t:TypeId} {x y:Operand} {B:Bx} {off:Nat} {v:Value} (hT:okB P T=true) (hg:A6 ops N env o=some true) (hd:o.dst=none) (ho:o.op= .store t x y) (ht:BX T t=some i)
  (hk:nth bxs k=some B) (hx:evO N env x=some (.pointer (some ⟨B.b,off,none⟩))) (hon:B.row=true) (hy:evO N env y=some v)
  (hs:Nat.beq v.cells.toList.length i.size=true) (h1:CI v.cells.toList=true) (hl:off+i.size≤B.cells.length) (hys:B0 B.cells off v.cells.toList=ys)
  (h:WL r n P N D ops Q rest env (Hp W0 (bxs.set k { B with cells:=ys }))):WL r n P N D ops Q (o::rest) env (Hp W0 bxs):= .mk fun a W ha hd' hp=>by
 rw[Bv] at hk
 subst hys
 refine BH hg ha (fun c e=>by rw[ho] at e;cases e) ?_
 have h3:=(hp.at_ _ _ hk (Bx.row_on hon).1).1
 rw[(Bx.row_on hon).2] at h3
 obtain⟨W',hr,hu⟩:=E4 (P:=P) (Bw hT ht) h3 (Nat.eq_of_beq_eq_true hs) hl h1
 have:(execOp (ov env a).eval o).run P W= .ok .skip W':=by
  simp[execOp,ho,Instr.storeAt,Instr.sureAddr,AL ha _ _ hx,AL ha _ _ hy,hr]
 rw[this]
 simp only[Oper.uponIn,hd]
 exact h.out a W' ha hd' (hp.upd hk hon hu)
theorem Ef {o:Oper} {rest:List Oper} {T:Tbl} {i:TI} {d:Nat} {t:TypeId} (hT:okB P T=true) (hg:A6 ops N env o=some true) (hd:o.dst=some d) (ho:o.op= .buildSlice t 0 #[]) (ht:BX T t=some i) (hk:i.kind=2)
  (h: ∀b,WL r n P N D ops Q rest ((d, .slice (some ⟨b,0,none⟩) 0 0)::env) (Hp W0 (bxs++[⟨b,i.elem,[],true,none⟩]))):WL r n P N D ops Q (o::rest) env (Hp W0 bxs):= .mk fun a W ha hd' hp=>by
 refine BH hg ha (fun c e=>by rw[ho] at e;cases e) ?_
 obtain⟨hu,hs⟩:=DV (Bw hT ht) hk
 have e0:Array.map (fun _:Nat=>(default:Value)) (Array.range 0)= #[]:=by apply Array.toList_inj.1;simp
 have:(execOp (ov env a).eval o).run P W= .ok (.value (.slice (some ⟨W.heap.size,0,none⟩) 0 0)) (W.alloc (.cells #[] i.elem)):=by
  simp only[execOp,ho,Instr.buildSlice,Sem.run_bind,run_underlying hu,Result.andThen_ok,Dz hs]
  rw[if_neg (by omega),if_pos (by omega)]
  simp only[Sem.run_pure]
  simp[Instr.fill,newRow,e0]
 rw[this]
 simp only[Oper.uponIn,hd]
 exact(h W.heap.size).out a _ ha hd' (hp.alloc i.elem [])
theorem TD {o:Oper} {rest:List Oper} {A:World→Prop} {T:Tbl} {i:TI} {d:Nat} {t u:TypeId} {x y:Operand} {a:Option Addr} {len cap:Nat} (hT:okB P T=true) (hg:A6 ops N env o=some true) (hd:o.dst=some d) (ho:o.op= .binOp .eql t x y u) (ht:BX T t=some i) (hk:i.kind=2)
  (hx:evO N env x=some (.slice a len cap)) (hy:evO N env y=some (.slice none 0 0)) (h:WL r n P N D ops Q rest ((d, .bool a.isNone)::env) A):WL r n P N D ops Q (o::rest) env A:=
 CA hg hd (fun c e=>by rw[ho] at e;cases e) (fun ρ W hρ _=>by
  obtain⟨hu,_⟩:=DV (Bw hT ht) hk
  have he:=run_equal_slice_nil (P:=P) W t i.elem a len cap hu
  have hg:(eqGuard .eql t x y (.slice a len cap) (.slice none 0 0)).run P W= .ok () W:=by simp[eqGuard]
  have hb:(binOp .eql t (.slice a len cap) (.slice none 0 0)).run P W= .ok (.bool a.isNone) W:=by
   simp only[binOp]
   simp only[Sem.run_bind,he,Result.andThen_ok,Sem.run_pure]
  simp only[execOp,ho,hρ _ _ hx,hρ _ _ hy,Sem.run_bind,hg,hb,Result.andThen_ok,Sem.run_pure]) h
def Ax (l:List (Nat×Obj)):Bx:=⟨0,0,[],true,some (.grp l)⟩
theorem Hp.newGrp {W:World} (h:Hp W0 bxs W):Hp W0 (bxs++[Ax []]) W:=h.append (Below.refl _ _) (Own.one (fun p hp=>by cases hp) List.nodup_nil)
theorem Dk (a b:List Value) (o:Nat) (v:List Value):B0 (a++b) (a.length+o) v=a++B0 b o v:=by
 simp only[B0,List.take_append,List.drop_append]
 rw[List.take_of_length_le (show a.length≤a.length+o by omega),List.drop_eq_nil_of_le (show a.length≤a.length+o+v.length by omega)]
 rw[show a.length+o-a.length=o by omega,show a.length+o+v.length-a.length=o+v.length by omega]
 simp[List.append_assoc]
end
end Go.Am
namespace Go.Am
open Go Go.RowKit
structure EE (W W':World) (g g':Nat) (o':Obj):Prop where
 os:W'.os=W.os
 tape:W'.tape=W.tape
 output:W'.output=W.output
 size:W.heap.size≤W'.heap.size
 new:W'.heap[g']? =some o'
 at_:g'=g∨W.heap.size≤g'
 old: ∀x,x≠g→x<W.heap.size→W'.heap[x]? =W.heap[x]?
theorem Upd.near {W W':World} {b:Nat} {o:Obj} (h:Upd W W' b o) (hlt:b<W.heap.size):EE W W' b b o:=by
 refine⟨h.os,h.tape,h.output,by rw[h.heap,Array.size_setIfInBounds];exact Nat.le_refl _, ?_, .inl rfl,fun x hx _=> ?_⟩
 ·rw[h.heap,Array.getElem?_setIfInBounds,if_pos rfl,if_pos hlt]
 ·rw[h.heap,Array.getElem?_setIfInBounds,if_neg (fun e=>hx e.symm)]
theorem Mw {α:Type} {A C:List α} {b:α}:(A++b::C).Nodup↔(b∉A∧b∉C)∧(A++C).Nodup:=by
 simp only[List.nodup_append,List.nodup_cons]
 constructor
 ·rintro⟨h1,⟨h2,h3⟩,h4⟩
  exact⟨⟨fun h=>h4 b h b (List.mem_cons_self ..) rfl,h2⟩,h1,h3,fun x hx y hy=>h4 x hx y (List.mem_cons_of_mem _ hy)⟩
 ·rintro⟨⟨h1,h2⟩,h3,h4,h5⟩
  refine⟨h3,⟨h2,h4⟩,fun x hx y hy=> ?_⟩
  rcases List.mem_cons.1 hy with rfl|hy
  ·exact fun e=>h1 (e▸hx)
  ·exact h5 x hx y hy
theorem Hp.near {W0 W W':World} {bxs:List Bx} (h:Hp W0 bxs W) {k:Nat} {B B':Bx} {L1 L2:List (Nat×Obj)} {b g':Nat} {ob o':Obj} (hk:bxs[k]? =some B) (hB:B.blk=L1++(b,ob)::L2) (hB':B'.blk=L1++(g',o')::L2) (hN:EE W W' b g' o'):Hp W0 (bxs.set k B') W':=by
 have hnd:=h.own.nd k B hk
 rw[hB,List.map_append,List.map_cons,Mw] at hnd
 obtain⟨⟨n1,n2⟩,n3⟩:=hnd
 have inB: ∀p,p∈L1∨p∈L2→p∈B.blk:=fun p hp=>by
  rw[hB]
  rcases hp with hp|hp
  ·exact List.mem_append_left _ hp
  ·exact List.mem_append_right _ (List.mem_cons_of_mem _ hp)
 have hb:(b,ob)∈B.blk:=by rw[hB];exact List.mem_append_right _ (List.mem_cons_self ..)
 have ne: ∀p,p∈L1∨p∈L2→p.1≠b:=fun p hp e=>by
  rcases hp with hp|hp
  ·exact n1 (List.mem_map.2 ⟨p,hp,e⟩)
  ·exact n2 (List.mem_map.2 ⟨p,hp,e⟩)
 have cases3: ∀p,p∈B'.blk→(p∈L1∨p∈L2)∨p=(g',o'):=fun p hp=>by
  rw[hB'] at hp
  rcases List.mem_append.1 hp with hp|hp
  ·exact .inl (.inl hp)
  ·rcases List.mem_cons.1 hp with hp|hp
   ·exact .inr hp
   ·exact .inl (.inr hp)
 refine h.turn hk (fun p hp=> ?_) ?_ hN.os hN.tape hN.output hN.size (fun p hp=> ?_) (fun x hx hlt=>hN.old x (fun e=>hx _ hb e.symm) hlt)
 ·rcases cases3 p hp with hp|rfl
  ·exact .inl ⟨p,inB p hp,rfl⟩
  ·rcases hN.at_ with e|e
   ·exact .inl ⟨_,hb,e.symm⟩
   ·exact .inr e
 ·rw[hB',List.map_append,List.map_cons,Mw]
  refine⟨?_,n3⟩
  rcases hN.at_ with e|e
  ·rw[show(g',o').1=b from e];exact⟨n1,n2⟩
  ·constructor<;>intro hm<;>obtain⟨p,hp,e2⟩:=List.mem_map.1 hm
   ·have:=h.own.lt hk (inB p (.inl hp));have e3:p.1=g':=e2;omega
   ·have:=h.own.lt hk (inB p (.inr hp));have e3:p.1=g':=e2;omega
 ·rcases cases3 p hp with hp|rfl
  ·rw[hN.old p.1 (ne p hp) (h.own.lt hk (inB p hp))]
   exact(h.own.cell k B hk p (inB p hp)).1
  ·exact hN.new
def AE (W:World):World:= { W with heap:= #[] }
def Ai (W:World) (g:Nat):List (Nat×Obj):=(List.range W.heap.size).filterMap fun i=>if i=g then none else(W.heap[i]?).map fun o=>(i,o)
theorem CW {W:World} {g:Nat} {p:Nat×Obj}:p∈Ai W g↔p.1≠g∧W.heap[p.1]? =some p.2:=by
 unfold Ai
 rw[List.mem_filterMap]
 constructor
 ·rintro⟨i,hi,h⟩
  split at h
  ·cases h
  ·rename_i hne
   cases ho:W.heap[i]? with
   |none=>rw[ho] at h;cases h
   |some o=>rw[ho] at h;cases h;exact⟨hne,ho⟩
 ·rintro⟨h1,h2⟩
  refine⟨p.1,List.mem_range.2 (Array.getElem?_eq_some_iff.1 h2).1, ?_⟩
  rw[if_neg h1,h2];rfl
theorem MU (W:World) (g:Nat):((Ai W g).map (·.1)).Nodup:=by
 unfold List.Nodup
 rw[List.pairwise_map]
 refine List.Pairwise.filterMap (R:=(· ≠ ·)) _ (fun a a' hne p hp q hq=> ?_) List.nodup_range
 have one: ∀(i:Nat) (p:Nat×Obj),(if i=g then none else(W.heap[i]?).map fun o=>(i,o))=some p→p.1=i:=fun i p h=>by
  split at h
  ·cases h
  ·cases ho:W.heap[i]? with
   |none=>rw[ho] at h;cases h
   |some o=>rw[ho] at h;cases h;rfl
 rw[one a p hp,one a' q hq];exact hne
theorem Hp.enterT {W:World} {g:Nat} {B:Bx} {o:Obj} (hB:B.blk=[(g,o)]) (ho:W.heap[g]? =some o):Hp (AE W) [Ax (Ai W g),B] W:=by
 have two: ∀ {k:Nat} {C:Bx},[Ax (Ai W g),B][k]? =some C→(k=0∧C=Ax (Ai W g))∨(k=1∧C=B):=fun {k C} h=>by
  cases k with
  |zero=>simp at h;exact .inl ⟨rfl,h.symm⟩
  |succ k=>cases k with
   |zero=>simp at h;exact .inr ⟨rfl,h.symm⟩
   |succ k=>simp at h
 refine⟨⟨rfl,rfl,rfl,Nat.zero_le _,fun k hk=>absurd hk (Nat.not_lt_zero _)⟩,fun k C hk p hp=> ?_,fun k C hk=> ?_,fun i j C E hi hj hne p hp q hq=> ?_⟩
 ·rcases two hk with⟨_,rfl⟩|⟨_,rfl⟩
  ·exact⟨(CW.1 (show p∈Ai W g from hp)).2,Nat.zero_le _⟩
  ·rw[hB] at hp;obtain rfl:=List.mem_singleton.1 hp;exact⟨ho,Nat.zero_le _⟩
 ·rcases two hk with⟨_,rfl⟩|⟨_,rfl⟩
  ·exact MU W g
  ·rw[hB];exact List.nodup_cons.2 ⟨List.not_mem_nil,List.nodup_nil⟩
 ·rcases two hi with⟨rfl,rfl⟩|⟨rfl,rfl⟩<;>rcases two hj with⟨rfl,rfl⟩|⟨rfl,rfl⟩
  ·exact absurd rfl hne
  ·rw[hB] at hq;obtain rfl:=List.mem_singleton.1 hq
   exact(CW.1 (show p∈Ai W g from hp)).1
  ·rw[hB] at hp;obtain rfl:=List.mem_singleton.1 hp
   exact fun e=>(CW.1 (show q∈Ai W g from hq)).1 e.symm
  ·exact absurd rfl hne
theorem BL {W W':World} {g g':Nat} {o o':Obj} {B':Bx} (hg:W.heap[g]? =some o) (hB':B'.blk=[(g',o')]) (hb:Below (AE W).heap.size (AE W) W') (hn:A3 (AE W) W' [Ax (Ai W g),B']):EE W W' g g' o':=by
 have c0: ∀p∈Ai W g,W'.heap[p.1]? =some p.2:=fun p hp=>(hn.cell 0 _ rfl p hp).1
 have c1:W'.heap[g']? =some o':=(hn.cell 1 B' rfl (g',o') (by rw[hB'];exact List.mem_cons_self ..)).1
 have old: ∀x,x≠g→x<W.heap.size→W'.heap[x]? =W.heap[x]? :=fun x hx hlt=>by
  have h1:W.heap[x]? =some W.heap[x]:=Array.getElem?_eq_getElem hlt
  rw[h1]
  exact c0 (x,W.heap[x]) (CW.2 ⟨hx,h1⟩)
 have at_:g'=g∨W.heap.size≤g':=by
  by_cases e:g'=g
  ·exact .inl e
  ·refine .inr (Nat.le_of_not_lt fun hlt=> ?_)
   have h1:W.heap[g']? =some W.heap[g']:=Array.getElem?_eq_getElem hlt
   exact hn.apart 0 1 _ B' rfl rfl (by decide) (g',W.heap[g']) (CW.2 ⟨e,h1⟩) (g',o') (by rw[hB'];exact List.mem_cons_self ..) rfl
 have hlt:=(Array.getElem?_eq_some_iff.1 hg).1
 have hlt':=(Array.getElem?_eq_some_iff.1 c1).1
 refine⟨hb.os,hb.tape,hb.output, ?_,c1,at_,old⟩
 by_cases e:W.heap.size-1=g
 ·rcases at_ with h|h<;>omega
 ·have h1:=old (W.heap.size-1) e (by omega)
  rw[Array.getElem?_eq_getElem (show W.heap.size-1<W.heap.size by omega)] at h1
  have:=(Array.getElem?_eq_some_iff.1 h1).1
  omega
section
variable {r:Option Nat} {n:Nat} {P:Program} {W0:World} {N:Nat} {D:List Deferred} {ops:List Oper} {Q:Exit→Act→World→Prop} {o:Oper} {rest:List Oper} {env:Env} {bxs:List Bx}
theorem Ba {f:Nat} {fn:Func} {c:Code} {args:List Value} {X:Type} {val:X→Value} {Φ:X→Prop} {nb:X→List Bx} {W:World} (h0:Hp W0 bxs W)
  (hf:P.funcs[f]? =some fn) (hb:fn.body=some c) (hN:fn.ntmps=N) (hl:Nat.ble args.length N=true)
  (h:WC none 0 P N [] c (GU P fn W0 val Φ nb) (Jl 0 args) (Hp W0 bxs)):Calls P f args.toArray W fun e W'=> ∃x,e= .returned (val x)∧Φ x∧Below W0.heap.size W0 W'∧A3 W0 W' (nb x):=by
 have hl:args.length≤N:=Nat.le_of_ble_eq_true hl
 have h1:=h.out { tmps:=args.toArray++Array.replicate (fn.ntmps-args.toArray.size) undef,defers:=[] } W (by simp[hN];omega) rfl h0
 rw[EF] at h1
 ·refine callsIn_wide (n:=0)|>.1 (callsIn_of_wp_marks hf hb trivial (wpIn_mono (Q:=GU P fn W0 val Φ nb) h1 ?_))
  intro e a w h
  exact h.out
 ·intro p hp _
  obtain⟨_,h2⟩:=Gn args 0 p hp
  rw[Nat.sub_zero] at h2
  have hlt:=(List.getElem?_eq_some_iff.1 h2).1
  rw[Array.getElem?_append_left (by simpa using hlt)]
  simpa using h2
theorem Ku {fn:Func} {T:Tbl} {X:Type} {val:X→Value} {Φ:X→Prop} {nb:X→List Bx} (hT:okB P T=true) (hr:fn.results= #[])
  (x:X) (hv: .tuple #[]=val x) (hx:Φ x) (hnb: ∀W,Hp W0 bxs W→A3 W0 W (nb x)):NE N [] (GU P fn W0 val Φ nb) .ret env (Hp W0 bxs):=
 LI (rvs:=[]) (vs:=[]) hT hr rfl (fun i h _=>absurd h (Nat.not_lt_zero _)) x (by simpa using hv) hx hnb
theorem Hy {fn:Func} {T:Tbl} {X:Type} {val:X→Value} {Φ:X→Prop} {nb:X→List Bx} (hT:okB P T=true) (hr:fn.results= #[])
  (x:X) (hv: .tuple #[]=val x) (hx:Φ x) (hnb: ∀W,Hp W0 bxs W→A3 W0 W (nb x)):NE N [] (GU P fn W0 val Φ nb) .normal env (Hp W0 bxs):= .mk fun a W ha hd hp=>by
 refine .mk ?_
 show LeavesInM (Fw none) 0 P fn (ov env a).tmps _ (ov env a).defers .returning W
 rw[B9,hd]
 exact⟨_,J9 (rvs:=[]) (vs:=[]) hT hr rfl (fun i h _=>absurd h (Nat.not_lt_zero _)) ha hp,x,by rw[←hv];rfl,hx,hp.below,hnb W hp⟩
theorem Bn (k:Nat) {c:Call} {f:Operand} {g d:Nat} {capt vs:List Value} {X:Type} {val:X→Value} {Φ:X→Prop} {B:Bx} {L1 L2:List (Nat×Obj)} {b:Nat} {ob:Obj} (B':X→Bx) {g':X→Nat} {o':X→Obj}
  (hg:A6 ops N env o=some true) (hd:o.dst=some d) (ho:o.op= .call c) (hc:c.callee= .value f) (hf:evO N env f=some (.func (.func g) #[] capt.toArray)) (ha:Cf (evO N env) c.args.toList=some vs) (hE:Bd P g=true)
  (hk:nth bxs k=some B) (hB:B.blk=L1++(b,ob)::L2) (hB': ∀x,Φ x→(B' x).blk=L1++(g' x,o' x)::L2)
  (hC: ∀W,Hp W0 bxs W→Calls P g (vs++capt).toArray W fun e W'=> ∃x,e= .returned (val x)∧Φ x∧EE W W' b (g' x) (o' x))
  (h: ∀x,Φ x→WL r n P N D ops Q rest ((d,val x)::env) (Hp W0 (bxs.set k (B' x)))):WL r n P N D ops Q (o::rest) env (Hp W0 bxs):= .mk fun a W h1 h2 hp=>by
 rw[Bv] at hk
 refine BH hg h1 (fun c e=>by rw[ho] at e;cases e) ?_
 rw[IT ho hc (AL h1 _ _ hf) (E2 (AL h1) ha) hE]
 simp only[Oper.uponIn,hd]
 refine⟨fun hx=>(by cases hx),EX ((hC W hp).mono ?_)⟩
 rintro e W' ⟨x,rfl,hx,hN⟩
 exact(h x hx).out a W' h1 h2 (hp.near hk hB (hB' x hx) hN)
theorem F9 {d:Nat} {t u:TypeId} {x:Operand} {k k' kt:IntKind} {z:Int} {A:World→Prop} (ht:P.underlying t=some (.int kt)) (hu:P.underlying u=some (.int k)) (hg:A6 ops N env o=some true) (hd:o.dst=some d) (ho:o.op= .convert t u x) (hx:evO N env x=some (.int k' z))
  (h:WL r n P N D ops Q rest ((d, .int k (k.wrap z))::env) A):WL r n P N D ops Q (o::rest) env A:=
 CA hg hd (fun c e=>by rw[ho] at e;cases e) (fun ρ W hρ _=>by
  simp[execOp,ho,convert,hρ _ _ hx,run_underlying ht,run_underlying hu,Conv.intToInt]) h
theorem QA (A B C X:List Value) (h:B.length=X.length):B0 (A++(B++C)) A.length X=A++(X++C):=by
 have h1:=Dk A (B++C) 0 X
 rw[Nat.add_zero] at h1
 rw[h1]
 simp[B0, ←h]
end
end Go.Am
namespace Go.Am
open Go Go.RowKit
section
variable {r:Option Nat} {n:Nat} {P:Program} {N:Nat} {D:List Deferred} {ops:List Oper} {Q:Exit→Act→World→Prop} {o:Oper} {rest:List Oper} {env:Env} {A A2:World→Prop} {R:Act→World→Prop}
end
end Go.Am
namespace Go.Am
open Go Go.RowKit
structure Og (P:Program) (gf:Nat) (lb:List Value) (m:Nat) (enc:Nat→List Value) (Need:Nat→World→Prop):Prop where
 out: ∀(l:Nat) (J:Nat→List (Nat×Obj)→World→Prop) (Jx:World→Prop),
  (∀k L W,J k L W→Need k W∧ ∀p∈L,W.heap[p.1]? =some p.2)→(∀k L W W',J k L W→Below W.heap.size W W'→J k L W')→
  (∀k L W W' b o,J k L W→Below W.heap.size W W'→W.heap.size≤b→W'.heap[b]? =some o→J k [(b,o)] W')→
  (∀k b o o' W W',J k [(b,o)] W→Upd W W' b o'→J k [(b,o')] W')→
  (∀k L W,k<m→J k L W→YieldAt (Fw none) 0 P l (enc k).toArray W fun e W'=>(e= .returned (.bool true)∧J (k+1) L W')∨(e= .returned (.bool false)∧Jx W'))→
  ∀W,J 0 [] W→CallsIn (Fw none) 0 P gf (.func (.yield l) #[] #[]::lb).toArray W fun e W'=>(∃v,e= .returned v)∧((∃L,J m L W')∨Jx W')
theorem Ky {P:Program} {l:Nat} {R R':Ending→World→Prop} (h: ∀e W,R e W→R' e W): ∀ {e:Exit} {a:Act} {W:World},roundPost P l R e a W→roundPost P l R' e a W
 | .normal,_,_,⟨v,w',h1,h2⟩=>⟨v,w',h1,h _ _ h2⟩
 | .ret,_,_,⟨v,w',h1,h2⟩=>⟨v,w',h1,h _ _ h2⟩
 | .exit _,_,_,⟨v,w',h1,h2⟩=>⟨v,w',h1,h _ _ h2⟩
 | .goto _,_,_,⟨v,w',h1,h2⟩=>⟨v,w',h1,h _ _ h2⟩
theorem Hp.tail {W0 W:World} {b:Bx} {bs:List Bx} (h:Hp W0 (b::bs) W):Hp W0 bs W:=
 ⟨h.below,h.own.sub (fun k=>k+1) (fun k B hk _=>by rw[List.getElem?_cons_succ];exact hk) (fun _ _ _ _ _ _ h=>by omega)⟩
theorem Hp.rot {W0 W:World} {b:Bx} {bs:List Bx} (h:Hp W0 (bs++[b]) W):Hp W0 (b::bs) W:=by
 refine⟨h.below,h.own.sub (fun k=>if k=0 then bs.length else k-1) (fun k B hk _=> ?_) (fun i j B C hi hj e=> ?_)⟩
 ·cases k with
  |zero=>rw[if_pos rfl,List.getElem?_append_right (Nat.le_refl _),Nat.sub_self];simpa using hk
  |succ k=>
   rw[List.getElem?_cons_succ] at hk
   rw[if_neg (by omega),Nat.add_sub_cancel,List.getElem?_append_left (List.getElem?_eq_some_iff.1 hk).1];exact hk
 ·have lt: ∀ {k:Nat} {B:Bx},(b::bs)[k]? =some B→k≠0→k-1<bs.length:=fun {k B} h h0=>by
   have:=(List.getElem?_eq_some_iff.1 h).1
   simp at this;omega
  by_cases h1:i=0<;>by_cases h2:j=0
  ·omega
  ·have:=lt hj h2
   rw[if_pos h1,if_neg h2] at e;omega
  ·have:=lt hi h1
   rw[if_neg h1,if_pos h2] at e;omega
  ·rw[if_neg h1,if_neg h2] at e;omega
theorem Hp.nilGrp {W0 W:World} {bs:List Bx} (h:Hp W0 bs W):Hp W0 (Ax []::bs) W:=h.newGrp.rot
section
variable {r:Option Nat} {n:Nat} {P:Program} {W0:World} {N:Nat} {D:List Deferred} {ops:List Oper} {Q:Exit→Act→World→Prop} {o:Oper} {rest:List Oper} {env:Env} {A:World→Prop} {bxs:List Bx}
theorem Mn {d:Nat} {t:TypeId} {z:Value} (A2:Nat→World→Prop) (hg:A6 ops N env o=some true) (hd:o.dst=some d) (ho:o.op= .alloc t) (hz: ∀W,(zeroValue t).run P W= .ok z W)
  (hA: ∀W W' b,A W→Below W.heap.size W W'→W.heap.size≤b→W'.heap[b]? =some (.cells z.cells t (0,0))→A2 b W')
  (h: ∀b,WL r n P N D ops Q rest ((d, .pointer (some ⟨b,0,none⟩))::env) (A2 b)):WL r n P N D ops Q (o::rest) env A:= .mk fun a W ha hd' hp=>by
 refine BH hg ha (fun c e=>by rw[ho] at e;cases e) ?_
 have:(execOp (ov env a).eval o).run P W= .ok (.value (.pointer (some ⟨W.heap.size,0,none⟩))) (W.alloc (.cells z.cells t)):=by
  simp[execOp,ho,Instr.alloc,hz,newVar,newRow]
 rw[this]
 simp only[Oper.uponIn,hd]
 exact(h W.heap.size).out a _ ha hd' (hA W _ _ hp ((Below.refl _ W).alloc (Nat.le_refl _) _) (Nat.le_refl _) (World.alloc_heap_new W _))
theorem Mk {T:Tbl} {i:TI} {t:TypeId} {x y:Operand} {b:Nat} {ty:TypeId} {cs:List Value} {v:Value} (A2:World→Prop) (hT:okB P T=true) (hg:A6 ops N env o=some true) (hd:o.dst=none) (ho:o.op= .store t x y) (ht:BX T t=some i)
  (hx:evO N env x=some (.pointer (some ⟨b,0,none⟩))) (hy:evO N env y=some v) (hb: ∀W,A W→W.heap[b]? =some (.cells cs.toArray ty (0,0)))
  (hs:Nat.beq v.cells.toList.length i.size=true) (hl:Nat.beq cs.length i.size=true) (h1:CI v.cells.toList=true)
  (hA: ∀W W',A W→Upd W W' b (.cells v.cells ty (0,0))→A2 W')
  (h:WL r n P N D ops Q rest env A2):WL r n P N D ops Q (o::rest) env A:= .mk fun a W ha hd' hp=>by
 refine BH hg ha (fun c e=>by rw[ho] at e;cases e) ?_
 have el:=Nat.eq_of_beq_eq_true hl
 have es:=Nat.eq_of_beq_eq_true hs
 obtain⟨W',hr,hu⟩:=E4 (P:=P) (Bw hT ht) (o:=0) (hb W hp) es (by omega) h1
 have:(execOp (ov env a).eval o).run P W= .ok .skip W':=by
  simp[execOp,ho,Instr.storeAt,Instr.sureAddr,AL ha _ _ hx,AL ha _ _ hy,hr]
 rw[this]
 simp only[Oper.uponIn,hd]
 refine h.out a W' ha hd' (hA W W' hp ?_)
 have e:B0 cs 0 v.cells.toList=v.cells.toList:=by
  unfold B0
  simp[es,el]
 rw[e] at hu
 simpa using hu
end
section
variable {P:Program} {W0:World} {N:Nat} {D:List Deferred} {env:Env} {bxs:List Bx} {Q:Exit→Act→World→Prop}
variable {X:Type}
theorem EJ {f:Operand} {ps:Array Nat} {assign body:Code} {gf m:Nat} {lb:List Value} {enc:Nat→List Value} {Need:Nat→World→Prop} (B:X→List Bx) (Φ:Nat→X→Prop) (Ψ:Code→X→Prop) (x0:X)
  (hf:evO N env f=some (.func (.func gf) #[] lb.toArray)) (hE:Bd P gf=true) (hI:Og P gf lb m enc Need) (hps: ∀k,(enc k).length=ps.size)
  (h0:Φ 0 x0) (nb:List Bx) (hB:bxs=B x0++nb) (hN: ∀k x W,Φ k x→Hp W0 (B x) W→Need k W)
  (hbody: ∀(k:Nat) (x:X) (d l:Nat) (rec:LoopState→Option Code→Loop) (L:List (Nat×Obj)),k<m→Φ k x→GB rec→
   WC (some l) 0 P N [] assign (TE P W0 (fun x=>Ax L::B x) Φ Ψ d l rec k body) (Dx ps.toList (enc k) env) (Hp W0 (Ax L::B x++[B8 d,Bj l rec .ready none])))
  (hdone: ∀(x:X) (d l:Nat) (rec:LoopState→Option Code→Loop),Φ m x→NE N (Fl d::D) Q .normal env (Hp W0 (B x++[B8 d,Bj l rec .exhausted none])))
  (hjump: ∀(x:X) (d l:Nat) (rec:LoopState→Option Code→Loop) (c:Code),Ψ c x→WC none 0 P N (Fl d::D) c Q env (Hp W0 (B x++[B8 d,Bj l rec .exhausted (some c)]))):
  WC none 0 P N D (.rangeFunc f ps assign body) Q env (Hp W0 bxs):= .mk fun a W ha hd hp=>by
 refine wpIn_rangeFunc ?_
 intro fn _
 obtain⟨rec,hr⟩: ∃rec:LoopState→Option Code→Loop,rec=fun s j=> { state:=s,pending:=j,fn,tmps:=(ov env a).tmps,params:=ps,assign,body,defers:=W.heap.size }:=⟨_,rfl⟩
 have hrec:GB rec:=by subst hr;exact⟨fun _ _=>rfl,fun _ _=>rfl,fun _ _ _ _=>rfl⟩
 obtain⟨W1,hW1⟩: ∃W1,(W.alloc (.deferred (some []))).alloc (.loop (rec .ready none))=W1:=⟨_,rfl⟩
 have hpB:Hp W0 (B x0) W:=by rw[hB] at hp;exact hp.take
 have hp1:Hp W0 (B x0++[B8 W.heap.size,Bj (W.heap.size+1) rec .ready none]) W1:=by
  have hb:Below W.heap.size W W1:=by rw[←hW1];exact((Below.refl _ W).alloc (Nat.le_refl _) _).alloc (by simp) _
  refine hpB.append hb (A3.two ⟨?_,Nat.le_refl _⟩ ⟨?_,Nat.le_succ _⟩ (Nat.ne_of_lt (Nat.lt_succ_self _)))
  ·show W1.heap[W.heap.size]? =some (.deferred (some []))
   rw[←hW1]
   exact(Below.heap_alloc _ _ _ (by simp)).trans (World.alloc_heap_new W _)
  ·show W1.heap[W.heap.size+1]? =some (.loop (rec .ready none))
   rw[←hW1]
   have:=World.alloc_heap_new (W.alloc (.deferred (some []))) (.loop (rec .ready none))
   rwa [World.size_alloc] at this
 refine⟨W.heap.size+1,[Fl W.heap.size],W1, { target:= .fn (.func gf) lb.toArray,args:= #[.func (.yield (W.heap.size+1)) #[] #[]] },W1,gf,
  (.func (.yield (W.heap.size+1)) #[] #[]::lb).toArray,W1, ?_, ?_,fun _ _=>trivial, ?_,fun h=>(by cases h), ?_⟩
 ·rw[←hW1,hr];exact run_enterLoop_outer _ _ _ _ _
 ·have hc: ∀v,(ov env a).eval (.const v)=v:=fun _=>rfl
  simp only[resolve]
  rw[AL ha _ _ hf]
  simp[Deferred.ofValue,hc]
 ·simp only[invoke,Fz hE]
  simp
 ·have split: ∀ {L:List (Nat×Obj)} {x:X} {W2:World},Hp W0 ((fun x=>Ax L::B x) x++[B8 W.heap.size,Bj (W.heap.size+1) rec .ready none]) W2→Hp W0 (B x++[B8 W.heap.size,Bj (W.heap.size+1) rec .ready none]) W2:=fun h=>h.tail
  refine(hI.out (W.heap.size+1) (fun k L=>JR W0 (fun x=>Ax L::B x) Φ W.heap.size (W.heap.size+1) rec k) (fun W'=> ∃L,JX W0 (fun x=>Ax L::B x) Ψ W.heap.size (W.heap.size+1) rec W')
   (fun k L W ⟨x,hx,hp⟩=>⟨hN k x W hx (split hp).take,fun p hp'=>(hp.own.cell 0 (Ax L) rfl p hp').1⟩) (fun k L W W2 ⟨x,hx,hp⟩ hb=>⟨x,hx,hp.grow hb⟩) ?_ ?_ ?_ W1 ⟨x0,h0,hp1.nilGrp⟩).mono ?_
  ·rintro k L W2 W3 b o ⟨x,hx,hp2⟩ hb hlt ho
   refine⟨x,hx,((split hp2).append hb (nb:=[Ax [(b,o)]]) (Own.one (fun p hp=> ?_) ?_)).rot⟩
   ·obtain rfl:=List.mem_singleton.1 (show p∈[(b,o)] from hp)
    exact⟨ho,hlt⟩
   ·exact List.nodup_cons.2 ⟨List.not_mem_nil,List.nodup_nil⟩
  ·rintro k b o o' W2 W3 ⟨x,hx,hp2⟩ hu
   have hc:=hp2.own.cell 0 (Ax [(b,o)]) rfl (b,o) (List.mem_cons_self ..)
   exact⟨x,hx,hp2.near (k:=0) (B:=Ax [(b,o)]) (B':=Ax [(b,o')]) (L1:=[]) (L2:=[]) rfl rfl rfl (hu.near (Array.getElem?_eq_some_iff.1 hc.1).1)⟩
  ·rintro k L W2 hk ⟨x,hx,hp2⟩
   have hL:=((split hp2).at_ ((B x).length+1) (Bj (W.heap.size+1) rec .ready none) (by rw[List.getElem?_append_right (by omega)];simp) rfl).1
   refine⟨fn,(ps.zip (enc k).toArray).foldl (fun tmps (x:Nat×Value)=>tmps.setIfInBounds x.1 x.2) (ov env a).tmps,assign,body, ?_, ?_⟩
   ·have:=run_yield (P:=P) (args:=(enc k).toArray) hL (by subst hr;simpa using hps k)
    subst hr
    exact this
   ·refine roundIn_of_wpIn (F:=Fw none) trivial ?_
    have hb:=(hbody k x W.heap.size (W.heap.size+1) rec L hk hx hrec).out { tmps:=a.tmps,defers:=[] } W2 ha rfl hp2
    have e:({ tmps:=(ps.zip (enc k).toArray).foldl (fun tmps (x:Nat×Value)=>tmps.setIfInBounds x.1 x.2) (ov env a).tmps,defers:=[] }:Act)=ov (Dx ps.toList (enc k) env) { tmps:=a.tmps,defers:=[] }:=by
     have h1:=Jp ps.toList (enc k) env { tmps:=a.tmps,defers:=[] }
     rw[Kr env { tmps:=a.tmps,defers:=[] } a rfl] at h1
     have h2:(ov (Dx ps.toList (enc k) env) { tmps:=a.tmps,defers:=[] }).defers=[]:=B9 _ _
     cases hA:ov (Dx ps.toList (enc k) env) { tmps:=a.tmps,defers:=[] }
     rw[hA] at h1 h2
     simp only at h1 h2
     subst h2
     congr 1
     rw[h1, ←Array.foldl_toList]
     simp
    have e':(rec .ready none).params=ps∧(rec .ready none).tmps=(ov env a).tmps:=by subst hr;exact⟨rfl,rfl⟩
    rw[←e] at hb
    refine wpIn_mono hb ?_
    intro ex a2 W3 hq
    have hq:=hq.out
    cases ex with
    |normal=>
     obtain⟨w2,h1,h2⟩:=hq
     exact⟨w2,h1,wpIn_mono h2 fun _ _ _ h=>Ky (fun _ _ h=>h.imp id fun h=>⟨h.1,L,h.2⟩) h.out⟩
    |_=>exact hq
  ·rintro e W2 ⟨⟨v,rfl⟩,(⟨L,x,hx,hp2⟩|⟨L,c,x,hx,hp2⟩)⟩
   ·have hp2:=split hp2
    have hi:(B x++[B8 W.heap.size,Bj (W.heap.size+1) rec .ready none])[(B x).length+1]? =some (Bj (W.heap.size+1) rec .ready none):=by rw[List.getElem?_append_right (by omega)];simp
    have hL:=(hp2.at_ _ _ hi rfl).1
    refine⟨_,_,run_endLoop hL (by rw[hrec.st];simp), ?_⟩
    rw[hrec.pend]
    have hp3:=hp2.updO (W':=W2.putObj (W.heap.size+1) (.loop { rec .ready none with state:= .exhausted })) hi rfl (B':=Bj (W.heap.size+1) rec .exhausted none) rfl ⟨rfl,rfl,rfl,by rw[hrec.upd1];rfl⟩
    have hset:(B x++[B8 W.heap.size,Bj (W.heap.size+1) rec .ready none]).set ((B x).length+1) (Bj (W.heap.size+1) rec .exhausted none)=B x++[B8 W.heap.size,Bj (W.heap.size+1) rec .exhausted none]:=by
     rw[List.set_append_right _ _ (by omega)];simp
    rw[hset] at hp3
    have:=(hdone x W.heap.size (W.heap.size+1) rec hx).out { tmps:=a.tmps,defers:=Fl W.heap.size::D } _ ha rfl hp3
    rw[Kp, ←hd, ←B9 env a] at this
    simp only[hrec.pend] at this⊢
    exact this
   ·have hp2:Hp W0 (B x++[B8 W.heap.size,Bj (W.heap.size+1) rec .done (some c)]) W2:=hp2.tail
    have hi:(B x++[B8 W.heap.size,Bj (W.heap.size+1) rec .done (some c)])[(B x).length+1]? =some (Bj (W.heap.size+1) rec .done (some c)):=by rw[List.getElem?_append_right (by omega)];simp
    have hL:=(hp2.at_ _ _ hi rfl).1
    refine⟨_,_,run_endLoop hL (by rw[hrec.st];simp), ?_⟩
    rw[hrec.pend]
    have hp3:=hp2.updO (W':=W2.putObj (W.heap.size+1) (.loop { rec .done (some c) with state:= .exhausted })) hi rfl (B':=Bj (W.heap.size+1) rec .exhausted (some c)) rfl ⟨rfl,rfl,rfl,by rw[hrec.upd1];rfl⟩
    have hset:(B x++[B8 W.heap.size,Bj (W.heap.size+1) rec .done (some c)]).set ((B x).length+1) (Bj (W.heap.size+1) rec .exhausted (some c))=B x++[B8 W.heap.size,Bj (W.heap.size+1) rec .exhausted (some c)]:=by
     rw[List.set_append_right _ _ (by omega)];simp
    rw[hset] at hp3
    have:=(hjump x W.heap.size (W.heap.size+1) rec c hx).out { tmps:=a.tmps,defers:=Fl W.heap.size::D } _ ha rfl hp3
    rw[Kp, ←hd, ←B9 env a] at this
    simp only[hrec.pend] at this⊢
    exact this
end
end Go.Am
namespace Go.Proofs.YthndmdimmgkpgaaGreatDoor
section
open Go Go.RowKit Go.Am Go.Lib
set_option maxRecDepth 10000
-- BOXES 3
abbrev w64 (x:Int):Int:=IntKind.i64.wrap x
theorem Ak {x:Int} (h1: -9223372036854775808≤x) (h2:x<9223372036854775808):w64 x=x:=Kh h1 h2
abbrev slv (p:Option Addr) (n cap:Nat):Value:= .slice p n cap
abbrev An (b:Nat):Value:= .pointer (some ⟨b,0,none⟩)
abbrev str (l:List UInt8):Value:= .string ⟨l.toArray⟩
theorem Ap.of1 {P:Program} {g:Nat} {args:Array Value} {W:World} {v:Value} (h:Calls P g args W fun e w'=>e= .returned v∧Below W.heap.size W w'):Ap P g args W (fun _:Unit=>v) (fun _=>True) (fun _=>[]):=
 ⟨h.mono fun _ _ ⟨he,hb⟩=>⟨(),he,trivial,hb,A3.nil _ _⟩⟩
def Bc (W : World) : Prop := TabIs Tryz.prog W "internal/strconv.uint64pow10" .u64 pow10Tab
theorem Bc.hp {W0 W:World} {bxs:List Bx} (h:Bc W0) (hp:Hp W0 bxs W):Bc W:=tabBelow_of_tabIs h W hp.below
theorem Li (w:World) (k:Nat) (os:Array Obj):Below w.heap.size w (Sort.grow (w.drewN k) os):=by
 refine⟨I,I,I,by simp[Sort.grow,World.drewN],fun i hi=> ?_⟩
 simp only[Sort.grow,World.drewN]
 rw[Array.getElem?_append_left hi]
theorem BO (n:Int) (h0: -9223372036854775808≤n) (h1:n≤9223372036854775807) (W:World) (ht:Bc W):Ap Tryz.prog 115 #[.int .i64 n] W (fun _:Unit=>str (itoa n)) (fun _=>True) (fun _=>[]):=by
 refine Ap.of1 ((Tryz.strconv_Itoa n h0 h1 W ht).mono ?_)
 rintro e w' ⟨rfl,k,os,rfl⟩
 exact⟨I,Li W k os⟩
theorem Lt (n:Int) (h0: -4611686018427387904<n) (h1:n<4611686018427387904):B7 Tryz.prog 163 [str (itoa n)] (.tuple #[.int .i64 n, .nilIface]):=by
 intro W
 refine Ap.of1 ((Tryz.strconv_Atoi_ok ⟨(itoa n).toArray⟩ ?_ n (by simpa using S3 n h0 h1) W).mono ?_)
 ·have:=itoa_length_le n (by omega) (by omega)
  show(itoa n).toArray.size≤_
  rw[List.size_toArray];omega
 ·rintro e w' ⟨rfl,rfl|⟨t,rfl⟩⟩
  ·exact⟨I,Below.refl _ _⟩
  ·exact⟨I,bytesWorld_below _ _ _⟩
theorem Nu (l p:List UInt8):B7 Tryz.prog 159 [str l,str p] (.bool (hasPrefix l p)):=by
 intro W
 refine Ap.of1 ((Tryz.strings_HasPrefix ⟨l.toArray⟩ ⟨p.toArray⟩ W).mono ?_)
 rintro e w' ⟨rfl,rfl⟩
 exact⟨I,Below.refl _ _⟩
theorem DU (l p:List UInt8):B7 Tryz.prog 156 [str l,str p] (str (trimPrefix l p)):=by
 intro W
 refine Ap.of1 ((Tryz.strings_TrimPrefix ⟨l.toArray⟩ ⟨p.toArray⟩ W).mono ?_)
 rintro e w' ⟨rfl,rfl⟩
 exact⟨I,Below.refl _ _⟩
theorem La (l:List UInt8) (hl:l.length≤9223372036854775807):B7 Tryz.prog 208 [str l,str Di] (str (trimS l Di)):=by
 intro W
 refine Ap.of1 ((Any.strings_Trim_laid Tryz.lays160 (by kernel_rfl) ⟨l.toArray⟩ ⟨Di.toArray⟩ W ?_ (by decide) ?_).mono ?_)
 ·show l.toArray.size≤_
  rw[List.size_toArray];exact hl
 ·intro j b hb
  have hm:b∈Di:=List.mem_of_getElem? hb
  have: ∀x∈Di,x.toNat<128:=by decide
  exact this b hm
 ·rintro e w' ⟨rfl,hb⟩
  exact⟨I,hb⟩
section
variable {r:Option Nat} {n:Nat} {P:Program} {W0:World} {N:Nat} {D:List Deferred} {ops:List Oper} {Q:Exit→Act→World→Prop} {o:Oper} {rest:List Oper} {env:Env} {A:World→Prop}
theorem Bp {T:Tbl} {i:TI} {d:Nat} {t:TypeId} {x y:Operand} {k:IntKind} {l:List UInt8} {z:Int} (j:Nat) {b:UInt8} (hT:okB P T=true) (hg:A6 ops N env o=some true) (hd:o.dst=some d) (ho:o.op= .index t x y) (ht:BX T t=some i) (hk:i.kind=1)
  (hx:evO N env x=some (str l)) (hy:evO N env y=some (.int k z)) (hz:z=j) (hb:l[j]? =some b)
  (h:WL r n P N D ops Q rest ((d, .int .u8 b.toNat)::env) A):WL r n P N D ops Q (o::rest) env A:=
 CA hg hd (fun c e=>by rw[ho] at e;cases e) (fun ρ W hρ _=>by
  have hu:=FT (Bw hT ht) hk
  subst hz
  have hb':(⟨l.toArray⟩:ByteArray)[j]? =some b:=by
   obtain⟨h1,h2⟩:=List.getElem?_eq_some_iff.1 hb
   have h3:j<(⟨l.toArray⟩:ByteArray).size:=by show j<l.toArray.size;rw[List.size_toArray];exact h1
   rw[getElem?_pos _ j h3]
   exact congrArg some h2
  simp[execOp,ho,Instr.index,hρ _ _ hx,hρ _ _ hy,asIntOf,run_underlying hu,hb']) h
end
theorem Gh (l:List UInt8):(⟨l.toArray⟩:ByteArray).toList=l:=by rw[ByteArray.toList_eq]
theorem CY:itoa 0=[48]:=by unfold itoa;rw[if_neg (by omega)];exact Gu
theorem Qq (W:World):(binOp .eql 171 .nilIface .nilIface).run Tryz.prog W= .ok (.bool true) W:=by
 simp only[binOp,Op.equal,Op.maxDepth]
 rw[show(10000:Nat)=9999+1 from rfl]
 unfold Op.equalIn
 simp only[Sem.run_bind,run_underlying Tryz.underlying171,Result.andThen_ok,Sem.run_pure]
section
variable {N:Nat} {D:List Deferred} {ops:List Oper} {o:Oper} {rest:List Oper} {env:Env} {A A2:World→Prop} {R:Act→World→Prop}
theorem M7 {d:Nat} {u:TypeId} {x:Operand} {c:Value} (hg:A6 ops N env o=some true) (hd:o.dst=some d) (ho:o.op= .binOp .eql 171 x (.const c) u) (hc:c= .nilIface)
  (hx:evO N env x=some .nilIface) (h:WQ Tryz.prog N D ops A2 R rest ((d, .bool true)::env) A):WQ Tryz.prog N D ops A2 R (o::rest) env A:=
 C4 hg hd (fun c e=>by rw[ho] at e;cases e) (fun ρ W hρ _=>by
  subst hc
  have hgd:(eqGuard .eql 171 x (.const .nilIface) .nilIface .nilIface).run Tryz.prog W= .ok () W:=by rw[eqGuard_nil_constR];rfl
  have h2:ρ (.const .nilIface)= .nilIface:=hρ _ _ rfl
  simp only[execOp,ho,hρ _ _ hx,h2,Sem.run_bind,hgd,Qq W,Result.andThen_ok,Sem.run_pure]) h
end
theorem AH (l:List UInt8):(⟨l.toArray⟩:ByteArray).size=l.length:=by show l.toArray.size=_;simp
section
variable {r:Option Nat} {n:Nat} {P:Program} {W0:World} {N:Nat} {D:List Deferred} {ops:List Oper} {Q:Exit→Act→World→Prop} {o:Oper} {rest:List Oper} {env:Env} {bxs:List Bx} {A:World→Prop}
theorem K2 {c:Call} {f:Operand} {g d:Nat} {capt vs:List Value} {X:Type} {val:X→Value} {Φ:X→Prop} (nb:X→List Bx)
  (hg:A6 ops N env o=some true) (hd:o.dst=some d) (ho:o.op= .call c) (hc:c.callee= .value f) (hf:evO N env f=some (.func (.func g) #[] capt.toArray)) (ha:Cf (evO N env) c.args.toList=some vs) (hE:Bd P g=true)
  (hC: ∀W,Hp W0 bxs W→Calls P g (vs++capt).toArray W fun e W'=> ∃x,e= .returned (val x)∧Φ x∧Below W0.heap.size W0 W'∧A3 W0 W' (nb x))
  (h: ∀x,Φ x→WL r n P N D ops Q rest ((d,val x)::env) (Hp W0 (nb x))):WL r n P N D ops Q (o::rest) env (Hp W0 bxs):= .mk fun a W h1 h2 hp=>by
 refine BH hg h1 (fun c e=>by rw[ho] at e;cases e) ?_
 rw[IT ho hc (AL h1 _ _ hf) (E2 (AL h1) ha) hE]
 simp only[Oper.uponIn,hd]
 refine⟨fun hx=>(by cases hx),EX ((hC W hp).mono ?_)⟩
 rintro e W' ⟨x,rfl,hx,hb,hn⟩
 exact(h x hx).out a W' h1 h2 ⟨hb,hn⟩
end
section
variable {r:Option Nat} {n:Nat} {P:Program} {N:Nat} {D:List Deferred} {ops:List Oper} {Q:Exit→Act→World→Prop} {o:Oper} {rest:List Oper} {env:Env} {A:World→Prop} {W0:World} {bxs:List Bx}
theorem JM (k:Nat) {d:Nat} {t e u:TypeId} {x:Operand} {B:Bx} {off cap len:Nat} (l:List UInt8) (hs:P.underlying t=some (.slice e)) (he:P.underlying e=some (.int .u8)) (hu:P.underlying u=some .string) (hg:A6 ops N env o=some true) (hd:o.dst=some d) (ho:o.op= .convert t u x)
  (hk:nth bxs k=some B) (hon:B.row=true) (hx:evO N env x=some (.slice (some ⟨B.b,off,none⟩) len cap)) (hlen:len=l.length) (hc: ∀j (hj:j<l.length),B.cells[off+j]? =some (.int .u8 (l[j].toNat:Int)))
  (h:WL r n P N D ops Q rest ((d,str l)::env) (Hp W0 bxs)):WL r n P N D ops Q (o::rest) env (Hp W0 bxs):= .mk fun a W ha hd' hp=>by
 rw[Bv] at hk
 subst hlen
 refine BH hg ha (fun c e=>by rw[ho] at e;cases e) ?_
 have h3:=(hp.at_ _ _ hk (Bx.row_on hon).1).1
 rw[(Bx.row_on hon).2] at h3
 have hr:=run_convert_bytes_back (P:=P) W t u e ⟨B.b,off,none⟩ cap l hs he hu (fun j hj=>by rw[Addr.add_none,EP h3];exact hc j hj)
 have:(execOp (ov env a).eval o).run P W= .ok (.value (str l)) W:=by
  simp only[execOp,ho,AL ha _ _ hx,Sem.run_bind,hr,Result.andThen_ok,Sem.run_pure]
 rw[this]
 simp only[Oper.uponIn,hd]
 exact h.out a W ha hd' hp
theorem DX {d:Nat} {t u:TypeId} {x y:Operand} {a b:List UInt8} (hg:A6 ops N env o=some true) (hd:o.dst=some d) (ho:o.op= .binOp .add t x y u) (hx:evO N env x=some (str a)) (hy:evO N env y=some (str b)) (ha:a.length≤8388608) (hb:b.length≤8388608)
  (h:WL r n P N D ops Q rest ((d,str (a++b))::env) A):WL r n P N D ops Q (o::rest) env A:=
 CA hg hd (fun c e=>by rw[ho] at e;cases e) (fun ρ W hρ _=>by
  have hs:=run_string_add_lists (P:=P) W a b (by omega) (by omega)
  simp[execOp,ho,hρ _ _ hx,hρ _ _ hy,eqGuard,binOp,hs]) h
theorem Wu {d:Nat} {t u:TypeId} {x:Operand} {k k' kt:IntKind} {z:Int} (ht:P.underlying t=some (.int kt)) (hu:P.underlying u=some (.int k)) (hg:A6 ops N env o=some true) (hd:o.dst=some d) (ho:o.op= .convert t u x) (hx:evO N env x=some (.int k' z))
  (h:WL r n P N D ops Q rest ((d, .int k (k.wrap z))::env) A):WL r n P N D ops Q (o::rest) env A:=
 CA hg hd (fun c e=>by rw[ho] at e;cases e) (fun ρ W hρ _=>by
  simp[execOp,ho,convert,hρ _ _ hx,run_underlying ht,run_underlying hu,Conv.intToInt]) h
end
theorem Ou {x:Int} (h1:0≤x) (h2:x<256):IntKind.u8.wrap x=x:=by
 simp only[IntKind.wrap,IntKind.signed,IntKind.bits]
 simp
 omega
section
variable {r:Option Nat} {n:Nat} {P:Program} {W0:World} {N:Nat} {D:List Deferred} {Q:Exit→Act→World→Prop} {env:Env} {bxs:List Bx}
theorem AM {x y:Code} {X:Type} (L:X→Env) (B:X→List Bx) (Φ:X→Prop) (h1:WC r n P N D x (Exit.then (TO N D W0 L B Φ) Q) env (Hp W0 bxs))
  (h2: ∀z,Φ z→WC r n P N D y Q (L z) (Hp W0 (B z))):WC r n P N D x (Exit.then (y.wpIn (Fw r) n P Q) Q) env (Hp W0 bxs):= .mk fun a W ha hd hp=>by
 refine wpIn_mono (h1.out a W ha hd hp) ?_
 intro e a' W' hq
 cases e with
 |normal=>
  obtain⟨z,hz,hl,hp'⟩:=TO.out hq
  have:=(h2 z hz).out a' W' hl.size hl.defers hp'
  rw[EF (fun p hp _=>hl.get p hp)] at this
  exact this
 |_=>exact hq
end
section
variable {r:Option Nat} {n:Nat} {P:Program} {N:Nat} {D:List Deferred} {ops:List Oper} {Q:Exit→Act→World→Prop} {o:Oper} {rest:List Oper} {env:Env} {A:World→Prop}
theorem Kk (l:Nat) {T:Tbl} {i:TI} {a:List UInt8} {d:Nat} {t:TypeId} {x y':Operand} {k':IntKind} {z':Int} (hT:okB P T=true) (hg:A6 ops N env o=some true) (hd:o.dst=some d) (ho:o.op= .slice t x (some y') none none) (ht:BX T t=some i) (hk:i.kind=1)
  (hx:evO N env x=some (str a)) (hy':evO N env y'=some (.int k' z')) (hz':z'=l) (h1:l≤a.length)
  (hn:WL r n P N D ops Q rest ((d,str (a.drop l))::env) A):WL r n P N D ops Q (o::rest) env A:=
 CA hg hd (fun c e=>by rw[ho] at e;cases e) (fun ρ W hρ _=>by
  have hu:=FT (Bw hT ht) hk
  subst hz'
  have hsz:(⟨a.toArray⟩:ByteArray).size=a.length:=by show a.toArray.size=_;simp
  have e:(⟨a.toArray⟩:ByteArray).extract l a.length=⟨(a.drop l).toArray⟩:=by
   apply ByteArray.ext
   rw[ByteArray.data_extract]
   apply Array.toList_inj.1
   simp only[List.extract_toArray,List.extract_eq_take_drop]
   exact List.take_of_length_le (by rw[List.length_drop];exact Nat.le_refl _)
  simp[execOp,ho,Instr.sliceAt,Instr.slice,Instr.sliceBounds,Instr.sliceBound,hρ _ _ hx,hρ _ _ hy',asIntOf,run_underlying hu,hsz,h1,e]) hn
theorem Np (l:Nat) {A2:World→Prop} {R:Act→World→Prop} {T:Tbl} {i:TI} {a:List UInt8} {d:Nat} {t:TypeId} {x y':Operand} {k':IntKind} {z':Int} (hT:okB P T=true) (hg:A6 ops N env o=some true) (hd:o.dst=some d) (ho:o.op= .slice t x (some y') none none) (ht:BX T t=some i) (hk:i.kind=1)
  (hx:evO N env x=some (str a)) (hy':evO N env y'=some (.int k' z')) (hz':z'=l) (h1:l≤a.length)
  (hn:WQ P N D ops A2 R rest ((d,str (a.drop l))::env) A):WQ P N D ops A2 R (o::rest) env A:=
 C4 hg hd (fun c e=>by rw[ho] at e;cases e) (fun ρ W hρ _=>by
  have hu:=FT (Bw hT ht) hk
  subst hz'
  have hsz:(⟨a.toArray⟩:ByteArray).size=a.length:=by show a.toArray.size=_;simp
  have e:(⟨a.toArray⟩:ByteArray).extract l a.length=⟨(a.drop l).toArray⟩:=by
   apply ByteArray.ext
   rw[ByteArray.data_extract]
   apply Array.toList_inj.1
   simp only[List.extract_toArray,List.extract_eq_take_drop]
   exact List.take_of_length_le (by rw[List.length_drop];exact Nat.le_refl _)
  simp[execOp,ho,Instr.sliceAt,Instr.slice,Instr.sliceBounds,Instr.sliceBound,hρ _ _ hx,hρ _ _ hy',asIntOf,run_underlying hu,hsz,h1,e]) hn
end
end
section
def lv (B:Nat):List Nat→Nat
 |[]=>0
 |x::l=>x+B*lv B l
def lbs (B n:Nat):List Nat:=if _h:n=0∨B<2 then[] else(n%B)::lbs B (n/B)
termination_by n
decreasing_by exact Nat.div_lt_self (by omega) (by omega)
section
variable {B:Nat}
theorem Bh:lbs B 0=[]:=by rw[lbs,dif_pos (.inl rfl)]
theorem FI (hB:2≤B) {n:Nat} (hn:n≠0):lbs B n=(n%B)::lbs B (n/B):=by rw[lbs,dif_neg (by omega)]
theorem Dq (hB:2≤B) {n:Nat}:lbs B n=[]↔n=0:=by
 constructor
 ·intro h
  by_cases hn:n=0
  ·exact hn
  ·rw[FI hB hn] at h;cases h
 ·rintro rfl;exact Bh
theorem Jy (hB:2≤B) (n:Nat):lv B (lbs B n)=n:=by
 induction n using Nat.strongRecOn with
 |_ n ih=>
  by_cases hn:n=0
  ·subst hn;rw[Bh];rfl
  ·rw[FI hB hn]
   show n%B+B*lv B (lbs B (n/B))=n
   rw[ih _ (Nat.div_lt_self (by omega) (by omega))]
   exact Nat.mod_add_div n B
theorem Bl (hB:2≤B) (n:Nat): ∀x∈lbs B n,x<B:=by
 induction n using Nat.strongRecOn with
 |_ n ih=>
  by_cases hn:n=0
  ·subst hn;rw[Bh];intro x hx;cases hx
  ·rw[FI hB hn]
   intro x hx
   rcases List.mem_cons.1 hx with rfl|hx
   ·exact Nat.mod_lt _ (by omega)
   ·exact ih _ (Nat.div_lt_self (by omega) (by omega)) x hx
theorem Hn (hB:2≤B): ∀ {l:List Nat} (h:l≠[]),l.getLast h≠0→lv B l≠0
 |[],h,_=>absurd rfl h
 |[x],_,hl=>by
  show x+B*0≠0
  have:x≠0:=hl
  omega
 |x::y::l,_,hl=>by
  have h:=Hn hB (l:=y::l) (by simp) hl
  show x+B*lv B (y::l)≠0
  have:0<B*lv B (y::l):=Nat.mul_pos (by omega) (by omega)
  omega
theorem Ut (hB:2≤B): ∀ {l:List Nat},(∀x∈l,x<B)→(∀h:l≠[],l.getLast h≠0)→lbs B (lv B l)=l
 |[],_,_=>Bh
 |x::l,hx,hl=>by
  have hne:=Hn hB (l:=x::l) (by simp) (hl (by simp))
  have hxB:=hx x (List.mem_cons_self ..)
  have hd:lv B (x::l)/B=lv B l:=by
   show(x+B*lv B l)/B=_
   rw[Nat.add_mul_div_left _ _ (by omega),Nat.div_eq_of_lt hxB,Nat.zero_add]
  have hm:lv B (x::l)%B=x:=by
   show(x+B*lv B l)%B=_
   rw[Nat.add_mul_mod_self_left,Nat.mod_eq_of_lt hxB]
  rw[FI hB hne,hd,hm,Ut hB (fun y hy=>hx y (List.mem_cons_of_mem _ hy))]
  intro h
  have:=hl (by simp)
  rw[List.getLast_cons h] at this
  exact this
theorem TH (hB:2≤B) (n:Nat): ∀h:lbs B n≠[],(lbs B n).getLast h≠0:=by
 induction n using Nat.strongRecOn with
 |_ n ih=>
  intro h
  have hn:n≠0:=fun e=>h ((Dq hB).2 e)
  have e:=FI hB hn
  by_cases hq:n/B=0
  ·have:lbs B n=[n%B]:=by rw[e,hq,Bh]
   simp only[this,List.getLast_singleton]
   have:=Nat.mod_add_div n B
   rw[hq] at this
   intro h0;rw[h0] at this;omega
  ·have h2:=ih _ (Nat.div_lt_self (by omega) (by omega)) (fun e=>hq ((Dq hB).1 e))
   have h3:(n%B::lbs B (n/B)).getLast (by simp)≠0:=by rw[List.getLast_cons (fun e=>hq ((Dq hB).1 e))];exact h2
   simpa only[e] using h3
theorem EL (a b:List Nat):lv B (a++b)=lv B a+B^a.length*lv B b:=by
 induction a with
 |nil=>simp[lv]
 |cons x a ih=>
  show x+B*lv B (a++b)=x+B*lv B a+B^(a.length+1)*lv B b
  rw[ih,Nat.pow_succ];grind
theorem EV (hB:2≤B): ∀ {l:List Nat},(∀x∈l,x<B)→lv B l<B^l.length
 |[],_=>by show 0<B^0;simp
 |x::l,h=>by
  have h1:=EV hB (l:=l) fun y hy=>h y (List.mem_cons_of_mem _ hy)
  have h2:=h x (List.mem_cons_self ..)
  show x+B*lv B l<B^(l.length+1)
  have h3:B*(lv B l+1)≤B*B^l.length:=Nat.mul_le_mul_left _ h1
  rw[Nat.pow_succ,Nat.mul_comm (B^l.length)]
  rw[Nat.mul_add,Nat.mul_one] at h3
  omega
theorem Ek (n:Nat):lv B (List.replicate n 0)=0:=by
 induction n with
 |zero=>rfl
 |succ n ih=>show 0+B*lv B (List.replicate n 0)=0;rw[ih];simp
theorem GI: ∀ {l:List Nat} {i x:Nat} (v:Nat),l[i]? =some x→lv B (l.set i v)+B^i*x=lv B l+B^i*v
 |[],_,_,_,h=>by simp at h
 |y::l,0,x,v,h=>by
  obtain rfl:y=x:=by simpa using h
  show v+B*lv B l+B^0*y=y+B*lv B l+B^0*v
  rw[Nat.pow_zero];omega
 |y::l,i+1,x,v,h=>by
  have:=GI (l:=l) (i:=i) (x:=x) v (by simpa using h)
  show y+B*lv B (l.set i v)+B^(i+1)*x=y+B*lv B l+B^(i+1)*v
  rw[Nat.pow_succ];grind
def lim (l:List Nat) (i:Nat):Nat:=l.getD i 0
theorem Ns {l:List Nat} {i x:Nat} (h:l[i]? =some x):lim l i=x:=by simp[lim,List.getD,h]
theorem OC {l:List Nat} {i:Nat} (h:l.length≤i):lim l i=0:=by simp[lim,List.getD,List.getElem?_eq_none h]
theorem Dn {l:List Nat} {i:Nat} (h:i<l.length):l[i]? =some (lim l i):=by
 rw[List.getElem?_eq_getElem h,Ns (List.getElem?_eq_getElem h)]
theorem Cq (hB:2≤B): ∀ {l:List Nat} (i:Nat),(∀x∈l,x<B)→lim l i=lv B l/B^i%B
 |[],i,_=>by show 0=0/B^i%B;simp
 |x::l,0,h=>by
  show x=(x+B*lv B l)/B^0%B
  rw[Nat.pow_zero,Nat.div_one,Nat.add_mul_mod_self_left,Nat.mod_eq_of_lt (h x (List.mem_cons_self ..))]
 |x::l,i+1,h=>by
  have h1:=Cq hB (l:=l) i fun y hy=>h y (List.mem_cons_of_mem _ hy)
  show lim l i=(x+B*lv B l)/B^(i+1)%B
  rw[h1,Nat.pow_succ,Nat.mul_comm (B^i), ←Nat.div_div_eq_div_mul,Nat.add_mul_div_left _ _ (by omega),Nat.div_eq_of_lt (h x (List.mem_cons_self ..)),Nat.zero_add]
theorem Bi (hB:2≤B) (n i:Nat):lim (lbs B n) i=n/B^i%B:=by
 rw[Cq hB i (Bl hB n),Jy hB]
theorem Bg (hB:2≤B) {l:List Nat} (h: ∀x∈l,x<B) (i:Nat):lim l i<B:=by
 rw[Cq hB i h];exact Nat.mod_lt _ (by omega)
theorem NC (hB:2≤B) {l:List Nat} (h: ∀x∈l,x<B) (i:Nat):lv B (l.take i)=lv B l%B^i:=by
 have h1:lv B l=lv B (l.take i)+B^(l.take i).length*lv B (l.drop i):=by
  rw[←EL,List.take_append_drop]
 by_cases hi:i≤l.length
 ·have hl:(l.take i).length=i:=by rw[List.length_take];omega
  have h2:=EV hB (l:=l.take i) fun x hx=>h x (List.mem_of_mem_take hx)
  rw[hl] at h1 h2
  rw[h1,Nat.add_mul_mod_self_left,Nat.mod_eq_of_lt h2]
 ·rw[List.take_of_length_le (by omega)]
  have h2:=EV hB h
  rw[Nat.mod_eq_of_lt (Nat.lt_of_lt_of_le h2 (Nat.pow_le_pow_right (by omega) (by omega)))]
theorem DM (n i:Nat):n%B^(i+1)=n%B^i+B^i*(n/B^i%B):=by
 rw[Nat.pow_succ,Nat.mod_mul]
theorem BI (hB:2≤B) {n k:Nat}:(lbs B n).length≤k↔n<B^k:=by
 constructor
 ·intro h
  have h1:=EV hB (Bl hB n)
  rw[Jy hB] at h1
  exact Nat.lt_of_lt_of_le h1 (Nat.pow_le_pow_right (by omega) h)
 ·intro h
  rcases Nat.lt_or_ge k (lbs B n).length with hk|hk
  ·exfalso
   have hne:lbs B n≠[]:=fun e=>by rw[e] at hk;exact absurd hk (Nat.not_lt_zero _)
   have hl:=TH hB n hne
   rw[List.getLast_eq_getElem] at hl
   have h1:=Ns (List.getElem?_eq_getElem (l:=lbs B n) (i:=(lbs B n).length-1) (by omega))
   rw[Bi hB,Nat.div_eq_of_lt (Nat.lt_of_lt_of_le h (Nat.pow_le_pow_right (by omega) (by omega)))] at h1
   exact hl (by rw[←h1];simp)
  ·exact hk
theorem MZ (hB:2≤B) {n:Nat} (hn:n≠0):B^((lbs B n).length-1)≤n:=by
 rcases Nat.lt_or_ge n (B^((lbs B n).length-1)) with h|h
 ·have:=(BI hB).2 h
  have h0:(lbs B n).length≠0:=fun e=>hn ((Dq hB).1 (List.length_eq_zero_iff.1 e))
  omega
 ·exact h
theorem AQ (hB:2≤B) (n:Nat):n<B^(lbs B n).length:=(BI hB).1 (Nat.le_refl _)
theorem Oc (hB:2≤B) {l:List Nat} {k:Nat} (hk:k≤l.length) (h: ∀x∈l,x<B) (hz: ∀i,k≤i→i<l.length→l[i]? =some 0) (hl:k=0∨l[k-1]? ≠some 0):l.take k=lbs B (lv B l):=by
 have hd:l.drop k=List.replicate (l.length-k) 0:=by
  apply List.ext_getElem?
  intro i
  rw[List.getElem?_drop]
  by_cases hi:i<l.length-k
  ·rw[hz (k+i) (by omega) (by omega),List.getElem?_replicate_of_lt hi]
  ·rw[List.getElem?_eq_none (by omega),List.getElem?_eq_none (by rw[List.length_replicate];omega)]
 have h1:lv B l=lv B (l.take k):=by
  have:=EL (B:=B) (l.take k) (l.drop k)
  rw[List.take_append_drop,hd,Ek,Nat.mul_zero,Nat.add_zero] at this
  exact this
 rw[h1]
 refine(Ut hB (fun x hx=>h x (List.mem_of_mem_take hx)) fun hne=> ?_).symm
 have hk0:k≠0:=fun e=>hne (by rw[e];rfl)
 intro h0
 rcases hl with hl|hl
 ·exact hk0 hl
 ·apply hl
  rw[List.getLast_eq_getElem] at h0
  have hlen:(l.take k).length=k:=by rw[List.length_take];omega
  rw[List.getElem?_eq_getElem (by omega)]
  congr 1
  rw[←h0,List.getElem_take]
  congr 1;omega
theorem VK (hB:2≤B) {l m:List Nat} (hl: ∀x∈l,x<B) (hm: ∀x∈m,x<B) (hlen:l.length=m.length) (h:lv B l=lv B m):l=m:=by
 apply List.ext_getElem?
 intro i
 by_cases hi:i<l.length
 ·rw[Dn hi,Dn (l:=m) (by omega),Cq hB i hl,Cq hB i hm,h]
 ·rw[List.getElem?_eq_none (by omega),List.getElem?_eq_none (by omega)]
theorem C6 {l:List Nat} {i v:Nat} (h: ∀x∈l,x<B) (hv:v<B): ∀x∈l.set i v,x<B:=fun x hx=>by
 rcases List.mem_or_eq_of_mem_set hx with hx|rfl
 ·exact h x hx
 ·exact hv
end
end
section
section
variable {B:Nat}
theorem ND {out:List Nat} {i:Nat} (hl:out.length=i) (s:Nat):lv B (out++[s])=lv B out+B^i*s:=by
 rw[EL,hl]
 show _+B^i*(s+B*0)=_
 rw[Nat.mul_zero,Nat.add_zero]
theorem M0 (n i:Nat):B^i*n=B^i*(n%B)+B^(i+1)*(n/B):=by
 have:=Nat.mod_add_div n B
 rw[Nat.pow_succ,Nat.mul_assoc, ←Nat.mul_add,this]
theorem M8 {out:List Nat} {a b c i:Nat} (hl:out.length=i) (h:lv B out+B^i*c=a%B^i+b%B^i) {s:Nat} (hs:s=a/B^i%B+b/B^i%B+c):
  lv B (out++[s%B])+B^(i+1)*(s/B)=a%B^(i+1)+b%B^(i+1):=by
 have h1:=M0 (B:=B) s i
 rw[ND hl,DM a i,DM b i]
 have h2:B^i*s=B^i*(a/B^i%B)+B^i*(b/B^i%B)+B^i*c:=by rw[hs,Nat.mul_add,Nat.mul_add]
 omega
theorem Ul (hB:2≤B) {out:List Nat} {a b c m:Nat} (h:lv B out+B^(m+1)*c=a%B^(m+1)+b%B^(m+1)) (ha:a<B^m) (hb:b<B^m):lv B out=a+b:=by
 have h1:B^(m+1)=B^m*B:=Nat.pow_succ ..
 have h2:B^m*2≤B^m*B:=Nat.mul_le_mul_left _ hB
 rw[Nat.mod_eq_of_lt (by omega),Nat.mod_eq_of_lt (by omega)] at h
 rcases Nat.eq_zero_or_pos c with hc|hc
 ·rw[hc,Nat.mul_zero] at h;exact h
 ·have:B^(m+1)*1≤B^(m+1)*c:=Nat.mul_le_mul_left _ hc
  omega
theorem K1 {out:List Nat} {a b c i:Nat} (hl:out.length=i) (h:lv B out+b%B^i=a%B^i+B^i*c) {s c':Nat} (hs:s+b/B^i%B+c=a/B^i%B+B*c'):
  lv B (out++[s])+b%B^(i+1)=a%B^(i+1)+B^(i+1)*c':=by
 rw[ND hl,DM a i,DM b i]
 have h2:B^i*(s+b/B^i%B+c)=B^i*(a/B^i%B+B*c'):=by rw[hs]
 have h3:B^i*(B*c')=B^(i+1)*c':=by rw[Nat.pow_succ,Nat.mul_assoc]
 rw[Nat.mul_add,Nat.mul_add,Nat.mul_add,h3] at h2
 omega
theorem Ml (hB:2≤B) {out:List Nat} {a b c m:Nat} (hl:out.length=m) (ho: ∀x∈out,x<B) (h:lv B out+b%B^m=a%B^m+B^m*c) (ha:a<B^m) (hb:b≤a):lv B out=a-b:=by
 have h0:=EV hB ho
 rw[hl] at h0
 rw[Nat.mod_eq_of_lt (by omega),Nat.mod_eq_of_lt (by omega)] at h
 rcases Nat.eq_zero_or_pos c with hc|hc
 ·rw[hc,Nat.mul_zero] at h;omega
 ·have:B^m*1≤B^m*c:=Nat.mul_le_mul_left _ hc
  omega
theorem HV {out:List Nat} {s b x c i k o n:Nat} (ho:out[i+k]? =some o) (h:lv B out+B^(i+k)*c=s+B^i*(x*(b%B^k))) (hn:n=o+x*(b/B^k%B)+c):
  lv B (out.set (i+k) (n%B))+B^(i+(k+1))*(n/B)=s+B^i*(x*(b%B^(k+1))):=by
 have h1:=GI (B:=B) (n%B) ho
 have h2:=M0 (B:=B) n (i+k)
 have h3:B^(i+k)*n=B^(i+k)*o+B^(i+k)*(x*(b/B^k%B))+B^(i+k)*c:=by rw[hn,Nat.mul_add,Nat.mul_add]
 have h4:B^i*(x*(b%B^(k+1)))=B^i*(x*(b%B^k))+B^(i+k)*(x*(b/B^k%B)):=by
  rw[DM,Nat.pow_add];grind
 rw[Nat.add_assoc] at h2
 omega
theorem J5 {x y o c n:Nat} (hx:x<B) (hy:y<B) (ho:o<B) (hc:c<B) (hn:n=o+x*y+c):n/B<B∧n<B*B:=by
 have h1:x*y≤(B-1)*(B-1):=Nat.mul_le_mul (by omega) (by omega)
 have h2:n<B*B:=by
  have h3:B*B=(B-1)*(B-1)+(B-1)+(B-1)+1:=by
   obtain⟨d,rfl⟩: ∃d,B=d+1:=⟨B-1,by omega⟩
   simp only[Nat.add_sub_cancel];grind
  omega
 exact⟨Nat.div_lt_of_lt_mul h2,h2⟩
theorem Ms (hB:2≤B) {out:List Nat} {s b x c i m:Nat} (h:lv B out+B^(i+(m+1))*c=s+B^i*(x*(b%B^(m+1)))) (hb:b<B^m) (hx:x<B) (hs:s<B^(i+m)):lv B out=s+B^i*(x*b)∧c=0:=by
 have h1:B^(m+1)=B^m*B:=Nat.pow_succ ..
 have h2:B^m*2≤B^m*B:=Nat.mul_le_mul_left _ hB
 rw[Nat.mod_eq_of_lt (show b<B^(m+1) by omega)] at h
 have h3:x*b+B^m≤B^(m+1):=by
  have h4:x*b≤x*B^m:=Nat.mul_le_mul_left _ (by omega)
  have h5:(x+1)*B^m≤B*B^m:=Nat.mul_le_mul_right _ hx
  rw[Nat.add_mul,Nat.one_mul,Nat.mul_comm B] at h5
  omega
 have h6:=Nat.mul_le_mul_left (B^i) h3
 rw[Nat.mul_add, ←Nat.pow_add, ←Nat.pow_add] at h6
 rcases Nat.eq_zero_or_pos c with hc|hc
 ·rw[hc,Nat.mul_zero] at h;exact⟨h,hc⟩
 ·have:B^(i+(m+1))*1≤B^(i+(m+1))*c:=Nat.mul_le_mul_left _ hc
  omega
theorem K0 {s a b i:Nat} (h:s=a%B^i*b):s+B^i*(a/B^i%B*b)=a%B^(i+1)*b:=by
 rw[DM,Nat.add_mul,h,Nat.mul_assoc]
theorem J7 (hB:2≤B) {a b i m:Nat} (hb:b<B^m):a%B^i*b<B^(i+m):=by
 have h1:0<B^i:=Nat.pow_pos (by omega)
 have h2:=Nat.mod_lt a h1
 have h3:a%B^i*b≤(B^i-1)*b:=Nat.mul_le_mul_right _ (by omega)
 have h4:B^i*b<B^i*B^m:=Nat.mul_lt_mul_of_pos_left hb h1
 rw[Nat.pow_add]
 have h5:(B^i-1)*b≤B^i*b:=Nat.mul_le_mul_right _ (by omega)
 omega
theorem HW {a d r q i:Nat} (h:a/B^(i+1)=q*d+r) {n:Nat} (hn:n=a/B^i%B+r*B):a/B^i=(q*B+n/d)*d+n%d:=by
 have h1:a/B^(i+1)=a/B^i/B:=by rw[Nat.pow_succ,Nat.div_div_eq_div_mul]
 have h2:=Nat.mod_add_div (a/B^i) B
 have h3:=Nat.mod_add_div n d
 rw[←h1,h] at h2
 grind
theorem Py {d r x n:Nat} (hx:x<B) (hr:r<d) (hn:n=x+r*B):n/d<B:=by
 apply Nat.div_lt_of_lt_mul
 have:(r+1)*B≤d*B:=Nat.mul_le_mul_right _ hr
 rw[Nat.add_mul,Nat.one_mul] at this
 omega
theorem Sp {u:List Nat} {s v q c j i o n c':Nat} (ho:u[j+i]? =some o) (h:lv B u+B^j*(q*(v%B^i))=s+B^(j+i)*c) (hn:n+c+q*(v/B^i%B)=o+B*c'):
  lv B (u.set (j+i) n)+B^j*(q*(v%B^(i+1)))=s+B^(j+(i+1))*c':=by
 have h1:=GI (B:=B) n ho
 have h2:B^(j+i)*(n+c+q*(v/B^i%B))=B^(j+i)*(o+B*c'):=by rw[hn]
 have h4:B^j*(q*(v%B^(i+1)))=B^j*(q*(v%B^i))+B^(j+i)*(q*(v/B^i%B)):=by
  rw[DM,Nat.pow_add];grind
 have h3:B^(j+i)*(B*c')=B^(j+i+1)*c':=by rw[Nat.pow_succ,Nat.mul_assoc]
 rw[Nat.mul_add,Nat.mul_add,Nat.mul_add,h3] at h2
 rw[show j+(i+1)=j+i+1 by omega]
 omega
theorem Ry {W V top v1 q m:Nat} (hv:v1*m≤V) (hm:0<m) (ht:W/m=top) (h:top<q*v1):W<q*V:=by
 have h1:W<(top+1)*m:=by rw[←ht];exact Nat.lt_mul_of_div_lt (Nat.lt_succ_self _) hm
 have h2:(top+1)*m≤q*v1*m:=Nat.mul_le_mul_right _ h
 have h3:q*(v1*m)≤q*V:=Nat.mul_le_mul_left _ hv
 rw[Nat.mul_assoc] at h2
 omega
theorem Qa {W V q:Nat} (h:W<q*V):W/V<q:=Nat.div_lt_of_lt_mul (by rw[Nat.mul_comm];exact h)
end
end
section
open Go Go.RowKit Go.Am Go.Lib
set_option maxRecDepth 10000
-- BOXES 4
theorem EO (n m:Nat):((n:Nat):Int).tdiv ((m:Nat):Int)=((n/m:Nat):Int):=rfl
theorem OL (n m:Nat):((n:Nat):Int).tmod ((m:Nat):Int)=((n%m:Nat):Int):=rfl
theorem BN {n:Nat} (h:n<9223372036854775808):w64 ((n:Nat):Int)=n:=Ak (by omega) (by omega)
theorem Av {k:Nat} (h:k<4611686018427387904):w64 ((k:Int)+1)=((k+1:Nat):Int):=by rw[Ak (by omega) (by omega)];omega
theorem AZ {a b:Nat} (h:a+b<9223372036854775808):w64 ((a:Int)+b)=((a+b:Nat):Int):=by rw[Ak (by omega) (by omega)];omega
theorem BZ {a b:Nat} (h:a*b<9223372036854775808):w64 ((a:Int)*b)=((a*b:Nat):Int):=by rw[←Int.natCast_mul];exact BN h
theorem ON (x:Nat):(((x:Nat):Int)==0)=decide (x=0):=by
 by_cases h:x=0
 ·subst h;rfl
 ·rw[dF h,beq_eq_false_iff_ne];omega
abbrev nI (l:List Nat):List Value:=l.map fun n:Nat=>Value.int .i64 (n:Int)
theorem B5 (l:List Nat):(nI l).length=l.length:=List.length_map ..
theorem Eb (l:List Nat):(nI l).length=l.length*1:=by rw[B5,Nat.mul_one]
theorem TT {l:List Nat} {i:Nat} (h:i<l.length):(nI l)[i]? =some (.int .i64 (lim l i:Nat)):=by
 rw[List.getElem?_map,Dn h];rfl
theorem HX (a b:List Nat):nI (a++b)=nI a++nI b:=List.map_append
theorem EU (m:Nat):BQ [Value.int .i64 0] m=nI (List.replicate m 0):=by
 induction m with
 |zero=>rfl
 |succ m ih=>
  show[Value.int .i64 0]++BQ _ m=nI (0::List.replicate m 0)
  rw[ih];rfl
def A7 (W:World) (p:Option Addr) (l:List Nat):Prop:=l=[]∨ ∃b off,p=some ⟨b,off,none⟩∧Ar W b off (nI l)
theorem A7.below {W W':World} {p:Option Addr} {l:List Nat} {n:Nat} (h:A7 W p l) (hn:W.heap.size≤n) (hb:Below n W W'):A7 W' p l:=by
 rcases h with h|⟨b,off,h1,h2⟩
 ·exact .inl h
 ·exact .inr ⟨b,off,h1,h2.below hn hb⟩
theorem A7.hp {W0 W:World} {bxs:List Bx} {p:Option Addr} {l:List Nat} (h:A7 W0 p l) (hp:Hp W0 bxs W):A7 W p l:=h.below (Nat.le_refl _) hp.below
theorem A7.row {W:World} {p:Option Addr} {l:List Nat} (h:A7 W p l) {i:Nat} (hi:i<l.length): ∃b off,p=some ⟨b,off,none⟩∧ ∀k,k<l.length→Ar W b (off+k*1) [.int .i64 (lim l k:Nat)]:=by
 rcases h with rfl|⟨b,off,h1,h2⟩
 ·exact absurd hi (Nat.not_lt_zero _)
 ·refine⟨b,off,h1,fun k hk=>⟨h2.lt,fun j u hu=> ?_⟩⟩
  have hj:j=0:=by have:=(List.getElem?_eq_some_iff.1 hu).1;simpa using this
  subst hj
  have:=h2.get k _ (TT hk)
  rw[Nat.mul_one,Nat.add_zero,this]
  simpa using hu
theorem Ar.of_ints {W0 W:World} {bxs:List Bx} (hp:Hp W0 bxs W) (k:Nat) {g:Nat} {l:List Nat} {junk:List Value} (hk:nth bxs k=some ⟨g,3,nI l++junk,true,none⟩) {i:Nat} (hi:i<l.length):Ar W g (0+i*1) [.int .i64 (lim l i:Nat)]:=by
 have h:=Ar.of_bx hp k hk rfl
 refine⟨h.lt,fun j u hu=> ?_⟩
 have hj:j=0:=by have:=(List.getElem?_eq_some_iff.1 hu).1;simpa using this
 subst hj
 have:=h.get i (.int .i64 (lim l i:Nat)) (by
  show(nI l++junk)[i]? =_
  rw[List.getElem?_append_left (by rw[B5];exact hi),TT hi])
 rw[Nat.mul_one,Nat.add_zero,this]
 simpa using hu
theorem Ar.of_intsX {W0 W:World} {bxs:List Bx} (hp:Hp W0 bxs W) (k:Nat) {g:Nat} {l:List Nat} {junk:List Value} (hk:nth bxs k=some ⟨g,3,nI l++junk,true,none⟩) {i x:Nat} (hi:i<l.length) (hx:lim l i=x):Ar W g (0+i*1) [.int .i64 (x:Nat)]:=by
 have:=Ar.of_ints hp k hk hi
 rwa [hx] at this
theorem A7.of_bx {W0 W:World} {bxs:List Bx} (hp:Hp W0 bxs W) (k:Nat) {g:Nat} {l:List Nat} {junk:List Value} (hk:nth bxs k=some ⟨g,3,nI l++junk,true,none⟩):A7 W (some ⟨g,0,none⟩) l:=by
 have h:=Ar.of_bx hp k hk rfl
 refine .inr ⟨g,0,I,h.lt,fun j u hu=>h.get j u ?_⟩
 show(nI l++junk)[j]? =some u
 rw[List.getElem?_append_left (List.getElem?_eq_some_iff.1 hu).1]
 exact hu
theorem A7.take {W:World} {p:Option Addr} {l:List Nat} (h:A7 W p l) (k:Nat):A7 W p (l.take k):=by
 rcases h with rfl|⟨b,off,h1,h2⟩
 ·exact .inl (by simp)
 ·refine .inr ⟨b,off,h1,h2.lt,fun j u hu=>h2.get j u ?_⟩
  have hj:=(List.getElem?_eq_some_iff.1 hu).1
  rw[B5,List.length_take] at hj
  rw[List.getElem?_map,List.getElem?_take_of_lt (by omega)] at hu
  rw[List.getElem?_map];exact hu
theorem Ub {V:Vec} {l:List Nat} (hV:V.OK 1 l.length (nI l)): ∃p cap,V.val l.length=slv p l.length cap∧l.length≤cap∧ ∀ {W0 W:World} {bxs:List Bx},Hp W0 bxs W→ ∀k,nth bxs k=some (V.bx 3 (nI l))→A7 W p l:=by
 obtain⟨p,cap,junk⟩:=V
 cases p with
 |none=>
  have h0:=hV.nil rfl
  refine⟨none,0,by rw[h0];rfl,by omega,fun _ _ _=> .inl (List.length_eq_zero_iff.1 h0)⟩
 |some g=>exact⟨some ⟨g,0,none⟩,cap,rfl,(hV.cap (by simp)).1,fun hp k hk=>A7.of_bx hp k hk⟩
theorem Cn {l:List Nat} {junk:List Value} {i:Nat} (hi:i<l.length) (v:Nat):B0 (nI l++junk) (0+i*1) (Value.int .i64 (v:Nat)).cells.toList=nI (l.set i v)++junk:=by
 show(nI l++junk).take (0+i*1)++[Value.int .i64 (v:Nat)]++(nI l++junk).drop (0+i*1+1)=_
 rw[Nat.zero_add,Nat.mul_one,List.take_append_of_le_length (by rw[B5];omega),List.drop_append_of_le_length (by rw[B5];omega)]
 have e:nI (l.set i v)=(nI l).set i (.int .i64 (v:Nat)):=List.map_set ..
 rw[e,List.set_eq_take_append_cons_drop,if_pos (by rw[B5];exact hi)]
 simp
theorem Lg {B:Nat} (hB:2≤B) {l:List Nat} (h: ∀x∈l,x<B):lbs B (lv B l)=l.take (lbs B (lv B l)).length:=by
 have hlen:=(BI hB).2 (EV hB h)
 apply List.ext_getElem?
 intro i
 by_cases hi:i<(lbs B (lv B l)).length
 ·rw[Dn hi,List.getElem?_take_of_lt hi,Dn (by omega),Bi hB,Cq hB i h]
 ·rw[List.getElem?_eq_none (by omega),List.getElem?_eq_none (by rw[List.length_take];omega)]
abbrev NV:Type:=Nat×Nat×List Value
abbrev nvV (x:NV):Vec:=⟨some x.1,x.2.1,x.2.2⟩
abbrev BA (x:NV) (n:Nat):Value:=slv (some ⟨x.1,0,none⟩) n x.2.1
abbrev BD (x:NV) (l:List Nat):Bx:=⟨x.1,3,nI l++x.2.2,true,none⟩
abbrev Cd (x:NV) (l:List Nat):Prop:=(nvV x).OK 1 l.length (nI l)
abbrev bs:Nat:=1000000000
theorem bs2:2≤bs:=by decide
theorem A7.trim {W:World} {p:Option Addr} {l:List Nat} (h:A7 W p l) (hl: ∀x∈l,x<bs):A7 W p (lbs bs (lv bs l)):=by
 have:=h.take (lbs bs (lv bs l)).length
 rwa [←Lg bs2 hl] at this
theorem FN {g cap:Nat} {junk:List Value} {l:List Nat} (h:(⟨some g,cap,junk⟩:Vec).OK 1 l.length (nI l)) (hl: ∀x∈l,x<bs):
  ∃junk',(⟨some g,cap,junk'⟩:Vec).OK 1 (lbs bs (lv bs l)).length (nI (lbs bs (lv bs l)))∧nI l++junk=nI (lbs bs (lv bs l))++junk':=by
 obtain⟨h1,h2,h3⟩:=h.cap (by simp)
 have e:=Lg bs2 hl
 have hlen:=(BI bs2).2 (EV bs2 hl)
 have e2:nI l=nI (lbs bs (lv bs l))++nI (l.drop (lbs bs (lv bs l)).length):=by
  conv=>lhs;rw[←List.take_append_drop (lbs bs (lv bs l)).length l]
  rw[HX, ←e]
 have h3':(nI l).length+junk.length=cap*1:=h3
 have h2':cap≤maxLen:=h2
 refine⟨nI (l.drop (lbs bs (lv bs l)).length)++junk,⟨Eb _,(fun h=>by cases h),fun _=>⟨by show _≤cap;rw[B5] at h3';omega,h2', ?_⟩⟩, ?_⟩
 ·show(nI (lbs bs (lv bs l))).length+(nI (l.drop (lbs bs (lv bs l)).length)++junk).length=cap*1
  rw[List.length_append,B5,B5,List.length_drop]
  rw[B5] at h3';omega
 ·rw[←List.append_assoc, ←e2]
theorem Ij (W:World) (p:Option Addr) (cap:Nat) (l:List Nat) (i:Nat) (h:A7 W p l) (hi:i<4611686018427387904):Ap Tryz.prog 206 #[slv p l.length cap, .int .i64 (i:Nat)] W (fun _:Unit=> .int .i64 (lim l i:Nat)) (fun _=>True) (fun _=>[]):=by
 refine Ae (args:=[slv p l.length cap, .int .i64 (i:Nat)]) Tryz.func206 I I I ?_
 refine zA (zB (wP I (Aa (zE (zA (zA (zB (wP I (wP I (wP I (wP I (Aa (zE ?_)))))))))))))
 refine AA I (fun hc=> ?_) (fun hc=> ?_)
 ·have hl:i<l.length:=by simp at hc;omega
  obtain⟨b,off,rfl,hrow⟩:=h.row hl
  refine zA (zB (wP I (wP I ?_)))
  refine wJ ?_
  exact wL 0 I I (fun W hp=>(hrow i hl).hp hp) I (wP I (Aa (zE (zO (zP (wR1 I I I))))))
 ·have hl:l.length≤i:=by simp at hc;omega
  exact zI (zE (zA (zB (wP I (Aa (zE (zO (wR1 I I (by rw[OC hl];rfl)))))))))
theorem GH (W:World) (p:Option Addr) (cap n:Nat) (l:List Nat) (i x:Nat) (h:A7 W p l) (hn:l.length=n) (hi:i<4611686018427387904) (hx:lim l i=x):Ap Tryz.prog 206 #[slv p n cap, .int .i64 (i:Nat)] W (fun _:Unit=> .int .i64 (x:Nat)) (fun _=>True) (fun _=>[]):=by
 subst hn hx
 exact Ij W p cap l i h hi
theorem CM (W:World) (p:Option Addr) (cap:Nat) (l:List Nat) (h:A7 W p l) (hl: ∀x∈l,x<bs) (hc:l.length≤cap) (hn:l.length<4611686018427387904):
  Ap Tryz.prog 172 #[slv p l.length cap] W (fun _:Unit=>slv p (lbs bs (lv bs l)).length cap) (fun _=>True) (fun _=>[]):=by
 refine Ae (args:=[slv p l.length cap]) Tryz.func172 I I I ?_
 refine zA (zB (wP I (Aa (zE (zA (zH ?_))))))
 refine A9 (X:=Nat) (fun k=>[(0,slv p k cap)]) (fun _=>[]) (fun k=>k≤l.length∧ ∀i,k≤i→i<l.length→l[i]? =some 0) (fun k=>k) l.length ⟨Nat.le_refl _,fun i h1 h2=>by omega⟩ ⟨I,tO⟩ [] I ?_
 rintro k ⟨hk,hz⟩
 have hend:(k=0∨l[k-1]? ≠some 0)→(lbs bs (lv bs l)).length=k:=fun h0=>by
  rw[←Oc bs2 hk hl hz h0,List.length_take];omega
 by_cases h0:k=0
 ·subst h0
  refine zA (zA (zB (wP I (wP I (wP I ?_)))))
  refine Al 5 (.bool false) I I ?_
  refine wP I ?_
  iterate 7 refine Aw I I ?_
  refine wP I (Aa (zE (zS I (zJ (zK (zK (zL (zE (zA (zB (wP I (wP I (Aa ?_)))))))))))))
  exact zE (zO (wR1 I I (by rw[hend (.inl I)])))
 ·refine zA (zA (zB (wP I (wP I (wP I (wU 5 true I (by simp;omega) ?_))))))
  obtain⟨b,off,rfl,hrow⟩:=h.row (show k-1<l.length by omega)
  iterate 5 refine wP I ?_
  refine wV 10 ((k-1:Nat):Int) I (by show w64 ((k:Int)-1)=_;rw[Ak (by omega) (by omega)];omega) ?_
  refine wJ ?_
  refine wL 0 I I (fun W hp=>(hrow (k-1) (by omega)).hp hp) I (wP I (wP I (Aa (zE ?_))))
  have e1:((lim l (k-1):Int)==0)=decide (l[k-1]? =some 0):=by
   rw[Dn (show k-1<l.length by omega),ON]
   simp
  refine AA I (fun hc=> ?_) (fun hc=> ?_)
  ·have hz0:l[k-1]? =some 0:=by simpa[e1] using hc
   refine zI (zE (zH (zB (wP I (wP I (wP I (wP I (wV 18 ((k-1:Nat):Int) I (by show w64 ((k:Int)-1)=_;rw[Ak (by omega) (by omega)];omega) ?_))))))))
   refine Cs (k-1) tH I I I I I I I I (by omega) ?_
   refine wP I (Aa (zN ?_))
   refine A0 (k-1) ⟨by omega,fun i h1 h2=> ?_⟩ (by omega) ⟨I,tO⟩ [] I
   by_cases hi:i=k-1
   ·rw[hi];exact hz0
   ·exact hz i (by omega) h2
  ·have hz0:l[k-1]? ≠some 0:=by simpa[e1] using hc
   exact zJ (zK (zK (zL (zE (zA (zB (wP I (wP I (Aa (zE (zO (wR1 I I (by rw[hend (.inr hz0)])))))))))))))
theorem QF (x y c:Nat) (hx:x<bs) (hy:y<bs) (hc:c≤1):B7 Tryz.prog 167 [.int .i64 (x:Nat), .int .i64 (y:Nat), .int .i64 (c:Nat)] (.tuple #[.int .i64 ((x+y+c)%bs:Nat), .int .i64 ((x+y+c)/bs:Nat)]):=by
 intro W
 have hxb:x<1000000000:=hx
 have hyb:y<1000000000:=hy
 have e1:w64 (w64 ((x:Int)+y)+c)=((x+y+c:Nat):Int):=by
  rw[Ak (x:=(x:Int)+y) (by omega) (by omega),Ak (by omega) (by omega)];omega
 refine Ae Tryz.func167 I I I ?_
 refine zA (zB (wP I (wP I (Aa (zE (zA (zB ?_)))))))
 iterate 5 refine wP I ?_
 refine wV 12 ((x+y+c:Nat):Int) I e1 ?_
 refine Gk I I I I I (by decide) ?_
 iterate 5 refine wP I ?_
 refine wV 18 ((x+y+c:Nat):Int) I e1 ?_
 refine CT I I I I I (by decide) ?_
 refine wP I (wP I (Aa (zE (zO ?_))))
 refine wR2 I I ?_
 have e2:w64 (((x+y+c:Nat):Int).tdiv 1000000000)=(((x+y+c)/bs:Nat):Int):=by
  have:((x+y+c:Nat):Int).tdiv 1000000000=(((x+y+c)/bs:Nat):Int):=rfl
  rw[this]
  exact BN (Nat.lt_of_le_of_lt (Nat.div_le_self ..) (by omega))
 exact congrArg (fun z=>Value.tuple #[.int .i64 ((x+y+c)%bs:Nat), .int .i64 z]) e2
end
section
open Go Go.Lib
theorem VB (n:Nat):(decDigits n).length=nDigits n:=by
 rw[decDigits_eq,List.length_map,List.length_range]
theorem SH {n i:Nat} (hi:i<(decDigits n).length):(decDigits n)[(decDigits n).length-1-i]? =some (UInt8.ofNat (48+n/10^i%10)):=by
 have hl:=VB n
 rw[hl] at hi⊢
 conv=>lhs;rw[decDigits_eq]
 rw[List.getElem?_map,List.getElem?_range (by omega)]
 show some (dg n (nDigits n-1-(nDigits n-1-i)))=_
 rw[show nDigits n-1-(nDigits n-1-i)=i by omega]
 rfl
theorem FM (n:Nat):n<10^(decDigits n).length:=by rw[VB];exact lt_pow_nDigits n
def pad (k x:Nat):List UInt8:=List.replicate (k-(decDigits x).length) 48++decDigits x
theorem N5 (q d:Nat) (hq:q≠0) (hd:d<10):decDigits (10*q+d)=decDigits q++[UInt8.ofNat (48+d)]:=by
 rw[decDigits,dif_neg (by omega),show(10*q+d)/10=q by omega,show(10*q+d)%10=d by omega]
theorem Ua (k q d:Nat) (hd:d<10) (hx:q<10^k) (hk:1≤k):pad (k+1) (10*q+d)=pad k q++[UInt8.ofNat (48+d)]:=by
 unfold pad
 by_cases hq:q=0
 ·subst hq
  rw[Nat.mul_zero,Nat.zero_add,Gu,decDigits,dif_pos hd]
  show List.replicate k 48++_=List.replicate (k-1) 48++[48]++_
  rw[←List.replicate_succ',show k-1+1=k by omega]
 ·rw[N5 q d hq hd,List.length_append, ←List.append_assoc]
  show List.replicate (k+1-((decDigits q).length+1)) 48++_++_=_
  rw[show k+1-((decDigits q).length+1)=k-(decDigits q).length by omega]
theorem On (q:Nat) (hq:q≠0): ∀(k x:Nat),1≤k→x<10^k→decDigits (10^k*q+x)=decDigits q++pad k x
 |0,_,h,_=>by omega
 |1,x,_,hx=>by
  have hx:x<10:=by simpa using hx
  rw[show 10^1*q+x=10*q+x by simp,N5 q x hq hx]
  have e:decDigits x=[UInt8.ofNat (48+x)]:=by rw[decDigits,dif_pos hx]
  unfold pad
  rw[e];rfl
 |k+2,x,_,hx=>by
  have h10:x=10*(x/10)+x%10:=by omega
  have hxk:x/10<10^(k+1):=by rw[Nat.pow_succ] at hx;omega
  have h1:=On q hq (k+1) (x/10) (by omega) hxk
  have h2:=Ua (k+1) (x/10) (x%10) (Nat.mod_lt _ (by omega)) hxk (by omega)
  rw[←h10] at h2
  rw[h2, ←List.append_assoc, ←h1]
  have hne:10^(k+1)*q+x/10≠0:=by
   have:0<10^(k+1)*q:=Nat.mul_pos (Nat.pow_pos (by omega)) (by omega)
   omega
  rw[←N5 _ _ hne (Nat.mod_lt _ (by omega))]
  congr 1
  rw[Nat.pow_succ 10 (k+1)]
  have:10*(10^(k+1)*q)=10^(k+1)*10*q:=by grind
  omega
theorem RQ {w B n i o d:Nat} {l:List Nat} (hw:1≤w) (hB:B=10^w) (hl: ∀x∈l,x<B) (h:lv B l=n%10^i) (ho:l[i/w]? =some o) (hd:d=n/10^i%10):
  o<10^(i%w)∧o+d*10^(i%w)<B∧lv B (l.set (i/w) (o+d*10^(i%w)))=n%10^(i+1):=by
 have hB2:2≤B:=by
  rw[hB]
  have:=Nat.pow_le_pow_right (show 0<10 by omega) hw
  omega
 have hi:10^i=B^(i/w)*10^(i%w):=by
  rw[hB, ←Nat.pow_mul, ←Nat.pow_add,Nat.div_add_mod]
 have hr:0<10^(i%w):=Nat.pow_pos (by omega)
 have ho2:o<10^(i%w):=by
  have h1:=Cq hB2 (i/w) hl
  rw[Ns ho,h] at h1
  have h2:n%10^i/B^(i/w)<10^(i%w):=Nat.div_lt_of_lt_mul (by rw[←hi];exact Nat.mod_lt _ (Nat.pow_pos (by omega)))
  have h3:=Nat.mod_le (n%10^i/B^(i/w)) B
  omega
 have hd10:d<10:=by rw[hd];exact Nat.mod_lt _ (by omega)
 refine⟨ho2, ?_, ?_⟩
 ·have h1:(d+1)*10^(i%w)≤10*10^(i%w):=Nat.mul_le_mul_right _ (by omega)
  have h2:10^(i%w+1)≤10^w:=Nat.pow_le_pow_right (by omega) (Nat.mod_lt _ (by omega))
  rw[Nat.pow_succ] at h2
  rw[Nat.add_mul,Nat.one_mul] at h1
  omega
 ·have h1:=GI (B:=B) (o+d*10^(i%w)) ho
  have h2:n%10^(i+1)=n%10^i+10^i*d:=by rw[hd];exact DM n i
  rw[Nat.mul_add] at h1
  have h3:B^(i/w)*(d*10^(i%w))=10^i*d:=by rw[hi];grind
  omega
theorem Hg {B:Nat} (hB:0<B) (k:Nat): ∀x∈List.replicate k 0,x<B:=fun x hx=>by
 rw[List.eq_of_mem_replicate hx];exact hB
theorem Ga (c:UInt8): ∀s:List UInt8,c∉s∨ ∃a b,s=a++c::b∧c∉a
 |[]=> .inl List.not_mem_nil
 |x::s=>by
  by_cases e:x=c
  ·subst e;exact .inr ⟨[],s,rfl,List.not_mem_nil⟩
  ·rcases Ga c s with h|⟨a,b,h,h2⟩
   ·exact .inl fun hm=>by
     rcases List.mem_cons.1 hm with e'|hm
     ·exact e e'.symm
     ·exact h hm
   ·refine .inr ⟨x::a,b,by rw[h];rfl,fun hm=> ?_⟩
    rcases List.mem_cons.1 hm with e'|hm
    ·exact e e'.symm
    ·exact h2 hm
theorem K4 {c:UInt8}: ∀ {s:List UInt8},c∉s→index s [c]= -1
 |[],_=>rfl
 |x::s,h=>by
  have hx:(c==x)=false:=beq_false_of_ne fun e=>h (e▸List.mem_cons_self ..)
  unfold index
  rw[if_neg (by simp[List.isPrefixOf,hx]),K4 fun h'=>h (List.mem_cons_of_mem _ h')];rfl
theorem Pm {c:UInt8} (b:List UInt8): ∀ {a:List UInt8},c∉a→index (a++c::b) [c]=a.length
 |[],_=>by
  show index (c::b) [c]=_
  unfold index
  rw[if_pos (by simp[List.isPrefixOf])];rfl
 |x::a,h=>by
  have hx:(c==x)=false:=beq_false_of_ne fun e=>h (e▸List.mem_cons_self ..)
  have ih:=Pm b (a:=a) fun h'=>h (List.mem_cons_of_mem _ h')
  show index (x::(a++c::b)) [c]=_
  unfold index
  rw[if_neg (by simp[List.isPrefixOf,hx]),ih,if_neg (by simp),List.length_cons];omega
theorem En {c:UInt8} {s:List UInt8} (h:c∉s):cut s [c]=(s,[],false):=by
 unfold cut
 rw[K4 h,if_neg (by decide)]
theorem F4 {c:UInt8} {a:List UInt8} (b:List UInt8) (h:c∉a):cut (a++c::b) [c]=(a,b,true):=by
 unfold cut
 rw[Pm b h,if_pos (by omega)]
 have e:(a++c::b).drop (a.length+1)=b:=by
  rw[show a++c::b=(a++[c])++b by simp]
  exact List.drop_left' (by simp)
 rw[show((a.length:Nat):Int).toNat=a.length by omega,show([c]:List UInt8).length=1 from rfl,e,List.take_left]
def D7 (b:UInt8):Bool:=decide (48≤b.toNat)&&decide (b.toNat≤57)
theorem Cx {b:UInt8}:D7 b=true↔48≤b.toNat∧b.toNat≤57:=by simp[D7]
def AV (s:List UInt8):Nat:=s.foldl (fun n b=>10*n+(b.toNat-48)) 0
theorem Da (s:List UInt8) (c:UInt8):AV (s++[c])=10*AV s+(c.toNat-48):=by simp[AV,List.foldl_append]
structure Md (s:List UInt8):Prop where
 ne:s≠[]
 all: ∀b∈s,D7 b=true
 lead:1<s.length→s[0]? ≠some 48
theorem GD (n:Nat):Md (decDigits n):=by
 refine⟨G2 n,fun b hb=>Cx.2 (EM n b hb),fun h=> ?_⟩
 have hn:n≠0:=fun e=>by rw[e,Gu] at h;exact absurd h (by decide)
 obtain⟨b,r,h1,h2⟩:=Kt n hn
 rw[h1]
 intro e
 have e:b=48:=by simpa using e
 rw[e] at h2
 exact h2 I
theorem Cu (n:Nat):AV (decDigits n)=n:=by
 induction n using Nat.strongRecOn with
 |_ n ih=>
  by_cases h:n<10
  ·rw[decDigits,dif_pos h]
   show 10*0+((UInt8.ofNat (48+n)).toNat-48)=n
   rw[Dh h];omega
  ·rw[decDigits,dif_neg h,Da,ih (n/10) (by omega),Dh (Nat.mod_lt _ (by omega))]
   omega
theorem R3 {c:UInt8} (h:D7 c=true):UInt8.ofNat (48+(c.toNat-48))=c:=by
 have:=Cx.1 h
 rw[show 48+(c.toNat-48)=c.toNat by omega];simp
theorem Ft: ∀(k:Nat) {s:List UInt8},s.length=k→Md s→decDigits (AV s)=s
 |0,s,h,hs=>absurd (List.length_eq_zero_iff.1 h) hs.ne
 |k+1,s,h,hs=>by
  obtain⟨t,c,rfl⟩: ∃t c,s=t++[c]:=⟨s.dropLast,s.getLast hs.ne,(List.dropLast_concat_getLast hs.ne).symm⟩
  have hc:=hs.all c (by simp)
  have hc2:=Cx.1 hc
  rw[Da]
  by_cases ht:t=[]
  ·subst ht
   show decDigits (10*0+(c.toNat-48))=[c]
   rw[Nat.mul_zero,Nat.zero_add,decDigits,dif_pos (by omega),R3 hc]
  ·have hl:0<t.length:=List.length_pos_iff.2 ht
   have h0:t[0]? ≠some 48:=by
    have:=hs.lead (by rw[List.length_append];simp;omega)
    rwa [List.getElem?_append_left hl] at this
   have hts:Md t:=⟨ht,fun b hb=>hs.all b (List.mem_append_left _ hb),fun _=>h0⟩
   have ih:=Ft k (s:=t) (by rw[List.length_append] at h;simpa using h) hts
   have hne:AV t≠0:=fun e=>by
    rw[e,Gu] at ih
    rw[←ih] at h0
    exact h0 I
   rw[N5 _ _ hne (by omega),ih,R3 hc]
theorem Ob {s:List UInt8}:Md s↔s=decDigits (AV s):=by
 constructor
 ·exact fun h=>(Ft _ I h).symm
 ·intro h;rw[h];exact GD _
def ldn:List UInt8→Nat
 |[]=>0
 |b::s=>if D7 b then ldn s+1 else 0
theorem Ib: ∀s,ldn s≤s.length
 |[]=>Nat.le_refl _
 |b::s=>by
  unfold ldn
  split
  ·have:=Ib s;simp;exact this
  ·simp
theorem Hd: ∀ {s:List UInt8} {i:Nat},i<ldn s→ ∃b,s[i]? =some b∧D7 b=true
 |[],i,h=>absurd h (Nat.not_lt_zero _)
 |b::s,i,h=>by
  unfold ldn at h
  split at h
  ·rename_i hb
   cases i with
   |zero=>exact⟨b,rfl,hb⟩
   |succ i=>
    obtain⟨c,h1,h2⟩:=Hd (s:=s) (i:=i) (by omega)
    exact⟨c,by simpa using h1,h2⟩
  ·exact absurd h (Nat.not_lt_zero _)
theorem IC: ∀ {s:List UInt8} {b:UInt8},s[ldn s]? =some b→D7 b=false
 |[],b,h=>by simp[ldn] at h
 |c::s,b,h=>by
  unfold ldn at h
  split at h
  ·exact IC (s:=s) (by simpa using h)
  ·rename_i hc
   obtain rfl:c=b:=by simpa using h
   simpa using hc
theorem VI {s:List UInt8} {k:Nat} (h1: ∀i,i<k→ ∃b,s[i]? =some b∧D7 b=true) (h2: ∀b,s[k]? =some b→D7 b=false):ldn s=k:=by
 rcases Nat.lt_trichotomy (ldn s) k with h|h|h
 ·obtain⟨b,hb,hd⟩:=h1 _ h
  rw[IC hb] at hd;cases hd
 ·exact h
 ·obtain⟨b,hb,hd⟩:=Hd h
  rw[h2 b hb] at hd;cases hd
theorem RF {d r:List UInt8} (hd: ∀b∈d,D7 b=true) (hr: ∀b,r[0]? =some b→D7 b=false):ldn (d++r)=d.length:=by
 refine VI (fun i hi=>⟨d[i],by rw[List.getElem?_append_left hi,List.getElem?_eq_getElem hi],hd _ (List.getElem_mem ..)⟩) fun b hb=> ?_
 rw[List.getElem?_append_right (Nat.le_refl _),Nat.sub_self] at hb
 exact hr b hb
theorem Rn {s:List UInt8}:ldn s=s.length↔ ∀b∈s,D7 b=true:=by
 constructor
 ·intro h b hb
  obtain⟨i,hi,rfl⟩:=List.mem_iff_getElem.1 hb
  obtain⟨c,h1,h2⟩:=Hd (s:=s) (i:=i) (by omega)
  rw[List.getElem?_eq_getElem hi] at h1
  cases h1;exact h2
 ·intro h
  have:=RF (d:=s) (r:=[]) h (fun b hb=>by simp at hb)
  rwa [List.append_nil] at this
def FJ (n:Int) (d:Nat):List UInt8:=if d=1 then itoa n else itoa n++47::decDigits d
def Af (q:Rat):List UInt8:=FJ q.num q.den
theorem MG (n:Int):(47:UInt8)∉itoa n:=by
 intro h
 unfold itoa at h
 split at h
 ·rcases List.mem_cons.1 h with h|h
  ·exact absurd h (by decide)
  ·have:=EM _ _ h;exact absurd this.1 (by decide)
 ·have:=EM _ _ h;exact absurd this.1 (by decide)
theorem PJ {s:List UInt8} (h:Md s):itoa ((AV s:Nat):Int)=s:=by
 unfold itoa
 rw[if_neg (by omega)]
 exact Ft _ I h
theorem O5 {m:Nat} (h:m≠0):itoa (-(m:Int))=45::decDigits m:=by
 unfold itoa
 rw[if_pos (by omega),Int.natAbs_neg,Int.natAbs_natCast]
def FY (n:List UInt8):Option Int:=
 if ldn (trimPrefix n [45])=(trimPrefix n [45]).length∧(trimPrefix n [45])≠[]∧(1<(trimPrefix n [45]).length→(trimPrefix n [45])[0]? ≠some 48)∧ ¬(hasPrefix n [45]=true∧trimPrefix n [45]=[48])
 then some (if hasPrefix n [45] then -(AV (trimPrefix n [45]):Int) else AV (trimPrefix n [45])) else none
theorem IW {s:List UInt8} (h:ldn s=s.length∧s≠[]∧(1<s.length→s[0]? ≠some 48)):Md s:=⟨h.2.1,Rn.1 h.1,h.2.2⟩
theorem Kx {s:List UInt8} (h:Md s):ldn s=s.length∧s≠[]∧(1<s.length→s[0]? ≠some 48):=⟨Rn.2 h.all,h.ne,h.lead⟩
theorem Bt (n:List UInt8):hasPrefix n [45]=decide (n[0]? =some 45):=by
 cases n with
 |nil=>rfl
 |cons b r=>
  unfold hasPrefix
  by_cases h:b=45
  ·subst h;simp[List.isPrefixOf]
  ·have: ¬(45:UInt8)=b:=fun e=>h e.symm
   simp[List.isPrefixOf,this,h]
theorem Bb (n:List UInt8):trimPrefix n [45]=if n[0]? =some 45 then n.drop 1 else n:=by
 unfold trimPrefix
 rw[Bt]
 by_cases h:n[0]? =some 45<;>simp[h]
theorem FK {n:List UInt8} {z:Int}:FY n=some z↔n=itoa z:=by
 constructor
 ·intro h
  unfold FY at h
  split at h
  ·rename_i hc
   have hok:=IW ⟨hc.1,hc.2.1,hc.2.2.1⟩
   have h0:=hc.2.2.2
   rw[Bt,Bb] at h h0
   rw[Bb] at hok
   by_cases hm:n[0]? =some 45
   ·rw[if_pos hm] at hok h0 h
    simp only[hm,decide_true,if_true,true_and] at h h0
    have hz:AV (n.drop 1)≠0:=fun e=>by
     have:=Ft _ rfl hok
     rw[e,Gu] at this
     exact h0 this.symm
    injection h with h
    rw[←h,O5 hz,Ft _ rfl hok]
    cases n with
    |nil=>cases hm
    |cons b r=>
     have:b=45:=by simpa using hm
     rw[this];rfl
   ·rw[if_neg hm] at hok h
    simp only[hm,decide_false,Bool.false_eq_true,if_false] at h
    injection h with h
    rw[←h,PJ hok]
  ·cases h
 ·rintro rfl
  unfold FY
  rw[BB]
  have hp:hasPrefix (itoa z) [45]=decide (z<0):=by
   unfold itoa
   split
   ·rename_i h;rw[dT h];rfl
   ·rename_i h
    rw[dF h]
    obtain⟨b,r,hb,h3,h4⟩:=Cz z.toNat
    rw[hb]
    have:(45:UInt8)≠b:=fun e=>by rw[←e] at h3;exact absurd h3 (by decide)
    simp[hasPrefix,List.isPrefixOf,this]
  rw[hp]
  have ho:=Kx (GD z.natAbs)
  have hneg: ¬(decide (z<0)=true∧decDigits z.natAbs=[48]):=fun h=>by
   have h1:z<0:=of_decide_eq_true h.1
   have h2:=congrArg AV h.2
   rw[Cu] at h2
   have:z.natAbs=0:=h2
   omega
  have hv:(if decide (z<0)=true then -((z.natAbs:Nat):Int) else((z.natAbs:Nat):Int))=z:=by
   by_cases h:z<0
   ·rw[if_pos (dT h)];omega
   ·rw[if_neg (by rw[dF h];decide)];omega
  rw[Cu,hv]
  exact if_pos ⟨ho.1,ho.2.1,ho.2.2,hneg⟩
def frm (a:List UInt8):Option (Int×Nat):=match FY (cut a [47]).1 with
 |none=>none
 |some z=>if (cut a [47]).2.2=false then some (z,1) else
  if ldn (cut a [47]).2.1=(cut a [47]).2.1.length∧(cut a [47]).2.1≠[]∧(1<(cut a [47]).2.1.length→(cut a [47]).2.1[0]? ≠some 48)∧(cut a [47]).2.1≠[48]∧(cut a [47]).2.1≠[49] then some (z,AV (cut a [47]).2.1) else none
theorem F6:decDigits 1=[49]:=by rw[decDigits,dif_pos (by decide)];rfl
theorem IR {a:List UInt8} {z:Int} {d:Nat}:frm a=some (z,d)↔(d=1∧a=itoa z)∨(2≤d∧a=itoa z++47::decDigits d):=by
 rcases Ga 47 a with h|⟨x,y,rfl,hx⟩
 ·unfold frm
  rw[En h]
  constructor
  ·intro h2
   cases hi:FY a with
   |none=>simp[hi] at h2
   |some w=>
    simp only[hi,if_true] at h2
    injection h2 with h2
    injection h2 with e1 e2
    subst e1
    exact .inl ⟨e2.symm,FK.1 hi⟩
  ·rintro(⟨rfl,rfl⟩|⟨_,rfl⟩)
   ·simp[FK.2 rfl]
   ·exact absurd (List.mem_append_right _ (List.mem_cons_self ..)) h
 ·unfold frm
  rw[F4 y hx]
  constructor
  ·intro h2
   cases hi:FY x with
   |none=>simp[hi] at h2
   |some w=>
    simp only[hi,Bool.true_eq_false,if_false] at h2
    split at h2
    ·rename_i hc
     injection h2 with h2
     injection h2 with e1 e2
     subst e1
     have hok:=IW ⟨hc.1,hc.2.1,hc.2.2.1⟩
     have hy:=Ft _ rfl hok
     rw[e2] at hy
     refine .inr ⟨?_,by rw[←FK.1 hi,hy]⟩
     rcases Nat.lt_or_ge d 2 with h3|h3
     ·have h3:d=0∨d=1:=by omega
      rcases h3 with rfl|rfl
      ·exact absurd hy.symm (by rw[Gu];exact hc.2.2.2.1)
      ·exact absurd hy.symm (by rw[F6];exact hc.2.2.2.2)
     ·exact h3
    ·cases h2
  ·rintro(⟨rfl,h2⟩|⟨hd,h2⟩)
   ·exact absurd (show(47:UInt8)∈itoa z by rw[←h2];exact List.mem_append_right _ (List.mem_cons_self ..)) (MG z)
   ·have h3:x=itoa z∧y=decDigits d:=by
     have e1:=F4 y hx
     rw[h2,F4 _ (MG z)] at e1
     injection e1 with e1 e2
     injection e2 with e2 _
     exact⟨e1.symm,e2.symm⟩
    obtain⟨rfl,rfl⟩:=h3
    have ho:=Kx (GD d)
    simp only[FK.2 rfl,Bool.true_eq_false,if_false]
    have n1:decDigits d≠[48]:=fun e=>by have:=congrArg AV e;rw[Cu] at this;have:d=0:=this;omega
    have n2:decDigits d≠[49]:=fun e=>by have:=congrArg AV e;rw[Cu] at this;have:d=1:=this;omega
    rw[Cu]
    exact if_pos ⟨ho.1,ho.2.1,ho.2.2,n1,n2⟩
theorem FS (z:Int) {d:Nat} (hd:1≤d):frm (FJ z d)=some (z,d):=by
 rw[IR]
 unfold FJ
 by_cases h:d=1
 ·rw[if_pos h];exact .inl ⟨h,rfl⟩
 ·rw[if_neg h];exact .inr ⟨by omega,rfl⟩
theorem KQ {a:List UInt8} {z:Int} {d:Nat} (h:frm a=some (z,d)):1≤d∧a=FJ z d:=by
 rcases IR.1 h with⟨rfl,h2⟩|⟨h1,h2⟩
 ·exact⟨Nat.le_refl _,h2⟩
 ·exact⟨by omega,by rw[FJ,if_neg (by omega)];exact h2⟩
end
section
open Go Go.RowKit Go.Am Go.Lib
set_option maxRecDepth 10000
-- BOXES 3
theorem VA (b:UInt8):decide (((b.toNat:Nat):Int)≥48)=decide (48≤b.toNat):=decide_eq_decide.2 (by omega)
theorem V4 (b:UInt8):decide (((b.toNat:Nat):Int)≤57)=decide (b.toNat≤57):=decide_eq_decide.2 (by omega)
theorem Fy (b c:UInt8):(((b.toNat:Nat):Int)==((c.toNat:Nat):Int))=decide (b=c):=by
 by_cases h:b=c
 ·subst h;simp
 ·rw[dF h,beq_eq_false_iff_ne]
  intro e
  exact h (UInt8.toNat_inj.1 (by omega))
def dgN (s:List UInt8):Nat:=if 1<ldn s∧s[0]? =some 48 then 0 else ldn s
theorem HK (s:List UInt8) (hs:s.length<4611686018427387904):B7 Tryz.prog 203 [str s] (.int .i64 (dgN s:Nat)):=by
 intro W
 have hle:=Ib s
 refine Ae Tryz.func203 I I I ?_
 refine zA (zB (wP I (Aa (zE (zA (zB (wP I (Aa (AT ?_)))))))))
 refine NK (X:=Unit) (fun _=>[(0,str s),(3, .int .i64 (ldn s:Nat))]) (fun _=>[]) (fun _=>True) ?_ ?_
 ·refine Cc ?_
  refine A9 (X:=Nat) (fun i=>[(0,str s),(3, .int .i64 (i:Nat))]) (fun _=>[]) (fun i=>i≤ldn s) (fun i=>s.length-i) 0 (Nat.zero_le _) ⟨I,I,tO⟩ [] I ?_
  intro i hi
  refine zA (zA (zB (wP I (wP I (wP I ?_)))))
  refine Al 6 (.int .i64 (s.length:Nat)) I (congrArg (fun n:Nat=>Value.int .i64 (n:Int)) (AH s)) ?_
  refine wP I ?_
  cases hb:s[i]? with
  |none=>
   have hl:s.length≤i:=List.getElem?_eq_none_iff.1 hb
   have he:i=ldn s:=by omega
   refine wU 7 false I (dF (by omega)) (wP I ?_)
   iterate 4 refine Aw I I ?_
   refine wP I (wP I ?_)
   iterate 4 refine Aw I I ?_
   exact wP I (Aa (zE (zS I (zJ (zK (zK (zL (At () tO ⟨I,by rw[←he];rfl,tO⟩ [] I))))))))
  |some b=>
   have hl:i<s.length:=(List.getElem?_eq_some_iff.1 hb).1
   have hend:D7 b=false→i=ldn s:=fun h=>by
    rcases Nat.lt_or_ge i (ldn s) with h1|h1
    ·obtain⟨c,h2,h3⟩:=Hd h1
     rw[hb] at h2;cases h2
     rw[h] at h3;cases h3
    ·omega
   refine wU 7 true I (dT (by omega)) (wP I (wP I (wP I ?_)))
   refine Bp i tH I I I I I I I I hb ?_
   refine wP I (wU 12 (decide (48≤b.toNat)) I (VA b) ?_)
   by_cases h48:48≤b.toNat
   ·refine wU 12 true I (dT h48) (wP I (wP I (wP I (wP I ?_))))
    refine Bp i tH I I I I I I I I hb ?_
    refine wP I (wU 18 (decide (b.toNat≤57)) I (V4 b) ?_)
    by_cases h57:b.toNat≤57
    ·refine wU 18 true I (dT h57) (wP I (Aa (zE (zR I (zI (zE (zH (zB (wP I (wP I (wV 21 ((i+1:Nat):Int) I (Av (by omega)) (wP I (Aa ?_)))))))))))))
     refine zN ?_
     have hi1:i+1≤ldn s:=by
      rcases Nat.lt_or_ge i (ldn s) with h1|h1
      ·exact h1
      ·have he:i=ldn s:=by omega
       rw[he] at hb
       have:=IC hb
       rw[Cx.2 ⟨h48,h57⟩] at this;cases this
     exact A0 (i+1) hi1 (by omega) ⟨I,I,tO⟩ [] I
    ·have he:=hend (by simp[D7,h57])
     exact wU 18 false I (dF h57) (wP I (Aa (zE (zS I (zJ (zK (zK (zL (At () tO ⟨I,by rw[←he];rfl,tO⟩ [] I)))))))))
   ·have he:=hend (by simp[D7,h48])
    refine wU 12 false I (dF h48) (wP I (wP I ?_))
    iterate 4 refine Aw I I ?_
    exact wP I (Aa (zE (zS I (zJ (zK (zK (zL (At () tO ⟨I,by rw[←he];rfl,tO⟩ [] I))))))))
 ·intro _ _
  refine zA (zA (zB (wP I (wP I ?_))))
  by_cases h1:1<ldn s
  ·refine wU 23 true I (dT (by omega)) ?_
   obtain⟨b,hb,_⟩:=Hd (s:=s) (i:=0) (by omega)
   refine wP I (wP I ?_)
   refine Bp 0 tH I I I I I I I I hb ?_
   refine wP I (wU 27 (decide (b=48)) I (Fy b 48) (wP I (Aa (zE ?_))))
   refine AA I (fun hc=> ?_) (fun hc=> ?_)
   ·have hb48:b=48:=of_decide_eq_true hc
    exact zA (zB (wP I (Aa (zE (zO (zP (wR1 I I (by rw[dgN,if_pos ⟨h1,by rw[hb,hb48]⟩];rfl))))))))
   ·have hb48: ¬b=48:=of_decide_eq_false hc
    exact zI (zE (zA (zB (wP I (wP I (Aa (zE (zO (wR1 I I (by rw[dgN,if_neg (fun h=>hb48 (by have h2:=h.2;rw[hb] at h2;exact Option.some.inj h2))]))))))))))
  ·refine wU 23 false I (dF (by omega)) (wP I ?_)
   iterate 3 refine Aw I I ?_
   exact wP I (Aa (zE (zS I (zI (zE (zA (zB (wP I (wP I (Aa (zE (zO (wR1 I I (by rw[dgN,if_neg (fun h=>h1 h.1)]))))))))))))))
theorem Lw (a b:Nat) (ha:a<1000000000000000000) (hb:b<1000000000000000000):B7 Tryz.prog 154 [.int .i64 (a:Nat), .int .i64 (b:Nat)] (.int .i64 (Nat.gcd a b:Nat)):=by
 intro W
 refine Ae Tryz.func154 I I I ?_
 refine zA (zB (wP I (Aa (zE (zA (zH ?_))))))
 refine A9 (X:=Nat×Nat) (fun x=>[(0, .int .i64 (x.1:Nat)),(1, .int .i64 (x.2:Nat))]) (fun _=>[]) (fun x=>x.1<1000000000000000000∧x.2<1000000000000000000∧Nat.gcd x.1 x.2=Nat.gcd a b) (fun x=>x.2) (a,b) ⟨ha,hb,I⟩ ⟨I,I,tO⟩ [] I ?_
 rintro⟨x,y⟩ ⟨hx,hy,hg⟩
 have hx:x<1000000000000000000:=hx
 have hy:y<1000000000000000000:=hy
 have hg:Nat.gcd x y=Nat.gcd a b:=hg
 refine zA (zA (zB (wP I (wP I (Aa (zE ?_))))))
 by_cases h0:y=0
 ·refine Bf 6 (.bool false) I (congrArg Value.bool (by rw[bne_eq_false_iff_eq];omega)) ?_
  exact zS I (zJ (zK (zK (zL (zE (zA (zB (wP I (wP I (Aa (zE (zO (wR1 I I (by rw[←hg,h0,Nat.gcd_zero_right]))))))))))))))
 ·refine Bf 6 (.bool true) I (congrArg Value.bool (by rw[bne_iff_ne];omega)) ?_
  refine zR I (zI (zE (zH (zU (qP I (qP I (qP I ?_)))))))
  refine Ex I I I I I (by omega) ?_
  refine qP I (qP I (AJ (Aa (zN ?_))))
  have hr:x%y<y:=Nat.mod_lt _ (by omega)
  exact A0 (y,x%y) ⟨hy,Nat.lt_trans hr hy,by show Nat.gcd y (x%y)=_;rw[Nat.gcd_comm, ←Nat.gcd_rec,Nat.gcd_comm];exact hg⟩ hr ⟨I,I,tO⟩ [] I
def Ff (s:List UInt8):Option (Nat×List UInt8):=if ldn s=0∨8<ldn s∨(1<ldn s∧s[0]? =some 48) then none else some (AV (s.take (ldn s)),s.drop (ldn s))
def LO (s:List UInt8):Value:=match Ff s with
 |none=> .tuple #[.int .i64 0,str [], .bool false]
 |some (n,r)=> .tuple #[.int .i64 (n:Nat),str r, .bool true]
theorem F0: ∀(k:Nat) {s:List UInt8},s.length=k→(∀b∈s,D7 b=true)→AV s<10^k
 |0,s,h,_=>by rw[List.length_eq_zero_iff.1 h];decide
 |k+1,s,h,hs=>by
  have hne:s≠[]:=fun e=>by rw[e] at h;cases h
  obtain⟨t,c,rfl⟩: ∃t c,s=t++[c]:=⟨s.dropLast,s.getLast hne,(List.dropLast_concat_getLast hne).symm⟩
  have h1:=F0 k (s:=t) (by rw[List.length_append] at h;simpa using h) fun b hb=>hs b (List.mem_append_left _ hb)
  have h2:=Cx.1 (hs c (by simp))
  rw[Da,Nat.pow_succ];omega
theorem N9 {s:List UInt8} {i:Nat} (hi:i≤ldn s): ∀b∈s.take i,D7 b=true:=fun b hb=>by
 obtain⟨j,hj,rfl⟩:=List.mem_iff_getElem.1 hb
 rw[List.length_take] at hj
 obtain⟨c,h1,h2⟩:=Hd (s:=s) (i:=j) (by omega)
 rw[List.getElem_take]
 rw[List.getElem?_eq_getElem (by omega)] at h1
 cases h1;exact h2
-- BOXES 3
theorem RO {s:List UInt8} {i:Nat} {b:UInt8} (h:s[i]? =some b):AV (s.take (i+1))=10*AV (s.take i)+(b.toNat-48):=by
 rw[List.take_add_one,h]
 exact Da _ _
theorem Dv (s:List UInt8):B7 Tryz.prog 153 [str s] (LO s):=by
 intro W
 have hle:=Ib s
 obtain⟨m,hm⟩: ∃m,m=min (ldn s) 9:=⟨_,rfl⟩
 have hdl: ∀i,i≤ldn s→i≤9→AV (s.take i)<1000000000:=fun i h1 h2=>by
  have:=F0 i (s:=s.take i) (by rw[List.length_take];omega) (N9 h1)
  have h3:10^i≤10^9:=Nat.pow_le_pow_right (by decide) h2
  have h4:(10:Nat)^9=1000000000:=by decide
  omega
 refine Ae Tryz.func153 I I I ?_
 refine zA (zB (wP I (wP I (wP I (Aa (zE (zA (zB (wP I (wP I (Aa (AT ?_))))))))))))
 refine NK (X:=Unit) (fun _=>[(0,str s),(5, .int .i64 (AV (s.take m):Nat)),(6, .int .i64 (m:Nat))]) (fun _=>[]) (fun _=>True) ?_ ?_
 ·refine Cc ?_
  refine A9 (X:=Nat) (fun i=>[(0,str s),(5, .int .i64 (AV (s.take i):Nat)),(6, .int .i64 (i:Nat))]) (fun _=>[]) (fun i=>i≤ldn s∧i≤9) (fun i=>s.length-i) 0 ⟨Nat.zero_le _,Nat.zero_le _⟩ ⟨I,I,I,tO⟩ [] I ?_
  rintro i ⟨hi,hi9⟩
  have hdi:=hdl i hi hi9
  have hexit:i=m→Hb Tryz.f153.ntmps [(0,str s),(5, .int .i64 (AV (s.take i):Nat)),(6, .int .i64 (i:Nat))] [(0,str s),(5, .int .i64 (AV (s.take m):Nat)),(6, .int .i64 (m:Nat))]:=fun h=>by subst h;exact⟨rfl,rfl,rfl,trivial⟩
  refine zA (zA (zB (wP I (wP I (wP I ?_)))))
  refine Al 9 (.int .i64 (s.length:Nat)) I (congrArg (fun n:Nat=>Value.int .i64 (n:Int)) (AH s)) ?_
  refine wP I ?_
  cases hb:s[i]? with
  |none=>
   have hl:s.length≤i:=List.getElem?_eq_none_iff.1 hb
   have he:i=m:=by omega
   refine wU 10 false I (dF (by omega)) (wP I ?_)
   iterate 2 refine Aw I I ?_
   refine wP I (wP I ?_)
   iterate 4 refine Aw I I ?_
   refine wP I (wP I ?_)
   iterate 4 refine Aw I I ?_
   exact wP I (Aa (zE (zS I (zJ (zK (zK (zL (At () tO ⟨I,by rw[←he];rfl,by rw[←he];rfl,tO⟩ [] I))))))))
  |some b=>
   have hl:i<s.length:=(List.getElem?_eq_some_iff.1 hb).1
   have hend:D7 b=false→i=ldn s:=fun h=>by
    rcases Nat.lt_or_ge i (ldn s) with h1|h1
    ·obtain⟨c,h2,h3⟩:=Hd h1
     rw[hb] at h2;cases h2
     rw[h] at h3;cases h3
    ·omega
   refine wU 10 true I (dT (by omega)) (wP I (wP I (wP I ?_)))
   by_cases h8:i≤8
   ·refine wU 13 true I (dT (by omega)) (wP I (wP I (wP I (wP I ?_))))
    refine Bp i tH I I I I I I I I hb ?_
    refine wP I (wU 19 (decide (48≤b.toNat)) I (VA b) ?_)
    by_cases h48:48≤b.toNat
    ·refine wU 19 true I (dT h48) (wP I (wP I (wP I (wP I ?_))))
     refine Bp i tH I I I I I I I I hb ?_
     refine wP I (wU 25 (decide (b.toNat≤57)) I (V4 b) ?_)
     by_cases h57:b.toNat≤57
     ·refine wU 25 true I (dT h57) (wP I (Aa (zE (zR I (zI (zE (zH (zA (zB ?_)))))))))
      have hi1:i+1≤ldn s:=by
       rcases Nat.lt_or_ge i (ldn s) with h1|h1
       ·exact h1
       ·have he:i=ldn s:=by omega
        rw[he] at hb
        have:=IC hb
        rw[Cx.2 ⟨h48,h57⟩] at this;cases this
      have hd1:=RO hb
      have hdi1:=hdl (i+1) hi1 (by omega)
      refine wP I (wP I (wV 28 ((10*AV (s.take i):Nat):Int) I (by show w64 (((10:Nat):Int)*(AV (s.take i):Nat))=_;exact BZ (by omega)) (wP I (wP I ?_))))
      refine Bp i tH I I I I I I I I hb ?_
      refine wP I ?_
      refine Al 32 (.int .u8 ((b.toNat-48:Nat):Int)) I (congrArg (Value.int .u8) (by show IntKind.u8.wrap (((b.toNat:Nat):Int)-48)=_;rw[show((b.toNat:Nat):Int)-48=((b.toNat-48:Nat):Int) by omega,Ou (by omega) (by omega)])) ?_
      refine F9 Tryz.underlying5 Tryz.underlying3 I I I I ?_
      exact wV 33 ((b.toNat-48:Nat):Int) I (BN (by omega)) (wP I (wV 34 ((AV (s.take (i+1)):Nat):Int) I (by show w64 (((10*AV (s.take i):Nat):Int)+((b.toNat-48:Nat):Int))=_;rw[AZ (by omega),hd1]) (wP I (Aa (zE (zB (wP I (wP I (wV 36 ((i+1:Nat):Int) I (Av (by omega)) (wP I (Aa (zN (A0 (i+1) ⟨hi1,by omega⟩ (by omega) ⟨I,I,I,tO⟩ [] I)))))))))))))
     ·have he:i=m:=by have:=hend (by simp[D7,h57]);omega
      exact wU 25 false I (dF h57) (wP I (Aa (zE (zS I (zJ (zK (zK (zL (At () tO ⟨I,by rw[←he];rfl,by rw[←he];rfl,tO⟩ [] I)))))))))
    ·have he:i=m:=by have:=hend (by simp[D7,h48]);omega
     refine wU 19 false I (dF h48) (wP I (wP I ?_))
     iterate 4 refine Aw I I ?_
     exact wP I (Aa (zE (zS I (zJ (zK (zK (zL (At () tO ⟨I,by rw[←he];rfl,by rw[←he];rfl,tO⟩ [] I))))))))
   ·have he:i=m:=by omega
    refine wU 13 false I (dF (by omega)) (wP I (wP I ?_))
    iterate 4 refine Aw I I ?_
    refine wP I (wP I ?_)
    iterate 4 refine Aw I I ?_
    exact wP I (Aa (zE (zS I (zJ (zK (zK (zL (At () tO ⟨I,by rw[←he];rfl,by rw[←he];rfl,tO⟩ [] I))))))))
 ·intro _ _
  refine zA (zA (zB (wP I (wP I ?_))))
  by_cases h0:m=0
  ·refine wU 38 true I (by rw[h0];rfl) (wP I ?_)
   iterate 2 refine Aw I I ?_
   refine wP I (wP I ?_)
   iterate 7 refine Aw I I ?_
   exact wP I (Aa (zE (zR I (zA (zB (wP I (wP I (wP I (Aa (zE (zO (zP (wR3 I I (by rw[LO,Ff,if_pos (.inl (by omega))]))))))))))))))
  ·refine wU 38 false I (by rw[beq_eq_false_iff_ne];omega) (wP I (wP I (wP I ?_)))
   by_cases h8:8<m
   ·refine wU 41 true I (dT (by omega)) (wP I (wP I ?_))
    iterate 7 refine Aw I I ?_
    exact wP I (Aa (zE (zR I (zA (zB (wP I (wP I (wP I (Aa (zE (zO (zP (wR3 I I (by rw[LO,Ff,if_pos (.inr (.inl (by omega)))]))))))))))))))
   ·have hml:m=ldn s:=by omega
    refine wU 41 false I (dF (by omega)) (wP I (wP I (wP I (wP I ?_))))
    have hgood: ¬(1<ldn s∧s[0]? =some 48)→Value.tuple #[.int .i64 (AV (s.take m):Nat),str (s.drop m), .bool true]=LO s:=fun h=>by
     rw[LO,Ff,if_neg (by rintro(h1|h1|h1);omega;omega;exact h h1),hml]
    by_cases h1:1<m
    ·refine wU 45 true I (dT (by omega)) ?_
     obtain⟨b,hb,_⟩:=Hd (s:=s) (i:=0) (by omega)
     refine wP I (wP I ?_)
     refine Bp 0 tH I I I I I I I I hb ?_
     refine wP I (wU 49 (decide (b=48)) I (Fy b 48) (wP I (wP I (Aa (zE ?_)))))
     refine AA I (fun hc=> ?_) (fun hc=> ?_)
     ·have hb48:b=48:=of_decide_eq_true hc
      exact zA (zB (wP I (wP I (wP I (Aa (zE (zO (zP (wR3 I I (by rw[LO,Ff,if_pos (.inr (.inr ⟨by omega,by rw[hb,hb48]⟩))]))))))))))
     ·have hb48: ¬b=48:=of_decide_eq_false hc
      refine zI (zE (zA (zU (qP I (qP I (qP I ?_))))))
      refine Np m tH I I I I I I I I (by omega) ?_
      exact qP I (qP I (qP I (AJ (Aa (zE (zO (wR3 I I (hgood fun h=>hb48 (by have h2:=h.2;rw[hb] at h2;exact Option.some.inj h2)))))))))
    ·refine wU 45 false I (dF (by omega)) (wP I ?_)
     iterate 3 refine Aw I I ?_
     refine wP I (wP I (Aa (zE (zS I (zI (zE (zA (zU (qP I (qP I (qP I ?_)))))))))))
     refine Np m tH I I I I I I I I (by omega) ?_
     exact qP I (qP I (qP I (AJ (Aa (zE (zO (wR3 I I (hgood fun h=>by omega))))))))
-- BOXES 2
theorem BW (n:Nat):itoa (n:Int)=decDigits n:=by
 unfold itoa
 rw[if_neg (by omega)];rfl
theorem Fk {s r:List UInt8} {n:Nat}:Ff s=some (n,r)↔s=decDigits n++r∧n<100000000∧ ∀b,r[0]? =some b→D7 b=false:=by
 have h8:(10:Nat)^8=100000000:=by decide
 constructor
 ·intro h
  unfold Ff at h
  split at h
  ·cases h
  ·rename_i hc
   injection h with h
   injection h with e1 e2
   have hk:=Ib s
   have hok:Md (s.take (ldn s)):=by
    refine⟨fun e=>hc (.inl ?_),N9 (Nat.le_refl _),fun h1 h2=>hc (.inr (.inr ⟨?_, ?_⟩))⟩
    ·have h9:=congrArg List.length e
     rw[List.length_take,List.length_nil,Nat.min_eq_left hk] at h9
     exact h9
    ·rw[List.length_take] at h1;omega
    ·rwa [List.getElem?_take_of_lt (by rw[List.length_take] at h1;omega)] at h2
   have hd:=Ft _ rfl hok
   rw[e1] at hd
   refine⟨by rw[hd, ←e2,List.take_append_drop], ?_,fun b hb=> ?_⟩
   ·have:=F0 (ldn s) (s:=s.take (ldn s)) (by rw[List.length_take];omega) (N9 (Nat.le_refl _))
    rw[e1] at this
    have h3:10^ldn s≤10^8:=Nat.pow_le_pow_right (by decide) (by omega)
    omega
   ·rw[←e2,List.getElem?_drop,Nat.add_zero] at hb
    exact IC hb
 ·rintro⟨rfl,hn,hr⟩
  have hl:ldn (decDigits n++r)=(decDigits n).length:=RF (GD n).all hr
  have hlen:(decDigits n).length≤8:=Gl 8 n (by decide) (by rw[h8];exact hn)
  have hpos:0<(decDigits n).length:=List.length_pos_iff.2 (G2 n)
  unfold Ff
  rw[hl,if_neg,List.take_left,List.drop_left,Cu]
  rintro(h|h|⟨h1,h2⟩)
  ·omega
  ·omega
  ·rw[List.getElem?_append_left hpos] at h2
   exact(GD n).lead h1 h2
def Dm (n:Nat) (r:List UInt8):Option Nat:=if r=[] then some 1 else if r[0]? ≠some 47 then none else match Ff (r.drop 1) with
 |none=>none
 |some (d,r2)=>if r2≠[]∨d<2∨Nat.gcd n d≠1 then none else some d
def Eh (a:List UInt8):Option (Int×Nat):=match Ff (trimPrefix a [45]) with
 |none=>none
 |some (n,r)=>if (trimPrefix a [45]).length<a.length∧n=0 then none else match Dm n r with
  |none=>none
  |some d=>some (if (trimPrefix a [45]).length<a.length then -(n:Int) else n,d)
def Dw (a:List UInt8):Value:=match Eh a with
 |none=> .tuple #[.agg #[.int .i64 0, .int .i64 0], .bool false]
 |some (z,d)=> .tuple #[.agg #[.int .i64 z, .int .i64 (d:Nat)], .bool true]
theorem Ui (a:List UInt8):(trimPrefix a [45]).length<a.length↔a[0]? =some 45:=by
 rw[Bb]
 constructor
 ·intro h
  by_cases h1:a[0]? =some 45
  ·exact h1
  ·rw[if_neg h1] at h;omega
 ·intro h
  rw[if_pos h,List.length_drop]
  cases a with
  |nil=>cases h
  |cons b r=>simp
theorem Gv {n d:Nat} {r:List UInt8}:Dm n r=some d↔(r=[]∧d=1)∨(r=47::decDigits d∧2≤d∧d<100000000∧Nat.gcd n d=1):=by
 unfold Dm
 by_cases h0:r=[]
 ·rw[if_pos h0]
  constructor
  ·intro h;injection h with h;exact .inl ⟨h0,h.symm⟩
  ·rintro(⟨_,rfl⟩|⟨h,_⟩)
   ·rfl
   ·rw[h0] at h;cases h
 ·rw[if_neg h0]
  by_cases h1:r[0]? =some 47
  ·rw[if_neg (fun h=>h h1)]
   obtain⟨t,rfl⟩: ∃t,r=47::t:=by
    cases r with
    |nil=>cases h1
    |cons b t=>exact⟨t,by have e:b=47:=(by simpa using h1);rw[e]⟩
   show(match Ff t with|none=>none|some (d,r2)=>if r2≠[]∨d<2∨Nat.gcd n d≠1 then none else some d)=some d↔_
   constructor
   ·intro h
    cases ht:Ff t with
    |none=>rw[ht] at h;cases h
    |some x=>
     obtain⟨e,r2⟩:=x
     rw[ht] at h
     simp only at h
     split at h
     ·cases h
     ·rename_i hc
      injection h with h
      subst h
      obtain⟨h2,h3,_⟩:=Fk.1 ht
      have hr2:r2=[]:=Decidable.byContradiction fun h=>hc (.inl h)
      rw[hr2,List.append_nil] at h2
      exact .inr ⟨by rw[h2],by omega,h3,Decidable.byContradiction fun h=>hc (.inr (.inr h))⟩
   ·rintro(⟨h,_⟩|⟨h,h2,h3,h4⟩)
    ·cases h
    ·injection h with _ h
     rw[Fk.2 ⟨by rw[h,List.append_nil],h3,fun b hb=>by simp at hb⟩]
     exact if_neg (by rintro(h|h|h);exact h rfl;omega;exact h h4)
  ·rw[if_pos h1]
   constructor
   ·intro h;cases h
   ·rintro(⟨h,_⟩|⟨h,_⟩)
    ·exact absurd h h0
    ·rw[h] at h1;exact absurd rfl h1
theorem Jh {a:List UInt8} {z:Int} {d:Nat}:Eh a=some (z,d)↔frm a=some (z,d)∧z.natAbs<100000000∧d<100000000∧Nat.gcd z.natAbs d=1:=by
 constructor
 ·intro h
  unfold Eh at h
  cases hi:Ff (trimPrefix a [45]) with
  |none=>rw[hi] at h;cases h
  |some x=>
   obtain⟨n,r⟩:=x
   rw[hi] at h
   simp only at h
   split at h
   ·cases h
   ·rename_i hc
    cases hd:Dm n r with
    |none=>rw[hd] at h;cases h
    |some e=>
     rw[hd] at h
     injection h with h
     injection h with e1 e2
     subst e2
     obtain⟨h1,h2,_⟩:=Fk.1 hi
     simp only[Ui] at hc e1
     rw[Bb] at h1
     have hz:a=itoa z++r∧z.natAbs=n:=by
      by_cases hm:a[0]? =some 45
      ·rw[if_pos hm] at h1 e1
       have hn0:n≠0:=fun e=>hc ⟨hm,e⟩
       refine⟨?_,by omega⟩
       rw[←e1,O5 hn0]
       cases a with
       |nil=>cases hm
       |cons b t=>
        have:b=45:=by simpa using hm
        rw[this]
        show 45::t=45::(decDigits n++r)
        rw[←h1];rfl
      ·rw[if_neg hm] at h1 e1
       refine⟨?_,by omega⟩
       rw[←e1,BW n, ←h1]
     rcases Gv.1 hd with⟨hr,rfl⟩|⟨hr,h3,h4,h5⟩
     ·exact⟨IR.2 (.inl ⟨I,by rw[hz.1,hr,List.append_nil]⟩),by omega,by omega,by rw[Nat.gcd_one_right]⟩
     ·exact⟨IR.2 (.inr ⟨h3,by rw[hz.1,hr]⟩),by omega,h4,by rw[hz.2];exact h5⟩
 ·rintro⟨h,h1,h2,h3⟩
  have key: ∀r,(∀b,r[0]? =some b→D7 b=false)→Dm z.natAbs r=some d→Eh (itoa z++r)=some (z,d):=by
   intro r hr hd
   have ht:trimPrefix (itoa z++r) [45]=decDigits z.natAbs++r:=by
    rw[Bb]
    unfold itoa
    split
    ·rename_i hz
     rw[if_pos (show(45::decDigits z.natAbs++r)[0]? =some 45 from rfl)];rfl
    ·rename_i hz
     obtain⟨b,t,hb,h4,h5⟩:=Cz z.toNat
     have e:z.natAbs=z.toNat:=by omega
     rw[e,if_neg]
     rw[hb]
     intro e2
     have e2:b=45:=by simpa using e2
     rw[e2] at h4;exact absurd h4 (by decide)
   have hl:(trimPrefix (itoa z++r) [45]).length<(itoa z++r).length↔z<0:=by
    rw[ht,List.length_append,List.length_append]
    unfold itoa
    split
    ·rename_i hz;simp;exact hz
    ·rename_i hz
     rw[show z.toNat=z.natAbs by omega]
     constructor
     ·intro h;omega
     ·intro h;omega
   unfold Eh
   have hl2:=hl
   rw[ht] at hl2
   rw[ht,Fk.2 ⟨rfl,h1,hr⟩]
   simp only[hl2]
   rw[if_neg (by omega),hd]
   simp only[Option.some.injEq,Prod.mk.injEq,and_true]
   split<;>omega
  rcases IR.1 h with⟨rfl,rfl⟩|⟨hd,rfl⟩
  ·have:=key [] (fun b hb=>by simp at hb) (Gv.2 (.inl ⟨rfl,rfl⟩))
   rwa [List.append_nil] at this
  ·exact key (47::decDigits d) (fun b hb=>by
    have:47=b:=by simpa using hb
    rw[←this];decide) (Gv.2 (.inr ⟨rfl,hd,h2,h3⟩))
-- BOXES 3
theorem IY (a:List UInt8):Value.bool (!((⟨a.toArray⟩:ByteArray).toList==(⟨#[]⟩:ByteArray).toList))= .bool (decide (a≠[])):=congrArg Value.bool (by cases a<;>simp)
abbrev FR (z d:Int):Value:= .agg #[.int .i64 z, .int .i64 d]
abbrev LH:Value:= .tuple #[FR 0 0, .bool false]
theorem W4 {a o:List UInt8} (ho:trimPrefix a [45]=o) (h:Ff o=none):Dw a=LH:=by
 have e:Eh a=none:=by unfold Eh;rw[ho,h]
 rw[Dw,e]
theorem W6 {a o r:List UInt8} {n:Nat} (ho:trimPrefix a [45]=o) (h:Ff o=some (n,r)) (hc:o.length<a.length∧n=0):Dw a=LH:=by
 have e:Eh a=none:=by unfold Eh;rw[ho,h];exact if_pos hc
 rw[Dw,e]
theorem Us {a o r:List UInt8} {n:Nat} (ho:trimPrefix a [45]=o) (h:Ff o=some (n,r)) (hc: ¬(o.length<a.length∧n=0)) (hd:Dm n r=none):Dw a=LH:=by
 have e:Eh a=none:=by unfold Eh;rw[ho,h];exact(if_neg hc).trans (by rw[hd])
 rw[Dw,e]
theorem WD {a o r:List UInt8} {n d:Nat} (ho:trimPrefix a [45]=o) (h:Ff o=some (n,r)) (hc: ¬(o.length<a.length∧n=0)) (hd:Dm n r=some d):Dw a= .tuple #[FR (if o.length<a.length then -(n:Int) else n) (d:Nat), .bool true]:=by
 have e:Eh a=some (if o.length<a.length then -(n:Int) else n,d):=by unfold Eh;rw[ho,h];exact(if_neg hc).trans (by rw[hd])
 rw[Dw,e]
theorem Ld (n:Nat) (t:List UInt8):Dm n (47::t)=match Ff t with
 |none=>none
 |some (d,r2)=>if r2≠[]∨d<2∨Nat.gcd n d≠1 then none else some d:=by
 unfold Dm
 rw[if_neg (by intro h;cases h),if_neg (fun h=>h rfl)];rfl
theorem Ve {n:Nat} {t:List UInt8} (h:Ff t=none):Dm n (47::t)=none:=by rw[Ld,h]
theorem Qr {n d:Nat} {t r:List UInt8} (h:Ff t=some (d,r)) (hc:r≠[]∨d<2∨Nat.gcd n d≠1):Dm n (47::t)=none:=by rw[Ld,h];exact if_pos hc
theorem Vq {n d:Nat} {t r:List UInt8} (h:Ff t=some (d,r)) (hc: ¬(r≠[]∨d<2∨Nat.gcd n d≠1)):Dm n (47::t)=some d:=by rw[Ld,h];exact if_neg hc
theorem AX (a:List UInt8) (hl:a.length<4611686018427387904):B7 Tryz.prog 106 [str a] (Dw a):=by
 intro W
 refine Ae Tryz.func106 I I I ?_
 refine zA (zB ?_)
 (refine Ao Tryz.hZ rfl rfl rfl rfl ?_;intro)
 refine wP I (Aa ?_)
 rename_i b2
 refine zE (zA (zB (wP I (wP I (Aa (AT (Au (Au ?_))))))))
 refine AM (X:=Unit) (fun _=>[(0,str a),(2,An b2),(3, .bool false),(4,str a),(16, .bool (decide (a[0]? =some 45)))]) (fun _=>[⟨b2,72,[.int .i64 0, .int .i64 0],true,none⟩]) (fun _=>True) ?_ ?_
 ·cases a with
  |nil=>
   refine zB (wP I (wP I ?_))
   refine Al 11 (.bool false) I (IY []) ?_
   refine wP I ?_
   iterate 3 refine Aw I I ?_
   exact wP I (Aa (At () tO ⟨I,I,I,I,I,tO⟩ [] I))
  |cons b t=>
   refine zB (wP I (wP I ?_))
   refine Al 11 (.bool true) I (IY (b::t)) ?_
   refine wP I (wP I ?_)
   refine Bp 0 tH I I I I I I I I I ?_
   exact wP I (wU 15 (decide (b=45)) I (Fy b 45) (wP I (Aa (At () tO ⟨I,I,I,I,congrArg (fun x=>some (Value.bool x)) (decide_eq_decide.2 ⟨fun h=>by rw[h];rfl,fun h=>Option.some.inj h⟩),tO⟩ [] I))))
 ·intro _ _
  refine AM (X:=Unit) (fun _=>[(0,str a),(2,An b2),(3, .bool false),(4,str (trimPrefix a [45]))]) (fun _=>[⟨b2,72,[.int .i64 0, .int .i64 0],true,none⟩]) (fun _=>True) ?_ ?_
  ·refine AA I (fun hc=> ?_) (fun hc=> ?_)
   ·have h0:=of_decide_eq_true hc
    have h1:1≤a.length:=by cases a with|nil=>cases h0|cons b t=>simp
    refine zB (wP I ?_)
    refine Kk 1 tH I I I I I I I I h1 ?_
    exact wP I (Aa (At () tO ⟨I,I,I,by rw[Bb,if_pos h0];rfl,tO⟩ [] I))
   ·have h0:=of_decide_eq_false hc
    exact zI (At () tO ⟨I,I,I,by rw[Bb,if_neg h0];rfl,tO⟩ [] I)
  ·intro _ _
   obtain⟨o,ho⟩: ∃o,trimPrefix a [45]=o:=⟨_,rfl⟩
   have hol:o.length≤a.length:=by rw[←ho,Bb];split;rw[List.length_drop];omega;exact Nat.le_refl _
   rw[ho]
   refine Au (zB (wP I ?_))
   cases hi:Ff o with
   |none=>
    refine wC I I (fun W _=>(Dv o W).cast (by rw[LO,hi])) ?_
    iterate 7 refine wP I ?_
    refine Aa (zE (zA (zA (zB (wP I (wP I (wP I ?_)))))))
    iterate 9 refine Aw I I ?_
    refine wP I (Aa (zE (zR I (zA (zB ?_)))))
    refine AC Tryz.hZ tH I I I I I I I I ?_
    exact wS 0 I I I (wP I (Aa (zE (zO (zP (AR tH I (.cell 0 I I I I I) (.tmp I) () (W4 ho hi).symm tO fun W _=>A3.nil _ _))))))
   |some x=>
    obtain⟨n,r⟩:=x
    have hn8:n<100000000:=(Fk.1 hi).2.1
    have hrl:r.length≤o.length:=by have:=(Fk.1 hi).1;rw[this,List.length_append];omega
    refine wC I I (fun W _=>(Dv o W).cast (by rw[LO,hi])) ?_
    iterate 7 refine wP I ?_
    refine Aa (AT (Au (Au ?_)))
    refine AM (X:=Unit) (fun _=>[(0,str a),(2,An b2),(3, .bool false),(4,str o),(5, .int .i64 (n:Nat)),(6,str r),(37, .bool (decide (o.length<a.length∧n=0)))]) (fun _=>[⟨b2,72,[.int .i64 0, .int .i64 0],true,none⟩]) (fun _=>True) ?_ ?_
    ·refine zB ?_
     iterate 5 refine wP I ?_
     refine Al 29 (.int .i64 (o.length:Nat)) I (congrArg (fun n:Nat=>Value.int .i64 (n:Int)) (AH o)) ?_
     refine wP I (wP I ?_)
     refine Al 31 (.int .i64 (a.length:Nat)) I (congrArg (fun n:Nat=>Value.int .i64 (n:Int)) (AH a)) ?_
     refine wP I ?_
     by_cases hlt:o.length<a.length
     ·exact wU 32 true I (dT (by omega)) (wP I (wP I (wP I (wU 35 (decide (n=0)) I (by rw[Bool.beq_eq_decide_eq];exact decide_eq_decide.2 (by omega)) (wP I (wP I (Aa (At () tO ⟨I,I,I,I,I,I,congrArg (fun x=>some (Value.bool x)) (decide_eq_decide.2 ⟨fun h=>⟨hlt,h⟩,fun h=>h.2⟩),tO⟩ [] I))))))))
     ·refine wU 32 false I (dF (by omega)) (wP I ?_)
      iterate 2 refine Aw I I ?_
      exact wP I (wP I (Aa (At () tO ⟨I,I,I,I,I,I,congrArg (fun x=>some (Value.bool x)) (dF (fun h=>hlt h.1)).symm,tO⟩ [] I)))
    ·intro _ _
     refine AA I (fun hc=> ?_) (fun hc=> ?_)
     ·have hc:=of_decide_eq_true hc
      refine zA (zB ?_)
      refine AC Tryz.hZ tH I I I I I I I I ?_
      exact wS 0 I I I (wP I (Aa (zE (zO (zP (AR tH I (.cell 0 I I I I I) (.tmp I) () (W6 ho hi hc).symm tO fun W _=>A3.nil _ _))))))
     ·have hc:=of_decide_eq_false hc
      refine zI (zE (zA (zB (wP I ?_))))
      refine AC Tryz.hZ tH I I I I I I I I ?_
      (refine Ao Tryz.hZ rfl rfl rfl rfl ?_;intro)
      refine wS 1 I I I (Aa ?_)
      rename_i b8
      refine AT (Au ?_)
      refine AM (X:=Nat) (fun _=>[(0,str a),(2,An b2),(3, .bool false),(4,str o),(5, .int .i64 (n:Nat)),(8,An b8)]) (fun d=>[⟨b2,72,[.int .i64 0, .int .i64 0],true,none⟩,⟨b8,72,[.int .i64 (n:Nat), .int .i64 (d:Nat)],true,none⟩]) (fun d=>Dm n r=some d) ?_ ?_
      ·refine zA (zB ?_)
       cases r with
       |nil=>
        refine wP I (wP I ?_)
        refine Al 42 (.bool false) I (IY []) ?_
        exact Aa (zE (zS I (zI (At 1 (Gv.2 (.inl ⟨I,I⟩)) ⟨I,I,I,I,I,I,tO⟩ [] I))))
       |cons b t=>
        refine wP I (wP I ?_)
        refine Al 42 (.bool true) I (IY (b::t)) ?_
        refine Aa (zE (zR I (zA (zA (zB (wP I ?_))))))
        refine Bp 0 tH I I I I I I I I I ?_
        refine wP I (wU 45 (decide (b≠47)) I (by rw[decide_not];exact congrArg not (Fy b 47)) (Aa (zE ?_)))
        refine AA I (fun hb=> ?_) (fun hb=> ?_)
        ·have hb:=of_decide_eq_true hb
         have hd:Dm n (b::t)=none:=by
          unfold Dm
          rw[if_neg (by intro h;cases h),if_pos (show(b::t)[0]? ≠some 47 from fun h=>hb (Option.some.inj h))]
         refine zA (zB ?_)
         refine AC Tryz.hZ tH I I I I I I I I ?_
         exact wS 0 I I I (wP I (Aa (zE (zO (zP (zP (AR tH I (.cell 0 I I I I I) (.tmp I) () (Us ho hi hc hd).symm tO fun W _=>A3.nil _ _)))))))
        ·have hb:=of_decide_eq_false hb
         obtain rfl:b=47:=Decidable.byContradiction hb
         refine zI (zE (zA (zB (wP I ?_))))
         refine Kk 1 tH I I I I I I I I (by rw[List.length_cons];omega) ?_
         cases hj:Ff t with
         |none=>
          refine wC I I (fun W _=>(Dv t W).cast (by rw[LO,hj])) ?_
          iterate 5 refine wP I ?_
          refine wS 1 I I I (wP I (wP I (Aa (zE (zA (zB (wP I (wP I (wP I ?_)))))))))
          iterate 2 refine Aw I I ?_
          refine wP I (wP I ?_)
          iterate 3 refine Aw I I ?_
          refine wP I (wP I ?_)
          iterate 5 refine Aw I I ?_
          refine wP I (Aa (zE (zR I (zA (zB ?_)))))
          refine AC Tryz.hZ tH I I I I I I I I ?_
          exact wS 0 I I I (wP I (Aa (zE (zO (zP (AR tH I (.cell 0 I I I I I) (.tmp I) () (Us ho hi hc (Ve hj)).symm tO fun W _=>A3.nil _ _))))))
         |some x=>
          obtain⟨d,r2⟩:=x
          have hd8:d<100000000:=(Fk.1 hj).2.1
          have hret: ∀ {v},Dm n (47::t)=none→v=LH→v=Dw a:=fun h e=>e.trans (Us ho hi hc h).symm
          refine wC I I (fun W _=>(Dv t W).cast (by rw[LO,hj])) ?_
          iterate 5 refine wP I ?_
          refine wS 1 I I I (wP I (wP I (Aa (zE (zA (zB (wP I (wP I (wP I (wP I ?_))))))))))
          by_cases hr2:r2=[]
          ·subst hr2
           refine wP I ?_
           refine Al 59 (.bool false) I (IY []) ?_
           refine wP I (wP I (wP I (wB 1 I I I (wP I ?_))))
           by_cases hd2:d<2
           ·refine wU 64 true I (dT (by omega)) (wP I (wP I ?_))
            iterate 5 refine Aw I I ?_
            refine wP I (Aa (zE (zR I (zA (zB ?_)))))
            refine AC Tryz.hZ tH I I I I I I I I ?_
            exact wS 0 I I I (wP I (Aa (zE (zO (zP (AR tH I (.cell 0 I I I I I) (.tmp I) () (hret (Qr hj (.inr (.inl hd2))) I) tO fun W _=>A3.nil _ _))))))
           ·refine wU 64 false I (dF (by omega)) (wP I (wP I (wP I (wP I (wB 1 I I I (wC I I (fun W _=>Lw n d (by omega) (by omega) W) (wP I ?_)))))))
            by_cases hg:Nat.gcd n d=1
            ·exact wU 71 false rfl (by rw[hg];rfl) (wP rfl (Aa (zE (zS rfl (zI (At d (Vq hj (by rintro(h|h|h);exact h rfl;exact hd2 h;exact h hg)) ⟨rfl,rfl,rfl,rfl,rfl,rfl,trivial⟩ [] rfl))))))
            ·refine wU 71 true I (by rw[bne_iff_ne];omega) (wP I (Aa (zE (zR I (zA (zB ?_))))))
             refine AC Tryz.hZ tH I I I I I I I I ?_
             exact wS 0 I I I (wP I (Aa (zE (zO (zP (AR tH I (.cell 0 I I I I I) (.tmp I) () (hret (Qr hj (.inr (.inr hg))) I) tO fun W _=>A3.nil _ _))))))
          ·refine wP I ?_
           refine Al 59 (.bool true) I ((IY r2).trans (congrArg Value.bool (dT hr2))) ?_
           refine wP I (wP I ?_)
           iterate 3 refine Aw I I ?_
           refine wP I (wP I ?_)
           iterate 5 refine Aw I I ?_
           refine wP I (Aa (zE (zR I (zA (zB ?_)))))
           refine AC Tryz.hZ tH I I I I I I I I ?_
           exact wS 0 I I I (wP I (Aa (zE (zO (zP (AR tH I (.cell 0 I I I I I) (.tmp I) () (hret (Qr hj (.inl hr2)) I) tO fun W _=>A3.nil _ _))))))
      ·intro d hd
       have hval:=WD ho hi hc hd
       refine zA (zA (zB (wP I (wP I ?_))))
       refine Al 75 (.int .i64 (o.length:Nat)) I (congrArg (fun n:Nat=>Value.int .i64 (n:Int)) (AH o)) ?_
       refine wP I (wP I ?_)
       refine Al 77 (.int .i64 (a.length:Nat)) I (congrArg (fun n:Nat=>Value.int .i64 (n:Int)) (AH a)) ?_
       refine wP I ?_
       by_cases hlt:o.length<a.length
       ·rw[if_pos hlt] at hval
        refine wU 78 true I (dT (by omega)) (Aa (zE (zR I (zB (wP I (wP I (wV 80 (-(n:Int)) I (by show w64 (0-(n:Int))=_;rw[Ak (by omega) (by omega)];omega) (wP I (wS 1 I I I (Aa (zE (zA (zB ?_)))))))))))))
        exact wB 1 I I I (wS 0 I I I (wP I (Aa (zE (zO (AR tH I (.cell 0 I I I I I) (.tmp I) () hval.symm tO fun W _=>A3.nil _ _))))))
       ·rw[if_neg hlt] at hval
        exact wU 78 false I (dF (by omega)) (Aa (zE (zS I (zI (zE (zA (zB (wB 1 I I I (wS 0 I I I (wP I (Aa (zE (zO (AR tH I (.cell 0 I I I I I) (.tmp I) () hval.symm tO fun W _=>A3.nil _ _))))))))))))))
end
end Go.Proofs.YthndmdimmgkpgaaGreatDoor
namespace Go.Proofs
open Go.Shelf
def Tryz.lays169_ren:Go.Shelf.Ren:=⟨fun|169=>216|n=>n,fun|70=>208|9=>9|0=>0|72=>210|37=>202|127=>248|3=>3|5=>5|n=>n,fun|n=>n⟩
theorem Tryz.lays169:Go.Proofs.Lays.n169 Tryz.prog Tryz.lays169_ren:= {
 mixed:=by kernel_rfl
 f169:=Tryz.func216.trans (congrArg some (by kernel_rfl))
 t0:=Tryz.underlying0
 a0:=Tryz.isAgg0
 z0:=Tryz.sizeOf0
 v0:=Tryz.zeroValue0
 t3:=Tryz.underlying3
 a3:=Tryz.isAgg3
 z3:=Tryz.sizeOf3
 v3:=Tryz.zeroValue3
 t9:=Tryz.underlying9
 a9:=Tryz.isAgg9
 z9:=Tryz.sizeOf9
 v9:=Tryz.zeroValue9
 t37:=Tryz.underlying202
 a37:=Tryz.isAgg202
 z37:=Tryz.sizeOf202
 v37:=Tryz.zeroValue202
 t70:=Tryz.underlying208
 a70:=Tryz.isAgg208
 z70:=Tryz.sizeOf208
 v70:=Tryz.zeroValue208
 t72:=Tryz.underlying210
 a72:=Tryz.isAgg210
 z72:=Tryz.sizeOf210
 v72:=Tryz.zeroValue210
 t127:=Tryz.underlying248
 a127:=Tryz.isAgg248
 z127:=Tryz.sizeOf248
 v127:=Tryz.zeroValue248 }
theorem Tryz.Builder_Extra_169:Builder.Extra Tryz.prog Tryz.lays169_ren:= {
 sizeBuilder:=by kernel_rfl
 liesBuilder:=by kernel_rfl
 t5:=Tryz.underlying5
 a5:=Tryz.isAgg5
 z5:=Tryz.sizeOf5
 v5:=Tryz.zeroValue5
 infoByte:=by kernel_rfl
 cellsByte:=by kernel_rfl
 sizeByte:=by kernel_rfl
 neB5:=by decide }
open Go.RowKit in
theorem Tryz.Builder_String_any_k (B b:Nat) (l:List UInt8) (w:World) (h:Lib.IsBuilderF 210 5 B b (Lib.byteCells l) w) (hBw:B≤w.heap.size):
  Calls Tryz.prog 216 #[.pointer (some ⟨b,0,none⟩)] w fun e w'=>e= .returned (.string ⟨l.toArray⟩)∧(Lib.IsBuilderF 210 5 B b (Lib.byteCells l) w'∧Below B w w'∧Lib.OthersKept 5 (some b) w w'):=Any.Builder_String_any_k Tryz.lays169 Tryz.Builder_Extra_169 B b l w h hBw
def Tryz.lays145_ren:Go.Shelf.Ren:=⟨fun|145=>202|220=>227|219=>254|217=>270|225=>271|224=>272|267=>273|266=>282|314=>283|n=>n,fun|9=>9|4=>4|59=>204|3=>3|5=>5|46=>148|146=>267|51=>196|n=>n,fun|1=>3|n=>n⟩
theorem Tryz.lays145:Go.Proofs.Lays.n145 Tryz.prog Tryz.lays145_ren:= {
 mixed:=by kernel_rfl
 f145:=Tryz.func202.trans (congrArg some (by kernel_rfl))
 f217:=Tryz.func270.trans (congrArg some (by kernel_rfl))
 f219:=Tryz.func254.trans (congrArg some (by kernel_rfl))
 f220:=Tryz.func227.trans (congrArg some (by kernel_rfl))
 f224:=Tryz.func272.trans (congrArg some (by kernel_rfl))
 f225:=Tryz.func271.trans (congrArg some (by kernel_rfl))
 f266:=Tryz.func282.trans (congrArg some (by kernel_rfl))
 f267:=Tryz.func273.trans (congrArg some (by kernel_rfl))
 f314:=Tryz.func283.trans (congrArg some (by kernel_rfl))
 t3:=Tryz.underlying3
 a3:=Tryz.isAgg3
 z3:=Tryz.sizeOf3
 v3:=Tryz.zeroValue3
 t4:=Tryz.underlying4
 a4:=Tryz.isAgg4
 z4:=Tryz.sizeOf4
 v4:=Tryz.zeroValue4
 t5:=Tryz.underlying5
 a5:=Tryz.isAgg5
 z5:=Tryz.sizeOf5
 v5:=Tryz.zeroValue5
 t9:=Tryz.underlying9
 a9:=Tryz.isAgg9
 z9:=Tryz.sizeOf9
 v9:=Tryz.zeroValue9
 t46:=Tryz.underlying148
 a46:=Tryz.isAgg148
 z46:=Tryz.sizeOf148
 v46:=Tryz.zeroValue148
 t51:=Tryz.underlying196
 a51:=Tryz.isAgg196
 z51:=Tryz.sizeOf196
 v51:=Tryz.zeroValue196
 t59:=Tryz.underlying204
 a59:=Tryz.isAgg204
 z59:=Tryz.sizeOf204
 v59:=Tryz.zeroValue204
 t146:=Tryz.underlying267
 a146:=Tryz.isAgg267
 z146:=Tryz.sizeOf267
 v146:=Tryz.zeroValue267
 g1:=by kernel_rfl }
open Go.RowKit Go.Lib in
theorem Tryz.strings_Cut (s sep:ByteArray) (m:Int) (w:World) (hs:s.size<4294967281) (hm:w.cell? ⟨3,0,none⟩=some (.int .i64 m)):
  Calls Tryz.prog 202 #[.string s, .string sep] w fun e w'=>e= .returned (.tuple #[.string ⟨(Lib.cut s.data.toList sep.data.toList).1.toArray⟩, .string ⟨(Lib.cut s.data.toList sep.data.toList).2.1.toArray⟩, .bool (Lib.cut s.data.toList sep.data.toList).2.2])∧ ∃n,w'=w.drewN n:=Any.strings_Cut Tryz.lays145 s sep m w hs hm
def Tryz.lays105_ren:Go.Shelf.Ren:=⟨fun|105=>215|212=>250|99=>159|165=>251|166=>214|170=>252|169=>216|263=>267|264=>268|206=>207|240=>248|241=>269|276=>266|277=>281|n=>n,fun|9=>9|3=>3|4=>4|20=>20|0=>0|46=>148|109=>244|5=>5|72=>210|76=>172|51=>196|146=>267|53=>198|148=>269|70=>208|37=>202|75=>171|127=>248|164=>265|80=>214|n=>n,fun|n=>n⟩
theorem Tryz.lays105:Go.Proofs.Lays.n105 Tryz.prog Tryz.lays105_ren:= {
 mixed:=by kernel_rfl
 f99:=Tryz.func159.trans (congrArg some (by kernel_rfl))
 f105:=Tryz.func215.trans (congrArg some (by kernel_rfl))
 f165:=Tryz.func251.trans (congrArg some (by kernel_rfl))
 f166:=Tryz.func214.trans (congrArg some (by kernel_rfl))
 f169:=Tryz.func216.trans (congrArg some (by kernel_rfl))
 f170:=Tryz.func252.trans (congrArg some (by kernel_rfl))
 f206:=Tryz.func207.trans (congrArg some (by kernel_rfl))
 f212:=Tryz.func250.trans (congrArg some (by kernel_rfl))
 f240:=Tryz.func248.trans (congrArg some (by kernel_rfl))
 f241:=Tryz.func269.trans (congrArg some (by kernel_rfl))
 f263:=Tryz.func267.trans (congrArg some (by kernel_rfl))
 f264:=Tryz.func268.trans (congrArg some (by kernel_rfl))
 f276:=Tryz.func266.trans (congrArg some (by kernel_rfl))
 f277:=Tryz.func281.trans (congrArg some (by kernel_rfl))
 t0:=Tryz.underlying0
 a0:=Tryz.isAgg0
 z0:=Tryz.sizeOf0
 v0:=Tryz.zeroValue0
 t3:=Tryz.underlying3
 a3:=Tryz.isAgg3
 z3:=Tryz.sizeOf3
 v3:=Tryz.zeroValue3
 t4:=Tryz.underlying4
 a4:=Tryz.isAgg4
 z4:=Tryz.sizeOf4
 v4:=Tryz.zeroValue4
 t5:=Tryz.underlying5
 a5:=Tryz.isAgg5
 z5:=Tryz.sizeOf5
 v5:=Tryz.zeroValue5
 t9:=Tryz.underlying9
 a9:=Tryz.isAgg9
 z9:=Tryz.sizeOf9
 v9:=Tryz.zeroValue9
 t20:=Tryz.underlying20
 a20:=Tryz.isAgg20
 z20:=Tryz.sizeOf20
 v20:=Tryz.zeroValue20
 t37:=Tryz.underlying202
 a37:=Tryz.isAgg202
 z37:=Tryz.sizeOf202
 v37:=Tryz.zeroValue202
 t46:=Tryz.underlying148
 a46:=Tryz.isAgg148
 z46:=Tryz.sizeOf148
 v46:=Tryz.zeroValue148
 t51:=Tryz.underlying196
 a51:=Tryz.isAgg196
 z51:=Tryz.sizeOf196
 v51:=Tryz.zeroValue196
 t53:=Tryz.underlying198
 a53:=Tryz.isAgg198
 z53:=Tryz.sizeOf198
 v53:=Tryz.zeroValue198
 t70:=Tryz.underlying208
 a70:=Tryz.isAgg208
 z70:=Tryz.sizeOf208
 v70:=Tryz.zeroValue208
 t72:=Tryz.underlying210
 a72:=Tryz.isAgg210
 z72:=Tryz.sizeOf210
 v72:=Tryz.zeroValue210
 t75:=Tryz.underlying171
 a75:=Tryz.isAgg171
 z75:=Tryz.sizeOf171
 v75:=Tryz.zeroValue171
 t76:=Tryz.underlying172
 a76:=Tryz.isAgg172
 z76:=Tryz.sizeOf172
 v76:=Tryz.zeroValue172
 t109:=Tryz.underlying244
 a109:=Tryz.isAgg244
 z109:=Tryz.sizeOf244
 v109:=Tryz.zeroValue244
 t127:=Tryz.underlying248
 a127:=Tryz.isAgg248
 z127:=Tryz.sizeOf248
 v127:=Tryz.zeroValue248
 t146:=Tryz.underlying267
 a146:=Tryz.isAgg267
 z146:=Tryz.sizeOf267
 v146:=Tryz.zeroValue267
 t148:=Tryz.underlying269
 a148:=Tryz.isAgg269
 z148:=Tryz.sizeOf269
 v148:=Tryz.zeroValue269
 t164:=Tryz.underlying265
 a164:=Tryz.isAgg265
 z164:=Tryz.sizeOf265
 v164:=Tryz.zeroValue265 }
theorem Tryz.Builder_Extra_105:Builder.Extra Tryz.prog Tryz.lays105_ren:= {
 sizeBuilder:=by kernel_rfl
 liesBuilder:=by kernel_rfl
 t5:=Tryz.underlying5
 a5:=Tryz.isAgg5
 z5:=Tryz.sizeOf5
 v5:=Tryz.zeroValue5
 infoByte:=by kernel_rfl
 cellsByte:=by kernel_rfl
 sizeByte:=by kernel_rfl
 neB5:=by decide }
open Go.RowKit Go.Lib in
theorem Tryz.strings_Repeat (s:ByteArray) (c:Nat) (w:World) (hc:c≤9223372036854775807) (hlen:s.size*c≤140737488355328):
  Calls Tryz.prog 215 #[.string s, .int .i64 c] w fun e w'=>e= .returned (.string ⟨(Lib.repeatL s.data.toList c).toArray⟩)∧Below w.heap.size w w':=Any.strings_Repeat Tryz.lays105 Tryz.Builder_Extra_105 s c w hc hlen
def Tryz.lays166_ren:Go.Shelf.Ren:=⟨fun|166=>214|240=>248|276=>266|n=>n,fun|0=>0|3=>3|4=>4|5=>5|9=>9|20=>20|37=>202|70=>208|72=>210|75=>171|80=>214|164=>265|n=>n,fun n=>n⟩
theorem Tryz.lays166:Go.Proofs.Lays.n166 Tryz.prog Tryz.lays166_ren:= {
 mixed:=by kernel_rfl
 f166:=Tryz.func214.trans (congrArg some (by kernel_rfl))
 f240:=Tryz.func248.trans (congrArg some (by kernel_rfl))
 f276:=Tryz.func266.trans (congrArg some (by kernel_rfl))
 t0:=Tryz.underlying0
 a0:=Tryz.isAgg0
 z0:=Tryz.sizeOf0
 v0:=Tryz.zeroValue0
 t3:=Tryz.underlying3
 a3:=Tryz.isAgg3
 z3:=Tryz.sizeOf3
 v3:=Tryz.zeroValue3
 t4:=Tryz.underlying4
 a4:=Tryz.isAgg4
 z4:=Tryz.sizeOf4
 v4:=Tryz.zeroValue4
 t9:=Tryz.underlying9
 a9:=Tryz.isAgg9
 z9:=Tryz.sizeOf9
 v9:=Tryz.zeroValue9
 t20:=Tryz.underlying20
 a20:=Tryz.isAgg20
 z20:=Tryz.sizeOf20
 v20:=Tryz.zeroValue20
 t37:=Tryz.underlying202
 a37:=Tryz.isAgg202
 z37:=Tryz.sizeOf202
 v37:=Tryz.zeroValue202
 t70:=Tryz.underlying208
 a70:=Tryz.isAgg208
 z70:=Tryz.sizeOf208
 v70:=Tryz.zeroValue208
 t72:=Tryz.underlying210
 a72:=Tryz.isAgg210
 z72:=Tryz.sizeOf210
 v72:=Tryz.zeroValue210
 t75:=Tryz.underlying171
 a75:=Tryz.isAgg171
 z75:=Tryz.sizeOf171
 v75:=Tryz.zeroValue171
 t164:=Tryz.underlying265
 a164:=Tryz.isAgg265
 z164:=Tryz.sizeOf265
 v164:=Tryz.zeroValue265 }
theorem Tryz.Builder_Extra_166:Builder.Extra Tryz.prog Tryz.lays166_ren:= {
 sizeBuilder:=by kernel_rfl
 liesBuilder:=by kernel_rfl
 t5:=Tryz.underlying5
 a5:=Tryz.isAgg5
 z5:=Tryz.sizeOf5
 v5:=Tryz.zeroValue5
 infoByte:=by kernel_rfl
 cellsByte:=by kernel_rfl
 sizeByte:=by kernel_rfl
 neB5:=by decide }
def Tryz.lays167_ren:Go.Shelf.Ren:=⟨fun|167=>212|240=>248|276=>266|n=>n,fun|0=>0|4=>4|5=>5|9=>9|20=>20|37=>202|70=>208|72=>210|75=>171|80=>214|164=>265|n=>n,fun n=>n⟩
theorem Tryz.lays167:Go.Proofs.Lays.n167 Tryz.prog Tryz.lays167_ren:= {
 mixed:=by kernel_rfl
 f167:=Tryz.func212.trans (congrArg some (by kernel_rfl))
 f240:=Tryz.func248.trans (congrArg some (by kernel_rfl))
 f276:=Tryz.func266.trans (congrArg some (by kernel_rfl))
 t0:=Tryz.underlying0
 a0:=Tryz.isAgg0
 z0:=Tryz.sizeOf0
 v0:=Tryz.zeroValue0
 t4:=Tryz.underlying4
 a4:=Tryz.isAgg4
 z4:=Tryz.sizeOf4
 v4:=Tryz.zeroValue4
 t5:=Tryz.underlying5
 a5:=Tryz.isAgg5
 z5:=Tryz.sizeOf5
 v5:=Tryz.zeroValue5
 t9:=Tryz.underlying9
 a9:=Tryz.isAgg9
 z9:=Tryz.sizeOf9
 v9:=Tryz.zeroValue9
 t20:=Tryz.underlying20
 a20:=Tryz.isAgg20
 z20:=Tryz.sizeOf20
 v20:=Tryz.zeroValue20
 t37:=Tryz.underlying202
 a37:=Tryz.isAgg202
 z37:=Tryz.sizeOf202
 v37:=Tryz.zeroValue202
 t70:=Tryz.underlying208
 a70:=Tryz.isAgg208
 z70:=Tryz.sizeOf208
 v70:=Tryz.zeroValue208
 t72:=Tryz.underlying210
 a72:=Tryz.isAgg210
 z72:=Tryz.sizeOf210
 v72:=Tryz.zeroValue210
 t75:=Tryz.underlying171
 a75:=Tryz.isAgg171
 z75:=Tryz.sizeOf171
 v75:=Tryz.zeroValue171
 t164:=Tryz.underlying265
 a164:=Tryz.isAgg265
 z164:=Tryz.sizeOf265
 v164:=Tryz.zeroValue265 }
theorem Tryz.Builder_Extra_167:Builder.Extra Tryz.prog Tryz.lays167_ren:= {
 sizeBuilder:=by kernel_rfl
 liesBuilder:=by kernel_rfl
 t5:=Tryz.underlying5
 a5:=Tryz.isAgg5
 z5:=Tryz.sizeOf5
 v5:=Tryz.zeroValue5
 infoByte:=by kernel_rfl
 cellsByte:=by kernel_rfl
 sizeByte:=by kernel_rfl
 neB5:=by decide }
theorem Tryz.Builder_WriteByte_k (B b:Nat) (bs:List Value) (c:Int) (w:World) (h:Lib.IsBuilderF 210 5 B b bs w) (hlen:bs.length+1≤140737488355328) (hBw:B≤w.heap.size):
  Calls Tryz.prog 212 #[.pointer (some ⟨b,0,none⟩), .int .u8 c] w fun e w'=>e= .returned .nilIface∧(Lib.BuilderAtF 210 5 B b (.pointer (some ⟨b,0,none⟩)) (bs++[.int .u8 c]) w'∧Go.RowKit.Below B w w'∧Lib.OthersKept 5 (some b) w w'):=Any.Builder_WriteByte_k Tryz.lays167 Tryz.Builder_Extra_167 B b bs c w h hlen hBw
theorem Tryz.Builder_WriteString_k (B b:Nat) (bs:List Value) (s:ByteArray) (w:World) (h:Lib.IsBuilderF 210 5 B b bs w) (hlen:bs.length+s.size≤140737488355328) (hBw:B≤w.heap.size):
  Calls Tryz.prog 214 #[.pointer (some ⟨b,0,none⟩), .string s] w fun e w'=>e= .returned (.tuple #[.int .i64 s.size, .nilIface])∧(Lib.BuilderAtF 210 5 B b (.pointer (some ⟨b,0,none⟩)) (bs++Lib.strCells s) w'∧Go.RowKit.Below B w w'∧Lib.OthersKept 5 (some b) w w'):=Any.Builder_WriteString_k Tryz.lays166 Tryz.Builder_Extra_166 B b bs s w h hlen hBw
end Go.Proofs
namespace Go.Proofs.YthndmdimmgkpgaaGreatDoor
section
open Go Go.RowKit Go.Am Go.Lib
set_option maxRecDepth 10000
-- BOXES 2
theorem Vn {x y:Nat} (hx:x<bs) (hy:y<bs):x*y≤999999998000000001:=(Nat.mul_le_mul (Nat.le_of_lt_succ hx) (Nat.le_of_lt_succ hy):x*y≤999999999*999999999)
theorem J8 (W:World) (p q:Option Addr) (cap cap2:Nat) (a b:Nat) (hA:A7 W p (lbs bs a)) (hB:A7 W q (lbs bs b)) (hna:(lbs bs a).length≤1000000) (hnb:(lbs bs b).length≤1000000):
  Ap Tryz.prog 158 #[slv p (lbs bs a).length cap,slv q (lbs bs b).length cap2] W (fun x:NV=>BA x (lbs bs (a*b)).length) (fun x=>Cd x (lbs bs (a*b))) (fun x=>[BD x (lbs bs (a*b))]):=by
 have hla:=Bl bs2 a
 have hlb:=Bl bs2 b
 have hal:=AQ bs2 a
 have hbl:=AQ bs2 b
 obtain⟨na,hna'⟩: ∃n,(lbs bs a).length=n:=⟨_,rfl⟩
 obtain⟨nb,hnb'⟩: ∃n,(lbs bs b).length=n:=⟨_,rfl⟩
 obtain⟨M,hM⟩: ∃M,M=na+nb+1:=⟨_,rfl⟩
 rw[hna'] at hna hal
 rw[hnb'] at hnb hbl
 refine Ae (args:=[slv p (lbs bs a).length cap,slv q (lbs bs b).length cap2]) Tryz.func158 I I I ?_
 rw[hna',hnb']
 refine zA (zB (wP I (Aa (zE (zA (zB ?_))))))
 iterate 6 refine wP I ?_
 refine wV 16 (M:Nat) I (by show w64 (w64 ((na:Int)+nb)+1)=_;rw[AZ (by omega),Av (by omega),hM]) ?_
 refine Cl Tryz.vec130 M I I I I I I I (by simp only[maxLen];omega) (by omega) ?_
 intro g
 have ez:BQ (Value.cells (.int .i64 0)).toList M=nI (List.replicate M 0)++[]:=by rw[List.append_nil];exact EU M
 rw[ez]
 refine wP I (Aa (zE (zA (zA (zB (wP I (wP I (wP I (Aa (zE (zH ?_)))))))))))
 refine A9 (X:=Nat×List Nat) (fun x=>[(1,slv q nb cap2),(5,slv (some ⟨g,0,none⟩) M M),(18,slv p na cap),(19, .int .i64 (na:Nat)),(20, .int .i64 (x.1:Nat))]) (fun x=>[⟨g,3,nI x.2++[],true,none⟩])
  (fun x=>x.1≤na∧x.2.length=M∧(∀y∈x.2,y<bs)∧lv bs x.2=a%bs^x.1*b) (fun x=>na-x.1) (0,List.replicate M 0) ⟨Nat.zero_le _,List.length_replicate,fun y hy=>by rw[List.eq_of_mem_replicate hy];decide,by rw[Ek];show 0=a%bs^0*b;rw[Nat.pow_zero,Nat.mod_one,Nat.zero_mul]⟩ ⟨rfl,rfl,rfl,rfl,rfl,trivial⟩ [] rfl ?_
 rintro⟨i,out⟩ ⟨hi,hlen,hob,hov⟩
 have hi:i≤na:=hi
 have hlen:out.length=M:=hlen
 refine zA (zB (wP I (Aa (zE (zA ?_)))))
 refine AA I (fun hc=> ?_) (fun hc=> ?_)
 ·have hi':i<na:=by simp at hc;omega
  clear hc
  obtain⟨pb,po,rfl,hrow⟩:=hA.row (show i<(lbs bs a).length by omega)
  obtain⟨x,hx⟩: ∃x,lim (lbs bs a) i=x:=⟨_,rfl⟩
  have hrx: ∀W' bx,Hp W bx W'→Ar W' pb (po+i*1) [.int .i64 (x:Nat)]:=fun W' bx hp=>by
   have:=(hrow i (by omega)).hp hp
   rwa [hx] at this
  have hxb:x<bs:=by rw[←hx];exact Bg bs2 hla i
  have hxe:x=a/bs^i%bs:=by rw[←hx];exact Bi bs2 a i
  refine zI (zE (zA (zH (zA (zB (wP I ?_))))))
  refine wJ ?_
  refine wL 0 I I (fun W' hp=>hrx W' _ hp) I (wP I (wP I (Aa (zE (zA (zB (wP I (Aa (zE (zA (zB (wP I (wP I (wP I ?_))))))))))))))
  refine wV 27 ((nb+1:Nat):Int) I (Av (by omega)) (wP I (Aa (zE (zH ?_))))
  refine A9 (X:=Nat×List Nat×Nat) (fun x'=>[(1,slv q nb cap2),(5,slv (some ⟨g,0,none⟩) M M),(6, .int .i64 (i:Nat)),(7, .int .i64 (x:Nat)),(8, .int .i64 (x'.2.2:Nat)),(18,slv (some ⟨pb,po,none⟩) na cap),(19, .int .i64 (na:Nat)),(20, .int .i64 (i:Nat)),(27, .int .i64 ((nb+1:Nat):Int)),(28, .int .i64 (x'.1:Nat))]) (fun x'=>[⟨g,3,nI x'.2.1++[],true,none⟩])
   (fun x'=>x'.1≤nb+1∧x'.2.1.length=M∧(∀y∈x'.2.1,y<bs)∧x'.2.2<bs∧lv bs x'.2.1+bs^(i+x'.1)*x'.2.2=lv bs out+bs^i*(x*(b%bs^x'.1))) (fun x'=>nb+1-x'.1) (0,out,0) ⟨Nat.zero_le _,hlen,hob,show 0<bs by decide,by show lv bs out+bs^(i+0)*0=lv bs out+bs^i*(x*(b%bs^0));rw[Nat.pow_zero,Nat.mod_one];simp⟩ ⟨rfl,rfl,rfl,rfl,rfl,rfl,rfl,rfl,rfl,rfl,trivial⟩ [] rfl ?_
  rintro⟨k,u,c⟩ ⟨hk,hul,hub,hcb,huv⟩
  have hk:k≤nb+1:=hk
  have hul:u.length=M:=hul
  refine zA (zB (wP I (Aa (zE (zA ?_)))))
  refine AA I (fun hc=> ?_) (fun hc=> ?_)
  ·have hk':k<nb+1:=by simp at hc;omega
   clear hc
   have hik:i+k<u.length:=by rw[hul];omega
   obtain⟨o,ho⟩: ∃o,lim u (i+k)=o:=⟨_,rfl⟩
   obtain⟨y,hy⟩: ∃y,lim (lbs bs b) k=y:=⟨_,rfl⟩
   have hob':o<bs:=by rw[←ho];exact Bg bs2 hub _
   have hyb:y<bs:=by rw[←hy];exact Bg bs2 hlb _
   have hou:u[i+k]? =some o:=by rw[Dn hik,ho]
   obtain⟨n,hn⟩: ∃n,n=o+x*y+c:=⟨_,rfl⟩
   have hnb2:=J5 hxb hyb hob' hcb hn
   have hn63:n<1000000000000000000:=hnb2.2
   have hxy:=Vn hxb hyb
   have hyy:=hy
   rw[Bi bs2] at hyy
   have hstep:=HV (n:=n) hou huv (by rw[hn,hyy])
   refine zI (zE (zA (zH (zA (zB (wP I (wP I (Aa (zE (zA (zU (qP I (qP I (qP I (qP I ?_)))))))))))))))
   refine qV 34 ((i+k:Nat):Int) I (AZ (by omega)) ?_
   refine qJ ?_
   refine qL 0 I I (fun W' hp=>Ar.of_intsX hp 0 I hik ho) I (qP I (qP I (qP I (qC I I (fun W' hp=>GH W' q cap2 nb (lbs bs b) k y (hB.hp hp) hnb' (by omega) hy) (qP I (qP I (qP I (qP I (qV 44 (n:Nat) I (by show w64 (w64 ((o:Int)+w64 ((x:Int)*y))+c)=_;rw[BZ (by omega),AZ (by omega),AZ (by omega),hn]) (qP I (AJ (Aa (zE ?_)))))))))))))
   refine zB (wP I (wP I (wP I (wP I (wV 48 ((i+k:Nat):Int) I (AZ (by omega)) (wP I ?_))))))
   refine Gk I I I I I (by decide) ?_
   refine wP I ?_
   refine CT I I I I I (by decide) ?_
   refine wV 52 ((n/bs:Nat):Int) I (BN (show n/bs<_ by have:=hnb2.1;show n/bs<9223372036854775808;have h9:bs=1000000000:=I;omega)) ?_
   refine wJ ?_
   refine Ad 0 (nI (u.set (i+k) (n%bs))++[]) tH I I I I I I I I I I (by show 0+(i+k)*1+1≤(nI u++[]).length;rw[List.append_nil,B5];omega) (Cn hik (n%bs)) ?_
   exact wP I (Aa (zN (zE (zB (wP I (wP I (Aa (A0 (k+1,u.set (i+k) (n%bs),n/bs) ⟨hk',by rw[List.length_set];exact hul,C6 hub (Nat.mod_lt _ (by decide)),hnb2.1,hstep⟩ (by show nb+1-(k+1)<nb+1-k;omega) ⟨I,I,I,I,I,I,I,I,I,congrArg (fun z=>some (Value.int .i64 z)) (Av (by omega)),tO⟩ [] I))))))))
  ·have hk':k=nb+1:=by simp at hc;omega
   subst hk'
   clear hc
   obtain⟨h1,_⟩:=Ms bs2 huv hbl hxb (by rw[hov];exact J7 bs2 hbl)
   have h2:=K0 (a:=a) (b:=b) (i:=i) hov
   rw[←hxe, ←h1] at h2
   exact zJ (zK (zK (zL (zN (zE (zB (wP I (wP I (Aa (A0 (i+1,u) ⟨hi',hul,hub,h2⟩ (by show na-(i+1)<na-i;omega) ⟨I,I,I,I,congrArg (fun z=>some (Value.int .i64 z)) (Av (by omega)),tO⟩ [] I))))))))))
 ·have hi':i=na:=by simp at hc;omega
  subst hi'
  clear hc
  rw[Nat.mod_eq_of_lt hal] at hov
  refine zJ (zK (zK (zL (zE (zA (zB ?_))))))
  have hV0:(⟨some g,M,[]⟩:Vec).OK 1 out.length (nI out):=⟨Eb _,(fun h=>by cases h),fun _=>⟨by show _≤M;omega,by show M≤maxLen;simp only[maxLen];omega,by show(nI out).length+0=M*1;rw[B5];omega⟩⟩
  obtain⟨j',hV2,he⟩:=FN hV0 hob
  refine wP I ?_
  refine Al 56 (slv (some ⟨g,0,none⟩) out.length M) I (by rw[hlen]) ?_
  refine wC I I (fun W hp=>CM W _ M _ (A7.of_bx hp 0 I) hob (by omega) (by omega)) (wP I (Aa (zE (zO ?_))))
  rw[hov] at hV2 he
  exact A8 tH I (.tmp I) ((g,M,j'):NV) (by rw[hov]) hV2 fun W hp=>A3.of_hp1 hp 0 (by show some (⟨g,3,nI out++[],true,none⟩:Bx)=some ⟨g,3,nI (lbs bs (a*b))++j',true,none⟩;rw[he])
-- BOXES 5
theorem Dt (l p:List UInt8):B7 Tryz.prog 170 [str l,str p] (.tuple #[str (trimPrefix l p), .bool (hasPrefix l p)]):=by
 intro W
 refine Ap.of1 ((Tryz.strings_CutPrefix ⟨l.toArray⟩ ⟨p.toArray⟩ W).mono ?_)
 rintro e w' ⟨rfl,rfl⟩
 exact⟨I,Below.refl _ _⟩
theorem JN (n:Int):hasPrefix (itoa n) [45]=decide (n<0):=by
 unfold itoa
 split
 ·rename_i h
  rw[dT h];rfl
 ·rename_i h
  rw[dF h]
  obtain⟨b,r,hb,h3,h4⟩:=Cz n.toNat
  rw[hb]
  have:(45:UInt8)≠b:=fun e=>by rw[←e] at h3;exact absurd h3 (by decide)
  simp[hasPrefix,List.isPrefixOf,this]
theorem MQ (s:List UInt8) (W:World):Ap Tryz.prog 171 #[str s] W (fun b:Nat=> .func (.func 218) #[] #[.pointer (some ⟨b,0,none⟩)]) (fun _=>True) (fun b=>[⟨b,9,[str s],true,none⟩]):=by
 refine Ae (args:=[str s]) Tryz.func171 I I I ?_
 refine zA (zB ?_)
 refine AD rfl rfl rfl rfl ?_;intro b
 exact wP I (Aa (zE (zA (zB (wP I (wP I (Aa (zE (zO (A8 tH I (.tmp I) b I tO fun W hp=>A3.of_hp hp))))))))))
abbrev dgs (n k:Nat):Nat:=n/10^k%10
theorem OF (b n:Nat) (hn:(decDigits n).length<4611686018427387904):
  Tj Tryz.prog 218 [.pointer (some ⟨b,0,none⟩)] (decDigits n).length (fun k=>[.int .i64 (k:Nat), .int .i64 (dgs n k:Nat)]) (fun W=>Ar W b 0 [str (decDigits n)]):=by
 refine⟨fun y J Jx hNeed hdr hY W hJ=> ?_⟩
 obtain⟨l,hl⟩: ∃l,decDigits n=l:=⟨_,rfl⟩
 have hget: ∀k,k<l.length→l[l.length-1-k]? =some (UInt8.ofNat (48+dgs n k)):=fun k hk=>by
  have:=SH (n:=n) (i:=k) (by rw[hl];exact hk)
  rwa [hl] at this
 rw[hl] at hn hY hNeed⊢
 refine Ea (args:=[.func (.yield y) #[] #[], .pointer (some ⟨b,0,none⟩)]) (J0:=J 0) Tryz.func218 I I I hJ ?_
 refine zA (zB (wL 0 I I (fun W hp=>hNeed 0 W hp) I (wP I (wV 5 (l.length:Nat) I (congrArg (fun n:Nat=>(n:Int)) (AH l)) (wP I (Aa (zE (zH ?_))))))))
 refine DI (X:=Nat) (fun k=>[(0, .func (.yield y) #[] #[]),(1, .pointer (some ⟨b,0,none⟩)),(5, .int .i64 (l.length:Nat)),(6, .int .i64 (k:Nat))]) J (fun k=>k≤l.length) (fun k=>l.length-k) 0 (Nat.zero_le _) ⟨I,I,I,I,tO⟩ (fun W h=>h) ?_
 intro k hk
 refine zA (zB (wP I (Aa (zE (zA ?_)))))
 refine AA I (fun hc=> ?_) (fun hc=> ?_)
 ·have hk':k<l.length:=by simp at hc;omega
  clear hc
  have hd10:dgs n k<10:=Nat.mod_lt _ (by omega)
  refine zI (zE (zA (zH (zA (zB (wP I (wP I (Aa (zE (zA (zB (wP I (wP I ?_)))))))))))))
  refine wL 0 I I (fun W hp=>hNeed k W hp) I (wL 0 I I (fun W hp=>hNeed k W hp) I (wP I (wV 13 (l.length:Nat) I (congrArg (fun n:Nat=>(n:Int)) (AH l)) (wP I (wP I (wP I (wV 16 ((l.length-1-k:Nat):Int) I (by show w64 (w64 ((l.length:Int)-1)-k)=_;rw[Ak (x:=(l.length:Int)-1) (by omega) (by omega),Ak (by omega) (by omega)];omega) ?_)))))))
  refine Bp (l.length-1-k) tH I I I I I I I I (hget k hk') ?_
  refine Al 17 (.int .u8 ((48+dgs n k:Nat):Int)) I (congrArg (Value.int .u8) (congrArg (fun n:Nat=>(n:Int)) (Dh hd10))) ?_
  refine wP I ?_
  refine Al 18 (.int .u8 (dgs n k:Nat)) I (congrArg (Value.int .u8) (by show IntKind.u8.wrap (((48+dgs n k:Nat):Int)-48)=_;rw[show((48+dgs n k:Nat):Int)-48=(dgs n k:Nat) by omega,Ou (by omega) (by omega)])) ?_
  refine F9 Tryz.underlying5 Tryz.underlying3 I I I I ?_
  refine wV 19 (dgs n k:Nat) I (BN (by omega)) ?_
  refine FQ (A1:=J (k+1)) (A2:=Jx) I I I I I I (fun W hp=>hY k W hk' hp) ?_ ?_
  ·exact wP I (Aa (zE (zS I (zI (zN (zE (zB (wP I (wP I (Aa (DO (k+1) hk' (by omega) ⟨I,I,I,congrArg (fun z=>some (Value.int .i64 z)) (Av (by omega)),tO⟩ (fun W h=>h))))))))))))
  ·exact wP I (Aa (zE (zR I (zO (zQ (zP (zP (zQ (CZ I (fun W h=>h))))))))))
 ·have hk':k=l.length:=by simp at hc;omega
  subst hk'
  exact zJ (zK (zK (zL (Hv I fun W h=>h))))
theorem BT (W:World) (n:Int) (hn:(decDigits n.natAbs).length≤1000000):
  Ap Tryz.prog 118 #[str (itoa n)] W (fun x:NV=> .agg #[.bool (decide (n<0)),BA x (lbs bs n.natAbs).length]) (fun x=>Cd x (lbs bs n.natAbs)) (fun x=>[BD x (lbs bs n.natAbs)]):=by
 obtain⟨m,hm⟩: ∃m,n.natAbs=m:=⟨_,rfl⟩
 obtain⟨L,hL⟩: ∃L,(decDigits m).length=L:=⟨_,rfl⟩
 obtain⟨K,hK⟩: ∃K,K=(L+8)/9:=⟨_,rfl⟩
 rw[hm] at hn⊢
 rw[hL] at hn
 refine Ae (args:=[str (itoa n)]) Tryz.func118 I I I ?_
 refine zA (zB ?_)
 (refine Ao Tryz.hZ rfl rfl rfl rfl ?_;intro)
 refine Aa ?_
 rename_i b2
 refine zE (zA (zB (wP I (wC I I (fun W _=>Dt (itoa n) [45] W) ?_))))
 refine Al 11 (.tuple #[str (decDigits m), .bool (decide (n<0))]) I (by rw[BB,JN,hm]) ?_
 iterate 5 refine wP I ?_
 refine Aa (zE (zA (zB (wP I (wP I (wP I (wV 16 (L:Nat) I (congrArg (fun n:Nat=>(n:Int)) ((AH _).trans hL)) (wP I (wP I (wV 18 ((L+8:Nat):Int) I (by show w64 (w64 ((L:Int)+9)-1)=_;rw[Ak (x:=(L:Int)+9) (by omega) (by omega),Ak (by omega) (by omega)];omega) ?_))))))))))
 refine CT I I I I I (by decide) ?_
 refine wV 19 (K:Nat) I (by show w64 (((L+8:Nat):Int).tdiv ((9:Nat):Int))=_;rw[EO, ←hK];exact BN (by omega)) ?_
 refine Cl Tryz.vec130 K I I I I I I I (by simp only[maxLen];omega) (by omega) ?_
 intro g
 have ez:BQ (Value.cells (.int .i64 0)).toList K=nI (List.replicate K 0)++[]:=by rw[List.append_nil];exact EU K
 rw[ez]
 refine AC Tryz.hZ tH I I I I I I I I ?_
 (refine Ao Tryz.hZ rfl rfl rfl rfl ?_;intro)
 refine wS 2 I I I (Aa ?_)
 rename_i b5
 refine zE (zA (zB ?_))
 (refine Ao Tryz.hZ rfl rfl rfl rfl ?_;intro)
 refine wS 3 I I I (Aa ?_)
 rename_i b6
 refine zE (zA (zA (zB (wP I ?_))))
 refine wD (X:=Nat) I I (fun W _=>MQ (decDigits m) W) ?_
 intro b7 _
 refine Aa (zE (zH ?_))
 refine IU (X:=List Nat×Nat) (fun x=>[⟨b2,132,[.bool false, .slice none 0 0],true,none⟩,⟨g,3,nI x.1++[],true,none⟩,⟨b5,132,[.bool (decide (n<0)),slv (some ⟨g,0,none⟩) K K],true,none⟩,⟨b6,3,[.int .i64 (x.2:Nat)],true,none⟩,⟨b7,9,[str (decDigits m)],true,none⟩])
  (fun k x=>x.1.length=K∧(∀y∈x.1,y<bs)∧lv bs x.1=m%10^k∧(k%9≠0→x.2=10^(k%9))) (fun _ _=>False) (List.replicate K 0,1) rfl (by kernel_rfl) (OF b7 m (by omega)) (fun _=>rfl)
  ⟨List.length_replicate,Hg (by decide) K,by rw[Ek];show 0=m%10^0;rw[Nat.pow_zero,Nat.mod_one],fun h=>absurd rfl h⟩ [] rfl (fun k x W _ hp=>Ar.of_bx hp 4 rfl rfl) ?_ ?_ (fun _ _ _ _ _ h=>h.elim)
 ·rintro k ⟨l,u⟩ d Lo rec hk ⟨hl,hlb,hlv,hu⟩ hrec
  have hl:l.length=K:=hl
  rw[hL] at hk
  have hj:k/9<l.length:=by rw[hl];omega
  obtain⟨o,ho⟩: ∃o,lim l (k/9)=o:=⟨_,rfl⟩
  have hlo:l[k/9]? =some o:=by rw[Dn hj,ho]
  obtain⟨dg,hdg⟩: ∃x,dgs m k=x:=⟨_,rfl⟩
  have hd10:dg<10:=by rw[←hdg];exact Nat.mod_lt _ (by omega)
  obtain⟨q1,q2,q3⟩:=RQ (w:=9) (B:=bs) (n:=m) (by decide) (by decide) hlb hlv hlo hdg.symm
  have h10:10^(k%9)≤100000000:=by
   have:10^(k%9)≤10^8:=Nat.pow_le_pow_right (by omega) (by omega)
   simpa using this
  have hdu:dg*10^(k%9)≤1000000000:=by
   have:=Nat.mul_le_mul (Nat.le_of_lt hd10) h10
   omega
  have q2':o+dg*10^(k%9)<1000000000:=q2
  refine zA (zB (wP I (Aa (zE (zB (wP I (Aa ?_)))))))
  refine CQ 6 hrec I ?_
  refine zH (zA (zA (zB (wP I ?_))))
  refine Gk I I I I I (by decide) ?_
  refine wP I (Aa (zE ?_))
  refine AM (X:=Unit) (fun _=>[(2,An b2),(5,An b5),(6,An b6),(7, .int .i64 (k:Nat)),(8, .int .i64 (dg:Nat))]) (fun _=>[⟨b2,132,[.bool false, .slice none 0 0],true,none⟩,⟨g,3,nI l++[],true,none⟩,⟨b5,132,[.bool (decide (n<0)),slv (some ⟨g,0,none⟩) K K],true,none⟩,⟨b6,3,[.int .i64 ((10^(k%9):Nat):Int)],true,none⟩,⟨b7,9,[str (decDigits m)],true,none⟩,B8 d,Bj Lo rec .busy none]) (fun _=>True) ?_ ?_
  ·refine AA I (fun hc=> ?_) (fun hc=> ?_)
   ·have hk0:k%9=0:=by
     have h':(((k:Nat):Int).tmod ((9:Nat):Int)==0)=true:=hc
     rw[OL,beq_iff_eq] at h';omega
    exact zB (wS 3 I I I (Aa (At () tO ⟨I,I,I,I,congrArg (fun n:Nat=>some (Value.int .i64 (n:Int))) hdg,tO⟩ [] (by rw[hk0];rfl))))
   ·have hk0:k%9≠0:=by
     have h':(((k:Nat):Int).tmod ((9:Nat):Int)==0)=false:=hc
     rw[OL,beq_eq_false_iff_ne] at h';omega
    exact zI (At () tO ⟨I,I,I,I,congrArg (fun n:Nat=>some (Value.int .i64 (n:Int))) hdg,tO⟩ [] (by rw[←hu hk0];rfl))
  ·intro _ _
   refine zA (zU (qP I (qB 2 I I I (qP I ?_))))
   refine IX I I I I I (by decide) ?_
   refine qV 32 ((k/9:Nat):Int) I (by show w64 (((k:Nat):Int).tdiv ((9:Nat):Int))=_;rw[EO];exact BN (by omega)) ?_
   refine qJ ?_
   refine qL 0 I I (fun W' hp=>Ar.of_intsX hp 1 I hj ho) I (qP I (qB 3 I I I (qP I (qP I (qV 38 ((o+dg*10^(k%9):Nat):Int) I (by show w64 ((o:Int)+w64 ((dg:Int)*((10^(k%9):Nat):Int)))=_;rw[BZ (by omega),AZ (by omega)]) ?_)))))
   refine qJ ?_
   refine AJ ?_
   refine Ad 1 (nI (l.set (k/9) (o+dg*10^(k%9)))++[]) tH I I I I I I I I I I (by show 0+(k/9)*1+1≤(nI l++[]).length;rw[List.append_nil,B5];omega) (Cn hj _) ?_
   refine Aa (zE (zB (wB 3 I I I (wP I (wV 41 ((10^(k%9)*10:Nat):Int) I (BZ (Nat.lt_of_le_of_lt (Nat.mul_le_mul_right 10 h10) (by decide))) (wS 3 I I I (Aa (zN ?_))))))))
   refine Co 6 (l.set (k/9) (o+dg*10^(k%9)),10^(k%9)*10) hrec I ⟨by rw[List.length_set];exact hl,C6 hlb q2,q3,fun h=> ?_⟩ [] I
   show 10^(k%9)*10=10^((k+1)%9)
   rw[show(k+1)%9=k%9+1 by omega,Nat.pow_succ]
 ·rintro⟨l,u⟩ d Lo rec ⟨hl,hlb,hlv,_⟩
  have hl:l.length=K:=hl
  have hlv:lv bs l=m%10^(decDigits m).length:=hlv
  rw[hL] at hlv
  have hmL:m<10^L:=by rw[←hL];exact FM m
  rw[Nat.mod_eq_of_lt hmL] at hlv
  have hV0:(⟨some g,K,[]⟩:Vec).OK 1 l.length (nI l):=⟨Eb _,(fun h=>by cases h),fun _=>⟨by show _≤K;omega,by show K≤maxLen;simp only[maxLen];omega,by show(nI l).length+0=K*1;rw[B5];omega⟩⟩
  obtain⟨j',hV2,he⟩:=FN hV0 hlb
  refine zN (zE (zA (zB (wP I (wB 2 I I I ?_)))))
  refine Al 43 (slv (some ⟨g,0,none⟩) l.length K) I (by rw[hl]) ?_
  refine wC I I (fun W hp=>CM W _ K _ (A7.of_bx hp 1 I) hlb (by omega) (by omega)) (wP I (wS 2 I I I (Aa (zE (zA (zB (wB 2 I I I (wS 0 I I I (Aa (zE (zO ?_)))))))))))
  rw[hlv] at hV2 he
  refine CJ 5 I ?_
  exact A8 tH I (.cell 0 I I I I I) ((g,K,j'):NV) (by rw[hlv];rfl) hV2 fun W hp=>A3.of_hp1 hp 1 (by show some (⟨g,3,nI l++[],true,none⟩:Bx)=some ⟨g,3,nI (lbs bs m)++j',true,none⟩;rw[he])
-- BOXES 3
def BP (W:World):Prop:= ∃m,W.cell? ⟨3,0,none⟩=some (.int .i64 m)
theorem OX {W0 W:World} {b:Nat} {v:Value} (h:W0.cell? ⟨b,0,none⟩=some v) (hb:Below W0.heap.size W0 W):W.cell? ⟨b,0,none⟩=some v:=by
 have hlt:b<W0.heap.size:=by
  obtain⟨c,e,fr,h1,_⟩:=Sort.cells_of_cell? h
  exact(Array.getElem?_eq_some_iff.1 h1).1
 have e:=hb.block b hlt
 unfold World.cell? at h⊢
 simp only at h⊢
 rw[e]
 exact h
theorem BP.below {W0 W:World} (h:BP W0) (hb:Below W0.heap.size W0 W):BP W:=by
 obtain⟨m,h1⟩:=h
 exact⟨m,OX h1 hb⟩
theorem BP.hp {W0 W:World} {bxs:List Bx} (h:BP W0) (hp:Hp W0 bxs W):BP W:=h.below hp.below
theorem NY (W:World) (l:List UInt8) (hl:l.length≤4000000000) (hv:BP W):
  Ap Tryz.prog 202 #[str l,str [47]] W (fun _:Unit=> .tuple #[str (cut l [47]).1,str (cut l [47]).2.1, .bool (cut l [47]).2.2]) (fun _=>True) (fun _=>[]):=by
 obtain⟨m,hm⟩:=hv
 have hsz:(⟨l.toArray⟩:ByteArray).size=l.length:=by show l.toArray.size=_;simp
 refine Ap.of1 ((Tryz.strings_Cut ⟨l.toArray⟩ ⟨#[47]⟩ m W (by rw[hsz];omega) hm).mono ?_)
 rintro e W' ⟨rfl,n,rfl⟩
 refine⟨I, ?_⟩
 have:=Li W n #[]
 rwa [Sort.grow_empty] at this
def okB (s:List UInt8):Prop:=ldn s=s.length∧s≠[]∧(1<s.length→s[0]? ≠some 48)
instance (s:List UInt8):Decidable (okB s):=by unfold okB;infer_instance
theorem Uf (s:List UInt8):(dgN s=0∨dgN s<s.length)↔ ¬okB s:=by
 have hle:=Ib s
 unfold dgN okB
 by_cases h:1<ldn s∧s[0]? =some 48
 ·rw[if_pos h]
  exact⟨fun _ hk=>hk.2.2 (by omega) h.2,fun _=> .inl I⟩
 ·rw[if_neg h]
  constructor
  ·rintro(h1|h1) ⟨h2,h3,_⟩
   ·exact h3 (List.length_eq_zero_iff.1 (by omega))
   ·omega
  ·intro hk
   by_cases h1:ldn s=0
   ·exact .inl h1
   ·by_cases h2:ldn s<s.length
    ·exact .inr h2
    ·exact absurd ⟨by omega,fun e=>h1 (by rw[e];rfl),fun h3 h4=>h ⟨by omega,h4⟩⟩ hk
theorem RY {x:List UInt8}:FY x=none↔ ¬(okB (trimPrefix x [45])∧ ¬(hasPrefix x [45]=true∧trimPrefix x [45]=[48])):=by
 unfold FY okB
 constructor
 ·intro h hc
  rw[if_pos ⟨hc.1.1,hc.1.2.1,hc.1.2.2,hc.2⟩] at h
  cases h
 ·intro h
  exact if_neg fun hc=>h ⟨⟨hc.1,hc.2.1,hc.2.2.1⟩,hc.2.2.2⟩
abbrev IA (a b:List UInt8):Value:= .agg #[str a,str b]
def KX (a:List UInt8):Value:=match frm a with
 |none=> .tuple #[IA [] [], .bool false]
 |some (z,d)=> .tuple #[IA (itoa z) (decDigits d), .bool true]
theorem WU {a:List UInt8} (h:FY (cut a [47]).1=none):KX a= .tuple #[IA [] [], .bool false]:=by
 have e:frm a=none:=by unfold frm;rw[h]
 rw[KX,e]
theorem WP {a:List UInt8} (h:FY (cut a [47]).1≠none) (hf:(cut a [47]).2.2=false):KX a= .tuple #[IA (cut a [47]).1 [49], .bool true]:=by
 cases hi:FY (cut a [47]).1 with
 |none=>exact absurd hi h
 |some z=>
  have e:frm a=some (z,1):=by unfold frm;rw[hi];exact if_pos hf
  rw[KX,e,FK.1 hi]
  show Value.tuple #[IA (itoa z) (decDigits 1), .bool true]=_
  rw[F6]
theorem WO {a:List UInt8} (h:FY (cut a [47]).1≠none) (hf: ¬(cut a [47]).2.2=false) (hk:okB (cut a [47]).2.1∧(cut a [47]).2.1≠[48]∧(cut a [47]).2.1≠[49]):KX a= .tuple #[IA (cut a [47]).1 (cut a [47]).2.1, .bool true]:=by
 cases hi:FY (cut a [47]).1 with
 |none=>exact absurd hi h
 |some z=>
  have e:frm a=some (z,AV (cut a [47]).2.1):=by unfold frm;rw[hi];exact(if_neg hf).trans (if_pos ⟨hk.1.1,hk.1.2.1,hk.1.2.2,hk.2.1,hk.2.2⟩)
  rw[KX,e]
  show Value.tuple #[IA (itoa z) (decDigits (AV _)), .bool true]=_
  rw[Ft _ rfl (IW hk.1), ←FK.1 hi]
theorem WR {a:List UInt8} (h:FY (cut a [47]).1≠none) (hf: ¬(cut a [47]).2.2=false) (hk: ¬(okB (cut a [47]).2.1∧(cut a [47]).2.1≠[48]∧(cut a [47]).2.1≠[49])):KX a= .tuple #[IA [] [], .bool false]:=by
 cases hi:FY (cut a [47]).1 with
 |none=>exact absurd hi h
 |some z=>
  have e:frm a=none:=by unfold frm;rw[hi];exact(if_neg hf).trans (if_neg fun hc=>hk ⟨⟨hc.1,hc.2.1,hc.2.2.1⟩,hc.2.2.2⟩)
  rw[KX,e]
theorem Rt (a:List UInt8):(cut a [47]).1.length≤a.length∧(cut a [47]).2.1.length≤a.length:=by
 rcases Ga 47 a with h|⟨x,y,rfl,hx⟩
 ·rw[En h];exact⟨Nat.le_refl _,Nat.zero_le _⟩
 ·rw[F4 y hx,List.length_append,List.length_cons]
  constructor<;>simp<;>omega
theorem B4 (a b:List UInt8):((⟨a.toArray⟩:ByteArray).toList==(⟨b.toArray⟩:ByteArray).toList)=decide (a=b):=by
 by_cases h:a=b
 ·subst h;simp
 ·rw[dF h,beq_eq_false_iff_ne]
  intro e;exact h (by simpa using e)
theorem Lb (a:List UInt8) (hl:a.length≤4000000000) (W:World) (hv:BP W):
  Ap Tryz.prog 155 #[str a] W (fun _:Unit=>KX a) (fun _=>True) (fun _=>[]):=by
 obtain⟨hx1,hy1⟩:=Rt a
 refine Ae (args:=[str a]) Tryz.func155 I I I ?_
 refine zA (zB ?_)
 (refine Ao Tryz.hZ rfl rfl rfl rfl ?_;intro)
 refine wP I (Aa ?_)
 rename_i b2
 refine zE (zA (zB (wP I (wC I I (fun W hp=>NY W a hl (hv.hp hp)) ?_))))
 iterate 7 refine wP I ?_
 refine Aa ?_
 have hA:= @WU a
 have hB:= @WP a
 have hC:= @WO a
 have hD:= @WR a
 obtain⟨x,hx⟩: ∃x,(cut a [47]).1=x:=⟨_,rfl⟩
 obtain⟨y,hy⟩: ∃y,(cut a [47]).2.1=y:=⟨_,rfl⟩
 obtain⟨f,hf⟩: ∃f,(cut a [47]).2.2=f:=⟨_,rfl⟩
 rw[hx] at hx1
 rw[hy] at hy1
 simp only[hx,hy,hf] at hA hB hC hD⊢
 obtain⟨o,ho⟩: ∃o,trimPrefix x [45]=o:=⟨_,rfl⟩
 obtain⟨p,hp⟩: ∃p,hasPrefix x [45]=p:=⟨_,rfl⟩
 have hol:o.length≤x.length:=by rw[←ho,Bb];split;rw[List.length_drop];omega;exact Nat.le_refl _
 have hN:= @RY x
 rw[ho,hp] at hN
 refine zE (zA (zB (wP I (wC I I (fun W _=>(Dt x [45] W).cast (by rw[ho,hp])) ?_))))
 iterate 5 refine wP I ?_
 refine Aa (zE (zA (zA (zB (wP I (wC I I (fun W _=>HK o (by omega) W) (wP I (Aa ?_))))))))
 have hdg:=Uf o
 have hdl:dgN o≤o.length:=by unfold dgN;split;exact Nat.zero_le _;exact Ib o
 obtain⟨n,hn⟩: ∃n,dgN o=n:=⟨_,rfl⟩
 rw[hn] at hdg hdl
 rw[hn]
 refine AT (Au ?_)
 refine AM (X:=Bool) (fun c=>[(2,An b2),(4,str x),(5,str y),(6, .bool f),(38, .bool c)]) (fun _=>[⟨b2,119,[str [],str []],true,none⟩]) (fun c=>(c=true↔FY x=none)) ?_ ?_
 ·refine zB (wP I ?_)
  by_cases h0:n=0
  ·refine Al 24 (.int .i64 0) I (by rw[h0];rfl) ?_
   refine wP I (wP I ?_)
   iterate 4 refine Aw I I ?_
   refine wP I (wP I ?_)
   iterate 5 refine Aw I I ?_
   exact wP I (Aa (At true ⟨fun _=>hN.2 fun h=>hdg.1 (.inl h0) h.1,fun _=>rfl⟩ ⟨I,I,I,I,I,tO⟩ [] I))
  ·refine wP I (wU 25 false I (by rw[beq_eq_false_iff_ne];omega) (wP I (wP I (wP I (wP I ?_)))))
   refine Al 29 (.int .i64 (o.length:Nat)) I (congrArg (fun n:Nat=>Value.int .i64 (n:Int)) (AH o)) ?_
   refine wP I ?_
   by_cases h1:n<o.length
   ·refine wU 30 true I (dT (by omega)) (wP I (wP I ?_))
    iterate 5 refine Aw I I ?_
    exact wP I (Aa (At true ⟨fun _=>hN.2 fun h=>hdg.1 (.inr h1) h.1,fun _=>rfl⟩ ⟨I,I,I,I,I,tO⟩ [] I))
   ·have hok:okB o:=Decidable.byContradiction fun h=>(hdg.2 h).elim h0 h1
    refine wU 30 false I (dF (by omega)) (wP I (wP I (wP I (wP I ?_))))
    cases p with
    |false=>
     iterate 2 refine Aw I I ?_
     exact wP rfl (wP rfl (Aa (At false ⟨fun h=>(by cases h),fun h=>absurd h fun h=>hN.1 h ⟨hok,fun h=>(by cases h.1)⟩⟩ ⟨rfl,rfl,rfl,rfl,rfl,trivial⟩ [] rfl)))
    |true=>
     refine wP I (wP I (wU 36 (decide (o=[48])) I (B4 o [48]) (wP I (wP I (Aa ?_)))))
     exact At (decide (o=[48])) (by
      rw[decide_eq_true_iff,hN]
      exact⟨fun h h2=>h2.2 ⟨I,h⟩,fun h=>Decidable.byContradiction fun h2=>h ⟨hok,fun h3=>h2 h3.2⟩⟩) ⟨I,I,I,I,I,tO⟩ [] I
 ·intro c hc
  refine AA I (fun hcc=> ?_) (fun hcc=> ?_)
  ·refine zA (zB ?_)
   refine AC Tryz.hZ tH I I I I I I I I ?_
   exact wS 0 I I I (wP I (Aa (zE (zO (zP (AR tH I (.cell 0 I I I I I) (.tmp I) () (hA (hc.1 hcc)).symm tO fun W _=>A3.nil _ _))))))
  ·have hi:FY x≠none:=fun h=>by rw[hc.2 h] at hcc;cases hcc
   have hB:=hB hi
   have hC:=hC hi
   have hD:=hD hi
   refine zI (zE (zA (zA (zB (wP I (wP I ?_))))))
   cases f with
   |false=>
    refine Aa (zE (zR I (zA (zB (wP I ?_)))))
    refine AC Tryz.hZ tH I I I I I I I I ?_
    exact wS 0 I I I (wP I (Aa (zE (zO (zP (AR tH I (.cell 0 I I I I I) (.tmp I) () (hB I).symm tO fun W _=>A3.nil _ _))))))
   |true=>
    have hC:=hC (by decide)
    have hD:=hD (by decide)
    refine Aa (zE (zS I (zI (zE (zA (zA (zB (wP I (wC I I (fun W _=>HK y (by omega) W) (wP I (Aa ?_)))))))))))
    have hdg:=Uf y
    have hdl:dgN y≤y.length:=by unfold dgN;split;exact Nat.zero_le _;exact Ib y
    obtain⟨n,hn⟩: ∃n,dgN y=n:=⟨_,rfl⟩
    rw[hn] at hdg hdl
    rw[hn]
    refine AT (Au ?_)
    refine AM (X:=Bool) (fun c=>[(2,An b2),(4,str x),(5,str y),(61, .bool c)]) (fun _=>[⟨b2,119,[str [],str []],true,none⟩]) (fun c=>(c=false↔(okB y∧y≠[48]∧y≠[49]))) ?_ ?_
    ·refine zB (wP I ?_)
     by_cases h0:n=0
     ·refine Al 46 (.int .i64 0) I (by rw[h0];rfl) ?_
      refine wP I (wP I ?_)
      iterate 4 refine Aw I I ?_
      refine wP I (wP I ?_)
      iterate 2 refine Aw I I ?_
      refine wP I (wP I ?_)
      iterate 2 refine Aw I I ?_
      exact wP rfl (Aa (At true ⟨fun h=>(by cases h),fun h=>absurd h.1 (hdg.1 (.inl h0))⟩ ⟨rfl,rfl,rfl,rfl,trivial⟩ [] rfl))
     ·refine wP I (wU 47 false I (by rw[beq_eq_false_iff_ne];omega) (wP I (wP I (wP I (wP I ?_)))))
      refine Al 51 (.int .i64 (y.length:Nat)) I (congrArg (fun n:Nat=>Value.int .i64 (n:Int)) (AH y)) ?_
      refine wP I ?_
      by_cases h1:n<y.length
      ·refine wU 52 true I (dT (by omega)) (wP I (wP I ?_))
       iterate 2 refine Aw I I ?_
       refine wP I (wP I ?_)
       iterate 2 refine Aw I I ?_
       exact wP rfl (Aa (At true ⟨fun h=>(by cases h),fun h=>absurd h.1 (hdg.1 (.inr h1))⟩ ⟨rfl,rfl,rfl,rfl,trivial⟩ [] rfl))
      ·have hok:okB y:=Decidable.byContradiction fun h=>(hdg.2 h).elim h0 h1
       refine wU 52 false I (dF (by omega)) (wP I (wP I (wP I (wP I ?_))))
       by_cases h2:y=[48]
       ·refine wU 56 true I ((B4 y [48]).trans (dT h2)) (wP I (wP I ?_))
        iterate 2 refine Aw I I ?_
        exact wP rfl (Aa (At true ⟨fun h=>(by cases h),fun h=>absurd h2 h.2.1⟩ ⟨rfl,rfl,rfl,rfl,trivial⟩ [] rfl))
       ·refine wU 56 false I ((B4 y [48]).trans (dF h2)) (wP I (wP I (wP I (wP I (wU 60 (decide (y=[49])) I (B4 y [49]) (wP I (Aa ?_)))))))
        exact At (decide (y=[49])) (by
         rw[decide_eq_false_iff_not]
         exact⟨fun h=>⟨hok,h2,h⟩,fun h=>h.2.2⟩) ⟨I,I,I,I,tO⟩ [] I
    ·intro c hc
     refine AA I (fun hcc=> ?_) (fun hcc=> ?_)
     ·refine zA (zB ?_)
      refine AC Tryz.hZ tH I I I I I I I I ?_
      exact wS 0 rfl rfl rfl (wP rfl (Aa (zE (zO (zP (AR tH rfl (.cell 0 rfl rfl rfl rfl rfl) (.tmp rfl) () (hD fun h=>by rw[hc.2 h] at hcc;cases hcc).symm trivial fun W _=>A3.nil _ _))))))
     ·refine zI (zE (zA (zB (wP I (wP I ?_)))))
      refine AC Tryz.hZ tH I I I I I I I I ?_
      exact wS 0 I I I (wP I (Aa (zE (zO (AR tH I (.cell 0 I I I I I) (.tmp I) () (hC (hc.1 hcc)).symm tO fun W _=>A3.nil _ _)))))
-- BOXES 3
theorem Tw (z:Int) {d:Nat} (hd:d≠0):(mkRat z d).num=z/((Nat.gcd z.natAbs d:Nat):Int)∧(mkRat z d).den=d/Nat.gcd z.natAbs d:=by
 rw[mkRat,dif_neg hd,Rat.normalize_eq]
 exact⟨I,I⟩
theorem Pp {z:Int} {d:Nat} (hd:d≠0) (h:d/Nat.gcd z.natAbs d=1):Af (mkRat z d)=itoa (z/((Nat.gcd z.natAbs d:Nat):Int)):=by
 obtain⟨h1,h2⟩:=Tw z hd
 rw[Af,FJ,h2,h1,if_pos h]
theorem Oy {z:Int} {d:Nat} (hd:d≠0) (h: ¬d/Nat.gcd z.natAbs d=1):Af (mkRat z d)=itoa (z/((Nat.gcd z.natAbs d:Nat):Int))++[47]++itoa ((d/Nat.gcd z.natAbs d:Nat):Int):=by
 obtain⟨h1,h2⟩:=Tw z hd
 rw[Af,FJ,h2,h1,if_neg h,BW];simp
theorem Nf (n:Int) (h0: -1000000000000000000<n) (h1:n<1000000000000000000):(itoa n).length≤20:=by
 have h:=Gl 18 n.natAbs (by decide) (by
  have:(10:Nat)^18=1000000000000000000:=by decide
  omega)
 unfold itoa
 split
 ·rw[List.length_cons];omega
 ·rw[show n.toNat=n.natAbs by omega];omega
theorem Nj (z d:Int) (hd:d≠0) (hz:z.natAbs<1000000000000000000) (hd2:d.natAbs<1000000000000000000) (W:World) (ht:Bc W):
  Ap Tryz.prog 107 #[FR z d] W (fun _:Unit=>str (Af (mkRat (if d<0 then -z else z) d.natAbs))) (fun _=>True) (fun _=>[]):=by
 refine Ae (args:=[FR z d]) Tryz.func107 I I I ?_
 refine zA (zB ?_)
 (refine AD rfl rfl rfl rfl ?_;intro)
 refine wP I (Aa ?_)
 rename_i b1
 refine zE (zA (zA (zB (wP I (wB 0 I I I (wP I (Aa (AT ?_))))))))
 refine AM (X:=Unit) (fun _=>[(1,An b1)]) (fun _=>[⟨b1,72,[.int .i64 (if d<0 then -z else z), .int .i64 ((d.natAbs:Nat):Int)],true,none⟩]) (fun _=>True) ?_ ?_
 ·refine AA I (fun hc=> ?_) (fun hc=> ?_)
  ·have hc:=of_decide_eq_true hc
   refine zB (wP I (wB 0 I I I (wP I (wV 11 (-z) I (by show w64 (0-z)=_;rw[Ak (by omega) (by omega)];omega) (wP I (wB 0 I I I (wP I (wV 14 ((d.natAbs:Nat):Int) I (by show w64 (0-d)=_;rw[Ak (by omega) (by omega)];omega) (wP I (wS 0 I I I (wP I (wS 0 I I I (Aa ?_)))))))))))))
   rw[if_pos hc]
   exact At () tO ⟨I,tO⟩ [] I
  ·have hc:=of_decide_eq_false hc
   refine zI ?_
   rw[if_neg hc,show((d.natAbs:Nat):Int)=d by omega]
   exact At () tO ⟨I,tO⟩ [] I
 ·intro _ _
  obtain⟨x,hx⟩: ∃x,(if d<0 then -z else z)=x:=⟨_,rfl⟩
  obtain⟨e,he⟩: ∃e,d.natAbs=e:=⟨_,rfl⟩
  rw[hx,he]
  have he0:e≠0:=by omega
  have hxa:x.natAbs<1000000000000000000:=by rw[←hx];split<;>omega
  obtain⟨g,hg⟩: ∃g,Nat.gcd x.natAbs e=g:=⟨_,rfl⟩
  have hg0:0<g:=by rw[←hg];exact Nat.gcd_pos_of_pos_right _ (by omega)
  obtain⟨k,hk⟩: ∃k,x=(g:Int)*k:=Int.natAbs_dvd_natAbs.1 (by rw[Int.natAbs_natCast, ←hg];exact Nat.gcd_dvd_left ..)
  obtain⟨m,hm⟩: ∃m,e=g*m:=by rw[←hg];exact Nat.gcd_dvd_right ..
  have hkx:k.natAbs≤x.natAbs:=by rw[hk,Int.natAbs_mul];exact Nat.le_mul_of_pos_left _ (by omega)
  have hme:m≤e:=by rw[hm];exact Nat.le_mul_of_pos_left _ hg0
  have hq1:x/(g:Int)=k:=by rw[hk];exact Int.mul_ediv_cancel_left _ (by omega)
  have hq2:e/g=m:=by rw[hm];exact Nat.mul_div_cancel_left _ hg0
  have ht1:x.tdiv (g:Int)=k:=by rw[hk];exact Int.mul_tdiv_cancel_left _ (by omega)
  have ht2:((e:Nat):Int).tdiv (g:Int)=(m:Nat):=by rw[hm,Int.natCast_mul];exact Int.mul_tdiv_cancel_left _ (by omega)
  refine Au (zB (wP I (wB 0 I I I (wP I (wB 0 I I I (wP I (wV 21 (-x) I (by show w64 (0-x)=_;rw[Ak (by omega) (by omega)];omega) (wP I (wV 22 ((x.natAbs:Nat):Int) I (by show(if -x>x then -x else x)=_;split<;>omega) (wP I (wB 0 I I I (wC I I (fun W _=>(Lw x.natAbs e (by omega) (by omega) W).cast (by rw[hg])) (wP I ?_)))))))))))))
  refine Aa (zE (zA (zU (qP I (qB 0 I I I (qP I ?_))))))
  refine IX I I I I I (by omega) ?_
  refine qV 29 k I (by rw[ht1];exact Ak (by omega) (by omega)) (qP I (qB 0 I I I (qP I ?_)))
  refine IX I I I I I (by omega) ?_
  refine qV 33 ((m:Nat):Int) I (by rw[ht2];exact Ak (by omega) (by omega)) (qP I (qP I (AJ (Aa (zE (zA (zA (zB (wP I (wP I ?_))))))))))
  by_cases hm1:m=1
  ·exact wU 35 true I (by rw[hm1];rfl) (Aa (zE (zR I (zA (zB (wP I (wC I I (fun W hp=>BO k (by omega) (by omega) W (ht.hp hp)) (wP I (Aa (zE (zO (zP (wR1 I I (by rw[Pp he0 (by rw[hg,hq2,hm1]),hg,hq1]))))))))))))))
  ·refine wU 35 false I (by rw[beq_eq_false_iff_ne];omega) (Aa (zE (zS I (zI (zE (zA (zB (wP I (wC I I (fun W hp=>BO k (by omega) (by omega) W (ht.hp hp)) ?_)))))))))
   refine DX I I I I I (Nat.le_trans (Nf k (by omega) (by omega)) (by decide)) (by decide) ?_
   refine wP I (wC I I (fun W hp=>BO (m:Nat) (by omega) (by omega) W (ht.hp hp)) ?_)
   refine DX I I I I I (by have:=Nf k (by omega) (by omega);rw[List.length_append];show _+1≤_;omega) (Nat.le_trans (Nf (m:Nat) (by omega) (by omega)) (by decide)) ?_
   exact wP I (Aa (zE (zO (wR1 I I (by rw[Oy he0 (by rw[hg,hq2];exact hm1),hg,hq1,hq2])))))
end
end Go.Proofs.YthndmdimmgkpgaaGreatDoor
